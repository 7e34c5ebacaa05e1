/-
  Four copies of a superblock of which some are bad: what a write, a tear and a rot leave; in plain lists.
-/
import Derived.Test.YtbfdnpahojoccaaSupRead
import Derived.Test.YtbfdnpahojoccaaTear12Sp
set_option linter.unusedSimpArgs false
set_option linter.unusedVariables false
set_option linter.unusedSectionVars false
set_option maxRecDepth 100000
namespace Go.Cmp
open Go.RowKit
namespace Dsk
/-- Each sector has the old one or the new one, or it is bad and marked. -/
structure Inv (s t : Sup) (D : Dsk) : Prop where
  ok : D.Ok
  len : D.lasts.length = 4
  sec : ∀ i, i < 4 → (nth D.mark i = false ∧ ∃ g x, (x = s ∨ x = t) ∧ nth D.lasts i = sealed g (supB x)) ∨ (nth D.mark i = true ∧ openS (nth D.lasts i) = ([], false))
def marks (D : Dsk) : Nat := D.mark.count true
theorem count_set_le (l : List Bool) (i : Nat) (b : Bool) : (l.set i b).count true ≤ l.count true + (if b then 1 else 0) := by
  induction l generalizing i with
  | nil => simp
  | cons x l ih =>
    cases i with
    | zero => cases x <;> cases b <;> simp <;> omega
    | succ i =>
      have := ih i
      simp only [List.set_cons_succ, List.count_cons]
      omega
theorem count_lt {l : List Bool} (h : l.count true < l.length) : ∃ i, i < l.length ∧ nth l i = false := by
  induction l with
  | nil => simp at h
  | cons x l ih =>
    cases x
    · exact ⟨0, by simp, rfl⟩
    · simp only [List.count_cons_self, List.length_cons] at h
      obtain ⟨i, hi, e⟩ := ih (by omega)
      exact ⟨i + 1, by simp; omega, e⟩
theorem nth_set_n {α : Type} [Inhabited α] {l : List α} {i j : Nat} {x : α} : nth (l.set i x) j = if i = j ∧ i < l.length then x else nth l j := nth_set
/-- A sector is written, and lasts. -/
theorem inv_put {s t : Sup} {D : Dsk} (h : D.Inv s t) {i : Nat} (hi : i < 4) {D' : Dsk} (hok : D'.Ok) {g : UInt8} {x : Sup} (hx : x = s ∨ x = t) (hl : D'.lasts = D.lasts.set i (sealed g (supB x))) (hm : D'.mark = D.mark.set i false) : D'.Inv s t ∧ D'.marks ≤ D.marks := by
  have hlen := h.len
  have hml := h.ok.len
  refine ⟨⟨hok, by rw [hl]; simpa using hlen, fun j hj => ?_⟩, ?_⟩
  · rw [hl, hm, nth_set_n, nth_set_n]
    by_cases e : i = j
    · rw [if_pos ⟨e, by omega⟩, if_pos ⟨e, by omega⟩]
      exact .inl ⟨rfl, g, x, hx, rfl⟩
    · rw [if_neg (fun q => e q.1), if_neg (fun q => e q.1)]
      exact h.sec j hj
  · unfold marks
    rw [hm]
    have := count_set_le D.mark i false
    simpa using this
/-- A sector is bad now. -/
theorem inv_bad {s t : Sup} {D : Dsk} (h : D.Inv s t) {i : Nat} (hi : i < 4) {D' : Dsk} (hok : D'.Ok) {b : List UInt8} (hb : openS b = ([], false)) (hl : D'.lasts = D.lasts.set i b) (hm : D'.mark = D.mark.set i true) : D'.Inv s t ∧ D'.marks ≤ D.marks + 1 := by
  have hlen := h.len
  have hml := h.ok.len
  refine ⟨⟨hok, by rw [hl]; simpa using hlen, fun j hj => ?_⟩, ?_⟩
  · rw [hl, hm, nth_set_n, nth_set_n]
    by_cases e : i = j
    · rw [if_pos ⟨e, by omega⟩, if_pos ⟨e, by omega⟩]
      exact .inr ⟨rfl, hb⟩
    · rw [if_neg (fun q => e q.1), if_neg (fun q => e q.1)]
      exact h.sec j hj
  · unfold marks
    rw [hm]
    have := count_set_le D.mark i true
    simpa using this
theorem sup_open (g : UInt8) (x : Sup) : openS (sealed g (supB x)) = (supB x, true) := openS_sealed (by rw [supB_len]; omega)
/-- A sector rots. -/
theorem rot_inv {s t : Sup} {D : Dsk} (h : D.Inv s t) (hw : D.way = []) {i at' mask : Int} (hi : 0 ≤ i) (hi2 : i < 4) (ha : 0 ≤ at') (ha2 : at' < 384) (hm : 1 ≤ mask) (hm2 : mask ≤ 255) :
    (D.rot i at' mask).2.Inv s t ∧ (D.rot i at' mask).2.way = [] ∧ (D.rot i at' mask).2.off = D.off ∧ (D.rot i at' mask).2.steps = D.steps ∧ (D.rot i at' mask).2.fuse = D.fuse ∧ (((D.rot i at' mask).1 = 0 ∧ (D.rot i at' mask).2.marks ≤ D.marks + 1) ∨ ((D.rot i at' mask).1 = 7 ∧ (D.rot i at' mask).2.marks ≤ D.marks)) := by
  have nx := (rot_next h.ok i at' mask).ok
  have his : D.is i = true := by unfold is; rw [h.len]; simp; omega
  have hc : ¬ (D.is i = false ∨ at' < 0 ∨ 384 ≤ at' ∨ mask < 1 ∨ 255 < mask) := by rw [his]; simp; omega
  have hwa : ¬ (D.way.any (fun x => x.sector == i) = true) := by rw [hw]; simp
  unfold rot at nx ⊢
  rw [if_neg hc, if_neg hwa] at nx ⊢
  rcases h.sec i.toNat (by omega) with ⟨m0, g, x, hx, e⟩ | ⟨m1, e⟩
  · rw [if_neg (by rw [m0]; simp)] at nx ⊢
    have ho : (openS (nth D.lasts i.toNat)).2 = true := by rw [e, sup_open]
    have hb : openS (turn (nth D.lasts i.toNat) at'.toNat mask) = ([], false) := by
      unfold turn
      refine openS_turned ho (by omega) (fun e0 => ?_)
      have := congrArg UInt8.toNat e0
      rw [UInt8.toNat_ofNat'] at this
      have : mask.toNat % 256 = 0 := this
      omega
    obtain ⟨k1, k2⟩ := inv_bad h (show i.toNat < 4 by omega) nx hb rfl rfl
    exact ⟨k1, hw, rfl, rfl, rfl, .inl ⟨rfl, k2⟩⟩
  · rw [if_pos m1] at nx ⊢
    exact ⟨h, hw, rfl, rfl, rfl, .inr ⟨rfl, Nat.le_refl _⟩⟩
/-! ### A copy is written -/
theorem nextG_ne {old : List UInt8} (hl : old.length = 384) : nextG old ≠ nth old 383 := by
  unfold nextG
  rw [if_neg (fun e => by rw [e] at hl; simp at hl), hl]
  intro e
  have e2 := congrArg UInt8.toNat e
  rw [UInt8.toNat_ofNat'] at e2
  have := (nth old 383).toNat_lt
  simp only [Nat.add_one_sub_one] at e2
  omega
/-- The sector that is laid over copy i. -/
def over (D : Dsk) (i : Nat) (t : Sup) : List UInt8 := sealed (nextG (nth D.lasts i)) (supB t)
theorem over_len (D : Dsk) (i : Nat) (t : Sup) : (D.over i t).length = 384 := sealed_len (by rw [supB_len]; omega)
theorem size_at {D : Dsk} (h : D.Ok) {i : Nat} (hi : i < D.lasts.length) : (nth D.lasts i).length = 384 := h.size _ (nth_mem hi)
/-- The power is back: the write that was under way lasts by a beginning of it. -/
theorem start_inv {s t : Sup} {D : Dsk} (h : D.Inv s t) (ho : D.off = true) (picks : List Int) (hw : D.way = [] ∨ ∃ i : Nat, i < 4 ∧ D.way = [⟨(i : Int), D.over i t⟩]) :
    (D.start picks).1 = 0 ∧ (D.start picks).2.Inv s t ∧ (D.start picks).2.way = [] ∧ (D.start picks).2.off = false ∧ (D.start picks).2.steps = D.steps ∧ (D.start picks).2.marks ≤ D.marks + 1 := by
  have nx := (start_next h.ok picks).ok
  unfold start at nx ⊢
  rw [if_neg (by rw [ho]; simp)] at nx ⊢
  rcases hw with hw | ⟨i, hi, hw⟩
  · rw [hw] at nx ⊢
    exact ⟨rfl, ⟨nx, h.len, h.sec⟩, rfl, rfl, rfl, by show D.marks ≤ _; omega⟩
  · rw [hw] at nx ⊢
    have es : D.settles picks 0 [⟨(i : Int), D.over i t⟩] = D.settle ⟨(i : Int), D.over i t⟩ (pickAt picks 0) := rfl
    rw [es] at nx ⊢
    have hk := kept_le' (pickAt picks 0)
    have hsz := size_at h.ok (i := i) (by rw [h.len]; exact hi)
    unfold settle at nx ⊢
    by_cases h0 : kept (pickAt picks 0) = 0
    · rw [if_pos h0] at nx ⊢
      exact ⟨rfl, ⟨nx, h.len, h.sec⟩, rfl, rfl, rfl, by show D.marks ≤ _; omega⟩
    · rw [if_neg h0] at nx ⊢
      simp only [Int.toNat_natCast] at nx ⊢
      generalize kept (pickAt picks 0) = k at *
      by_cases h1 : k = 384
      · subst h1
        have e : (D.over i t).take 384 ++ (nth D.lasts i).drop 384 = D.over i t := by rw [List.take_of_length_le (by rw [over_len]; omega), List.drop_eq_nil_of_le (by omega), List.append_nil]
        have em : (decide (((384 : Nat) : Int) < 384)) = false := by simp
        obtain ⟨k1, k2⟩ := inv_put h hi (g := nextG (nth D.lasts i)) (x := t) nx (.inr rfl) (by simp only; rw [e]; rfl) (by simp only [em])
        exact ⟨by trivial, k1, by trivial, by trivial, by trivial, Nat.le_succ_of_le k2⟩
      · have hb : openS ((D.over i t).take k ++ (nth D.lasts i).drop k) = ([], false) := by
          have hne : nth (D.over i t) 0 ≠ nth (nth D.lasts i) 383 := by unfold over; rw [nth_sealed0]; exact nextG_ne hsz
          refine open_bad fun hopen => ?_
          obtain ⟨_, h2, _⟩ := open_facts hopen
          have e0 : nth ((D.over i t).take k ++ (nth D.lasts i).drop k) 0 = nth (D.over i t) 0 := by
            apply nth_eq
            have := over_len D i t
            rw [List.getElem?_append_left (by rw [List.length_take]; omega), List.getElem?_take_of_lt (by omega), get_lt (by omega)]
          have e1 : nth ((D.over i t).take k ++ (nth D.lasts i).drop k) 383 = nth (nth D.lasts i) 383 := by
            apply nth_eq
            have := over_len D i t
            rw [List.getElem?_append_right (by rw [List.length_take]; omega), List.length_take, List.getElem?_drop, show k + (383 - min k (D.over i t).length) = 383 by omega, get_lt (by omega)]
          rw [e0, e1] at h2
          exact hne h2
        have em : (decide ((k : Int) < 384)) = true := by simp; omega
        obtain ⟨k1, k2⟩ := inv_bad h hi nx hb (by simp only) (by simp only [em])
        exact ⟨by trivial, k1, by trivial, by trivial, by trivial, k2⟩
end Dsk
end Go.Cmp
