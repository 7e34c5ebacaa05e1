/-
  Letters on their way: where one stands, what each call does, in plain lists.
-/
import Derived.Test.YtnkgfkioijlkaaaNetSpec
import Derived.Test.YtnkgfkioijlkaaaDel
import Derived.Test.YtnkgfkioijlkaaaHeld
namespace Go.Cmp
open Go.RowKit
/-- Where a letter stands; -1: nowhere. -/
def pos (id : Int) : List Pk → Int
  | [] => -1
  | x :: l => if x.id = id then 0 else if pos id l < 0 then -1 else pos id l + 1
def Inc (l : List Pk) : Prop := ∀ i j, i < j → j < l.length → (nth l i).id < (nth l j).id
structure Nt.Good (N : Nt) : Prop where
  ok : N.Ok
  inc : Inc N.all
  ids : ∀ x ∈ N.all, 1 ≤ x.id ∧ x.id ≤ N.last
  small : ∀ x ∈ N.all, x.data.length ≤ 4096
theorem nth_zero {α : Type} [Inhabited α] (x : α) (l : List α) : nth (x :: l) 0 = x := rfl
theorem nth_succ {α : Type} [Inhabited α] (x : α) (l : List α) (i : Nat) : nth (x :: l) (i + 1) = nth l i := rfl
theorem pos_none {id : Int} : ∀ {l : List Pk}, (∀ x ∈ l, x.id ≠ id) → pos id l = -1
  | [], _ => rfl
  | x :: l, h => by
    have h1 := pos_none (l := l) (fun y hy => h y (by simp [hy]))
    simp only [pos, h1]
    rw [if_neg (h x (by simp)), if_pos (by omega)]
theorem pos_first {id : Int} : ∀ {l : List Pk} {i : Nat}, i < l.length → (nth l i).id = id → (∀ j, j < i → (nth l j).id ≠ id) → pos id l = i
  | [], _, h, _, _ => by simp at h
  | x :: l, 0, _, h, _ => by simp only [pos]; rw [if_pos (by simpa [nth_zero] using h)]; rfl
  | x :: l, i + 1, hl, h, hn => by
    have h1 := pos_first (id := id) (l := l) (i := i) (by simpa using hl) (by simpa [nth_succ] using h) (fun j hj => by have := hn (j + 1) (by omega); simpa [nth_succ] using this)
    have h2 := hn 0 (by omega)
    simp only [pos, h1]
    rw [if_neg (by simpa [nth_zero] using h2), if_neg (by omega)]
    push_cast
    rfl
theorem pos_inc {id : Int} {l : List Pk} (hi : Inc l) {i : Nat} (h1 : i < l.length) (h2 : (nth l i).id = id) : pos id l = i :=
  pos_first h1 h2 (fun j hj => by have := hi j i hj h1; omega)
theorem mem_nth {α : Type} [Inhabited α] {l : List α} {x : α} (h : x ∈ l) : ∃ i, i < l.length ∧ nth l i = x := by
  obtain ⟨i, hi, e⟩ := List.getElem_of_mem h
  exact ⟨i, hi, (nth_eq (by rw [List.getElem?_eq_getElem hi, e]))⟩
theorem pos_range (id : Int) : ∀ (l : List Pk), -1 ≤ pos id l ∧ pos id l < l.length
  | [] => by simp [pos]
  | x :: l => by
    have := pos_range id l
    simp only [pos, List.length_cons]
    split
    · omega
    · split <;> omega
theorem pos_id {id : Int} : ∀ {l : List Pk}, 0 ≤ pos id l → (nth l (pos id l).toNat).id = id
  | [], h => by simp [pos] at h
  | x :: l, h => by
    have h1 := pos_id (id := id) (l := l)
    have h2 := pos_range id l
    simp only [pos] at h ⊢
    split
    · rename_i hx; simpa [nth_zero] using hx
    · split
      · rename_i hx h3; rw [if_neg hx, if_pos h3] at h; omega
      · rw [show (pos id l + 1).toNat = (pos id l).toNat + 1 by omega, nth_succ]
        exact h1 (by omega)
theorem pos_neg {id : Int} {l : List Pk} (h : pos id l < 0) : ∀ x ∈ l, x.id ≠ id := by
  intro x hx he
  induction l with
  | nil => cases hx
  | cons y l ih =>
    simp only [pos] at h
    split at h
    · omega
    · rename_i hy
      rcases List.mem_cons.1 hx with rfl | hx
      · exact hy he
      · have := pos_range id l
        exact ih (by split at h <;> omega) hx

/-- A part of an element that is a struct. -/
theorem a_loadH {P : Program} {w : World} {o : Oper} {a : Act} {t : TypeId} {x : Operand} (ho : o.op = .load t x) {v : Value} {α : Type} {f : α → List Value} {k : Nat} {L : List α} (hR : Rd w k v L.length (L.flatMap f)) {j : Nat} (c m : Nat) (hx : a.eval x = ptrAt v (j * k + c))
    {d : TypeDesc} (hd : P.underlying t = some d) (hn : (match d with | .struct _ | .array _ _ => true | _ => false) = true) (hs : (P.info? t).map (·.size) = some m) (hf : ∀ x, (f x).length = k) {y : α} (hy : L[j]? = some y) (hc : c + m ≤ k) {vs : List Value} (hv : ((f y).drop c).take m = vs) : (execOp a.eval o).run P w = .ok (.value (.agg vs.toArray)) w := by
  obtain ⟨ti, hi, hk⟩ := Option.map_eq_some_iff.1 hs
  subst hv
  have hjl := (List.getElem?_eq_some_iff.1 hy).1
  have hle : (j + 1) * k ≤ L.length * k := Nat.mul_le_mul_right _ hjl
  rw [Nat.add_mul, Nat.one_mul] at hle
  have e : ((L.flatMap f).drop (j * k + c)).take m = ((f y).drop c).take m := by
    rw [← flat_seg hf L j y hy, List.drop_take, List.take_take, List.drop_drop, Nat.min_eq_left (by omega)]
  exact x_loadSA ho hR hx hd hn hi (by rw [hk]; exact e) (by rw [hk, List.length_take, List.length_drop, hf]; omega) (by omega)
def zPk : Pk := ⟨0, 0, [], 0, false⟩
def Pk.letter (x : Pk) : List Value := [.int .i64 x.fr, .int .i64 x.to, .string ⟨x.data.toArray⟩]
def turn8 (s : List UInt8) (at' : Nat) (mask : Int) : List UInt8 := s.set at' ((nth s at') ^^^ UInt8.ofNat mask.toNat)
namespace Nt
def take (N : Nt) (id : Int) : Pk × Int × Nt := if pos id N.all < 0 then (zPk, 8, N) else (nth N.all (pos id N.all).toNat, 0, ⟨N.last, N.all.eraseIdx (pos id N.all).toNat⟩)
def twice (N : Nt) (id : Int) : Int × Int × Nt := if pos id N.all < 0 then (0, 8, N) else N.add (nth N.all (pos id N.all).toNat)
def spoil (N : Nt) (id at' mask : Int) : Int × Nt :=
  if pos id N.all < 0 then (8, N)
  else if at' < 0 ∨ (nth N.all (pos id N.all).toNat).data.length ≤ at' ∨ mask < 1 ∨ 255 < mask then (1, N)
  else if (nth N.all (pos id N.all).toNat).marked = true then (7, N)
  else (0, ⟨N.last, N.all.set (pos id N.all).toNat { nth N.all (pos id N.all).toNat with data := turn8 (nth N.all (pos id N.all).toNat).data at'.toNat mask, marked := true }⟩)
def look (N : Nt) (id : Int) : Pk × Bool := if pos id N.all < 0 then (zPk, false) else (nth N.all (pos id N.all).toNat, true)
end Nt

theorem nth_erase {α : Type} [Inhabited α] {l : List α} {i j : Nat} : nth (l.eraseIdx i) j = if j < i then nth l j else nth l (j + 1) := by
  unfold nth
  simp only [List.getD_eq_getElem?_getD, List.getElem?_eraseIdx]
  split <;> rfl
theorem Inc.erase {l : List Pk} (h : Inc l) (i : Nat) : Inc (l.eraseIdx i) := by
  intro a b hab hb
  by_cases hi : i < l.length
  · rw [List.length_eraseIdx_of_lt hi] at hb
    rw [nth_erase, nth_erase]
    split <;> split <;> exact h _ _ (by omega) (by omega)
  · rw [List.eraseIdx_of_length_le (by omega)] at hb ⊢
    exact h a b hab hb
theorem Inc.set {l : List Pk} (h : Inc l) {i : Nat} {x : Pk} (hx : x.id = (nth l i).id) : Inc (l.set i x) := by
  intro a b hab hb
  rw [List.length_set] at hb
  have := h a b hab hb
  rw [nth_set, nth_set]
  by_cases h1 : i = a <;> by_cases h2 : i = b
  · omega
  · rw [if_pos ⟨h1, by omega⟩, if_neg (by omega), hx, h1]; exact this
  · rw [if_neg (by omega), if_pos ⟨h2, by omega⟩, hx, h2]; exact this
  · rw [if_neg (by omega), if_neg (by omega)]; exact this
namespace Nt
/-- After one call more. -/
structure Next (N N' : Nt) : Prop where
  good : N'.last ≤ 1000000000 → N'.Good
  last0 : N.last ≤ N'.last
  last1 : N'.last ≤ N.last + 1
theorem Next.refl {N : Nt} (h : N.Good) : Next N N := ⟨fun _ => h, by omega, by omega⟩
theorem add_next {N : Nt} (h : N.Good) (p : Pk) (hd : p.data.length ≤ 4096) : Next N (N.add p).2.2 := by
  unfold add
  split
  · exact .refl h
  · rename_i hf
    have h1 := h.ok.last0
    refine ⟨fun h2 => ⟨⟨by simp only [List.length_append, List.length_singleton]; omega, by simp only; omega, by simpa using h2⟩, ?_, ?_, ?_⟩, by simp only; omega, by simp only; omega⟩
    · intro i j hij hj
      simp only [List.length_append, List.length_singleton] at hj
      simp only [nth_append]
      by_cases hj2 : j < N.all.length
      · rw [if_pos (by omega), if_pos hj2]; exact h.inc i j hij hj2
      · rw [if_pos (by omega), if_neg hj2, show j - N.all.length = 0 by omega, nth_zero]
        have := (h.ids _ (nth_mem (L := N.all) (j := i) (by omega))).2
        simp only
        omega
    · intro x hx
      simp only at hx ⊢
      rcases List.mem_append.1 hx with hx | hx
      · have := h.ids x hx; omega
      · simp only [List.mem_singleton] at hx; subst hx; simp only; omega
    · intro x hx
      simp only at hx
      rcases List.mem_append.1 hx with hx | hx
      · exact h.small x hx
      · simp only [List.mem_singleton] at hx; subst hx; exact hd
theorem send_next {N : Nt} (h : N.Good) (fr to : Int) (d : List UInt8) : Next N (N.send fr to d).2.2 := by
  unfold send
  split
  · exact .refl h
  · rename_i hf
    by_cases h1 : (N.all.length : Int) < 4096
    · exact add_next h _ (by simp only; omega)
    · unfold add
      rw [if_pos (by omega)]
      exact .refl h
theorem twice_next {N : Nt} (h : N.Good) (id : Int) : Next N (N.twice id).2.2 := by
  unfold twice
  have hr := pos_range id N.all
  split
  · exact .refl h
  · exact add_next h _ (h.small _ (nth_mem (by omega)))
theorem take_next {N : Nt} (h : N.Good) (id : Int) : Next N (N.take id).2.2 := by
  unfold take
  split
  · exact .refl h
  · exact ⟨fun _ => ⟨⟨by have := h.ok.len; have := List.length_eraseIdx_le N.all (pos id N.all).toNat; simp only; omega, h.ok.last0, h.ok.last1⟩, h.inc.erase _, fun x hx => h.ids x (List.mem_of_mem_eraseIdx hx), fun x hx => h.small x (List.mem_of_mem_eraseIdx hx)⟩, by simp, by simp only; omega⟩
theorem spoil_next {N : Nt} (h : N.Good) (id a m : Int) : Next N (N.spoil id a m).2 := by
  unfold spoil
  split
  · exact .refl h
  · rename_i hp
    have hr := pos_range id N.all
    split
    · exact .refl h
    · split
      · exact .refl h
      · have hps : pos id N.all < N.all.length := hr.2
        refine ⟨fun _ => ⟨⟨by simp only [List.length_set]; exact h.ok.len, h.ok.last0, h.ok.last1⟩, h.inc.set rfl, fun x hx => ?_, fun x hx => ?_⟩, by simp, by simp only; omega⟩
        simp only at hx ⊢
        rcases List.mem_or_eq_of_mem_set hx with hx | rfl
        · exact h.ids x hx
        · exact h.ids (nth N.all (pos id N.all).toNat) (nth_mem (by omega))
        rcases List.mem_or_eq_of_mem_set hx with hx | rfl
        · exact h.small x hx
        · have := h.small (nth N.all (pos id N.all).toNat) (nth_mem (by omega))
          simpa [turn8] using this
end Nt
end Go.Cmp
