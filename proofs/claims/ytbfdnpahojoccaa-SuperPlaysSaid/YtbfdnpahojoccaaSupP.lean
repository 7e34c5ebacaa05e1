/-
  Superblocks on a disk, in plain lists.
  Which superblock is read of copies that have the old one, the new one, or none; in plain lists.
  Four copies of a superblock of which some are bad: what a write, a tear and a rot leave; in plain lists.
  A superblock is written copy by copy while the power may go; in plain lists.
  A superblock is written on a disk of noughts; in plain lists.
  What is read of four copies of which three at most are bad, and of four of which all are; in plain lists.
-/
import Derived.Test.YtbfdnpahojoccaaSupSpec
import Derived.Test.YtbfdnpahojoccaaSealOpen
import Derived.Test.YtbfdnpahojoccaaDiskP
import Derived.Test.YtbfdnpahojoccaaSlotP
import Derived.Test.YtbfdnpahojoccaaAw12Spec
set_option linter.unusedSimpArgs false
set_option linter.unusedVariables false
set_option linter.unusedSectionVars false
set_option maxRecDepth 100000
namespace Go.Cmp
open Go.RowKit
/-- What a sector has. -/
def hasU (old : List UInt8) : Sup × Bool :=
  if (openS old).2 = false then (zeroU, false) else ((unpU (openS old).1).1, decide ((unpU (openS old).1).2 = 0))
/-- One copy: the superblock, the sector, was it read, the error. -/
def oneU (D : Dsk) (i : Int) : Sup × List UInt8 × Bool × Int :=
  if (D.read i).2 ≠ 0 then (zeroU, [], false, (D.read i).2) else ((hasU (D.read i).1).1, (D.read i).1, (hasU (D.read i).1).2, 0)
/-- The newest so far, and how many copies have it. -/
def bestU (a : Sup × Nat) (x : Sup × Bool) : Sup × Nat :=
  if x.2 = false then a else if a.1.seq < x.1.seq then (x.1, 1) else if x.1 = a.1 then (a.1, a.2 + 1) else a
def copies (D : Dsk) (n : Nat) : List (Sup × Bool) := (List.range n).map fun (i : Nat) => hasU (D.read (i : Int)).1
def readU (D : Dsk) : Sup × Nat × Int :=
  if D.off = true then (zeroU, 0, 6) else if ((copies D 4).foldl bestU (zeroU, 0)).2 = 0 then (zeroU, 0, 11) else (((copies D 4).foldl bestU (zeroU, 0)).1, ((copies D 4).foldl bestU (zeroU, 0)).2, 0)
/-- From copy i on (k of them). -/
def writesU (s : Sup) : Nat → Nat → Dsk → Int × Dsk
  | 0, _, D => (0, D)
  | k + 1, i, D =>
    if (oneU D i).2.2.2 ≠ 0 then ((oneU D i).2.2.2, D)
    else if (oneU D i).2.2.1 = true ∧ (oneU D i).1 = s then writesU s k (i + 1) D
    else if (D.write i (sealS (oneU D i).2.1 (supB s)).1).1 ≠ 0 then D.write i (sealS (oneU D i).2.1 (supB s)).1
    else if (D.write i (sealS (oneU D i).2.1 (supB s)).1).2.flush.1 ≠ 0 then (D.write i (sealS (oneU D i).2.1 (supB s)).1).2.flush
    else writesU s k (i + 1) (D.write i (sealS (oneU D i).2.1 (supB s)).1).2.flush.2
def writeU (s : Sup) (D : Dsk) : Int × Dsk := if s.right = false then (4, D) else writesU s 4 0 D
theorem supO_zero_fields (b : List UInt8) : (unpU b).1.U64 := by
  unfold unpU
  split
  · exact ⟨by decide, by decide, by decide, by decide, by decide, by decide, by decide, by decide⟩
  · split
    · exact ⟨by decide, by decide, by decide, by decide, by decide, by decide, by decide, by decide⟩
    · exact supO_U b
theorem hasU_sealed {g : UInt8} {s : Sup} (hr : s.right = true) (hu : s.U64) (ho : openS (sealed g (supB s)) = (supB s, true)) : hasU (sealed g (supB s)) = (s, true) := by
  unfold hasU
  rw [ho, unpU_B hr hu]
  rfl
end Go.Cmp
namespace Go.Cmp
open Go.RowKit
/-- What is held so far: none, the old one, the new one. -/
def Held (s t : Sup) (a : Sup × Nat) : Prop := a = (zeroU, 0) ∨ (a.1 = s ∧ 0 < a.2) ∨ (a.1 = t ∧ 0 < a.2)
theorem best_held {s t : Sup} (hs : 1 ≤ s.seq) (hst : s.seq < t.seq) {a : Sup × Nat} (ha : Held s t a) {x : Sup × Bool} (hx : x.2 = true → x.1 = s ∨ x.1 = t) :
    Held s t (bestU a x) ∧ (x.2 = true → bestU a x ≠ (zeroU, 0)) ∧ (a ≠ (zeroU, 0) → bestU a x ≠ (zeroU, 0)) ∧ ((a.1 = t ∨ (x.2 = true ∧ x.1 = t)) → (bestU a x).1 = t) := by
  obtain ⟨x, b⟩ := x
  have z0 : zeroU.seq = 0 := rfl
  have ne : s ≠ t := fun e => by rw [e] at hst; omega
  have nz1 : s ≠ zeroU := fun e => by rw [e] at hs; omega
  have nz2 : t ≠ zeroU := fun e => by rw [e] at hst; omega
  cases b
  · have e : bestU a (x, false) = a := by unfold bestU; rw [if_pos rfl]
    rw [e]
    exact ⟨ha, fun h => by simp at h, fun h => h, fun h => by
      rcases h with h | h
      · exact h
      · simp at h⟩
  · have hx := hx rfl
    simp only at hx
    have e : bestU a (x, true) = if a.1.seq < x.seq then (x, 1) else if x = a.1 then (a.1, a.2 + 1) else a := by unfold bestU; rw [if_neg (by simp)]
    rw [e]
    clear e
    rcases ha with rfl | ⟨ha, h0⟩ | ⟨ha, h0⟩
    · have hlt : (zeroU, 0).1.seq < x.seq := by
        show zeroU.seq < x.seq
        rcases hx with rfl | rfl <;> omega
      rw [if_pos hlt]
      refine ⟨?_, fun _ => ?_, fun h => absurd rfl h, fun h => ?_⟩
      · rcases hx with rfl | rfl
        · exact .inr (.inl ⟨rfl, by omega⟩)
        · exact .inr (.inr ⟨rfl, by omega⟩)
      · intro e; exact absurd (congrArg Prod.snd e) (by simp)
      · rcases h with h | h
        · exact absurd h.symm nz2
        · exact h.2
    · obtain ⟨a1, a2⟩ := a
      simp only at ha h0
      subst ha
      rcases hx with rfl | rfl
      · rw [if_neg (by simp), if_pos rfl]
        refine ⟨.inr (.inl ⟨rfl, by simp⟩), fun _ e => ?_, fun _ e => ?_, fun h => ?_⟩
        · exact absurd (congrArg Prod.snd e) (by simp)
        · exact absurd (congrArg Prod.snd e) (by simp)
        · rcases h with h | h
          · exact h
          · exact h.2
      · rw [if_pos hst]
        refine ⟨.inr (.inr ⟨rfl, by omega⟩), fun _ e => ?_, fun _ e => ?_, fun _ => rfl⟩
        · exact absurd (congrArg Prod.snd e) (by simp)
        · exact absurd (congrArg Prod.snd e) (by simp)
    · obtain ⟨a1, a2⟩ := a
      simp only at ha h0
      subst ha
      rcases hx with rfl | rfl
      · rw [if_neg (by simp only; omega), if_neg ne]
        refine ⟨.inr (.inr ⟨rfl, h0⟩), fun _ e => ?_, fun h => h, fun _ => rfl⟩
        have := congrArg Prod.snd e
        simp only at this
        omega
      · rw [if_neg (by simp), if_pos rfl]
        refine ⟨.inr (.inr ⟨rfl, by simp⟩), fun _ e => ?_, fun _ e => ?_, fun _ => rfl⟩
        · exact absurd (congrArg Prod.snd e) (by simp)
        · exact absurd (congrArg Prod.snd e) (by simp)
theorem best_fold {s t : Sup} (hs : 1 ≤ s.seq) (hst : s.seq < t.seq) : ∀ (l : List (Sup × Bool)) (a : Sup × Nat), Held s t a → (∀ x ∈ l, x.2 = true → x.1 = s ∨ x.1 = t) →
    Held s t (l.foldl bestU a) ∧ ((a ≠ (zeroU, 0) ∨ ∃ x ∈ l, x.2 = true) → l.foldl bestU a ≠ (zeroU, 0)) ∧ ((a.1 = t ∨ ∃ x ∈ l, x.2 = true ∧ x.1 = t) → (l.foldl bestU a).1 = t)
  | [], a, ha, _ => ⟨ha, fun h => by
      rcases h with h | ⟨x, hx, _⟩
      · exact h
      · simp at hx, fun h => by
      rcases h with h | ⟨x, hx, _⟩
      · exact h
      · simp at hx⟩
  | x :: l, a, ha, hl => by
    obtain ⟨h1, h2, h3, h4⟩ := best_held hs hst ha (x := x) (hl x (by simp))
    obtain ⟨k1, k2, k3⟩ := best_fold hs hst l (bestU a x) h1 (fun y hy => hl y (by simp [hy]))
    rw [List.foldl_cons]
    refine ⟨k1, fun h => k2 ?_, fun h => k3 ?_⟩
    · rcases h with h | ⟨y, hy, hb⟩
      · exact .inl (h3 h)
      · rcases List.mem_cons.1 hy with rfl | hy
        · exact .inl (h2 hb)
        · exact .inr ⟨y, hy, hb⟩
    · rcases h with h | ⟨y, hy, hb⟩
      · exact .inl (h4 (.inl h))
      · rcases List.mem_cons.1 hy with rfl | hy
        · exact .inl (h4 (.inr hb))
        · exact .inr ⟨y, hy, hb⟩
/-- All copies have it. -/
theorem best_all {t : Sup} (ht : 1 ≤ t.seq) : ∀ (n : Nat) (c : Nat), 0 < c → (List.replicate n (t, true)).foldl bestU (t, c) = (t, c + n)
  | 0, c, _ => rfl
  | n + 1, c, hc => by
    rw [List.replicate_succ, List.foldl_cons]
    have e : bestU (t, c) (t, true) = (t, c + 1) := by unfold bestU; rw [if_neg (by simp), if_neg (by simp), if_pos rfl]
    rw [e, best_all ht n (c + 1) (by omega)]
    congr 1
    omega
theorem read_all {D : Dsk} {t : Sup} (ht : 1 ≤ t.seq) (ho : D.off = false) (h : ∀ i : Nat, i < 4 → hasU (D.read (i : Int)).1 = (t, true)) : readU D = (t, 4, 0) := by
  have e : copies D 4 = List.replicate 4 (t, true) := by
    have h0 := h 0 (by omega)
    have h1 := h 1 (by omega)
    have h2 := h 2 (by omega)
    have h3 := h 3 (by omega)
    show [hasU (D.read ((0 : Nat) : Int)).1, hasU (D.read ((1 : Nat) : Int)).1, hasU (D.read ((2 : Nat) : Int)).1, hasU (D.read ((3 : Nat) : Int)).1] = [_, _, _, _]
    rw [h0, h1, h2, h3]
  have z0 : zeroU.seq = 0 := rfl
  have f : (copies D 4).foldl bestU (zeroU, 0) = (t, 4) := by
    rw [e, List.replicate_succ, List.foldl_cons]
    have e1 : bestU (zeroU, 0) (t, true) = (t, 1) := by unfold bestU; rw [if_neg (by simp), if_pos (by show zeroU.seq < t.seq; omega)]
    rw [e1, best_all ht 3 1 (by omega)]
  unfold readU
  rw [if_neg (by rw [ho]; simp), f]
  rfl
/-- One copy at least can be read. -/
theorem read_two {D : Dsk} {s t : Sup} (hs : 1 ≤ s.seq) (hst : s.seq < t.seq) (ho : D.off = false) (h : ∀ i : Nat, i < 4 → (hasU (D.read (i : Int)).1).2 = true → (hasU (D.read (i : Int)).1).1 = s ∨ (hasU (D.read (i : Int)).1).1 = t) {k : Nat} (hk : k < 4) (hr : (hasU (D.read (k : Int)).1).2 = true) :
    (readU D).2.2 = 0 ∧ ((readU D).1 = s ∨ (readU D).1 = t) ∧ ((∃ j : Nat, j < 4 ∧ hasU (D.read (j : Int)).1 = (t, true)) → (readU D).1 = t) := by
  have hm : ∀ x ∈ copies D 4, x.2 = true → x.1 = s ∨ x.1 = t := by
    intro x hx
    obtain ⟨i, hi, rfl⟩ := List.mem_map.1 hx
    exact h i (List.mem_range.1 hi)
  have hin : ∀ j : Nat, j < 4 → hasU (D.read (j : Int)).1 ∈ copies D 4 := fun j hj => List.mem_map.2 ⟨j, List.mem_range.2 hj, rfl⟩
  obtain ⟨f1, f2, f3⟩ := best_fold hs hst (copies D 4) (zeroU, 0) (.inl rfl) hm
  have f2 := f2 (.inr ⟨_, hin k hk, hr⟩)
  have hst2 : 1 ≤ t.seq := by omega
  unfold readU
  rw [if_neg (by rw [ho]; simp)]
  generalize (copies D 4).foldl bestU (zeroU, 0) = A at f1 f2 f3
  have hA : 0 < A.2 ∧ (A.1 = s ∨ A.1 = t) := by
    rcases f1 with rfl | ⟨h1, h2⟩ | ⟨h1, h2⟩
    · exact absurd rfl f2
    · exact ⟨h2, .inl h1⟩
    · exact ⟨h2, .inr h1⟩
  rw [if_neg (by omega)]
  refine ⟨rfl, hA.2, fun ⟨j, hj, e⟩ => f3 (.inr ⟨_, hin j hj, ?_⟩)⟩
  rw [e]
  exact ⟨rfl, rfl⟩
end Go.Cmp
namespace Go.Cmp
open Go.RowKit
namespace Dsk
/-- Each sector has the old one or the new one, or it is bad and marked. -/
structure Inv (s t : Sup) (D : Dsk) : Prop where
  ok : D.Ok
  len : D.lasts.length = 4
  sec : ∀ i, i < 4 → (nth D.mark i = false ∧ ∃ g x, (x = s ∨ x = t) ∧ nth D.lasts i = sealed g (supB x)) ∨ (nth D.mark i = true ∧ openS (nth D.lasts i) = ([], false))
def marks (D : Dsk) : Nat := D.mark.count true
theorem count_set_le (l : List Bool) (i : Nat) (b : Bool) : (l.set i b).count true ≤ l.count true + (if b then 1 else 0) := by
  induction l generalizing i with
  | nil => simp
  | cons x l ih =>
    cases i with
    | zero => cases x <;> cases b <;> simp <;> omega
    | succ i =>
      have := ih i
      simp only [List.set_cons_succ, List.count_cons]
      omega
theorem count_lt {l : List Bool} (h : l.count true < l.length) : ∃ i, i < l.length ∧ nth l i = false := by
  induction l with
  | nil => simp at h
  | cons x l ih =>
    cases x
    · exact ⟨0, by simp, rfl⟩
    · simp only [List.count_cons_self, List.length_cons] at h
      obtain ⟨i, hi, e⟩ := ih (by omega)
      exact ⟨i + 1, by simp; omega, e⟩
theorem nth_set_n {α : Type} [Inhabited α] {l : List α} {i j : Nat} {x : α} : nth (l.set i x) j = if i = j ∧ i < l.length then x else nth l j := nth_set
/-- A sector is written, and lasts. -/
theorem inv_put {s t : Sup} {D : Dsk} (h : D.Inv s t) {i : Nat} (hi : i < 4) {D' : Dsk} (hok : D'.Ok) {g : UInt8} {x : Sup} (hx : x = s ∨ x = t) (hl : D'.lasts = D.lasts.set i (sealed g (supB x))) (hm : D'.mark = D.mark.set i false) : D'.Inv s t ∧ D'.marks ≤ D.marks := by
  have hlen := h.len
  have hml := h.ok.len
  refine ⟨⟨hok, by rw [hl]; simpa using hlen, fun j hj => ?_⟩, ?_⟩
  · rw [hl, hm, nth_set_n, nth_set_n]
    by_cases e : i = j
    · rw [if_pos ⟨e, by omega⟩, if_pos ⟨e, by omega⟩]
      exact .inl ⟨rfl, g, x, hx, rfl⟩
    · rw [if_neg (fun q => e q.1), if_neg (fun q => e q.1)]
      exact h.sec j hj
  · unfold marks
    rw [hm]
    have := count_set_le D.mark i false
    simpa using this
/-- A sector is bad now. -/
theorem inv_bad {s t : Sup} {D : Dsk} (h : D.Inv s t) {i : Nat} (hi : i < 4) {D' : Dsk} (hok : D'.Ok) {b : List UInt8} (hb : openS b = ([], false)) (hl : D'.lasts = D.lasts.set i b) (hm : D'.mark = D.mark.set i true) : D'.Inv s t ∧ D'.marks ≤ D.marks + 1 := by
  have hlen := h.len
  have hml := h.ok.len
  refine ⟨⟨hok, by rw [hl]; simpa using hlen, fun j hj => ?_⟩, ?_⟩
  · rw [hl, hm, nth_set_n, nth_set_n]
    by_cases e : i = j
    · rw [if_pos ⟨e, by omega⟩, if_pos ⟨e, by omega⟩]
      exact .inr ⟨rfl, hb⟩
    · rw [if_neg (fun q => e q.1), if_neg (fun q => e q.1)]
      exact h.sec j hj
  · unfold marks
    rw [hm]
    have := count_set_le D.mark i true
    simpa using this
theorem sup_open (g : UInt8) (x : Sup) : openS (sealed g (supB x)) = (supB x, true) := openS_sealed (by rw [supB_len]; omega)
/-- A sector rots. -/
theorem rot_inv {s t : Sup} {D : Dsk} (h : D.Inv s t) (hw : D.way = []) {i at' mask : Int} (hi : 0 ≤ i) (hi2 : i < 4) (ha : 0 ≤ at') (ha2 : at' < 384) (hm : 1 ≤ mask) (hm2 : mask ≤ 255) :
    (D.rot i at' mask).2.Inv s t ∧ (D.rot i at' mask).2.way = [] ∧ (D.rot i at' mask).2.off = D.off ∧ (D.rot i at' mask).2.steps = D.steps ∧ (D.rot i at' mask).2.fuse = D.fuse ∧ (((D.rot i at' mask).1 = 0 ∧ (D.rot i at' mask).2.marks ≤ D.marks + 1) ∨ ((D.rot i at' mask).1 = 7 ∧ (D.rot i at' mask).2.marks ≤ D.marks)) := by
  have nx := (rot_next h.ok i at' mask).ok
  have his : D.is i = true := by unfold is; rw [h.len]; simp; omega
  have hc : ¬ (D.is i = false ∨ at' < 0 ∨ 384 ≤ at' ∨ mask < 1 ∨ 255 < mask) := by rw [his]; simp; omega
  have hwa : ¬ (D.way.any (fun x => x.sector == i) = true) := by rw [hw]; simp
  unfold rot at nx ⊢
  rw [if_neg hc, if_neg hwa] at nx ⊢
  rcases h.sec i.toNat (by omega) with ⟨m0, g, x, hx, e⟩ | ⟨m1, e⟩
  · rw [if_neg (by rw [m0]; simp)] at nx ⊢
    have ho : (openS (nth D.lasts i.toNat)).2 = true := by rw [e, sup_open]
    have hb : openS (turn (nth D.lasts i.toNat) at'.toNat mask) = ([], false) := by
      unfold turn
      refine openS_turned ho (by omega) (fun e0 => ?_)
      have := congrArg UInt8.toNat e0
      rw [UInt8.toNat_ofNat'] at this
      have : mask.toNat % 256 = 0 := this
      omega
    obtain ⟨k1, k2⟩ := inv_bad h (show i.toNat < 4 by omega) nx hb rfl rfl
    exact ⟨k1, hw, rfl, rfl, rfl, .inl ⟨rfl, k2⟩⟩
  · rw [if_pos m1] at nx ⊢
    exact ⟨h, hw, rfl, rfl, rfl, .inr ⟨rfl, Nat.le_refl _⟩⟩
/-! ### A copy is written -/
theorem nextG_ne {old : List UInt8} (hl : old.length = 384) : nextG old ≠ nth old 383 := by
  unfold nextG
  rw [if_neg (fun e => by rw [e] at hl; simp at hl), hl]
  intro e
  have e2 := congrArg UInt8.toNat e
  rw [UInt8.toNat_ofNat'] at e2
  have := (nth old 383).toNat_lt
  simp only [Nat.add_one_sub_one] at e2
  omega
/-- The sector that is laid over copy i. -/
def over (D : Dsk) (i : Nat) (t : Sup) : List UInt8 := sealed (nextG (nth D.lasts i)) (supB t)
theorem over_len (D : Dsk) (i : Nat) (t : Sup) : (D.over i t).length = 384 := sealed_len (by rw [supB_len]; omega)
theorem size_at {D : Dsk} (h : D.Ok) {i : Nat} (hi : i < D.lasts.length) : (nth D.lasts i).length = 384 := h.size _ (nth_mem hi)
/-- The power is back: the write that was under way lasts by a beginning of it. -/
theorem start_inv {s t : Sup} {D : Dsk} (h : D.Inv s t) (ho : D.off = true) (picks : List Int) (hw : D.way = [] ∨ ∃ i : Nat, i < 4 ∧ D.way = [⟨(i : Int), D.over i t⟩]) :
    (D.start picks).1 = 0 ∧ (D.start picks).2.Inv s t ∧ (D.start picks).2.way = [] ∧ (D.start picks).2.off = false ∧ (D.start picks).2.steps = D.steps ∧ (D.start picks).2.marks ≤ D.marks + 1 := by
  have nx := (start_next h.ok picks).ok
  unfold start at nx ⊢
  rw [if_neg (by rw [ho]; simp)] at nx ⊢
  rcases hw with hw | ⟨i, hi, hw⟩
  · rw [hw] at nx ⊢
    exact ⟨rfl, ⟨nx, h.len, h.sec⟩, rfl, rfl, rfl, by show D.marks ≤ _; omega⟩
  · rw [hw] at nx ⊢
    have es : D.settles picks 0 [⟨(i : Int), D.over i t⟩] = D.settle ⟨(i : Int), D.over i t⟩ (pickAt picks 0) := rfl
    rw [es] at nx ⊢
    have hk := kept_le' (pickAt picks 0)
    have hsz := size_at h.ok (i := i) (by rw [h.len]; exact hi)
    unfold settle at nx ⊢
    by_cases h0 : kept (pickAt picks 0) = 0
    · rw [if_pos h0] at nx ⊢
      exact ⟨rfl, ⟨nx, h.len, h.sec⟩, rfl, rfl, rfl, by show D.marks ≤ _; omega⟩
    · rw [if_neg h0] at nx ⊢
      simp only [Int.toNat_natCast] at nx ⊢
      generalize kept (pickAt picks 0) = k at *
      by_cases h1 : k = 384
      · subst h1
        have e : (D.over i t).take 384 ++ (nth D.lasts i).drop 384 = D.over i t := by rw [List.take_of_length_le (by rw [over_len]; omega), List.drop_eq_nil_of_le (by omega), List.append_nil]
        have em : (decide (((384 : Nat) : Int) < 384)) = false := by simp
        obtain ⟨k1, k2⟩ := inv_put h hi (g := nextG (nth D.lasts i)) (x := t) nx (.inr rfl) (by simp only; rw [e]; rfl) (by simp only [em])
        exact ⟨by trivial, k1, by trivial, by trivial, by trivial, Nat.le_succ_of_le k2⟩
      · have hb : openS ((D.over i t).take k ++ (nth D.lasts i).drop k) = ([], false) := by
          have hne : nth (D.over i t) 0 ≠ nth (nth D.lasts i) 383 := by unfold over; rw [nth_sealed0]; exact nextG_ne hsz
          refine open_bad fun hopen => ?_
          obtain ⟨_, h2, _⟩ := open_facts hopen
          have e0 : nth ((D.over i t).take k ++ (nth D.lasts i).drop k) 0 = nth (D.over i t) 0 := by
            apply nth_eq
            have := over_len D i t
            rw [List.getElem?_append_left (by rw [List.length_take]; omega), List.getElem?_take_of_lt (by omega), get_lt (by omega)]
          have e1 : nth ((D.over i t).take k ++ (nth D.lasts i).drop k) 383 = nth (nth D.lasts i) 383 := by
            apply nth_eq
            have := over_len D i t
            rw [List.getElem?_append_right (by rw [List.length_take]; omega), List.length_take, List.getElem?_drop, show k + (383 - min k (D.over i t).length) = 383 by omega, get_lt (by omega)]
          rw [e0, e1] at h2
          exact hne h2
        have em : (decide ((k : Int) < 384)) = true := by simp; omega
        obtain ⟨k1, k2⟩ := inv_bad h hi nx hb (by simp only) (by simp only [em])
        exact ⟨by trivial, k1, by trivial, by trivial, by trivial, k2⟩
end Dsk
end Go.Cmp
namespace Go.Cmp
open Go.RowKit
namespace Dsk
theorem read_lasts {D : Dsk} (ho : D.off = false) (hw : D.way = []) {i : Nat} (hi : i < D.lasts.length) : D.read (i : Int) = (nth D.lasts i, 0) := by
  have his : D.is (i : Int) = true := by unfold is; simp; omega
  unfold read
  rw [if_neg (by rw [his]; simp), if_neg (by rw [ho]; simp), hw]
  simp only [under, Option.getD_none, Int.toNat_natCast]
theorem hasU_of (g : UInt8) {x : Sup} (hr : x.right = true) (hu : x.U64) : hasU (sealed g (supB x)) = (x, true) := hasU_sealed hr hu (sup_open g x)
theorem hasU_bad {b : List UInt8} (h : openS b = ([], false)) : hasU b = (zeroU, false) := by unfold hasU; rw [h]; rfl
/-- What a copy has. -/
theorem inv_has {s t : Sup} (hs : s.right = true) (hsu : s.U64) (ht : t.right = true) (htu : t.U64) {D : Dsk} (h : D.Inv s t) {i : Nat} (hi : i < 4) : ((hasU (nth D.lasts i)).2 = true → (hasU (nth D.lasts i)).1 = s ∨ (hasU (nth D.lasts i)).1 = t) ∧ (nth D.mark i = false → (hasU (nth D.lasts i)).2 = true) := by
  rcases h.sec i hi with ⟨m0, g, x, hx, e⟩ | ⟨m1, e⟩
  · rw [e]
    rcases hx with rfl | rfl
    · rw [hasU_of g hs hsu]; exact ⟨fun _ => .inl rfl, fun _ => rfl⟩
    · rw [hasU_of g ht htu]; exact ⟨fun _ => .inr rfl, fun _ => rfl⟩
  · rw [hasU_bad e]
    exact ⟨fun q => by simp at q, fun q => by rw [m1] at q; simp at q⟩
theorem oneU_at {D : Dsk} (ho : D.off = false) (hw : D.way = []) {i : Nat} (hi : i < D.lasts.length) : oneU D (i : Int) = ((hasU (nth D.lasts i)).1, nth D.lasts i, (hasU (nth D.lasts i)).2, 0) := by
  unfold oneU
  rw [read_lasts ho hw hi]
  simp
/-- The write of one copy, with a flush behind it. -/
theorem copy_any {s t : Sup} {D : Dsk} (h : D.Inv s t) (ho : D.off = false) (hw : D.way = []) (hst : D.steps ≤ 1000) {i : Nat} (hi : i < 4) :
    (∃ D1 D2, D.write (i : Int) (D.over i t) = (0, D1) ∧ D1.flush = (0, D2) ∧ D2.Inv s t ∧ D2.off = false ∧ D2.way = [] ∧ D2.steps ≤ D.steps + 2 ∧ D2.marks ≤ D.marks ∧ D2.lasts = D.lasts.set i (D.over i t) ∧ (D.fuse = 0 → D2.fuse = 0)) ∨
    (∃ D1, D.write (i : Int) (D.over i t) = (6, D1) ∧ D.fuse ≠ 0 ∧ D1.Inv s t ∧ D1.off = true ∧ D1.way = [] ∧ D1.steps ≤ D.steps + 2 ∧ D1.marks ≤ D.marks) ∨
    (∃ D1 D2, D.write (i : Int) (D.over i t) = (0, D1) ∧ D1.flush = (6, D2) ∧ D.fuse ≠ 0 ∧ D2.Inv s t ∧ D2.off = true ∧ D2.way = [⟨(i : Int), D2.over i t⟩] ∧ D2.steps ≤ D.steps + 2 ∧ D2.marks ≤ D.marks) := by
  have h1 := (write_next h.ok (i : Int) (D.over i t) (by rw [hw]; simp) (by omega))
  have his : D.is (i : Int) = true := by unfold is; rw [h.len]; simp; omega
  have hc : ¬ (D.is (i : Int) = false ∨ ((D.over i t).length : Int) ≠ 384) := by rw [his, over_len]; simp
  have ok1 := h1.ok
  have hf0 := h.ok.fuse0
  have ok2 := (flush_next ok1 (by have := h1.steps; omega)).ok
  have ew : D.write (i : Int) (D.over i t) = if D.fuse = 1 then (6, { D with steps := D.steps + 1, fuse := 0, off := true }) else (0, { D with steps := D.steps + 1, fuse := max 0 (D.fuse - 1), way := [⟨(i : Int), D.over i t⟩] }) := by
    unfold write step
    rw [if_neg hc, if_neg (by rw [ho]; simp)]
    by_cases hf : D.fuse = 1
    · rw [if_pos hf, if_pos hf, if_pos rfl]
    · rw [if_neg hf, if_neg hf, if_neg (by simp), hw]
      rfl
  rw [ew] at ok1 ok2 ⊢
  by_cases hf : D.fuse = 1
  · rw [if_pos hf] at ok1 ok2 ⊢
    exact .inr (.inl ⟨_, rfl, by omega, ⟨ok1, h.len, h.sec⟩, rfl, hw, by simp only; omega, Nat.le_refl _⟩)
  · rw [if_neg hf] at ok1 ok2 ⊢
    simp only at ok1 ok2
    obtain ⟨D1, hD1⟩ : ∃ D1 : Dsk, { D with steps := D.steps + 1, fuse := max 0 (D.fuse - 1), way := [⟨(i : Int), D.over i t⟩] } = D1 := ⟨_, rfl⟩
    rw [hD1] at ok1 ok2 ⊢
    have ef : D1.flush = if D1.fuse = 1 then (6, { D1 with steps := D1.steps + 1, fuse := 0, off := true }) else (0, { ({ D1 with steps := D1.steps + 1, fuse := max 0 (D1.fuse - 1) } : Dsk).puts D1.way with way := [] }) := by
      have ho1 : D1.off = false := by rw [← hD1]; exact ho
      unfold flush step
      rw [if_neg (by rw [ho1]; simp)]
      by_cases hf1 : D1.fuse = 1
      · rw [if_pos hf1, if_pos hf1, if_pos rfl]
      · rw [if_neg hf1, if_neg hf1, if_neg (by simp)]
    rw [ef] at ok2
    by_cases hf1 : D1.fuse = 1
    · rw [if_pos hf1] at ok2
      refine .inr (.inr ⟨D1, _, rfl, by rw [ef, if_pos hf1], ?_, ⟨ok2, ?_, ?_⟩, rfl, ?_, ?_, ?_⟩)
      · rw [← hD1] at hf1; simp only at hf1; omega
      · rw [← hD1]; exact h.len
      · rw [← hD1]; exact h.sec
      · rw [← hD1]; rfl
      · rw [← hD1]; simp only; omega
      · rw [← hD1]; exact Nat.le_refl _
    · rw [if_neg hf1] at ok2
      refine .inl ⟨D1, _, rfl, by rw [ef, if_neg hf1], ?_⟩
      have el : ({ ({ D1 with steps := D1.steps + 1, fuse := max 0 (D1.fuse - 1) } : Dsk).puts D1.way with way := [] } : Dsk) = { D with lasts := D.lasts.set i (D.over i t), mark := D.mark.set i false, way := [], steps := D.steps + 1 + 1, fuse := max 0 (max 0 (D.fuse - 1) - 1) } := by
        rw [← hD1]
        simp only [puts, List.foldl_cons, List.foldl_nil, put, Int.toNat_natCast]
      simp only at ok2
      rw [el] at ok2 ⊢
      obtain ⟨k1, k2⟩ := inv_put h hi (g := nextG (nth D.lasts i)) (x := t) ok2 (.inr rfl) rfl rfl
      exact ⟨k1, ho, rfl, by simp only; omega, k2, rfl, fun h0 => by simp only; omega⟩
/-- All that are left. -/
theorem writes_inv {s t : Sup} (hs : s.right = true) (hsu : s.U64) (ht : t.right = true) (htu : t.U64) : ∀ (k i : Nat) (D : Dsk), i + k = 4 → D.Inv s t → D.off = false → D.way = [] → D.steps + 2 * k ≤ 1000 → (∀ j, j < i → hasU (nth D.lasts j) = (t, true)) →
    ((writesU t k i D).1 = 0 ∧ (writesU t k i D).2.off = false ∧ (writesU t k i D).2.way = [] ∧ (∀ j, j < 4 → hasU (nth (writesU t k i D).2.lasts j) = (t, true)) ∨
     (writesU t k i D).1 ≠ 0 ∧ D.fuse ≠ 0 ∧ (writesU t k i D).2.off = true ∧ ((writesU t k i D).2.way = [] ∨ ∃ j : Nat, j < 4 ∧ (writesU t k i D).2.way = [⟨(j : Int), (writesU t k i D).2.over j t⟩])) ∧
    (writesU t k i D).2.Inv s t ∧ (writesU t k i D).2.marks ≤ D.marks ∧ (writesU t k i D).2.steps ≤ D.steps + 2 * k
  | 0, i, D, hik, h, ho, hw, hst, hj => by
    have : i = 4 := by omega
    subst this
    exact ⟨.inl ⟨rfl, ho, hw, hj⟩, h, Nat.le_refl _, by show D.steps ≤ _; omega⟩
  | k + 1, i, D, hik, h, ho, hw, hst, hj => by
    have hi : i < 4 := by omega
    have e1 := oneU_at ho hw (i := i) (by rw [h.len]; exact hi)
    have hseal : sealS (nth D.lasts i) (supB t) = (D.over i t, 0) := by unfold sealS over; rw [if_neg (by rw [supB_len]; omega)]
    unfold writesU
    rw [e1]
    simp only [ne_eq, not_true_eq_false, if_false, hseal]
    by_cases hc : (hasU (nth D.lasts i)).2 = true ∧ (hasU (nth D.lasts i)).1 = t
    · rw [if_pos hc]
      obtain ⟨r1, r2, r3, r4⟩ := writes_inv hs hsu ht htu k (i + 1) D (by omega) h ho hw (by omega) (fun j hj2 => by
        by_cases e : j = i
        · subst e; exact Prod.ext hc.2 hc.1
        · exact hj j (by omega))
      exact ⟨r1, r2, r3, by omega⟩
    · rw [if_neg hc]
      rcases copy_any h ho hw (by omega) hi with ⟨D1, D2, w1, f1, i2, o2, y2, s2, m2, l2, z2⟩ | ⟨D1, w1, hf, i2, o2, y2, s2, m2⟩ | ⟨D1, D2, w1, f1, hf, i2, o2, y2, s2, m2⟩
      · rw [w1]
        simp only [not_true_eq_false, if_false, f1]
        obtain ⟨r1, r2, r3, r4⟩ := writes_inv hs hsu ht htu k (i + 1) D2 (by omega) i2 o2 y2 (by omega) (fun j hj2 => by
          rw [l2, nth_set_n]
          by_cases e : i = j
          · rw [if_pos ⟨e, by rw [h.len]; exact hi⟩]
            exact hasU_of _ ht htu
          · rw [if_neg (fun q => e q.1)]
            exact hj j (by omega))
        refine ⟨?_, r2, by omega, by omega⟩
        rcases r1 with r1 | ⟨q1, q2, q3⟩
        · exact .inl r1
        · exact .inr ⟨q1, fun e => q2 (z2 e), q3⟩
      · rw [w1]
        have n6 : ¬ ((6 : Int) = 0) := by omega
        simp only [n6, not_false_eq_true, if_true]
        exact ⟨.inr ⟨trivial, hf, o2, .inl y2⟩, i2, m2, by omega⟩
      · rw [w1]
        have n6 : ¬ ((6 : Int) = 0) := by omega
        simp only [not_true_eq_false, if_false, f1, n6, not_false_eq_true, if_true]
        exact ⟨.inr ⟨trivial, hf, o2, .inr ⟨i, hi, y2⟩⟩, i2, m2, by omega⟩
end Dsk
end Go.Cmp
namespace Go.Cmp
open Go.RowKit
namespace Dsk
theorem write_eq {D : Dsk} (ho : D.off = false) (hw : D.way = []) {i : Nat} (hi : i < D.lasts.length) {X : List UInt8} (hX : X.length = 384) :
    D.write (i : Int) X = if D.fuse = 1 then (6, { D with steps := D.steps + 1, fuse := 0, off := true }) else (0, { D with steps := D.steps + 1, fuse := max 0 (D.fuse - 1), way := [⟨(i : Int), X⟩] }) := by
  have his : D.is (i : Int) = true := by unfold is; simp; omega
  have hc : ¬ (D.is (i : Int) = false ∨ (X.length : Int) ≠ 384) := by rw [his, hX]; simp
  unfold write step
  rw [if_neg hc, if_neg (by rw [ho]; simp)]
  by_cases hf : D.fuse = 1
  · rw [if_pos hf, if_pos hf, if_pos rfl]
  · rw [if_neg hf, if_neg hf, if_neg (by simp), hw]
    rfl
theorem flush_eq {D : Dsk} (ho : D.off = false) : D.flush = if D.fuse = 1 then (6, { D with steps := D.steps + 1, fuse := 0, off := true }) else (0, { ({ D with steps := D.steps + 1, fuse := max 0 (D.fuse - 1) } : Dsk).puts D.way with way := [] }) := by
  unfold flush step
  rw [if_neg (by rw [ho]; simp)]
  by_cases hf1 : D.fuse = 1
  · rw [if_pos hf1, if_pos hf1, if_pos rfl]
  · rw [if_neg hf1, if_neg hf1, if_neg (by simp)]
theorem copy_on {D : Dsk} (ho : D.off = false) (hw : D.way = []) (hf : D.fuse = 0) {i : Nat} (hi : i < D.lasts.length) {X : List UInt8} (hX : X.length = 384) :
    D.write (i : Int) X = (0, { D with way := [⟨(i : Int), X⟩], steps := D.steps + 1, fuse := 0 }) ∧
    ({ D with way := [⟨(i : Int), X⟩], steps := D.steps + 1, fuse := 0 } : Dsk).flush = (0, { D with lasts := D.lasts.set i X, mark := D.mark.set i false, way := [], steps := D.steps + 1 + 1, fuse := 0 }) := by
  have hm : max 0 (D.fuse - 1) = 0 := by omega
  constructor
  · rw [write_eq ho hw hi hX, if_neg (by omega), hm]
  · rw [flush_eq (show ({ D with way := [⟨(i : Int), X⟩], steps := D.steps + 1, fuse := 0 } : Dsk).off = false from ho), if_neg (by simp)]
    simp only [puts, List.foldl_cons, List.foldl_nil, put, Int.toNat_natCast]
    rfl
def fresh : Dsk := ⟨[nought, nought, nought, nought], [false, false, false, false], [], false, 0, 0⟩
theorem nextG_nought : nextG nought = 1 := by
  unfold nextG
  rw [if_neg (by unfold nought; simp)]
  have : nth nought (nought.length - 1) = 0 := by unfold nth nought; rw [List.length_replicate, List.getD_eq_getElem?_getD, List.getElem?_replicate, if_pos (by omega)]; rfl
  rw [this]
  rfl
/-- One copy that has none is written. -/
theorem writes_step {s : Sup} {k i : Nat} {D : Dsk} (ho : D.off = false) (hw : D.way = []) (hf : D.fuse = 0) (hi : i < D.lasts.length) (hn : nth D.lasts i = nought) :
    writesU s (k + 1) i D = writesU s k (i + 1) { D with lasts := D.lasts.set i (sealed 1 (supB s)), mark := D.mark.set i false, way := [], steps := D.steps + 1 + 1, fuse := 0 } := by
  have e1 := oneU_at ho hw hi
  rw [hn, hasU_bad openS_nought] at e1
  have hseal : sealS nought (supB s) = (sealed 1 (supB s), 0) := by unfold sealS; rw [if_neg (by rw [supB_len]; omega), nextG_nought]
  obtain ⟨w1, f1⟩ := copy_on ho hw hf hi (X := sealed 1 (supB s)) (sealed_len (by rw [supB_len]; omega))
  conv => lhs; unfold writesU
  rw [e1]
  simp only [ne_eq, not_true_eq_false, if_false, Bool.false_eq_true, false_and, hseal, w1, f1]
theorem fresh_writes (s : Sup) : writesU s 4 0 fresh = (0, ⟨[sealed 1 (supB s), sealed 1 (supB s), sealed 1 (supB s), sealed 1 (supB s)], [false, false, false, false], [], false, 0, 8⟩) := by
  rw [writes_step rfl rfl rfl (show (0 : Nat) < 4 by omega) rfl, writes_step rfl rfl rfl (show (1 : Nat) < 4 by omega) rfl, writes_step rfl rfl rfl (show (2 : Nat) < 4 by omega) rfl, writes_step rfl rfl rfl (show (3 : Nat) < 4 by omega) rfl]
  rfl
theorem fresh_write {s : Sup} (hr : s.right = true) : writeU s fresh = (0, ⟨[sealed 1 (supB s), sealed 1 (supB s), sealed 1 (supB s), sealed 1 (supB s)], [false, false, false, false], [], false, 0, 8⟩) := by
  unfold writeU
  rw [if_neg (by simp [hr])]
  exact fresh_writes s
theorem fresh_read : readU fresh = (zeroU, 0, 11) := by
  have h : ∀ i : Nat, i < 4 → hasU (fresh.read (i : Int)).1 = (zeroU, false) := fun i hi => by
    rw [read_lasts rfl rfl (by exact hi)]
    have : nth fresh.lasts i = nought := by
      match i, hi with
      | 0, _ => rfl
      | 1, _ => rfl
      | 2, _ => rfl
      | 3, _ => rfl
    rw [this, hasU_bad openS_nought]
  have e : copies fresh 4 = [(zeroU, false), (zeroU, false), (zeroU, false), (zeroU, false)] := by
    have h0 := h 0 (by omega)
    have h1 := h 1 (by omega)
    have h2 := h 2 (by omega)
    have h3 := h 3 (by omega)
    show [hasU (fresh.read ((0 : Nat) : Int)).1, hasU (fresh.read ((1 : Nat) : Int)).1, hasU (fresh.read ((2 : Nat) : Int)).1, hasU (fresh.read ((3 : Nat) : Int)).1] = [_, _, _, _]
    rw [h0, h1, h2, h3]
  unfold readU
  rw [if_neg (by decide), e]
  rfl
end Dsk
end Go.Cmp
namespace Go.Cmp
open Go.RowKit
namespace Dsk
theorem Inv.swap {s t : Sup} {D : Dsk} (h : D.Inv s t) : D.Inv t s := ⟨h.ok, h.len, fun i hi => by
  rcases h.sec i hi with ⟨m0, g, x, hx, e⟩ | q
  · exact .inl ⟨m0, g, x, hx.symm, e⟩
  · exact .inr q⟩
theorem inv_read {s t : Sup} (hs : s.right = true) (hsu : s.U64) (ht : t.right = true) (htu : t.U64) (hst : s.seq < t.seq) {D : Dsk} (h : D.Inv s t) (ho : D.off = false) (hw : D.way = []) (hm : D.marks ≤ 3) :
    (readU D).2.2 = 0 ∧ ((readU D).1 = s ∨ (readU D).1 = t) ∧ ((∀ j, j < 4 → nth D.mark j = false → hasU (nth D.lasts j) = (t, true)) → (readU D).1 = t) := by
  have h1 : 1 ≤ s.seq := (sup_right.1 hs).seq.1
  have hml := h.ok.len
  have hl := h.len
  obtain ⟨k, hk, hk2⟩ := count_lt (l := D.mark) (by unfold marks at hm; omega)
  have hk4 : k < 4 := by omega
  have er : ∀ i : Nat, i < 4 → (D.read (i : Int)).1 = nth D.lasts i := fun i hi => by rw [read_lasts ho hw (by omega)]
  obtain ⟨r1, r2, r3⟩ := read_two (D := D) h1 hst ho (fun i hi hq => by
    rw [er i hi] at hq ⊢
    exact (inv_has hs hsu ht htu h hi).1 hq) hk4 (by
    rw [er k hk4]
    exact (inv_has hs hsu ht htu h hk4).2 hk2)
  exact ⟨r1, r2, fun hall => r3 ⟨k, hk4, by rw [er k hk4]; exact hall k hk4 hk2⟩⟩
theorem read_full {t : Sup} (ht : t.right = true) {D : Dsk} (hl : 4 ≤ D.lasts.length) (ho : D.off = false) (hw : D.way = []) (h : ∀ j, j < 4 → hasU (nth D.lasts j) = (t, true)) : readU D = (t, 4, 0) :=
  read_all (sup_right.1 ht).seq.1 ho (fun i hi => by rw [read_lasts ho hw (by omega)]; exact h i hi)
theorem read_none {D : Dsk} (hl : 4 ≤ D.lasts.length) (ho : D.off = false) (hw : D.way = []) (h : ∀ j, j < 4 → hasU (nth D.lasts j) = (zeroU, false)) : readU D = (zeroU, 0, 11) := by
  have g : ∀ i : Nat, i < 4 → hasU (D.read (i : Int)).1 = (zeroU, false) := fun i hi => by rw [read_lasts ho hw (by omega)]; exact h i hi
  have e : copies D 4 = [(zeroU, false), (zeroU, false), (zeroU, false), (zeroU, false)] := by
    have h0 := g 0 (by omega)
    have h1 := g 1 (by omega)
    have h2 := g 2 (by omega)
    have h3 := g 3 (by omega)
    show [hasU (D.read ((0 : Nat) : Int)).1, hasU (D.read ((1 : Nat) : Int)).1, hasU (D.read ((2 : Nat) : Int)).1, hasU (D.read ((3 : Nat) : Int)).1] = [_, _, _, _]
    rw [h0, h1, h2, h3]
  unfold readU
  rw [if_neg (by rw [ho]; simp), e]
  rfl
/-- The disk on which it was written first. -/
def full (s : Sup) : Dsk := ⟨[sealed 1 (supB s), sealed 1 (supB s), sealed 1 (supB s), sealed 1 (supB s)], [false, false, false, false], [], false, 0, 8⟩
theorem full_len (s : Sup) : (sealed 1 (supB s)).length = 384 := sealed_len (by rw [supB_len]; omega)
theorem full_ok (s : Sup) : (full s).Ok := by
  refine ⟨rfl, by show 4 ≤ 64; omega, ?_, by intro x hx; simp [full] at hx, by show 0 ≤ 1000000; omega, by show (0 : Int) ≤ 0; omega, by show (0 : Int) ≤ _; omega, by show (0 : Int) ≤ 8; omega, by show (8 : Int) ≤ _; omega⟩
  intro x hx
  simp only [full, List.mem_cons, List.not_mem_nil, or_false, or_self] at hx
  rw [hx]
  exact full_len s
theorem full_inv (s t : Sup) : (full s).Inv s t ∧ (full s).marks = 0 := by
  refine ⟨⟨full_ok s, rfl, fun i hi => ?_⟩, rfl⟩
  match i, hi with
  | 0, _ => exact .inl ⟨rfl, 1, s, .inl rfl, rfl⟩
  | 1, _ => exact .inl ⟨rfl, 1, s, .inl rfl, rfl⟩
  | 2, _ => exact .inl ⟨rfl, 1, s, .inl rfl, rfl⟩
  | 3, _ => exact .inl ⟨rfl, 1, s, .inl rfl, rfl⟩
theorem full_read {s : Sup} (hr : s.right = true) (hu : s.U64) : readU (full s) = (s, 4, 0) :=
  read_full hr (by show 4 ≤ 4; omega) rfl rfl (fun j hj => by
    have e : nth (full s).lasts j = sealed 1 (supB s) := by
      match j, hj with
      | 0, _ => rfl
      | 1, _ => rfl
      | 2, _ => rfl
      | 3, _ => rfl
    rw [e]
    exact hasU_of 1 hr hu)
/-- A copy that was not marked rots: it is bad. -/
theorem rot_bad {s : Sup} {D : Dsk} (h : D.Inv s s) (hw : D.way = []) {i : Nat} {at' mask : Int} (hi : i < 4) (hm0 : nth D.mark i = false) (ha : 0 ≤ at') (ha2 : at' < 384) (hm : 1 ≤ mask) (hm2 : mask ≤ 255) :
    openS (nth (D.rot (i : Int) at' mask).2.lasts i) = ([], false) ∧ ∀ j, j ≠ i → nth (D.rot (i : Int) at' mask).2.lasts j = nth D.lasts j ∧ nth (D.rot (i : Int) at' mask).2.mark j = nth D.mark j := by
  obtain ⟨k1, _, _, _, _, k6⟩ := rot_inv h hw (i := (i : Int)) (by omega) (by omega) ha ha2 hm hm2
  have his : D.is (i : Int) = true := by unfold is; rw [h.len]; simp; omega
  have hc : ¬ (D.is (i : Int) = false ∨ at' < 0 ∨ 384 ≤ at' ∨ mask < 1 ∨ 255 < mask) := by rw [his]; simp; omega
  have hwa : ¬ (D.way.any (fun x => x.sector == (i : Int)) = true) := by rw [hw]; simp
  have hml := h.ok.len
  have hl := h.len
  have er : (D.rot (i : Int) at' mask).2 = { D with lasts := D.lasts.set i (turn (nth D.lasts i) at'.toNat mask), mark := D.mark.set i true } := by
    unfold rot
    rw [if_neg hc, if_neg hwa, Int.toNat_natCast, if_neg (by rw [hm0]; simp)]
  have e1 : nth (D.rot (i : Int) at' mask).2.mark i = true := by rw [er]; simp only; rw [nth_set_n, if_pos ⟨rfl, by omega⟩]
  refine ⟨?_, fun j hj => ?_⟩
  · rcases k1.sec i hi with ⟨m0, _⟩ | ⟨_, q⟩
    · rw [e1] at m0; simp at m0
    · exact q
  · rw [er]
    simp only
    rw [nth_set_n, nth_set_n, if_neg (fun q => hj q.1.symm), if_neg (fun q => hj q.1.symm)]
    exact ⟨rfl, rfl⟩
end Dsk
end Go.Cmp
