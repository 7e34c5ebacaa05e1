/-
  Which superblock is read of copies that have the old one, the new one, or none; in plain lists.
-/
import Derived.Test.YtbfdnpahojoccaaSupSpec2
set_option linter.unusedSimpArgs false
set_option linter.unusedVariables false
set_option linter.unusedSectionVars false
set_option maxRecDepth 100000
namespace Go.Cmp
open Go.RowKit
/-- What is held so far: none, the old one, the new one. -/
def Held (s t : Sup) (a : Sup × Nat) : Prop := a = (zeroU, 0) ∨ (a.1 = s ∧ 0 < a.2) ∨ (a.1 = t ∧ 0 < a.2)
theorem best_held {s t : Sup} (hs : 1 ≤ s.seq) (hst : s.seq < t.seq) {a : Sup × Nat} (ha : Held s t a) {x : Sup × Bool} (hx : x.2 = true → x.1 = s ∨ x.1 = t) :
    Held s t (bestU a x) ∧ (x.2 = true → bestU a x ≠ (zeroU, 0)) ∧ (a ≠ (zeroU, 0) → bestU a x ≠ (zeroU, 0)) ∧ ((a.1 = t ∨ (x.2 = true ∧ x.1 = t)) → (bestU a x).1 = t) := by
  obtain ⟨x, b⟩ := x
  have z0 : zeroU.seq = 0 := rfl
  have ne : s ≠ t := fun e => by rw [e] at hst; omega
  have nz1 : s ≠ zeroU := fun e => by rw [e] at hs; omega
  have nz2 : t ≠ zeroU := fun e => by rw [e] at hst; omega
  cases b
  · have e : bestU a (x, false) = a := by unfold bestU; rw [if_pos rfl]
    rw [e]
    exact ⟨ha, fun h => by simp at h, fun h => h, fun h => by
      rcases h with h | h
      · exact h
      · simp at h⟩
  · have hx := hx rfl
    simp only at hx
    have e : bestU a (x, true) = if a.1.seq < x.seq then (x, 1) else if x = a.1 then (a.1, a.2 + 1) else a := by unfold bestU; rw [if_neg (by simp)]
    rw [e]
    clear e
    rcases ha with rfl | ⟨ha, h0⟩ | ⟨ha, h0⟩
    · have hlt : (zeroU, 0).1.seq < x.seq := by
        show zeroU.seq < x.seq
        rcases hx with rfl | rfl <;> omega
      rw [if_pos hlt]
      refine ⟨?_, fun _ => ?_, fun h => absurd rfl h, fun h => ?_⟩
      · rcases hx with rfl | rfl
        · exact .inr (.inl ⟨rfl, by omega⟩)
        · exact .inr (.inr ⟨rfl, by omega⟩)
      · intro e; exact absurd (congrArg Prod.snd e) (by simp)
      · rcases h with h | h
        · exact absurd h.symm nz2
        · exact h.2
    · obtain ⟨a1, a2⟩ := a
      simp only at ha h0
      subst ha
      rcases hx with rfl | rfl
      · rw [if_neg (by simp), if_pos rfl]
        refine ⟨.inr (.inl ⟨rfl, by simp⟩), fun _ e => ?_, fun _ e => ?_, fun h => ?_⟩
        · exact absurd (congrArg Prod.snd e) (by simp)
        · exact absurd (congrArg Prod.snd e) (by simp)
        · rcases h with h | h
          · exact h
          · exact h.2
      · rw [if_pos hst]
        refine ⟨.inr (.inr ⟨rfl, by omega⟩), fun _ e => ?_, fun _ e => ?_, fun _ => rfl⟩
        · exact absurd (congrArg Prod.snd e) (by simp)
        · exact absurd (congrArg Prod.snd e) (by simp)
    · obtain ⟨a1, a2⟩ := a
      simp only at ha h0
      subst ha
      rcases hx with rfl | rfl
      · rw [if_neg (by simp only; omega), if_neg ne]
        refine ⟨.inr (.inr ⟨rfl, h0⟩), fun _ e => ?_, fun h => h, fun _ => rfl⟩
        have := congrArg Prod.snd e
        simp only at this
        omega
      · rw [if_neg (by simp), if_pos rfl]
        refine ⟨.inr (.inr ⟨rfl, by simp⟩), fun _ e => ?_, fun _ e => ?_, fun _ => rfl⟩
        · exact absurd (congrArg Prod.snd e) (by simp)
        · exact absurd (congrArg Prod.snd e) (by simp)
theorem best_fold {s t : Sup} (hs : 1 ≤ s.seq) (hst : s.seq < t.seq) : ∀ (l : List (Sup × Bool)) (a : Sup × Nat), Held s t a → (∀ x ∈ l, x.2 = true → x.1 = s ∨ x.1 = t) →
    Held s t (l.foldl bestU a) ∧ ((a ≠ (zeroU, 0) ∨ ∃ x ∈ l, x.2 = true) → l.foldl bestU a ≠ (zeroU, 0)) ∧ ((a.1 = t ∨ ∃ x ∈ l, x.2 = true ∧ x.1 = t) → (l.foldl bestU a).1 = t)
  | [], a, ha, _ => ⟨ha, fun h => by
      rcases h with h | ⟨x, hx, _⟩
      · exact h
      · simp at hx, fun h => by
      rcases h with h | ⟨x, hx, _⟩
      · exact h
      · simp at hx⟩
  | x :: l, a, ha, hl => by
    obtain ⟨h1, h2, h3, h4⟩ := best_held hs hst ha (x := x) (hl x (by simp))
    obtain ⟨k1, k2, k3⟩ := best_fold hs hst l (bestU a x) h1 (fun y hy => hl y (by simp [hy]))
    rw [List.foldl_cons]
    refine ⟨k1, fun h => k2 ?_, fun h => k3 ?_⟩
    · rcases h with h | ⟨y, hy, hb⟩
      · exact .inl (h3 h)
      · rcases List.mem_cons.1 hy with rfl | hy
        · exact .inl (h2 hb)
        · exact .inr ⟨y, hy, hb⟩
    · rcases h with h | ⟨y, hy, hb⟩
      · exact .inl (h4 (.inl h))
      · rcases List.mem_cons.1 hy with rfl | hy
        · exact .inl (h4 (.inr hb))
        · exact .inr ⟨y, hy, hb⟩
/-- All copies have it. -/
theorem best_all {t : Sup} (ht : 1 ≤ t.seq) : ∀ (n : Nat) (c : Nat), 0 < c → (List.replicate n (t, true)).foldl bestU (t, c) = (t, c + n)
  | 0, c, _ => rfl
  | n + 1, c, hc => by
    rw [List.replicate_succ, List.foldl_cons]
    have e : bestU (t, c) (t, true) = (t, c + 1) := by unfold bestU; rw [if_neg (by simp), if_neg (by simp), if_pos rfl]
    rw [e, best_all ht n (c + 1) (by omega)]
    congr 1
    omega
theorem read_all {D : Dsk} {t : Sup} (ht : 1 ≤ t.seq) (ho : D.off = false) (h : ∀ i : Nat, i < 4 → hasU (D.read (i : Int)).1 = (t, true)) : readU D = (t, 4, 0) := by
  have e : copies D 4 = List.replicate 4 (t, true) := by
    have h0 := h 0 (by omega)
    have h1 := h 1 (by omega)
    have h2 := h 2 (by omega)
    have h3 := h 3 (by omega)
    show [hasU (D.read ((0 : Nat) : Int)).1, hasU (D.read ((1 : Nat) : Int)).1, hasU (D.read ((2 : Nat) : Int)).1, hasU (D.read ((3 : Nat) : Int)).1] = [_, _, _, _]
    rw [h0, h1, h2, h3]
  have z0 : zeroU.seq = 0 := rfl
  have f : (copies D 4).foldl bestU (zeroU, 0) = (t, 4) := by
    rw [e, List.replicate_succ, List.foldl_cons]
    have e1 : bestU (zeroU, 0) (t, true) = (t, 1) := by unfold bestU; rw [if_neg (by simp), if_pos (by show zeroU.seq < t.seq; omega)]
    rw [e1, best_all ht 3 1 (by omega)]
  unfold readU
  rw [if_neg (by rw [ho]; simp), f]
  rfl
/-- One copy at least can be read. -/
theorem read_two {D : Dsk} {s t : Sup} (hs : 1 ≤ s.seq) (hst : s.seq < t.seq) (ho : D.off = false) (h : ∀ i : Nat, i < 4 → (hasU (D.read (i : Int)).1).2 = true → (hasU (D.read (i : Int)).1).1 = s ∨ (hasU (D.read (i : Int)).1).1 = t) {k : Nat} (hk : k < 4) (hr : (hasU (D.read (k : Int)).1).2 = true) :
    (readU D).2.2 = 0 ∧ ((readU D).1 = s ∨ (readU D).1 = t) ∧ ((∃ j : Nat, j < 4 ∧ hasU (D.read (j : Int)).1 = (t, true)) → (readU D).1 = t) := by
  have hm : ∀ x ∈ copies D 4, x.2 = true → x.1 = s ∨ x.1 = t := by
    intro x hx
    obtain ⟨i, hi, rfl⟩ := List.mem_map.1 hx
    exact h i (List.mem_range.1 hi)
  have hin : ∀ j : Nat, j < 4 → hasU (D.read (j : Int)).1 ∈ copies D 4 := fun j hj => List.mem_map.2 ⟨j, List.mem_range.2 hj, rfl⟩
  obtain ⟨f1, f2, f3⟩ := best_fold hs hst (copies D 4) (zeroU, 0) (.inl rfl) hm
  have f2 := f2 (.inr ⟨_, hin k hk, hr⟩)
  have hst2 : 1 ≤ t.seq := by omega
  unfold readU
  rw [if_neg (by rw [ho]; simp)]
  generalize (copies D 4).foldl bestU (zeroU, 0) = A at f1 f2 f3
  have hA : 0 < A.2 ∧ (A.1 = s ∨ A.1 = t) := by
    rcases f1 with rfl | ⟨h1, h2⟩ | ⟨h1, h2⟩
    · exact absurd rfl f2
    · exact ⟨h2, .inl h1⟩
    · exact ⟨h2, .inr h1⟩
  rw [if_neg (by omega)]
  refine ⟨rfl, hA.2, fun ⟨j, hj, e⟩ => f3 (.inr ⟨_, hin j hj, ?_⟩)⟩
  rw [e]
  exact ⟨rfl, rfl⟩
end Go.Cmp
