/-
  A superblock is written copy by copy while the power may go; in plain lists.
-/
import Derived.Test.YtbfdnpahojoccaaSupKeep
set_option linter.unusedSimpArgs false
set_option linter.unusedVariables false
set_option linter.unusedSectionVars false
set_option maxRecDepth 100000
namespace Go.Cmp
open Go.RowKit
namespace Dsk
theorem read_lasts {D : Dsk} (ho : D.off = false) (hw : D.way = []) {i : Nat} (hi : i < D.lasts.length) : D.read (i : Int) = (nth D.lasts i, 0) := by
  have his : D.is (i : Int) = true := by unfold is; simp; omega
  unfold read
  rw [if_neg (by rw [his]; simp), if_neg (by rw [ho]; simp), hw]
  simp only [under, Option.getD_none, Int.toNat_natCast]
theorem hasU_of (g : UInt8) {x : Sup} (hr : x.right = true) (hu : x.U64) : hasU (sealed g (supB x)) = (x, true) := hasU_sealed hr hu (sup_open g x)
theorem hasU_bad {b : List UInt8} (h : openS b = ([], false)) : hasU b = (zeroU, false) := by unfold hasU; rw [h]; rfl
/-- What a copy has. -/
theorem inv_has {s t : Sup} (hs : s.right = true) (hsu : s.U64) (ht : t.right = true) (htu : t.U64) {D : Dsk} (h : D.Inv s t) {i : Nat} (hi : i < 4) : ((hasU (nth D.lasts i)).2 = true → (hasU (nth D.lasts i)).1 = s ∨ (hasU (nth D.lasts i)).1 = t) ∧ (nth D.mark i = false → (hasU (nth D.lasts i)).2 = true) := by
  rcases h.sec i hi with ⟨m0, g, x, hx, e⟩ | ⟨m1, e⟩
  · rw [e]
    rcases hx with rfl | rfl
    · rw [hasU_of g hs hsu]; exact ⟨fun _ => .inl rfl, fun _ => rfl⟩
    · rw [hasU_of g ht htu]; exact ⟨fun _ => .inr rfl, fun _ => rfl⟩
  · rw [hasU_bad e]
    exact ⟨fun q => by simp at q, fun q => by rw [m1] at q; simp at q⟩
theorem oneU_at {D : Dsk} (ho : D.off = false) (hw : D.way = []) {i : Nat} (hi : i < D.lasts.length) : oneU D (i : Int) = ((hasU (nth D.lasts i)).1, nth D.lasts i, (hasU (nth D.lasts i)).2, 0) := by
  unfold oneU
  rw [read_lasts ho hw hi]
  simp
/-- The write of one copy, with a flush behind it. -/
theorem copy_any {s t : Sup} {D : Dsk} (h : D.Inv s t) (ho : D.off = false) (hw : D.way = []) (hst : D.steps ≤ 1000) {i : Nat} (hi : i < 4) :
    (∃ D1 D2, D.write (i : Int) (D.over i t) = (0, D1) ∧ D1.flush = (0, D2) ∧ D2.Inv s t ∧ D2.off = false ∧ D2.way = [] ∧ D2.steps ≤ D.steps + 2 ∧ D2.marks ≤ D.marks ∧ D2.lasts = D.lasts.set i (D.over i t) ∧ (D.fuse = 0 → D2.fuse = 0)) ∨
    (∃ D1, D.write (i : Int) (D.over i t) = (6, D1) ∧ D.fuse ≠ 0 ∧ D1.Inv s t ∧ D1.off = true ∧ D1.way = [] ∧ D1.steps ≤ D.steps + 2 ∧ D1.marks ≤ D.marks) ∨
    (∃ D1 D2, D.write (i : Int) (D.over i t) = (0, D1) ∧ D1.flush = (6, D2) ∧ D.fuse ≠ 0 ∧ D2.Inv s t ∧ D2.off = true ∧ D2.way = [⟨(i : Int), D2.over i t⟩] ∧ D2.steps ≤ D.steps + 2 ∧ D2.marks ≤ D.marks) := by
  have h1 := (write_next h.ok (i : Int) (D.over i t) (by rw [hw]; simp) (by omega))
  have his : D.is (i : Int) = true := by unfold is; rw [h.len]; simp; omega
  have hc : ¬ (D.is (i : Int) = false ∨ ((D.over i t).length : Int) ≠ 384) := by rw [his, over_len]; simp
  have ok1 := h1.ok
  have hf0 := h.ok.fuse0
  have ok2 := (flush_next ok1 (by have := h1.steps; omega)).ok
  have ew : D.write (i : Int) (D.over i t) = if D.fuse = 1 then (6, { D with steps := D.steps + 1, fuse := 0, off := true }) else (0, { D with steps := D.steps + 1, fuse := max 0 (D.fuse - 1), way := [⟨(i : Int), D.over i t⟩] }) := by
    unfold write step
    rw [if_neg hc, if_neg (by rw [ho]; simp)]
    by_cases hf : D.fuse = 1
    · rw [if_pos hf, if_pos hf, if_pos rfl]
    · rw [if_neg hf, if_neg hf, if_neg (by simp), hw]
      rfl
  rw [ew] at ok1 ok2 ⊢
  by_cases hf : D.fuse = 1
  · rw [if_pos hf] at ok1 ok2 ⊢
    exact .inr (.inl ⟨_, rfl, by omega, ⟨ok1, h.len, h.sec⟩, rfl, hw, by simp only; omega, Nat.le_refl _⟩)
  · rw [if_neg hf] at ok1 ok2 ⊢
    simp only at ok1 ok2
    obtain ⟨D1, hD1⟩ : ∃ D1 : Dsk, { D with steps := D.steps + 1, fuse := max 0 (D.fuse - 1), way := [⟨(i : Int), D.over i t⟩] } = D1 := ⟨_, rfl⟩
    rw [hD1] at ok1 ok2 ⊢
    have ef : D1.flush = if D1.fuse = 1 then (6, { D1 with steps := D1.steps + 1, fuse := 0, off := true }) else (0, { ({ D1 with steps := D1.steps + 1, fuse := max 0 (D1.fuse - 1) } : Dsk).puts D1.way with way := [] }) := by
      have ho1 : D1.off = false := by rw [← hD1]; exact ho
      unfold flush step
      rw [if_neg (by rw [ho1]; simp)]
      by_cases hf1 : D1.fuse = 1
      · rw [if_pos hf1, if_pos hf1, if_pos rfl]
      · rw [if_neg hf1, if_neg hf1, if_neg (by simp)]
    rw [ef] at ok2
    by_cases hf1 : D1.fuse = 1
    · rw [if_pos hf1] at ok2
      refine .inr (.inr ⟨D1, _, rfl, by rw [ef, if_pos hf1], ?_, ⟨ok2, ?_, ?_⟩, rfl, ?_, ?_, ?_⟩)
      · rw [← hD1] at hf1; simp only at hf1; omega
      · rw [← hD1]; exact h.len
      · rw [← hD1]; exact h.sec
      · rw [← hD1]; rfl
      · rw [← hD1]; simp only; omega
      · rw [← hD1]; exact Nat.le_refl _
    · rw [if_neg hf1] at ok2
      refine .inl ⟨D1, _, rfl, by rw [ef, if_neg hf1], ?_⟩
      have el : ({ ({ D1 with steps := D1.steps + 1, fuse := max 0 (D1.fuse - 1) } : Dsk).puts D1.way with way := [] } : Dsk) = { D with lasts := D.lasts.set i (D.over i t), mark := D.mark.set i false, way := [], steps := D.steps + 1 + 1, fuse := max 0 (max 0 (D.fuse - 1) - 1) } := by
        rw [← hD1]
        simp only [puts, List.foldl_cons, List.foldl_nil, put, Int.toNat_natCast]
      simp only at ok2
      rw [el] at ok2 ⊢
      obtain ⟨k1, k2⟩ := inv_put h hi (g := nextG (nth D.lasts i)) (x := t) ok2 (.inr rfl) rfl rfl
      exact ⟨k1, ho, rfl, by simp only; omega, k2, rfl, fun h0 => by simp only; omega⟩
/-- All that are left. -/
theorem writes_inv {s t : Sup} (hs : s.right = true) (hsu : s.U64) (ht : t.right = true) (htu : t.U64) : ∀ (k i : Nat) (D : Dsk), i + k = 4 → D.Inv s t → D.off = false → D.way = [] → D.steps + 2 * k ≤ 1000 → (∀ j, j < i → hasU (nth D.lasts j) = (t, true)) →
    ((writesU t k i D).1 = 0 ∧ (writesU t k i D).2.off = false ∧ (writesU t k i D).2.way = [] ∧ (∀ j, j < 4 → hasU (nth (writesU t k i D).2.lasts j) = (t, true)) ∨
     (writesU t k i D).1 ≠ 0 ∧ D.fuse ≠ 0 ∧ (writesU t k i D).2.off = true ∧ ((writesU t k i D).2.way = [] ∨ ∃ j : Nat, j < 4 ∧ (writesU t k i D).2.way = [⟨(j : Int), (writesU t k i D).2.over j t⟩])) ∧
    (writesU t k i D).2.Inv s t ∧ (writesU t k i D).2.marks ≤ D.marks ∧ (writesU t k i D).2.steps ≤ D.steps + 2 * k
  | 0, i, D, hik, h, ho, hw, hst, hj => by
    have : i = 4 := by omega
    subst this
    exact ⟨.inl ⟨rfl, ho, hw, hj⟩, h, Nat.le_refl _, by show D.steps ≤ _; omega⟩
  | k + 1, i, D, hik, h, ho, hw, hst, hj => by
    have hi : i < 4 := by omega
    have e1 := oneU_at ho hw (i := i) (by rw [h.len]; exact hi)
    have hseal : sealS (nth D.lasts i) (supB t) = (D.over i t, 0) := by unfold sealS over; rw [if_neg (by rw [supB_len]; omega)]
    unfold writesU
    rw [e1]
    simp only [ne_eq, not_true_eq_false, if_false, hseal]
    by_cases hc : (hasU (nth D.lasts i)).2 = true ∧ (hasU (nth D.lasts i)).1 = t
    · rw [if_pos hc]
      obtain ⟨r1, r2, r3, r4⟩ := writes_inv hs hsu ht htu k (i + 1) D (by omega) h ho hw (by omega) (fun j hj2 => by
        by_cases e : j = i
        · subst e; exact Prod.ext hc.2 hc.1
        · exact hj j (by omega))
      exact ⟨r1, r2, r3, by omega⟩
    · rw [if_neg hc]
      rcases copy_any h ho hw (by omega) hi with ⟨D1, D2, w1, f1, i2, o2, y2, s2, m2, l2, z2⟩ | ⟨D1, w1, hf, i2, o2, y2, s2, m2⟩ | ⟨D1, D2, w1, f1, hf, i2, o2, y2, s2, m2⟩
      · rw [w1]
        simp only [not_true_eq_false, if_false, f1]
        obtain ⟨r1, r2, r3, r4⟩ := writes_inv hs hsu ht htu k (i + 1) D2 (by omega) i2 o2 y2 (by omega) (fun j hj2 => by
          rw [l2, nth_set_n]
          by_cases e : i = j
          · rw [if_pos ⟨e, by rw [h.len]; exact hi⟩]
            exact hasU_of _ ht htu
          · rw [if_neg (fun q => e q.1)]
            exact hj j (by omega))
        refine ⟨?_, r2, by omega, by omega⟩
        rcases r1 with r1 | ⟨q1, q2, q3⟩
        · exact .inl r1
        · exact .inr ⟨q1, fun e => q2 (z2 e), q3⟩
      · rw [w1]
        have n6 : ¬ ((6 : Int) = 0) := by omega
        simp only [n6, not_false_eq_true, if_true]
        exact ⟨.inr ⟨trivial, hf, o2, .inl y2⟩, i2, m2, by omega⟩
      · rw [w1]
        have n6 : ¬ ((6 : Int) = 0) := by omega
        simp only [not_true_eq_false, if_false, f1, n6, not_false_eq_true, if_true]
        exact ⟨.inr ⟨trivial, hf, o2, .inr ⟨i, hi, y2⟩⟩, i2, m2, by omega⟩
end Dsk
end Go.Cmp
