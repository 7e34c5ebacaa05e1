/-
  Headers: the document's Right, Pack.
-/
import Derived.Test.YtjjiibcnknljfaaGreatHead3
import Derived.Test.YtjjiibcnknljfaaGreatDrift
set_option linter.unusedSimpArgs false
set_option linter.unusedVariables false
set_option linter.unusedSectionVars false
set_option maxRecDepth 100000
namespace Go.Proofs.YtjjiibcnknljfaaGreat
open Go.RowKit Go.Cmp
set_option maxRecDepth 100000

section
theorem refSmall_b (n : Int) {b : Bool} (hb : decide (small n) = b) (w : World) :
    Calls Tryz.prog 141 #[.int .i64 n] w fun e w' => e = .returned (.bool b) ∧ w' = w := by
  subst hb
  by_cases h1 : 0 ≤ n
  · have e1 : decide (0 ≤ n) = true := by simpa using h1
    by_cases h2 : n ≤ 255
    · have e2 : decide (n ≤ 255) = true := by simpa using h2
      have HA : Hid (decide (small n) = true) := Lib.hid (decide_eq_true ⟨h1, h2⟩)
      (go_enter Tryz.func141, Tryz.ntmps141)
      go_wp2
      go_ret
      exact ⟨by rw [HA.out]; rfl, rfl⟩
    · have e2 : decide (n ≤ 255) = false := by simpa using h2
      have HA : Hid (decide (small n) = false) := Lib.hid (decide_eq_false (fun h => h2 h.2))
      (go_enter Tryz.func141, Tryz.ntmps141)
      go_wp2
      go_ret
      exact ⟨by rw [HA.out]; rfl, rfl⟩
  · have e1 : decide (0 ≤ n) = false := by simpa using h1
    have HA : Hid (decide (small n) = false) := Lib.hid (decide_eq_false (fun h => h1 h.1))
    (go_enter Tryz.func141, Tryz.ntmps141)
    go_wp2
    go_ret
    exact ⟨by rw [HA.out]; rfl, rfl⟩
theorem refFits_b (n : Int) {b : Bool} (hb : decide (fits n) = b) (w : World) :
    Calls Tryz.prog 142 #[.int .i64 n] w fun e w' => e = .returned (.bool b) ∧ w' = w := by
  subst hb
  by_cases h1 : 0 ≤ n
  · have e1 : decide (0 ≤ n) = true := by simpa using h1
    by_cases h2 : n ≤ 72057594037927935
    · have e2 : decide (n ≤ 72057594037927935) = true := by simpa using h2
      have HA : Hid (decide (fits n) = true) := Lib.hid (decide_eq_true ⟨h1, h2⟩)
      (go_enter Tryz.func142, Tryz.ntmps142)
      go_wp2
      go_ret
      exact ⟨by rw [HA.out]; rfl, rfl⟩
    · have e2 : decide (n ≤ 72057594037927935) = false := by simpa using h2
      have HA : Hid (decide (fits n) = false) := Lib.hid (decide_eq_false (fun h => h2 h.2))
      (go_enter Tryz.func142, Tryz.ntmps142)
      go_wp2
      go_ret
      exact ⟨by rw [HA.out]; rfl, rfl⟩
  · have e1 : decide (0 ≤ n) = false := by simpa using h1
    have HA : Hid (decide (fits n) = false) := Lib.hid (decide_eq_false (fun h => h1 h.1))
    (go_enter Tryz.func142, Tryz.ntmps142)
    go_wp2
    go_ret
    exact ⟨by rw [HA.out]; rfl, rfl⟩
set_option maxHeartbeats 8000000 in
theorem refRight_any (h : Hd) (w : World) :
    Calls Tryz.prog 137 #[.agg h.cells.toArray] w fun e w' => e = .returned (.bool h.right) ∧ St [] w w' [] := by
  have hS := St.init w
  obtain ⟨k1, k2, k3, n1, n2, n3, n4, n5, n6, n7, n8, par⟩ := h
  simp only [Hd.cells]
  generalize ha : (Hd.mk k1 k2 k3 n1 n2 n3 n4 n5 n6 n7 n8 par).right = ans
  cases B0 : decide (small k1)
  · have HA : Hid (ans = false) := Lib.hid (by rw [← ha]; simp only [Hd.right, Hd.smalls, Hd.nums, List.all_cons, List.all_nil, B0, Bool.true_and, Bool.false_and, Bool.and_false])
    clear ha; (go_enter Tryz.func137, Tryz.ntmps137); go_wp2_with (first | (go_at_call 141; refine (refSmall_b _ (by assumption) _).mono ?_; rintro e w' ⟨rfl, rfl⟩) | (go_at_call 142; refine (refFits_b _ (by assumption) _).mono ?_; rintro e w' ⟨rfl, rfl⟩) | (first | refine au1 (n := ?_) | (refine au2 (n := ?_); clear hS; intro w' hS) | (refine au3 (n := ?_); clear hS; intro gb w1 hS) | (refine au4 (n := ?_); clear hS; intro v1 w' hS) | ((with_reducible refine wl_guard ?_); refine stop_mem rfl rfl ?_)))
    go_ret
    exact ⟨by rw [HA.out]; rfl, hS.tail⟩
  cases B1 : decide (small k2)
  · have HA : Hid (ans = false) := Lib.hid (by rw [← ha]; simp only [Hd.right, Hd.smalls, Hd.nums, List.all_cons, List.all_nil, B0, B1, Bool.true_and, Bool.false_and, Bool.and_false])
    clear ha; (go_enter Tryz.func137, Tryz.ntmps137); go_wp2_with (first | (go_at_call 141; refine (refSmall_b _ (by assumption) _).mono ?_; rintro e w' ⟨rfl, rfl⟩) | (go_at_call 142; refine (refFits_b _ (by assumption) _).mono ?_; rintro e w' ⟨rfl, rfl⟩) | (first | refine au1 (n := ?_) | (refine au2 (n := ?_); clear hS; intro w' hS) | (refine au3 (n := ?_); clear hS; intro gb w1 hS) | (refine au4 (n := ?_); clear hS; intro v1 w' hS) | ((with_reducible refine wl_guard ?_); refine stop_mem rfl rfl ?_)))
    go_ret
    exact ⟨by rw [HA.out]; rfl, hS.tail⟩
  cases B2 : decide (small k3)
  · have HA : Hid (ans = false) := Lib.hid (by rw [← ha]; simp only [Hd.right, Hd.smalls, Hd.nums, List.all_cons, List.all_nil, B0, B1, B2, Bool.true_and, Bool.false_and, Bool.and_false])
    clear ha; (go_enter Tryz.func137, Tryz.ntmps137); go_wp2_with (first | (go_at_call 141; refine (refSmall_b _ (by assumption) _).mono ?_; rintro e w' ⟨rfl, rfl⟩) | (go_at_call 142; refine (refFits_b _ (by assumption) _).mono ?_; rintro e w' ⟨rfl, rfl⟩) | (first | refine au1 (n := ?_) | (refine au2 (n := ?_); clear hS; intro w' hS) | (refine au3 (n := ?_); clear hS; intro gb w1 hS) | (refine au4 (n := ?_); clear hS; intro v1 w' hS) | ((with_reducible refine wl_guard ?_); refine stop_mem rfl rfl ?_)))
    go_ret
    exact ⟨by rw [HA.out]; rfl, hS.tail⟩
  cases B3 : decide (fits n1)
  · have HA : Hid (ans = false) := Lib.hid (by rw [← ha]; simp only [Hd.right, Hd.smalls, Hd.nums, List.all_cons, List.all_nil, B0, B1, B2, B3, Bool.true_and, Bool.false_and, Bool.and_false])
    clear ha; (go_enter Tryz.func137, Tryz.ntmps137); go_wp2_with (first | (go_at_call 141; refine (refSmall_b _ (by assumption) _).mono ?_; rintro e w' ⟨rfl, rfl⟩) | (go_at_call 142; refine (refFits_b _ (by assumption) _).mono ?_; rintro e w' ⟨rfl, rfl⟩) | (first | refine au1 (n := ?_) | (refine au2 (n := ?_); clear hS; intro w' hS) | (refine au3 (n := ?_); clear hS; intro gb w1 hS) | (refine au4 (n := ?_); clear hS; intro v1 w' hS) | ((with_reducible refine wl_guard ?_); refine stop_mem rfl rfl ?_)))
    go_ret
    exact ⟨by rw [HA.out]; rfl, hS.tail⟩
  cases B4 : decide (fits n2)
  · have HA : Hid (ans = false) := Lib.hid (by rw [← ha]; simp only [Hd.right, Hd.smalls, Hd.nums, List.all_cons, List.all_nil, B0, B1, B2, B3, B4, Bool.true_and, Bool.false_and, Bool.and_false])
    clear ha; (go_enter Tryz.func137, Tryz.ntmps137); go_wp2_with (first | (go_at_call 141; refine (refSmall_b _ (by assumption) _).mono ?_; rintro e w' ⟨rfl, rfl⟩) | (go_at_call 142; refine (refFits_b _ (by assumption) _).mono ?_; rintro e w' ⟨rfl, rfl⟩) | (first | refine au1 (n := ?_) | (refine au2 (n := ?_); clear hS; intro w' hS) | (refine au3 (n := ?_); clear hS; intro gb w1 hS) | (refine au4 (n := ?_); clear hS; intro v1 w' hS) | ((with_reducible refine wl_guard ?_); refine stop_mem rfl rfl ?_)))
    go_ret
    exact ⟨by rw [HA.out]; rfl, hS.tail⟩
  cases B5 : decide (fits n3)
  · have HA : Hid (ans = false) := Lib.hid (by rw [← ha]; simp only [Hd.right, Hd.smalls, Hd.nums, List.all_cons, List.all_nil, B0, B1, B2, B3, B4, B5, Bool.true_and, Bool.false_and, Bool.and_false])
    clear ha; (go_enter Tryz.func137, Tryz.ntmps137); go_wp2_with (first | (go_at_call 141; refine (refSmall_b _ (by assumption) _).mono ?_; rintro e w' ⟨rfl, rfl⟩) | (go_at_call 142; refine (refFits_b _ (by assumption) _).mono ?_; rintro e w' ⟨rfl, rfl⟩) | (first | refine au1 (n := ?_) | (refine au2 (n := ?_); clear hS; intro w' hS) | (refine au3 (n := ?_); clear hS; intro gb w1 hS) | (refine au4 (n := ?_); clear hS; intro v1 w' hS) | ((with_reducible refine wl_guard ?_); refine stop_mem rfl rfl ?_)))
    go_ret
    exact ⟨by rw [HA.out]; rfl, hS.tail⟩
  cases B6 : decide (fits n4)
  · have HA : Hid (ans = false) := Lib.hid (by rw [← ha]; simp only [Hd.right, Hd.smalls, Hd.nums, List.all_cons, List.all_nil, B0, B1, B2, B3, B4, B5, B6, Bool.true_and, Bool.false_and, Bool.and_false])
    clear ha; (go_enter Tryz.func137, Tryz.ntmps137); go_wp2_with (first | (go_at_call 141; refine (refSmall_b _ (by assumption) _).mono ?_; rintro e w' ⟨rfl, rfl⟩) | (go_at_call 142; refine (refFits_b _ (by assumption) _).mono ?_; rintro e w' ⟨rfl, rfl⟩) | (first | refine au1 (n := ?_) | (refine au2 (n := ?_); clear hS; intro w' hS) | (refine au3 (n := ?_); clear hS; intro gb w1 hS) | (refine au4 (n := ?_); clear hS; intro v1 w' hS) | ((with_reducible refine wl_guard ?_); refine stop_mem rfl rfl ?_)))
    go_ret
    exact ⟨by rw [HA.out]; rfl, hS.tail⟩
  cases B7 : decide (fits n5)
  · have HA : Hid (ans = false) := Lib.hid (by rw [← ha]; simp only [Hd.right, Hd.smalls, Hd.nums, List.all_cons, List.all_nil, B0, B1, B2, B3, B4, B5, B6, B7, Bool.true_and, Bool.false_and, Bool.and_false])
    clear ha; (go_enter Tryz.func137, Tryz.ntmps137); go_wp2_with (first | (go_at_call 141; refine (refSmall_b _ (by assumption) _).mono ?_; rintro e w' ⟨rfl, rfl⟩) | (go_at_call 142; refine (refFits_b _ (by assumption) _).mono ?_; rintro e w' ⟨rfl, rfl⟩) | (first | refine au1 (n := ?_) | (refine au2 (n := ?_); clear hS; intro w' hS) | (refine au3 (n := ?_); clear hS; intro gb w1 hS) | (refine au4 (n := ?_); clear hS; intro v1 w' hS) | ((with_reducible refine wl_guard ?_); refine stop_mem rfl rfl ?_)))
    go_ret
    exact ⟨by rw [HA.out]; rfl, hS.tail⟩
  cases B8 : decide (fits n6)
  · have HA : Hid (ans = false) := Lib.hid (by rw [← ha]; simp only [Hd.right, Hd.smalls, Hd.nums, List.all_cons, List.all_nil, B0, B1, B2, B3, B4, B5, B6, B7, B8, Bool.true_and, Bool.false_and, Bool.and_false])
    clear ha; (go_enter Tryz.func137, Tryz.ntmps137); go_wp2_with (first | (go_at_call 141; refine (refSmall_b _ (by assumption) _).mono ?_; rintro e w' ⟨rfl, rfl⟩) | (go_at_call 142; refine (refFits_b _ (by assumption) _).mono ?_; rintro e w' ⟨rfl, rfl⟩) | (first | refine au1 (n := ?_) | (refine au2 (n := ?_); clear hS; intro w' hS) | (refine au3 (n := ?_); clear hS; intro gb w1 hS) | (refine au4 (n := ?_); clear hS; intro v1 w' hS) | ((with_reducible refine wl_guard ?_); refine stop_mem rfl rfl ?_)))
    go_ret
    exact ⟨by rw [HA.out]; rfl, hS.tail⟩
  cases B9 : decide (fits n7)
  · have HA : Hid (ans = false) := Lib.hid (by rw [← ha]; simp only [Hd.right, Hd.smalls, Hd.nums, List.all_cons, List.all_nil, B0, B1, B2, B3, B4, B5, B6, B7, B8, B9, Bool.true_and, Bool.false_and, Bool.and_false])
    clear ha; (go_enter Tryz.func137, Tryz.ntmps137); go_wp2_with (first | (go_at_call 141; refine (refSmall_b _ (by assumption) _).mono ?_; rintro e w' ⟨rfl, rfl⟩) | (go_at_call 142; refine (refFits_b _ (by assumption) _).mono ?_; rintro e w' ⟨rfl, rfl⟩) | (first | refine au1 (n := ?_) | (refine au2 (n := ?_); clear hS; intro w' hS) | (refine au3 (n := ?_); clear hS; intro gb w1 hS) | (refine au4 (n := ?_); clear hS; intro v1 w' hS) | ((with_reducible refine wl_guard ?_); refine stop_mem rfl rfl ?_)))
    go_ret
    exact ⟨by rw [HA.out]; rfl, hS.tail⟩
  cases B10 : decide (fits n8)
  · have HA : Hid (ans = false) := Lib.hid (by rw [← ha]; simp only [Hd.right, Hd.smalls, Hd.nums, List.all_cons, List.all_nil, B0, B1, B2, B3, B4, B5, B6, B7, B8, B9, B10, Bool.true_and, Bool.false_and, Bool.and_false])
    clear ha; (go_enter Tryz.func137, Tryz.ntmps137); go_wp2_with (first | (go_at_call 141; refine (refSmall_b _ (by assumption) _).mono ?_; rintro e w' ⟨rfl, rfl⟩) | (go_at_call 142; refine (refFits_b _ (by assumption) _).mono ?_; rintro e w' ⟨rfl, rfl⟩) | (first | refine au1 (n := ?_) | (refine au2 (n := ?_); clear hS; intro w' hS) | (refine au3 (n := ?_); clear hS; intro gb w1 hS) | (refine au4 (n := ?_); clear hS; intro v1 w' hS) | ((with_reducible refine wl_guard ?_); refine stop_mem rfl rfl ?_)))
    go_ret
    exact ⟨by rw [HA.out]; rfl, hS.tail⟩
  have HA : Hid (ans = true) := Lib.hid (by rw [← ha]; simp only [Hd.right, Hd.smalls, Hd.nums, List.all_cons, List.all_nil, B0, B1, B2, B3, B4, B5, B6, B7, B8, B9, B10, Bool.true_and, Bool.and_true])
  clear ha; (go_enter Tryz.func137, Tryz.ntmps137); go_wp2_with (first | (go_at_call 141; refine (refSmall_b _ (by assumption) _).mono ?_; rintro e w' ⟨rfl, rfl⟩) | (go_at_call 142; refine (refFits_b _ (by assumption) _).mono ?_; rintro e w' ⟨rfl, rfl⟩) | (first | refine au1 (n := ?_) | (refine au2 (n := ?_); clear hS; intro w' hS) | (refine au3 (n := ?_); clear hS; intro gb w1 hS) | (refine au4 (n := ?_); clear hS; intro v1 w' hS) | ((with_reducible refine wl_guard ?_); refine stop_mem rfl rfl ?_)))
  go_ret
  exact ⟨by rw [HA.out]; rfl, hS.tail⟩
end
end Go.Proofs.YtjjiibcnknljfaaGreat
