/-
  Slots: the document lays stubs.
-/
import Derived.Test.YtkcgacadkpbpoaaSlotR1
import Derived.Test.YtkcgacadkpbpoaaCodecU
set_option linter.unusedSimpArgs false
set_option linter.unusedVariables false
set_option linter.unusedSectionVars false
set_option maxRecDepth 100000
namespace Go.Cmp
open Go.RowKit
theorem stb_right_eq (s : Stb) : s.right = (decide (fitsL 1 s.op) && decide (fitsL 0 s.view) && decide (fitsL 0 s.under) && !decide (s.view < s.under)) := by
  obtain ⟨a, b, c, d, e⟩ := s
  rw [Bool.eq_iff_iff]
  simp only [Stb.right, Bool.and_eq_true, decide_eq_true_eq, Bool.not_eq_true', decide_eq_false_iff_not]
  unfold fitsL
  omega
/-- A stub's bytes, and whether it may be. -/
def bytesB (s : Stb) : List UInt8 × Bool := if s.right = false then ([], false) else (stubB s, true)
end Go.Cmp
namespace Go.Proofs.Ytkcgacadkpbpoaa
open Go.RowKit Go.Cmp
set_option maxRecDepth 100000

section
variable {S : List Nat} {w0 w : World} {M : List Ent}
theorem refFits12_b (n l : Int) {b : Bool} (hb : decide (fitsL l n) = b) (w : World) :
    Calls Try.prog 64 #[.int .i64 n, .int .i64 l] w fun e w' => e = .returned (.bool b) ∧ w' = w := by
  subst hb
  by_cases h1 : l ≤ n
  · have e1 : decide (l ≤ n) = true := by simpa using h1
    by_cases h2 : n ≤ 72057594037927935
    · have e2 : decide (n ≤ 72057594037927935) = true := by simpa using h2
      have HA : Hid (decide (fitsL l n) = true) := Lib.hid (decide_eq_true ⟨h1, h2⟩)
      (go_enter Try.func64, Try.ntmps64)
      go_wp2
      go_ret
      exact ⟨by rw [HA.out]; rfl, rfl⟩
    · have e2 : decide (n ≤ 72057594037927935) = false := by simpa using h2
      have HA : Hid (decide (fitsL l n) = false) := Lib.hid (decide_eq_false (fun h => h2 h.2))
      (go_enter Try.func64, Try.ntmps64)
      go_wp2
      go_ret
      exact ⟨by rw [HA.out]; rfl, rfl⟩
  · have e1 : decide (l ≤ n) = false := by simpa using h1
    have HA : Hid (decide (fitsL l n) = false) := Lib.hid (decide_eq_false (fun h => h1 h.1))
    (go_enter Try.func64, Try.ntmps64)
    go_wp2
    go_ret
    exact ⟨by rw [HA.out]; rfl, rfl⟩
theorem r6_at (s : List UInt8) (i : Nat) (hl : s.length ≤ 1000000) (hi : i + 8 ≤ s.length) (w : World) :
    Calls Try.prog 42 #[.string ⟨s.toArray⟩, .int .i64 (i : Int)] w fun e w' => e = .returned (.int .u64 (num8 s i : Nat)) ∧ St [] w w' [] := by
  have hS := St.init w
  have HT := Lib.hid (fun (v : Value) (W : World) (hR : Rd W 1 v s.length (s.flatMap byt)) => ref_take (w := W) i 8 (by omega) (by omega) (by omega) (by omega) hR)
  rw [takeN_8 hi] at HT
  (go_enter Try.func42, Try.ntmps42)
  go_wp2_with (first | ((with_reducible refine g_conv ?_); refine wl_of rfl ?_; refine a_toBytes hS rfl rfl rfl rfl rfl (show s.length ≤ maxLen by unfold maxLen; omega) ?_; clear hS; intro v1 w1 hS) | (go_at_call 63; refine (HT.out _ _ (hS.rdx (by (repeat (first | exact Ix.here | apply Ix.there))))).mono ?_; rintro e w' ⟨rfl, rfl⟩) | (first | refine au1 (n := ?_) | (refine au2 (n := ?_); clear hS; intro w' hS) | (refine au3 (n := ?_); clear hS; intro gb w1 hS) | (refine au4 (n := ?_); clear hS; intro v1 w' hS) | ((with_reducible refine wl_guard ?_); refine stop_mem rfl rfl ?_)))
  go_ret
  exact ⟨rfl, hS.nil⟩
set_option maxHeartbeats 8000000 in
theorem refBytes_any (s : Stb) (hp : s.parent < 18446744073709551616) (hs : s.sum < 18446744073709551616) (w : World) :
    Calls Try.prog 43 #[.agg s.cells.toArray] w fun x w' => x = .returned (.tuple #[.string ⟨(bytesB s).1.toArray⟩, .bool (bytesB s).2]) ∧ St [] w w' [] := by
  have hS := St.init w
  have hre := stb_right_eq s
  have hBB : stubB s = leB 8 s.op.toNat ++ leB 8 s.view.toNat ++ leB 8 s.under.toNat ++ leB 8 s.parent ++ leB 8 s.sum := rfl
  have hX : bytesB s = if s.right = false then ([], false) else (stubB s, true) := rfl
  generalize bytesB s = R at hX ⊢
  rw [hre] at hX
  clear hre
  generalize stubB s = B at hBB hX
  obtain ⟨so, sv, su, sp, ss⟩ := s
  simp only at hBB hX hp hs
  simp only [Stb.cells]
  cases B0 : decide (fitsL 1 so)
  ·
    have HX : Hid (R = ([], false)) := Lib.hid (by rw [hX]; simp [B0])
    clear hX hBB
    (go_enter Try.func43, Try.ntmps43)
    go_wp2_with (first | (go_at_call 64; refine (refFits12_b _ _ (by assumption) _).mono ?_; rintro e w' ⟨rfl, rfl⟩) | (first | refine au1 (n := ?_) | (refine au2 (n := ?_); clear hS; intro w' hS) | (refine au3 (n := ?_); clear hS; intro gb w1 hS) | (refine au4 (n := ?_); clear hS; intro v1 w' hS) | ((with_reducible refine wl_guard ?_); refine stop_mem rfl rfl ?_)))
    go_ret2
    exact ⟨by rw [HX.out]; rfl, hS.nil⟩
  cases B1 : decide (fitsL 0 sv)
  ·
    have HX : Hid (R = ([], false)) := Lib.hid (by rw [hX]; simp [B0, B1])
    clear hX hBB
    (go_enter Try.func43, Try.ntmps43)
    go_wp2_with (first | (go_at_call 64; refine (refFits12_b _ _ (by assumption) _).mono ?_; rintro e w' ⟨rfl, rfl⟩) | (first | refine au1 (n := ?_) | (refine au2 (n := ?_); clear hS; intro w' hS) | (refine au3 (n := ?_); clear hS; intro gb w1 hS) | (refine au4 (n := ?_); clear hS; intro v1 w' hS) | ((with_reducible refine wl_guard ?_); refine stop_mem rfl rfl ?_)))
    go_ret2
    exact ⟨by rw [HX.out]; rfl, hS.nil⟩
  cases B2 : decide (fitsL 0 su)
  ·
    have HX : Hid (R = ([], false)) := Lib.hid (by rw [hX]; simp [B0, B1, B2])
    clear hX hBB
    (go_enter Try.func43, Try.ntmps43)
    go_wp2_with (first | (go_at_call 64; refine (refFits12_b _ _ (by assumption) _).mono ?_; rintro e w' ⟨rfl, rfl⟩) | (first | refine au1 (n := ?_) | (refine au2 (n := ?_); clear hS; intro w' hS) | (refine au3 (n := ?_); clear hS; intro gb w1 hS) | (refine au4 (n := ?_); clear hS; intro v1 w' hS) | ((with_reducible refine wl_guard ?_); refine stop_mem rfl rfl ?_)))
    go_ret2
    exact ⟨by rw [HX.out]; rfl, hS.nil⟩
  cases B3 : decide (sv < su)
  case true =>
    have HX : Hid (R = ([], false)) := Lib.hid (by rw [hX]; simp [B0, B1, B2, B3])
    clear hX hBB
    (go_enter Try.func43, Try.ntmps43)
    go_wp2_with (first | (go_at_call 64; refine (refFits12_b _ _ (by assumption) _).mono ?_; rintro e w' ⟨rfl, rfl⟩) | (first | refine au1 (n := ?_) | (refine au2 (n := ?_); clear hS; intro w' hS) | (refine au3 (n := ?_); clear hS; intro gb w1 hS) | (refine au4 (n := ?_); clear hS; intro v1 w' hS) | ((with_reducible refine wl_guard ?_); refine stop_mem rfl rfl ?_)))
    go_ret2
    exact ⟨by rw [HX.out]; rfl, hS.nil⟩
  have HX : Hid (R = (B, true)) := Lib.hid (by rw [hX]; simp [B0, B1, B2, B3])
  have f1 := of_decide_eq_true B0
  have f2 := of_decide_eq_true B1
  have f3 := of_decide_eq_true B2
  obtain ⟨f11, f12⟩ := f1
  obtain ⟨f21, f22⟩ := f2
  obtain ⟨f31, f32⟩ := f3
  have hw1 : IntKind.u64.wrap so = so := by rw [IntKind.wrap_u64]; omega
  have hw2 : IntKind.u64.wrap sv = sv := by rw [IntKind.wrap_u64]; omega
  have hw3 : IntKind.u64.wrap su = su := by rw [IntKind.wrap_u64]; omega
  have HE1 := Lib.hid (fun w => ref_eight so (by omega) (by omega) w)
  have HE2 := Lib.hid (fun w => ref_eight sv (by omega) (by omega) w)
  have HE3 := Lib.hid (fun w => ref_eight su (by omega) (by omega) w)
  have HE4 := Lib.hid (fun w => ref_eight (sp : Int) (by omega) (by omega) w)
  have HE5 := Lib.hid (fun w => ref_eight (ss : Int) (by omega) (by omega) w)
  obtain ⟨e1, he1⟩ : ∃ e, leB 8 so.toNat = e := ⟨_, rfl⟩
  have hl1 : e1.length = 8 := by rw [← he1]; exact leB_length _ _
  rw [he1] at HE1
  obtain ⟨e2, he2⟩ : ∃ e, leB 8 sv.toNat = e := ⟨_, rfl⟩
  have hl2 : e2.length = 8 := by rw [← he2]; exact leB_length _ _
  rw [he2] at HE2
  obtain ⟨e3, he3⟩ : ∃ e, leB 8 su.toNat = e := ⟨_, rfl⟩
  have hl3 : e3.length = 8 := by rw [← he3]; exact leB_length _ _
  rw [he3] at HE3
  obtain ⟨e4, he4⟩ : ∃ e, leB 8 (sp : Int).toNat = e := ⟨_, rfl⟩
  have hl4 : e4.length = 8 := by rw [← he4]; exact leB_length _ _
  rw [he4] at HE4
  obtain ⟨e5, he5⟩ : ∃ e, leB 8 (ss : Int).toNat = e := ⟨_, rfl⟩
  have hl5 : e5.length = 8 := by rw [← he5]; exact leB_length _ _
  rw [he5] at HE5
  have HBB : Hid (B = e1 ++ e2 ++ e3 ++ e4 ++ e5) := Lib.hid (by rw [hBB, he1, he2, he3, ← he4, ← he5, Int.toNat_natCast, Int.toNat_natCast])
  have hm1 : e1.length ≤ 8 := by omega
  have hm2 : (e1 ++ e2).length ≤ 16 := by rw [List.length_append]; omega
  have hm3 : (e1 ++ e2 ++ e3).length ≤ 24 := by simp only [List.length_append]; omega
  have hm4 : (e1 ++ e2 ++ e3 ++ e4).length ≤ 32 := by simp only [List.length_append]; omega
  have hx1 : e2.length ≤ 8 := by omega
  have hx2 : e3.length ≤ 8 := by omega
  have hx3 : e4.length ≤ 8 := by omega
  have hx4 : e5.length ≤ 8 := by omega
  clear he1 he2 he3 he4 he5 hl1 hl2 hl3 hl4 hl5
  clear hX hBB
  (go_enter Try.func43, Try.ntmps43)
  go_wp2_with (first | (go_at_call 64; refine (refFits12_b _ _ (by assumption) _).mono ?_; rintro e w' ⟨rfl, rfl⟩) | (first | refine au1 (n := ?_) | (refine au2 (n := ?_); clear hS; intro w' hS) | (refine au3 (n := ?_); clear hS; intro gb w1 hS) | (refine au4 (n := ?_); clear hS; intro v1 w' hS) | ((with_reducible refine wl_guard ?_); refine stop_mem rfl rfl ?_)))
  refine region_calm (by kernel_rfl) (by kernel_rfl) hS ?_
  (refine Calm.pure2 rfl (h := ?_); simp only [Act.put, List.setIfInBounds_toArray, List.set_cons_zero, List.set_cons_succ])
  (refine Calm.read rfl (h := ?_); simp only [Act.put, List.setIfInBounds_toArray, List.set_cons_zero, List.set_cons_succ])
  refine Calm.run (v := .int .u64 so) rfl (fun W hW => by (go_simp; try simp [hw1])) ?_
  simp only [Act.put, List.setIfInBounds_toArray, List.set_cons_zero, List.set_cons_succ]
  (refine Calm.call (calm_makes HE1.out) rfl (h := ?_); simp only [Act.put, List.setIfInBounds_toArray, List.set_cons_zero, List.set_cons_succ])
  (refine Calm.pure2 rfl (h := ?_); simp only [Act.put, List.setIfInBounds_toArray, List.set_cons_zero, List.set_cons_succ])
  (refine Calm.read rfl (h := ?_); simp only [Act.put, List.setIfInBounds_toArray, List.set_cons_zero, List.set_cons_succ])
  refine Calm.run (v := .int .u64 sv) rfl (fun W hW => by (go_simp; try simp [hw2])) ?_
  simp only [Act.put, List.setIfInBounds_toArray, List.set_cons_zero, List.set_cons_succ]
  (refine Calm.call (calm_makes HE2.out) rfl (h := ?_); simp only [Act.put, List.setIfInBounds_toArray, List.set_cons_zero, List.set_cons_succ])
  refine Calm.run (v := .string ⟨(e1 ++ e2).toArray⟩) rfl (fun W hW => by exact a_concat rfl rfl rfl (by omega)) ?_
  simp only [Act.put, List.setIfInBounds_toArray, List.set_cons_zero, List.set_cons_succ]
  (refine Calm.pure2 rfl (h := ?_); simp only [Act.put, List.setIfInBounds_toArray, List.set_cons_zero, List.set_cons_succ])
  (refine Calm.read rfl (h := ?_); simp only [Act.put, List.setIfInBounds_toArray, List.set_cons_zero, List.set_cons_succ])
  refine Calm.run (v := .int .u64 su) rfl (fun W hW => by (go_simp; try simp [hw3])) ?_
  simp only [Act.put, List.setIfInBounds_toArray, List.set_cons_zero, List.set_cons_succ]
  (refine Calm.call (calm_makes HE3.out) rfl (h := ?_); simp only [Act.put, List.setIfInBounds_toArray, List.set_cons_zero, List.set_cons_succ])
  refine Calm.run (v := .string ⟨(e1 ++ e2 ++ e3).toArray⟩) rfl (fun W hW => by exact a_concat rfl rfl rfl (by omega)) ?_
  simp only [Act.put, List.setIfInBounds_toArray, List.set_cons_zero, List.set_cons_succ]
  (refine Calm.pure2 rfl (h := ?_); simp only [Act.put, List.setIfInBounds_toArray, List.set_cons_zero, List.set_cons_succ])
  (refine Calm.read rfl (h := ?_); simp only [Act.put, List.setIfInBounds_toArray, List.set_cons_zero, List.set_cons_succ])
  (refine Calm.call (calm_makes HE4.out) rfl (h := ?_); simp only [Act.put, List.setIfInBounds_toArray, List.set_cons_zero, List.set_cons_succ])
  refine Calm.run (v := .string ⟨(e1 ++ e2 ++ e3 ++ e4).toArray⟩) rfl (fun W hW => by exact a_concat rfl rfl rfl (by omega)) ?_
  simp only [Act.put, List.setIfInBounds_toArray, List.set_cons_zero, List.set_cons_succ]
  (refine Calm.pure2 rfl (h := ?_); simp only [Act.put, List.setIfInBounds_toArray, List.set_cons_zero, List.set_cons_succ])
  (refine Calm.read rfl (h := ?_); simp only [Act.put, List.setIfInBounds_toArray, List.set_cons_zero, List.set_cons_succ])
  (refine Calm.call (calm_makes HE5.out) rfl (h := ?_); simp only [Act.put, List.setIfInBounds_toArray, List.set_cons_zero, List.set_cons_succ])
  refine Calm.run (v := .string ⟨(e1 ++ e2 ++ e3 ++ e4 ++ e5).toArray⟩) rfl (fun W hW => by exact a_concat rfl rfl rfl (by omega)) ?_
  simp only [Act.put, List.setIfInBounds_toArray, List.set_cons_zero, List.set_cons_succ]
  (repeat (first | ((with_reducible refine c_call ?_); first | fail) | refine calm1 (n := ?_)))
  (refine Calm.nil ?_; clear hS; intro w8 hS)
  go_wp2_with (fail)
  go_ret2
  exact ⟨by rw [HX.out, HBB.out]; simp only [List.append_assoc]; rfl, hS.nil⟩
set_option maxHeartbeats 4000000 in
theorem refHeader12_any (old : List UInt8) (s : Stb) (ho : old.length ≤ 1000000) (hp : s.parent < 18446744073709551616) (hs : s.sum < 18446744073709551616) (w : World) :
    Calls Try.prog 21 #[.string ⟨old.toArray⟩, .agg s.cells.toArray] w fun x w' => x = .returned (.tuple #[.string ⟨(hdrS old s).1.toArray⟩, .int .i64 (hdrS old s).2]) ∧ St [] w w' [] := by
  have hS := St.init w
  have HR := Lib.hid (fun w => refBytes_any s hp hs w)
  have hl := stubB_len s
  have HS := Lib.hid (fun w => refSeal_any old (stubB s) ho (by omega) w)
  unfold bytesB at HR
  cases hr : s.right
  · have ex : hdrS old s = ([], 4) := by unfold hdrS; rw [if_pos hr]
    rw [ex]
    rw [if_pos hr] at HR
    clear hr ex hp hs HS
    obtain ⟨so, sv, su, sp, ss⟩ := s
    simp only [Stb.cells] at HR ⊢
    (go_enter Try.func21, Try.ntmps21)
    go_wp2_with (first | (go_at_call 43; refine (HR.out _).mono ?_; rintro e w' ⟨rfl, h⟩; replace hS := hS.call h; clear h) | (first | refine au1 (n := ?_) | (refine au2 (n := ?_); clear hS; intro w' hS) | (refine au3 (n := ?_); clear hS; intro gb w1 hS) | (refine au4 (n := ?_); clear hS; intro v1 w' hS) | ((with_reducible refine wl_guard ?_); refine stop_mem rfl rfl ?_)))
    go_ret2
    exact ⟨rfl, hS.nil⟩
  · have ex : hdrS old s = sealS old (stubB s) := by unfold hdrS; rw [if_neg (by simp [hr])]
    rw [ex]
    rw [if_neg (by simp [hr])] at HR
    clear hr ex hp hs
    obtain ⟨R, hR⟩ : ∃ R, sealS old (stubB s) = R := ⟨_, rfl⟩
    rw [hR] at HS ⊢
    clear hR
    generalize stubB s = B at *
    obtain ⟨so, sv, su, sp, ss⟩ := s
    simp only [Stb.cells] at HR ⊢
    (go_enter Try.func21, Try.ntmps21)
    go_wp2_with (first | (go_at_call 43; refine (HR.out _).mono ?_; rintro e w' ⟨rfl, h⟩; replace hS := hS.call h; clear h) | (go_at_call 47; refine (HS.out _).mono ?_; rintro e w' ⟨rfl, h⟩; replace hS := hS.call h; clear h) | (first | refine au1 (n := ?_) | (refine au2 (n := ?_); clear hS; intro w' hS) | (refine au3 (n := ?_); clear hS; intro gb w1 hS) | (refine au4 (n := ?_); clear hS; intro v1 w' hS) | ((with_reducible refine wl_guard ?_); refine stop_mem rfl rfl ?_)))
    go_ret2
    exact ⟨rfl, hS.nil⟩
end
end Go.Proofs.Ytkcgacadkpbpoaa
