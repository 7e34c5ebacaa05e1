/-
  Wherever the power goes as a text is written, its blocks are there, or missing: GridTears returns true.
-/
import Derived.Test.YtghnfocajnlfhaaTears14S
import Derived.Test.YtghnfocajnlfhaaGen
set_option linter.unusedSimpArgs false
set_option linter.unusedVariables false
set_option linter.unusedSectionVars false
set_option maxRecDepth 100000
namespace Go.Proofs.Ytghnfocajnlfhaa
open Go.RowKit Go.Cmp

section
set_option maxHeartbeats 4000000 in
theorem eqSix (n0 n1 n2 n3 n4 n5 : Int) : eqV Try.prog 4 29 (.agg #[.int .u64 n0, .int .u64 n1, .int .u64 n2, .int .u64 n3, .int .u64 n4, .int .u64 n5]) (.agg #[.int .u64 n0, .int .u64 n1, .int .u64 n2, .int .u64 n3, .int .u64 n4, .int .u64 n5]) = some true := by
  have e : eqV Try.prog 4 29 (.agg #[.int .u64 n0, .int .u64 n1, .int .u64 n2, .int .u64 n3, .int .u64 n4, .int .u64 n5]) (.agg #[.int .u64 n0, .int .u64 n1, .int .u64 n2, .int .u64 n3, .int .u64 n4, .int .u64 n5]) = some ((n0 == n0) && ((n1 == n1) && ((n2 == n2) && ((n3 == n3) && ((n4 == n4) && ((n5 == n5) && true)))))) := by rfl
  rw [e]
  simp
theorem sixGuard : (Try.prog).eqGuardType (Try.prog).depth 29 = false := by kernel_rfl
set_option maxHeartbeats 4000000 in
theorem summed14 (s : List UInt8) (hl : s.length ≤ 1920) (w : World) : Calls Try.prog 20 #[.string ⟨s.toArray⟩] w fun e w' => e = .returned (.agg (sumsV s).toArray) ∧ St [] w w' [] := by
  have hS := St.init w
  have H := Lib.hid (fun w => sums14_any s (by omega) w)
  rw [gSums_ok hl] at H
  have ho1 := sums_one s
  have hvl := sumsV_len s
  generalize sumsV s = C at H ho1 hvl
  obtain ⟨a0, a1, a2, a3, a4, a5, rfl⟩ := six_any hvl
  have HO1 := Lib.hid ho1
  clear ho1 hvl hl
  (go_enter Try.func20, Try.ntmps20)
  go_wp2_with (first | go_skip | (first | (have q9 := gz; clear q9; ((with_reducible refine g_alloc ?_); refine wl_of rfl ?_; refine wp_alloc hS rfl rfl rfl rfl ?_; clear hS; intro ga w1 hS)) | ((with_reducible refine g_alloc ?_); refine wl_of rfl ?_; refine wp_alloc hS rfl rfl rfl rfl ?_; clear hS; intro gz w1 hS)) | ((with_reducible refine g_load ?_); refine wl_run rfl (by first | exact a_load1 hS rfl rfl rfl rfl (by (repeat (first | exact Ix.here | apply Ix.there))) (by rfl) | exact a_loadR hS rfl rfl rfl rfl (by (repeat (first | exact Ix.here | apply Ix.there))) (by rfl) | fail) ?_) | (go_at_call 35; refine (H.out _).mono ?_; rintro e w' ⟨rfl, h⟩; replace hS := hS.call h; clear h) | ((with_reducible refine g_store ?_); refine wl_of rfl ?_; refine a_storeA (vs := [a0, a1, a2, a3, a4, a5]) (cs' := [a0, a1, a2, a3, a4, a5]) hS rfl rfl rfl (by rfl) HO1.out (by (repeat (first | exact Sw.here | apply Sw.there))) (by exact Nat.le_refl 6) (by rfl) ?_; clear hS; intro w' hS) | fail)
  exact end_c1 hS rfl rfl rfl rfl rfl (h := ⟨rfl, hS.nil⟩)
end
end Go.Proofs.Ytghnfocajnlfhaa
