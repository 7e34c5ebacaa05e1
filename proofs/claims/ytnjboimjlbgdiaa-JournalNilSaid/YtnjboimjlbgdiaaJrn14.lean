/-
  A journal that is not there does nothing: JournalNil returns true.
-/
import Derived.Test.YtnjboimjlbgdiaaJrn13
set_option linter.unusedSimpArgs false
set_option linter.unusedVariables false
set_option linter.unusedSectionVars false
set_option maxRecDepth 100000
namespace Go.Proofs.Ytnjboimjlbgdiaa
open Go.RowKit Go.Cmp

section
set_option maxHeartbeats 4000000 in
theorem slotStubOfL (e : En) (hp : e.parent < 18446744073709551616) (w : World) : Calls Try.prog 20 #[.agg e.cells.toArray] w fun x w' => x = .returned (.agg (stubE e).cells.toArray) ∧ St [] w w' [] := by
  cases hr : e.right
  · have hS := St.init w
    have HR := Lib.hid (fun w => entRightL_any e w)
    have ex : stubE e = zeroB := by unfold stubE; rw [if_pos hr]
    rw [ex]
    rw [hr] at HR
    clear hr ex hp
    obtain ⟨vw, po, un, par, cl, se, rq, opr, body⟩ := e
    simp only [En.cells] at HR ⊢
    (go_enter Try.func20, Try.ntmps20)
    go_wp2_with (first | (go_at_call 18; refine (HR.out _).mono ?_; rintro e w' ⟨rfl, h⟩; replace hS := hS.call h; clear h) | (first | refine au1 (n := ?_) | (refine au2 (n := ?_); clear hS; intro w' hS) | (refine au3 (n := ?_); clear hS; intro gb w1 hS) | (refine au4 (n := ?_); clear hS; intro v1 w' hS) | ((with_reducible refine wl_guard ?_); refine stop_mem rfl rfl ?_)))
    exact end_cell hS rfl rfl 0 rfl rfl rfl rfl rfl ⟨rfl, hS.nil⟩
  · exact slotStubOf_any e hp (by have := right_body hr; omega) w
set_option maxHeartbeats 4000000 in
theorem nilPut (e : En) (hp : e.parent < 18446744073709551616) (w : World) : Calls Try.prog 9 #[.pointer none, .agg e.cells.toArray] w fun x w' => x = .returned (.int .i64 2) ∧ St [] w w' [] := by
  have hS := St.init w
  have HSO := Lib.hid (fun w => slotStubOfL e hp w)
  (go_enter Try.func9, Try.ntmps9)
  go_wp2_with (first | go_skip | ((with_reducible refine g_box ?_); refine wl_of rfl ?_; refine wp_box hS rfl rfl rfl ?_; clear hS; intro ge w1 hS) | ((with_reducible refine g_load ?_); refine wl_run rfl (by first | exact a_load1 hS rfl rfl rfl rfl (by (repeat (first | exact Ix.here | apply Ix.there))) (by rfl) | exact a_loadR hS rfl rfl rfl rfl (by (repeat (first | exact Ix.here | apply Ix.there))) (by rfl) | fail) ?_) | ((with_reducible refine g_alloc ?_); refine wl_of rfl ?_; refine wp_alloc hS rfl rfl rfl rfl ?_; clear hS; intro gs w1 hS) | ((with_reducible refine g_store ?_); refine wl_of rfl ?_; refine a_storeA (vs := (stubE e).cells) (cs' := (stubE e).cells) hS rfl rfl rfl (by rfl) (stb_one _) (by (repeat (first | exact Sw.here | apply Sw.there))) (by exact Nat.le_refl 5) (by rfl) ?_; clear hS; intro w' hS) | (go_at_call 20; refine (HSO.out _).mono ?_; rintro e w' ⟨rfl, h⟩; replace hS := hS.call h; clear h) | fail)
  go_ret
  exact ⟨rfl, hS.nil⟩
set_option maxHeartbeats 4000000 in
theorem nilVoid (n : Int) (w : World) : Calls Try.prog 10 #[.pointer none, .int .i64 n] w fun x w' => x = .returned (.int .i64 2) ∧ w' = w := by
  (go_enter Try.func10, Try.ntmps10)
  go_wp2_with (fail)
  go_ret
  exact ⟨rfl, rfl⟩
set_option maxHeartbeats 4000000 in
theorem nilShift (n : Int) (w : World) : Calls Try.prog 11 #[.pointer none, .int .i64 n] w fun x w' => x = .returned (.int .i64 2) ∧ w' = w := by
  (go_enter Try.func11, Try.ntmps11)
  go_wp2_with (fail)
  go_ret
  exact ⟨rfl, rfl⟩
set_option maxHeartbeats 4000000 in
theorem nilScrub (w : World) : Calls Try.prog 12 #[.pointer none] w fun x w' => x = .returned (.int .i64 2) ∧ w' = w := by
  (go_enter Try.func12, Try.ntmps12)
  go_wp2_with (fail)
  go_ret
  exact ⟨rfl, rfl⟩
set_option maxHeartbeats 4000000 in
theorem nilCheck (w : World) : Calls Try.prog 13 #[.pointer none] w fun x w' => x = .returned (.int .i64 0) ∧ w' = w := by
  (go_enter Try.func13, Try.ntmps13)
  go_wp2_with (fail)
  go_ret
  exact ⟨rfl, rfl⟩
set_option maxHeartbeats 4000000 in
theorem nilHead (w : World) : Calls Try.prog 14 #[.pointer none] w fun x w' => x = .returned (.int .i64 0) ∧ w' = w := by
  (go_enter Try.func14, Try.ntmps14)
  go_wp2_with (fail)
  go_ret
  exact ⟨rfl, rfl⟩
set_option maxHeartbeats 4000000 in
theorem nilIn (n : Int) (w : World) : Calls Try.prog 28 #[.pointer none, .int .i64 n] w fun x w' => x = .returned (.bool false) ∧ w' = w := by
  (go_enter Try.func28, Try.ntmps28)
  go_wp2_with (first | go_skip | fail)
  go_ret
  exact ⟨rfl, rfl⟩
set_option maxHeartbeats 4000000 in
theorem nilItem (n : Int) (w : World) : Calls Try.prog 15 #[.pointer none, .int .i64 n] w fun x w' => x = .returned (.agg zeroI.cells.toArray) ∧ St [] w w' [] := by
  have hS := St.init w
  have HI := Lib.hid (fun w => nilIn n w)
  (go_enter Try.func15, Try.ntmps15)
  go_wp2_with (first | go_skip | ((with_reducible refine g_alloc ?_); refine wl_of rfl ?_; refine wp_alloc hS rfl rfl rfl rfl ?_; clear hS; intro ga w1 hS) | (go_at_call 28; refine (HI.out _).mono ?_; rintro e w' ⟨rfl, rfl⟩) | ((with_reducible refine g_store ?_); refine wl_of rfl ?_; refine a_storeA (vs := zeroI.cells) (cs' := zeroI.cells) hS rfl rfl rfl (by rfl) (it_one _) (by (repeat (first | exact Sw.here | apply Sw.there))) (by exact Nat.le_refl 15) (by rfl) ?_; clear hS; intro w' hS) | fail)
  exact end_c1 hS rfl rfl rfl rfl rfl (h := ⟨rfl, hS.nil⟩)
set_option maxHeartbeats 4000000 in
theorem nilRead (n : Int) (w : World) : Calls Try.prog 8 #[.pointer none, .int .i64 n] w fun x w' => x = .returned (.tuple #[.agg zeroE.cells.toArray, .int .i64 2]) ∧ St [] w w' [] := by
  have hS := St.init w
  (go_enter Try.func8, Try.ntmps8)
  go_wp2_with (first | go_skip | ((with_reducible refine g_alloc ?_); refine wl_of rfl ?_; refine wp_alloc hS rfl rfl rfl rfl ?_; clear hS; intro ga w1 hS) | ((with_reducible refine g_store ?_); refine wl_of rfl ?_; refine a_storeA (vs := zeroE.cells) (cs' := zeroE.cells) hS rfl rfl rfl (by rfl) (en_one _) (by (repeat (first | exact Sw.here | apply Sw.there))) (by exact Nat.le_refl 9) (by rfl) ?_; clear hS; intro w' hS) | fail)
  exact end_cell2 hS rfl rfl rfl rfl rfl rfl (h := ⟨rfl, hS.nil⟩)
set_option maxHeartbeats 4000000 in
theorem eqIt0 : eqV Try.prog 4 37 (.agg zeroI.cells.toArray) (.agg zeroI.cells.toArray) = some true := by rfl
theorem itGuard : (Try.prog).eqGuardType (Try.prog).depth 37 = false := by kernel_rfl
set_option maxHeartbeats 16000000 in
theorem law_nil13 (e : En) (hp : e.parent < 18446744073709551616) (n : Int) (w : World) : Calls Try.prog 3 #[.agg e.cells.toArray, .int .i64 n] w fun x w' => x = .returned (.bool true) ∧ St [] w w' [] := by
  have hS := St.init w
  have H0 := Lib.hid (fun w => awake13_any w)
  have H1 := Lib.hid (fun w => nilRead n w)
  have H2 := Lib.hid (fun w => nilPut e hp w)
  have H3 := Lib.hid (fun w => nilVoid n w)
  have H4 := Lib.hid (fun w => nilShift n w)
  have H5 := Lib.hid (fun w => nilScrub w)
  have H6 := Lib.hid (fun w => nilCheck w)
  have H7 := Lib.hid (fun w => nilHead w)
  have H8 := Lib.hid (fun w => nilItem n w)
  have hq : eqV Try.prog 4 24 (.agg zeroE.cells.toArray) (.agg zeroE.cells.toArray) = some true := by rw [eqEn, decide_eq_true rfl]
  (go_enter Try.func3, Try.ntmps3)
  go_wp2_with (first | go_skip | ((with_reducible refine g_box ?_); refine wl_of rfl ?_; refine wp_box hS rfl rfl rfl ?_; clear hS; intro ge w1 hS) | ((with_reducible refine g_load ?_); refine wl_run rfl (by first | exact a_load1 hS rfl rfl rfl rfl (by (repeat (first | exact Ix.here | apply Ix.there))) (by rfl) | exact a_loadR hS rfl rfl rfl rfl (by (repeat (first | exact Ix.here | apply Ix.there))) (by rfl) | fail) ?_) | ((with_reducible refine g_alloc ?_); refine wl_of rfl ?_; refine wp_alloc hS rfl rfl rfl rfl ?_; clear hS; intro ga w1 hS) | ((with_reducible refine g_store ?_); refine wl_of rfl ?_; refine a_storeA (vs := zeroE.cells) (cs' := zeroE.cells) hS rfl rfl rfl (by rfl) (en_one _) (by (repeat (first | exact Sw.here | apply Sw.there))) (by exact Nat.le_refl 9) (by rfl) ?_; clear hS; intro w' hS) | (go_at_call 7; refine (H0.out _).mono ?_; rintro e w' ⟨rfl, h⟩; replace hS := hS.call h; clear h) | (go_at_call 8; refine (H1.out _).mono ?_; rintro e w' ⟨rfl, h⟩; replace hS := hS.call h; clear h) | (go_at_call 9; refine (H2.out _).mono ?_; rintro e w' ⟨rfl, h⟩; replace hS := hS.call h; clear h) | (go_at_call 10; refine (H3.out _).mono ?_; rintro e w' ⟨rfl, rfl⟩) | (go_at_call 11; refine (H4.out _).mono ?_; rintro e w' ⟨rfl, rfl⟩) | (go_at_call 12; refine (H5.out _).mono ?_; rintro e w' ⟨rfl, rfl⟩) | (go_at_call 13; refine (H6.out _).mono ?_; rintro e w' ⟨rfl, rfl⟩) | (go_at_call 14; refine (H7.out _).mono ?_; rintro e w' ⟨rfl, rfl⟩) | (go_at_call 15; refine (H8.out _).mono ?_; rintro e w' ⟨rfl, h⟩; replace hS := hS.call h; clear h) | ((with_reducible refine g_eql (t := 24) ?_); refine wl_run rfl (x_structEq rfl rfl rfl enGuard hq) ?_) | ((with_reducible refine g_eql (t := 37) ?_); refine wl_run rfl (x_structEq rfl rfl rfl itGuard eqIt0) ?_) | fail)
  go_ret
  exact ⟨rfl, hS.nil⟩
end
end Go.Proofs.Ytnjboimjlbgdiaa
