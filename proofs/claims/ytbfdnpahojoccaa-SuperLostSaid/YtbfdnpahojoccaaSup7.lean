/-
  Superblocks: the chapter's example.
-/
import Derived.Test.YtbfdnpahojoccaaSup6
import Derived.Test.YtbfdnpahojoccaaSupEnd
import Derived.Test.YtbfdnpahojoccaaDisk7
set_option linter.unusedSimpArgs false
set_option linter.unusedVariables false
set_option linter.unusedSectionVars false
set_option maxRecDepth 100000
namespace Go.Cmp
open Go.RowKit
def plainU : Sup := ⟨1, 1, 3, 0, 0, 0, 0, 0, 0, 0, 0, 0, 0, 0, 0, 0, 0⟩
theorem plainU_U : plainU.U64 := ⟨by decide, by decide, by decide, by decide, by decide, by decide, by decide, by decide⟩
theorem plainU_right : plainU.right = true := by decide
end Go.Cmp
namespace Go.Proofs.Ytbfdnpahojoccaa
open Go.RowKit Go.Cmp

section
variable {S : List Nat} {w0 w : World} {M : List Ent} {g : Nat} {D : Dsk}
theorem new4 : newDsk 4 = Dsk.fresh := by rfl
theorem plain11_any (w : World) : Calls Try.prog 35 #[] w fun e w' => e = .returned (.agg plainU.cells.toArray) ∧ St [] w w' [] := by
  have hS := St.init w
  (go_enter Try.func35, Try.ntmps35)
  go_wp2_with (first | go_skip | ((with_reducible refine g_alloc ?_); refine wl_of rfl ?_; refine wp_alloc hS rfl rfl rfl rfl ?_; clear hS; intro gz w1 hS) | (refine au5 (n := ?_); clear hS; intro w' hS) | fail)
  exact end_c1 hS rfl rfl rfl rfl rfl (h := ⟨rfl, hS.nil⟩)
set_option maxHeartbeats 8000000 in
theorem awake11_any (w : World) : Calls Try.prog 8 #[] w fun e w' => e = .returned (.bool true) ∧ St [] w w' [] := by
  have hS := St.init w
  have HNW := Lib.hid (fun (w : World) (M : List Ent) (hS : St [] w w M) => disk_new 4 (by omega) (by omega) hS)
  have HR1 := Lib.hid (fun (w0 w : World) (M : List Ent) (g : Nat) (hS : St [] w0 w (disk g Dsk.fresh :: M)) => supRead_any hS (by rw [← new4]; exact newDsk_ok 4 (by omega)) (by show 4 ≤ 4; omega))
  rw [Dsk.fresh_read] at HR1
  have HW := Lib.hid (fun (w0 w : World) (M : List Ent) (g : Nat) (hS : St [] w0 w (disk g Dsk.fresh :: M)) => supWrite_any hS (by rw [← new4]; exact newDsk_ok 4 (by omega)) (by show 0 + 8 ≤ 1000000; omega) (by show (0 : Int) + 8 ≤ 1000000000; omega) plainU plainU_U)
  rw [Dsk.fresh_write plainU_right] at HW
  have HR2 := Lib.hid (fun (w0 w : World) (M : List Ent) (g : Nat) (hS : St [] w0 w (disk g (Dsk.full plainU) :: M)) => supRead_any hS (Dsk.full_ok plainU) (by show 4 ≤ 4; omega))
  rw [Dsk.full_read plainU_right plainU_U] at HR2
  have HPL := Lib.hid (fun w => plain11_any w)
  have hq : eqV Try.prog 4 28 (.agg plainU.cells.toArray) (.agg plainU.cells.toArray) = some true := by rw [eqSup, decide_eq_true rfl]
  rw [new4] at HNW
  change Hid (∀ (w0 w : World) (M : List Ent) (g : Nat), St [] w0 w (disk g Dsk.fresh :: M) → Calls Try.prog 12 #[.pointer (some ⟨g, 0, none⟩), .agg plainU.cells.toArray] w fun e w' => e = .returned (.int .i64 0) ∧ St [] w0 w' (disk g (Dsk.full plainU) :: M)) at HW
  generalize Dsk.fresh = F at HNW HR1 HW
  generalize Dsk.full plainU = G at HW HR2
  generalize plainU = Pl at *
  (go_enter Try.func8, Try.ntmps8)
  go_wp2_with (first | go_skip | (go_at_call 11; refine (HNW.out _ _ hS).mono ?_; clear hS; rintro e w' ⟨gd, rfl, hS⟩) | ((with_reducible refine g_load ?_); refine wl_run rfl (by first | exact a_load1 hS rfl rfl rfl rfl (by (repeat (first | exact Ix.here | apply Ix.there))) (by rfl) | exact a_loadR hS rfl rfl rfl rfl (by (repeat (first | exact Ix.here | apply Ix.there))) (by rfl) | fail) ?_) | ((with_reducible refine g_store ?_); refine wl_of rfl ?_; refine a_storeA (vs := Sup.cells zeroU) (cs' := Sup.cells zeroU) hS rfl rfl rfl (by rfl) (sup_one _) (by (repeat (first | exact Sw.here | apply Sw.there))) (by exact Nat.le_refl 17) (by rfl) ?_; clear hS; intro w' hS) | ((with_reducible refine g_store ?_); refine wl_of rfl ?_; refine a_storeA (vs := Sup.cells Pl) (cs' := Sup.cells Pl) hS rfl rfl rfl (by rfl) (sup_one _) (by (repeat (first | exact Sw.here | apply Sw.there))) (by exact Nat.le_refl 17) (by rfl) ?_; clear hS; intro w' hS) | (first | (have q9 := gx; clear q9; ((with_reducible refine g_alloc ?_); refine wl_of rfl ?_; refine wp_alloc hS rfl rfl rfl rfl ?_; clear hS; intro gy w1 hS)) | ((with_reducible refine g_alloc ?_); refine wl_of rfl ?_; refine wp_alloc hS rfl rfl rfl rfl ?_; clear hS; intro gx w1 hS)) | (go_at_call 15; (refine (HR1.out _ _ _ _ (hS.out (by first | ((repeat (first | exact Out.here | apply Out.there)); done) | fail))).mono ?_; clear hS; rintro e w' ⟨rfl, hS⟩)) | (go_at_call 15; (refine (HR2.out _ _ _ _ (hS.out (by first | ((repeat (first | exact Out.here | apply Out.there)); done) | fail))).mono ?_; clear hS; rintro e w' ⟨rfl, hS⟩)) | (go_at_call 12; (refine (HW.out _ _ _ _ (hS.out (by first | ((repeat (first | exact Out.here | apply Out.there)); done) | fail))).mono ?_; clear hS; rintro e w' ⟨rfl, hS⟩)) | (go_at_call 35; refine (HPL.out _).mono ?_; rintro e w' ⟨rfl, h⟩; replace hS := hS.call h; clear h) | fail)
  refine region_calm (by kernel_rfl) (by kernel_rfl) hS ?_
  (repeat (first | ((with_reducible refine c_eqlS (t := 28) ?_); (refine Calm.run rfl (fun W hW => by exact x_structEq rfl rfl rfl supGuard hq) ?_; simp only [Act.put, List.setIfInBounds_toArray, List.set_cons_zero, List.set_cons_succ])) | ((with_reducible refine c_call ?_); first | (refine Calm.call (calm_makes HPL.out) rfl (h := ?_); simp only [Act.put, List.setIfInBounds_toArray, List.set_cons_zero, List.set_cons_succ])) | refine calm1 (n := ?_)))
  (refine Calm.nil ?_; clear hS; intro w8 hS)
  go_wp2_with (fail)
  go_ret
  exact ⟨rfl, hS.nil⟩
end
end Go.Proofs.Ytbfdnpahojoccaa
