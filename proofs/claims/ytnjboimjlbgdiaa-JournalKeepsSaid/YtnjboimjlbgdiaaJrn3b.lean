/-
  A journal: an operation's sectors.
-/
import Derived.Test.YtnjboimjlbgdiaaJrn2
set_option linter.unusedSimpArgs false
set_option linter.unusedVariables false
set_option linter.unusedSectionVars false
set_option maxRecDepth 100000
namespace Go.Proofs.Ytnjboimjlbgdiaa
open Go.RowKit Go.Cmp

section
variable {S : List Nat} {w0 w : World} {M : List Ent} {g gj : Nat} {D : Dsk} {J : Jrn}
set_option maxHeartbeats 8000000 in
theorem jrnSectors_any (hS : St S w0 w (disk g D :: .row gj (jcells g J) 68 (0, 0) :: M)) (hD : D.Ok) (n : Nat) (hn : n ≤ 1000000000000000000) (hr1 : (D.read (prepN n)).2 = 0) (hr2 : (D.read (hdrN n)).2 = 0) :
    Calls Try.prog 39 #[.pointer (some ⟨gj, 0, none⟩), .int .i64 n] w fun e w' => e = .returned (.tuple #[.string ⟨(D.read (prepN n)).1.toArray⟩, .string ⟨(D.read (hdrN n)).1.toArray⟩, .int .i64 0]) ∧ St S w0 w' (disk g D :: .row gj (jcells g J) 68 (0, 0) :: M) := by
  have HPR := Lib.hid (fun w => jrnPrep_any n hn w)
  have HHD := Lib.hid (fun w => jrnHdr_any n hn w)
  have HR1 := Lib.hid (fun (S : List Nat) (w0 W : World) (M : List Ent) (hS : St S w0 W (disk g D :: M)) => disk_read hS hD (prepN n))
  have HR2 := Lib.hid (fun (S : List Nat) (w0 W : World) (M : List Ent) (hS : St S w0 W (disk g D :: M)) => disk_read hS hD (hdrN n))
  generalize prepN n = k1 at HPR HR1 hr1 ⊢
  generalize hdrN n = k2 at HHD HR2 hr2 ⊢
  obtain ⟨Q1, q1⟩ : ∃ Q, D.read k1 = Q := ⟨_, rfl⟩
  obtain ⟨Q2, q2⟩ : ∃ Q, D.read k2 = Q := ⟨_, rfl⟩
  rw [q1] at HR1 hr1 ⊢
  rw [q2] at HR2 hr2 ⊢
  obtain ⟨p, e1⟩ := Q1
  obtain ⟨h, e2⟩ := Q2
  simp only at hr1 hr2 HR1 HR2
  subst hr1
  subst hr2
  clear q1 q2
  (go_enter Try.func39, Try.ntmps39)
  go_wp2_with (fail)
  replace hS : St S w0 w ([disk g D] ++ (.row gj (jcells g J) 68 (0, 0) :: M)) := hS
  obtain ⟨wq, hwq⟩ : ∃ wq, wq = w := ⟨_, rfl⟩
  rw [← hwq] at hS ⊢
  obtain ⟨F, hA, hR, hB⟩ := St.split (A := [disk g D]) hS
  clear hS
  have hS := hA.drew
  clear hA
  refine wp_region_held (S := fun W => Cmp.Mod F wq W) (by kernel_rfl) ?_
  change wpAnyH _ _ _ _ _ _ _ _ (wq).drew
  generalize (wq).drew = w2 at hS ⊢
  (refine whd_take 0 rfl rfl (by kernel_rfl) (by kernel_rfl) (by kernel_rfl) (fun _ _ _ h => h) rfl (fun W hW => by (go_simp; try with_reducible rfl)) hS.base ?_; simp only [Act.put, List.setIfInBounds_toArray, List.set_cons_zero, List.set_cons_succ])
  (refine whd_take 1 rfl rfl (by kernel_rfl) (by kernel_rfl) (by kernel_rfl) (fun _ _ _ h => h) rfl (fun W hW => by (go_simp; try with_reducible rfl)) hS.base ?_; simp only [Act.put, List.setIfInBounds_toArray, List.set_cons_zero, List.set_cons_succ])
  (refine whd_take 2 rfl rfl (by kernel_rfl) (by kernel_rfl) (by kernel_rfl) (fun _ _ _ h => h) rfl (fun W hW => by (go_simp; try with_reducible rfl)) hS.base ?_; simp only [Act.put, List.setIfInBounds_toArray, List.set_cons_zero, List.set_cons_succ])
  (refine whd_take 3 rfl rfl (by kernel_rfl) (by kernel_rfl) (by kernel_rfl) (fun _ _ _ h => h) rfl (fun W hW => (by exact a_load1 (hR W hW) rfl rfl rfl rfl (by (repeat (first | exact Ix.here | apply Ix.there))) (by rfl))) hS.base ?_; simp only [Act.put, List.setIfInBounds_toArray, List.set_cons_zero, List.set_cons_succ])
  (refine whd_take 4 rfl rfl (by kernel_rfl) (by kernel_rfl) (by kernel_rfl) (fun _ _ _ h => h) rfl (fun W hW => by (go_simp; try with_reducible rfl)) hS.base ?_; simp only [Act.put, List.setIfInBounds_toArray, List.set_cons_zero, List.set_cons_succ])
  (refine wpAnyH_all (rs := [5]) (by kernel_rfl) (by simp) ?_; intro i hi; have hi := List.mem_singleton.1 hi; subst hi)
  refine wod_of rfl rfl rfl (wp_call (by go_simp) (HPR.out w2) ?_)
  rintro e w4 ⟨rfl, rfl⟩
  refine ⟨_, rfl, hS.base, ?_⟩
  simp only [Act.put, List.setIfInBounds_toArray, List.set_cons_zero, List.set_cons_succ]
  (refine wpAnyH_all (rs := [6]) (by kernel_rfl) (by simp) ?_; intro i hi; have hi := List.mem_singleton.1 hi; subst hi)
  refine wod_of rfl rfl rfl (wp_call (by go_simp) (HR1.out F wq _ [] hS) ?_)
  clear hS
  rintro e w4 ⟨rfl, hS⟩
  refine ⟨_, rfl, hS.base, ?_⟩
  simp only [Act.put, List.setIfInBounds_toArray, List.set_cons_zero, List.set_cons_succ]
  (refine whd_take 7 rfl rfl (by kernel_rfl) (by kernel_rfl) (by kernel_rfl) (fun _ _ _ h => h) rfl (fun W hW => by (go_simp; try with_reducible rfl)) hS.base ?_; simp only [Act.put, List.setIfInBounds_toArray, List.set_cons_zero, List.set_cons_succ])
  (refine whd_take 8 rfl rfl (by kernel_rfl) (by kernel_rfl) (by kernel_rfl) (fun _ _ _ h => h) rfl (fun W hW => by (go_simp; try with_reducible rfl)) hS.base ?_; simp only [Act.put, List.setIfInBounds_toArray, List.set_cons_zero, List.set_cons_succ])
  (refine whd_take 9 rfl rfl (by kernel_rfl) (by kernel_rfl) (by kernel_rfl) (fun _ _ _ h => h) rfl (fun W hW => by (go_simp; try with_reducible rfl)) hS.base ?_; simp only [Act.put, List.setIfInBounds_toArray, List.set_cons_zero, List.set_cons_succ])
  (refine whd_take 10 rfl rfl (by kernel_rfl) (by kernel_rfl) (by kernel_rfl) (fun _ _ _ h => h) rfl (fun W hW => by (go_simp; try with_reducible rfl)) hS.base ?_; simp only [Act.put, List.setIfInBounds_toArray, List.set_cons_zero, List.set_cons_succ])
  (refine whd_take 11 rfl rfl (by kernel_rfl) (by kernel_rfl) (by kernel_rfl) (fun _ _ _ h => h) rfl (fun W hW => by (go_simp; try with_reducible rfl)) hS.base ?_; simp only [Act.put, List.setIfInBounds_toArray, List.set_cons_zero, List.set_cons_succ])
  (refine wpAnyH_done (by kernel_rfl) ?_ _)
  replace hS := hB _ _ hS
  simp only [List.cons_append, List.nil_append] at hS
  go_wp2_with (fail)
  replace hS : St S w0 w4 ([disk g D] ++ (.row gj (jcells g J) 68 (0, 0) :: M)) := hS
  obtain ⟨wq2, hwq2⟩ : ∃ wq, wq = w4 := ⟨_, rfl⟩
  rw [← hwq2] at hS ⊢
  clear hR hB
  obtain ⟨F, hA, hR, hB⟩ := St.split (A := [disk g D]) hS
  clear hS
  have hS := hA.drew
  clear hA
  refine wp_region_held (S := fun W => Cmp.Mod F wq2 W) (by kernel_rfl) ?_
  change wpAnyH _ _ _ _ _ _ _ _ (wq2).drew
  generalize (wq2).drew = w2 at hS ⊢
  (refine whd_take 0 rfl rfl (by kernel_rfl) (by kernel_rfl) (by kernel_rfl) (fun _ _ _ h => h) rfl (fun W hW => by (go_simp; try with_reducible rfl)) hS.base ?_; simp only [Act.put, List.setIfInBounds_toArray, List.set_cons_zero, List.set_cons_succ])
  (refine whd_take 1 rfl rfl (by kernel_rfl) (by kernel_rfl) (by kernel_rfl) (fun _ _ _ h => h) rfl (fun W hW => by (go_simp; try with_reducible rfl)) hS.base ?_; simp only [Act.put, List.setIfInBounds_toArray, List.set_cons_zero, List.set_cons_succ])
  (refine whd_take 2 rfl rfl (by kernel_rfl) (by kernel_rfl) (by kernel_rfl) (fun _ _ _ h => h) rfl (fun W hW => by (go_simp; try with_reducible rfl)) hS.base ?_; simp only [Act.put, List.setIfInBounds_toArray, List.set_cons_zero, List.set_cons_succ])
  (refine whd_take 3 rfl rfl (by kernel_rfl) (by kernel_rfl) (by kernel_rfl) (fun _ _ _ h => h) rfl (fun W hW => (by exact a_load1 (hR W hW) rfl rfl rfl rfl (by (repeat (first | exact Ix.here | apply Ix.there))) (by rfl))) hS.base ?_; simp only [Act.put, List.setIfInBounds_toArray, List.set_cons_zero, List.set_cons_succ])
  (refine whd_take 4 rfl rfl (by kernel_rfl) (by kernel_rfl) (by kernel_rfl) (fun _ _ _ h => h) rfl (fun W hW => by (go_simp; try with_reducible rfl)) hS.base ?_; simp only [Act.put, List.setIfInBounds_toArray, List.set_cons_zero, List.set_cons_succ])
  (refine wpAnyH_all (rs := [5]) (by kernel_rfl) (by simp) ?_; intro i hi; have hi := List.mem_singleton.1 hi; subst hi)
  refine wod_of rfl rfl rfl (wp_call (by go_simp) (HHD.out w2) ?_)
  rintro e w5 ⟨rfl, rfl⟩
  refine ⟨_, rfl, hS.base, ?_⟩
  simp only [Act.put, List.setIfInBounds_toArray, List.set_cons_zero, List.set_cons_succ]
  (refine wpAnyH_all (rs := [6]) (by kernel_rfl) (by simp) ?_; intro i hi; have hi := List.mem_singleton.1 hi; subst hi)
  refine wod_of rfl rfl rfl (wp_call (by go_simp) (HR2.out F wq2 _ [] hS) ?_)
  clear hS
  rintro e w4 ⟨rfl, hS⟩
  refine ⟨_, rfl, hS.base, ?_⟩
  simp only [Act.put, List.setIfInBounds_toArray, List.set_cons_zero, List.set_cons_succ]
  (refine whd_take 7 rfl rfl (by kernel_rfl) (by kernel_rfl) (by kernel_rfl) (fun _ _ _ h => h) rfl (fun W hW => by (go_simp; try with_reducible rfl)) hS.base ?_; simp only [Act.put, List.setIfInBounds_toArray, List.set_cons_zero, List.set_cons_succ])
  (refine whd_take 8 rfl rfl (by kernel_rfl) (by kernel_rfl) (by kernel_rfl) (fun _ _ _ h => h) rfl (fun W hW => by (go_simp; try with_reducible rfl)) hS.base ?_; simp only [Act.put, List.setIfInBounds_toArray, List.set_cons_zero, List.set_cons_succ])
  (refine whd_take 9 rfl rfl (by kernel_rfl) (by kernel_rfl) (by kernel_rfl) (fun _ _ _ h => h) rfl (fun W hW => by (go_simp; try with_reducible rfl)) hS.base ?_; simp only [Act.put, List.setIfInBounds_toArray, List.set_cons_zero, List.set_cons_succ])
  (refine whd_take 10 rfl rfl (by kernel_rfl) (by kernel_rfl) (by kernel_rfl) (fun _ _ _ h => h) rfl (fun W hW => by (go_simp; try with_reducible rfl)) hS.base ?_; simp only [Act.put, List.setIfInBounds_toArray, List.set_cons_zero, List.set_cons_succ])
  (refine whd_take 11 rfl rfl (by kernel_rfl) (by kernel_rfl) (by kernel_rfl) (fun _ _ _ h => h) rfl (fun W hW => by (go_simp; try with_reducible rfl)) hS.base ?_; simp only [Act.put, List.setIfInBounds_toArray, List.set_cons_zero, List.set_cons_succ])
  (refine wpAnyH_done (by kernel_rfl) ?_ _)
  replace hS := hB _ _ hS
  simp only [List.cons_append, List.nil_append] at hS
  go_wp2_with (fail)
  go_ret3
  exact ⟨rfl, hS⟩
end
end Go.Proofs.Ytnjboimjlbgdiaa
