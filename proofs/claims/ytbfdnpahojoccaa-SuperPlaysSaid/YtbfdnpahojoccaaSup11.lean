/-
  Superblocks: the document's Next; SuperReads and SuperPacks return true.
-/
import Derived.Test.YtbfdnpahojoccaaSup10
import Derived.Test.YtbfdnpahojoccaaSupB
set_option linter.unusedSimpArgs false
set_option linter.unusedVariables false
set_option linter.unusedSectionVars false
set_option maxRecDepth 100000
namespace Go.Proofs.Ytbfdnpahojoccaa
open Go.RowKit Go.Cmp

section
variable {S : List Nat} {w0 w : World} {M : List Ent}
set_option maxHeartbeats 4000000 in
theorem refNext11_any (s : Sup) (hu : s.U64) (w : World) :
    Calls Try.prog 20 #[.agg s.cells.toArray] w fun e w' => e = .returned (.agg (nextU s).cells.toArray) ∧ St [] w w' [] := by
  have hS := St.init w
  have HP := Lib.hid (fun w => refPack11_any s hu w)
  have hbl := supB_len s
  have HC : Hid (∀ w, Calls Try.prog 48 #[.int .u64 0, .string ⟨(supB s).toArray⟩] w fun e w' => e = .returned (.int .u64 (chainOf 0 (supB s) : Nat)) ∧ w' = w) := Lib.hid (fun w => refChain_any 0 (by decide) (supB s) (by omega) w)
  cases hr : s.right
  · have e : nextU s = s := by unfold nextU; rw [if_pos (.inl hr)]
    have ep : packU s = ([], 4) := by unfold packU; rw [if_pos hr]
    rw [e]
    rw [ep] at HP
    clear hr e ep hu hbl HC
    (go_enter Try.func20, Try.ntmps20)
    go_wp2_with (first | go_skip | ((with_reducible refine g_box ?_); refine wl_of rfl ?_; refine wp_box hS rfl rfl rfl ?_; clear hS; intro gs w1 hS) | ((with_reducible refine g_alloc ?_); refine wl_of rfl ?_; refine wp_alloc hS rfl rfl rfl rfl ?_; clear hS; intro gz w1 hS) | ((with_reducible refine g_load ?_); refine wl_run rfl (by first | exact a_load1 hS rfl rfl rfl rfl (by (repeat (first | exact Ix.here | apply Ix.there))) (by rfl) | exact a_loadR hS rfl rfl rfl rfl (by (repeat (first | exact Ix.here | apply Ix.there))) (by rfl) | fail) ?_) | (go_at_call 17; refine (HP.out _).mono ?_; rintro e w' ⟨rfl, h⟩; replace hS := hS.call h; clear h) | ((with_reducible refine g_store ?_); refine wl_of rfl ?_; refine a_storeA (vs := Sup.cells s) (cs' := Sup.cells s) hS rfl rfl rfl (by rfl) (sup_one _) (by (repeat (first | exact Sw.here | apply Sw.there))) (by exact Nat.le_refl 17) (by rfl) ?_; clear hS; intro w' hS) | fail)
    exact end_c1 hS rfl rfl rfl rfl rfl (h := ⟨rfl, hS.nil⟩)
  · have ep : packU s = (supB s, 0) := by unfold packU; rw [if_neg (by simp [hr])]
    rw [ep] at HP
    obtain ⟨q1, q2⟩ := (sup_right.1 hr).seq
    by_cases hm : s.seq = 72057594037927935
    · have e : nextU s = s := by unfold nextU; rw [if_pos (.inr hm)]
      rw [e]
      clear hr e ep hu hbl HC
      have hm' : 72057594037927935 ≤ s.seq := by omega
      (go_enter Try.func20, Try.ntmps20)
      go_wp2_with (first | go_skip | ((with_reducible refine g_box ?_); refine wl_of rfl ?_; refine wp_box hS rfl rfl rfl ?_; clear hS; intro gs w1 hS) | ((with_reducible refine g_alloc ?_); refine wl_of rfl ?_; refine wp_alloc hS rfl rfl rfl rfl ?_; clear hS; intro gz w1 hS) | ((with_reducible refine g_load ?_); refine wl_run rfl (by first | exact a_load1 hS rfl rfl rfl rfl (by (repeat (first | exact Ix.here | apply Ix.there))) (by rfl) | exact a_loadR hS rfl rfl rfl rfl (by (repeat (first | exact Ix.here | apply Ix.there))) (by rfl) | fail) ?_) | (go_at_call 17; refine (HP.out _).mono ?_; rintro e w' ⟨rfl, h⟩; replace hS := hS.call h; clear h) | ((with_reducible refine g_store ?_); refine wl_of rfl ?_; refine a_storeA (vs := Sup.cells s) (cs' := Sup.cells s) hS rfl rfl rfl (by rfl) (sup_one _) (by (repeat (first | exact Sw.here | apply Sw.there))) (by exact Nat.le_refl 17) (by rfl) ?_; clear hS; intro w' hS) | fail)
      exact end_c1 hS rfl rfl rfl rfl rfl (h := ⟨rfl, hS.nil⟩)
    · have hm' : ¬ 72057594037927935 ≤ s.seq := by omega
      obtain ⟨c, hc⟩ : ∃ c, chainOf 0 (supB s) = c := ⟨_, rfl⟩
      have e : nextU s = { s with seq := s.seq + 1, parent := c } := by unfold nextU; rw [if_neg (by simp [hr, hm]), hc]
      rw [e]
      rw [hc] at HC
      clear hc e ep hu hr
      have hq : s.seq + 1 ≤ 72057594037927935 := by omega
      generalize supB s = B at HP HC hbl
      obtain ⟨seq, who, count, view, log, cop, cview, csum, area, size, s0, s1, s2, s3, s4, s5, parent⟩ := s
      simp only [Sup.cells] at HP hm hm' hq q1 q2 ⊢
      (go_enter Try.func20, Try.ntmps20)
      go_wp2_with (first | go_skip | ((with_reducible refine g_box ?_); refine wl_of rfl ?_; refine wp_box hS rfl rfl rfl ?_; clear hS; intro gs w1 hS) | ((with_reducible refine g_alloc ?_); refine wl_of rfl ?_; refine wp_alloc hS rfl rfl rfl rfl ?_; clear hS; intro gz w1 hS) | ((with_reducible refine g_load ?_); refine wl_run rfl (by first | exact a_load1 hS rfl rfl rfl rfl (by (repeat (first | exact Ix.here | apply Ix.there))) (by rfl) | exact a_loadR hS rfl rfl rfl rfl (by (repeat (first | exact Ix.here | apply Ix.there))) (by rfl) | fail) ?_) | (go_at_call 17; refine (HP.out _).mono ?_; rintro e w' ⟨rfl, h⟩; replace hS := hS.call h; clear h) | (go_at_call 48; refine (HC.out _).mono ?_; rintro e w9 ⟨rfl, rfl⟩) | (refine au2 (n := ?_); clear hS; intro w' hS) | fail)
      exact end_c1 hS rfl rfl rfl rfl rfl (h := ⟨rfl, hS.nil⟩)
set_option maxHeartbeats 8000000 in
theorem law_reads11 (b : List UInt8) (w : World) : Calls Try.prog 3 #[.string ⟨b.toArray⟩] w fun e w' => e = .returned (.bool true) ∧ St [] w w' [] := by
  have hS := St.init w
  have HAW := Lib.hid (fun w => awake11_any w)
  by_cases hl : (1000 : Int) < b.length
  · (go_enter Try.func3, Try.ntmps3)
    go_wp2_with (first | go_skip | (go_at_call 8; refine (HAW.out _).mono ?_; rintro e w' ⟨rfl, h⟩; replace hS := hS.call h; clear h) | fail)
    go_ret
    exact ⟨rfl, hS.nil⟩
  · have HU1 := Lib.hid (fun w => supUnpack_any b (by omega) w)
    have HU2 := Lib.hid (fun w => refUnpack11_any b (by omega) w)
    generalize unpU b = R at HU1 HU2
    obtain ⟨R, r⟩ := R
    simp only at HU1 HU2
    have hq : eqV Try.prog 4 28 (.agg R.cells.toArray) (.agg R.cells.toArray) = some true := by rw [eqSup, decide_eq_true rfl]
    (go_enter Try.func3, Try.ntmps3)
    go_wp2_with (first | go_skip | (first | (have q9 := ga; clear q9; ((with_reducible refine g_alloc ?_); refine wl_of rfl ?_; refine wp_alloc hS rfl rfl rfl rfl ?_; clear hS; intro gb w1 hS)) | ((with_reducible refine g_alloc ?_); refine wl_of rfl ?_; refine wp_alloc hS rfl rfl rfl rfl ?_; clear hS; intro ga w1 hS)) | ((with_reducible refine g_load ?_); refine wl_run rfl (by first | exact a_load1 hS rfl rfl rfl rfl (by (repeat (first | exact Ix.here | apply Ix.there))) (by rfl) | exact a_loadR hS rfl rfl rfl rfl (by (repeat (first | exact Ix.here | apply Ix.there))) (by rfl) | fail) ?_) | ((with_reducible refine g_store ?_); refine wl_of rfl ?_; refine a_storeA (vs := Sup.cells R) (cs' := Sup.cells R) hS rfl rfl rfl (by rfl) (sup_one _) (by (repeat (first | exact Sw.here | apply Sw.there))) (by exact Nat.le_refl 17) (by rfl) ?_; clear hS; intro w' hS) | (go_at_call 8; refine (HAW.out _).mono ?_; rintro e w' ⟨rfl, h⟩; replace hS := hS.call h; clear h) | (go_at_call 9; refine (HU1.out _).mono ?_; rintro e w' ⟨rfl, h⟩; replace hS := hS.call h; clear h) | (go_at_call 10; refine (HU2.out _).mono ?_; rintro e w' ⟨rfl, h⟩; replace hS := hS.call h; clear h) | ((with_reducible refine g_eql (t := 28) ?_); refine wl_run rfl (x_structEq rfl rfl rfl supGuard hq) ?_) | fail)
    go_ret
    exact ⟨by simp, hS.nil⟩
set_option maxHeartbeats 8000000 in
theorem law_packs11 (s : Sup) (hu : s.U64) (w : World) : Calls Try.prog 5 #[.agg s.cells.toArray] w fun e w' => e = .returned (.bool true) ∧ St [] w w' [] := by
  have hS := St.init w
  have HAW := Lib.hid (fun w => awake11_any w)
  have HP1 := Lib.hid (fun w => supPack_any s hu w)
  have HP2 := Lib.hid (fun w => refPack11_any s hu w)
  have HR1 := Lib.hid (fun w => supRight_any s w)
  have HR2 := Lib.hid (fun w => refRight11_any s w)
  have HN1 := Lib.hid (fun w => supNext_any s hu w)
  have HN2 := Lib.hid (fun w => refNext11_any s hu w)
  have hq : eqV Try.prog 4 28 (.agg (nextU s).cells.toArray) (.agg (nextU s).cells.toArray) = some true := by rw [eqSup, decide_eq_true rfl]
  have hq2 : eqV Try.prog 4 28 (.agg s.cells.toArray) (.agg s.cells.toArray) = some true := by rw [eqSup, decide_eq_true rfl]
  have hbl := supB_len s
  have hpk : packU s = if s.right = false then ([], 4) else (supB s, 0) := rfl
  cases hr : s.right
  · rw [if_pos hr] at hpk
    rw [hpk] at HP1 HP2
    rw [hr] at HR1 HR2
    generalize nextU s = N at HN1 HN2 hq
    clear hr hu hbl hpk
    (go_enter Try.func5, Try.ntmps5)
    go_wp2_with (first | go_skip | ((with_reducible refine g_box ?_); refine wl_of rfl ?_; refine wp_box hS rfl rfl rfl ?_; clear hS; intro gs w1 hS) | ((with_reducible refine g_load ?_); refine wl_run rfl (by first | exact a_load1 hS rfl rfl rfl rfl (by (repeat (first | exact Ix.here | apply Ix.there))) (by rfl) | exact a_loadR hS rfl rfl rfl rfl (by (repeat (first | exact Ix.here | apply Ix.there))) (by rfl) | fail) ?_) | (go_at_call 8; refine (HAW.out _).mono ?_; rintro e w' ⟨rfl, h⟩; replace hS := hS.call h; clear h) | (go_at_call 16; refine (HP1.out _).mono ?_; rintro e w' ⟨rfl, h⟩; replace hS := hS.call h; clear h) | (go_at_call 17; refine (HP2.out _).mono ?_; rintro e w' ⟨rfl, h⟩; replace hS := hS.call h; clear h) | fail)
    refine region_calm (by kernel_rfl) (by kernel_rfl) hS ?_
    (repeat (first | ((with_reducible refine c_call ?_); first | fail) | refine calm1 (n := ?_)))
    (refine Calm.call (calm_makes HR1.out) rfl (h := ?_); simp only [Act.put, List.setIfInBounds_toArray, List.set_cons_zero, List.set_cons_succ])
    (repeat (first | ((with_reducible refine c_call ?_); first | fail) | refine calm1 (n := ?_)))
    (refine Calm.call (calm_makes HR2.out) rfl (h := ?_); simp only [Act.put, List.setIfInBounds_toArray, List.set_cons_zero, List.set_cons_succ])
    (repeat (first | ((with_reducible refine c_call ?_); first | fail) | refine calm1 (n := ?_)))
    (refine Calm.call (calm_makes HN1.out) rfl (h := ?_); simp only [Act.put, List.setIfInBounds_toArray, List.set_cons_zero, List.set_cons_succ])
    (repeat (first | ((with_reducible refine c_call ?_); first | fail) | refine calm1 (n := ?_)))
    (refine Calm.call (calm_makes HN2.out) rfl (h := ?_); simp only [Act.put, List.setIfInBounds_toArray, List.set_cons_zero, List.set_cons_succ])
    (refine Calm.run rfl (fun W hW => by exact x_structNe rfl rfl rfl supGuard hq) ?_; simp only [Act.put, List.setIfInBounds_toArray, List.set_cons_zero, List.set_cons_succ])
    (repeat (first | ((with_reducible refine c_call ?_); first | fail) | refine calm1 (n := ?_)))
    (refine Calm.nil ?_; clear hS; intro w8 hS)
    go_wp2_with (fail)
    go_ret
    exact ⟨rfl, hS.nil⟩
  · rw [if_neg (by simp [hr])] at hpk
    rw [hpk] at HP1 HP2
    have hup := unpU_B hr hu
    have HU1 := Lib.hid (fun w => supUnpack_any (supB s) (by omega) w)
    rw [hup] at HU1
    rw [hr] at HR1 HR2
    generalize nextU s = N at HN1 HN2 hq
    generalize supB s = B at HP1 HP2 HU1 hpk hbl
    clear hr hu hpk hup
    (go_enter Try.func5, Try.ntmps5)
    go_wp2_with (first | go_skip | ((with_reducible refine g_box ?_); refine wl_of rfl ?_; refine wp_box hS rfl rfl rfl ?_; clear hS; intro gs w1 hS) | ((with_reducible refine g_load ?_); refine wl_run rfl (by first | exact a_load1 hS rfl rfl rfl rfl (by (repeat (first | exact Ix.here | apply Ix.there))) (by rfl) | exact a_loadR hS rfl rfl rfl rfl (by (repeat (first | exact Ix.here | apply Ix.there))) (by rfl) | fail) ?_) | (go_at_call 8; refine (HAW.out _).mono ?_; rintro e w' ⟨rfl, h⟩; replace hS := hS.call h; clear h) | (go_at_call 16; refine (HP1.out _).mono ?_; rintro e w' ⟨rfl, h⟩; replace hS := hS.call h; clear h) | (go_at_call 17; refine (HP2.out _).mono ?_; rintro e w' ⟨rfl, h⟩; replace hS := hS.call h; clear h) | fail)
    refine region_calm (by kernel_rfl) (by kernel_rfl) hS ?_
    (repeat (first | ((with_reducible refine c_call ?_); first | fail) | refine calm1 (n := ?_)))
    (refine Calm.call (calm_makes HR1.out) rfl (h := ?_); simp only [Act.put, List.setIfInBounds_toArray, List.set_cons_zero, List.set_cons_succ])
    (repeat (first | ((with_reducible refine c_call ?_); first | fail) | refine calm1 (n := ?_)))
    (refine Calm.call (calm_makes HR2.out) rfl (h := ?_); simp only [Act.put, List.setIfInBounds_toArray, List.set_cons_zero, List.set_cons_succ])
    (repeat (first | ((with_reducible refine c_call ?_); first | fail) | refine calm1 (n := ?_)))
    (refine Calm.call (calm_makes HN1.out) rfl (h := ?_); simp only [Act.put, List.setIfInBounds_toArray, List.set_cons_zero, List.set_cons_succ])
    (repeat (first | ((with_reducible refine c_call ?_); first | fail) | refine calm1 (n := ?_)))
    (refine Calm.call (calm_makes HN2.out) rfl (h := ?_); simp only [Act.put, List.setIfInBounds_toArray, List.set_cons_zero, List.set_cons_succ])
    (refine Calm.run rfl (fun W hW => by exact x_structNe rfl rfl rfl supGuard hq) ?_; simp only [Act.put, List.setIfInBounds_toArray, List.set_cons_zero, List.set_cons_succ])
    (repeat (first | ((with_reducible refine c_call ?_); first | fail) | refine calm1 (n := ?_)))
    (refine Calm.nil ?_; clear hS; intro w8 hS)
    go_wp2_with (first | go_skip | ((with_reducible refine g_alloc ?_); refine wl_of rfl ?_; refine wp_alloc hS rfl rfl rfl rfl ?_; clear hS; intro ga w1 hS) | ((with_reducible refine g_load ?_); refine wl_run rfl (by first | exact a_load1 hS rfl rfl rfl rfl (by (repeat (first | exact Ix.here | apply Ix.there))) (by rfl) | exact a_loadR hS rfl rfl rfl rfl (by (repeat (first | exact Ix.here | apply Ix.there))) (by rfl) | fail) ?_) | ((with_reducible refine g_store ?_); refine wl_of rfl ?_; refine a_storeA (vs := Sup.cells s) (cs' := Sup.cells s) hS rfl rfl rfl (by rfl) (sup_one _) (by (repeat (first | exact Sw.here | apply Sw.there))) (by exact Nat.le_refl 17) (by rfl) ?_; clear hS; intro w' hS) | (go_at_call 9; refine (HU1.out _).mono ?_; rintro e w' ⟨rfl, h⟩; replace hS := hS.call h; clear h) | ((with_reducible refine g_eql (t := 28) ?_); refine wl_run rfl (x_structEq rfl rfl rfl supGuard hq2) ?_) | fail)
    go_ret
    exact ⟨rfl, hS.nil⟩
end
end Go.Proofs.Ytbfdnpahojoccaa
