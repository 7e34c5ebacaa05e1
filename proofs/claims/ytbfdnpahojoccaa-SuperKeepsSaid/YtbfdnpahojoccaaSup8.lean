/-
  Whatever four copies rot, SuperLost returns true.
-/
import Derived.Test.YtbfdnpahojoccaaSupB
import Derived.Test.YtbfdnpahojoccaaDiskB
set_option linter.unusedSimpArgs false
set_option linter.unusedVariables false
set_option linter.unusedSectionVars false
set_option maxRecDepth 100000
namespace Go.Cmp
open Go.RowKit
theorem and_smallS (x : Int) (m : Nat) (hm : m ≤ 1000) : 0 ≤ bits .and .i64 x (m : Int) ∧ bits .and .i64 x (m : Int) ≤ m := by
  have h : ((BitVec.ofInt 64 x &&& BitVec.ofInt 64 (m : Int)).toNat) ≤ m := by
    rw [BitVec.toNat_and]
    refine Nat.le_trans Nat.and_le_right ?_
    simp
    omega
  have e : bits .and .i64 x (m : Int) = IntKind.i64.wrap ((BitVec.ofInt 64 x &&& BitVec.ofInt 64 (m : Int)).toNat : Int) := rfl
  rw [e, IntWalk.i64_in _ (by omega)]
  omega
theorem mask_small (x : Int) : 1 ≤ wrap64 (1 + bits .and .i64 x 127) ∧ wrap64 (1 + bits .and .i64 x 127) ≤ 128 := by
  have h := and_smallS x 127 (by omega)
  have e : (((127 : Nat) : Int)) = 127 := rfl
  rw [e] at h
  unfold wrap64
  omega
theorem fresh_bad {s : Sup} (hr : s.right = false) (D : Dsk) : writeU s D = (4, D) := by unfold writeU; rw [if_pos hr]
/-- The first i copies are bad, the others are not marked. -/
structure LostAt (s : Sup) (i : Nat) (D : Dsk) : Prop where
  inv : D.Inv s s
  on : D.off = false
  way : D.way = []
  bad : ∀ j, j < i → openS (nth D.lasts j) = ([], false)
  mark : ∀ j, j < 4 → i ≤ j → nth D.mark j = false
theorem lost_start (s : Sup) : LostAt s 0 (Dsk.full s) := by
  refine ⟨(Dsk.full_inv s s).1, rfl, rfl, fun j hj => absurd hj (by omega), fun j hj _ => ?_⟩
  match j, hj with
  | 0, _ => rfl
  | 1, _ => rfl
  | 2, _ => rfl
  | 3, _ => rfl
theorem lost_step {s : Sup} {i : Nat} {D : Dsk} (h : LostAt s i D) (hi : i < 4) {c m : Int} (h1 : 0 ≤ c) (h2 : c < 384) (h3 : 1 ≤ m) (h4 : m ≤ 255) : LostAt s (i + 1) (D.rot (i : Int) c m).2 := by
  obtain ⟨r1, r2⟩ := Dsk.rot_bad h.inv h.way hi (h.mark i hi (Nat.le_refl _)) h1 h2 h3 h4
  obtain ⟨k1, k2, k3, _⟩ := Dsk.rot_inv h.inv h.way (i := (i : Int)) (by omega) (by omega) h1 h2 h3 h4
  refine ⟨k1, ?_, ?_, fun j hj => ?_, fun j hj hij => ?_⟩
  · exact k3.trans h.on
  · exact k2
  · by_cases e : j = i
    · subst e; exact r1
    · rw [(r2 j e).1]; exact h.bad j (by omega)
  · rw [(r2 j (by omega)).2]; exact h.mark j hj (by omega)
theorem lost_read {s : Sup} {D : Dsk} (h : LostAt s 4 D) : readU D = (zeroU, 0, 11) :=
  Dsk.read_none (by have := h.inv.len; omega) h.on h.way (fun j hj => Dsk.hasU_bad (h.bad j hj))
end Go.Cmp
namespace Go.Proofs.Ytbfdnpahojoccaa
open Go.RowKit Go.Cmp

section
variable {S : List Nat} {w0 w : World} {M : List Ent} {g : Nat} {D : Dsk}
set_option maxHeartbeats 8000000 in
theorem law_lost (s : Sup) (hu : s.U64) (a0 a1 a2 a3 : Int) (w : World) : Calls Try.prog 4 #[.agg s.cells.toArray, .agg #[.int .i64 a0, .int .i64 a1, .int .i64 a2, .int .i64 a3]] w fun e w' => e = .returned (.bool true) ∧ St [] w w' [] := by
  have hS := St.init w
  have HAW := Lib.hid (fun w => awake11_any w)
  have HNW := Lib.hid (fun (w0 w : World) (M : List Ent) (hS : St [] w0 w M) => disk_new 4 (by omega) (by omega) hS)
  have HW := Lib.hid (fun (w0 w : World) (M : List Ent) (g : Nat) (hS : St [] w0 w (disk g Dsk.fresh :: M)) => supWrite_any hS (by rw [← new4]; exact newDsk_ok 4 (by omega)) (by show 0 + 8 ≤ 1000000; omega) (by show (0 : Int) + 8 ≤ 1000000000; omega) s hu)
  rw [new4] at HNW
  have HRT := Lib.hid (fun w => supRight_any s w)
  cases hr : s.right
  · rw [fresh_bad hr] at HW
    rw [hr] at HRT
    generalize Dsk.fresh = F at HNW HW
    clear hr hu
    (go_enter Try.func4, Try.ntmps4)
    go_wp2_with (first | go_skip | ((with_reducible refine g_box (e := 28) ?_); refine wl_of rfl ?_; refine wp_box hS rfl rfl rfl ?_; clear hS; intro gs w1 hS) | ((with_reducible refine g_box ?_); refine wl_of rfl ?_; refine wp_box hS rfl rfl rfl ?_; clear hS; intro ga w1 hS) | ((with_reducible refine g_load ?_); refine wl_run rfl (by first | exact a_load1 hS rfl rfl rfl rfl (by (repeat (first | exact Ix.here | apply Ix.there))) (by rfl) | exact a_loadR hS rfl rfl rfl rfl (by (repeat (first | exact Ix.here | apply Ix.there))) (by rfl) | fail) ?_) | (go_at_call 8; refine (HAW.out _).mono ?_; rintro e w' ⟨rfl, h⟩; replace hS := hS.call h; clear h) | (go_at_call 11; refine (HNW.out _ _ _ hS).mono ?_; clear hS; rintro e w' ⟨gd, rfl, hS⟩) | (go_at_call 12; (refine (HW.out _ _ _ _ (hS.out (by first | ((repeat (first | exact Out.here | apply Out.there)); done) | fail))).mono ?_; clear hS; rintro e w' ⟨rfl, hS⟩)) | (go_at_call 13; refine (HRT.out _).mono ?_; rintro e w' ⟨rfl, h⟩; replace hS := hS.call h; clear h) | fail)
    go_ret
    exact ⟨rfl, hS.nil⟩
  · rw [Dsk.fresh_write hr] at HW
    change Hid (∀ (w0 w : World) (M : List Ent) (g : Nat), St [] w0 w (disk g Dsk.fresh :: M) → Calls Try.prog 12 #[.pointer (some ⟨g, 0, none⟩), .agg s.cells.toArray] w fun e w' => e = .returned (.int .i64 0) ∧ St [] w0 w' (disk g (Dsk.full s) :: M)) at HW
    have hst := lost_start s
    generalize Dsk.fresh = F at HNW HW
    generalize Dsk.full s = G at HW hst
    clear hr hu HRT
    (go_enter Try.func4, Try.ntmps4)
    go_wp2_with (first | go_skip | ((with_reducible refine g_box (e := 28) ?_); refine wl_of rfl ?_; refine wp_box hS rfl rfl rfl ?_; clear hS; intro gs w1 hS) | ((with_reducible refine g_box ?_); refine wl_of rfl ?_; refine wp_box hS rfl rfl rfl ?_; clear hS; intro ga w1 hS) | ((with_reducible refine g_load ?_); refine wl_run rfl (by first | exact a_load1 hS rfl rfl rfl rfl (by (repeat (first | exact Ix.here | apply Ix.there))) (by rfl) | exact a_loadR hS rfl rfl rfl rfl (by (repeat (first | exact Ix.here | apply Ix.there))) (by rfl) | fail) ?_) | (go_at_call 8; refine (HAW.out _).mono ?_; rintro e w' ⟨rfl, h⟩; replace hS := hS.call h; clear h) | (go_at_call 11; refine (HNW.out _ _ _ hS).mono ?_; clear hS; rintro e w' ⟨gd, rfl, hS⟩) | (go_at_call 12; (refine (HW.out _ _ _ _ (hS.out (by first | ((repeat (first | exact Out.here | apply Out.there)); done) | fail))).mono ?_; clear hS; rintro e w' ⟨rfl, hS⟩)) | fail)
    replace hS := (hS.pick : St [] w _ [disk gd G, .row ga [.int .i64 a0, .int .i64 a1, .int .i64 a2, .int .i64 a3] 33 (0, 0)])
    go_loopw [7] (fun k wz => ∃ (i : Nat) (D : Dsk), i ≤ 4 ∧ k = .int .i64 i ∧ Hid (LostAt s i D) ∧ St [] w wz [disk gd D, .row ga [.int .i64 a0, .int .i64 a1, .int .i64 a2, .int .i64 a3] 33 (0, 0)]) (fun k _ => 4 - (intOf k).toNat)
    case atStart => exact ⟨0, G, by omega, rfl, Lib.hid hst, hS⟩
    case round =>
      clear hS hst
      obtain ⟨i, D, hi, rfl, HL, hS⟩ := hrel
      by_cases hi4 : i < 4
      · have hi41 : (i : Int) < 4 := by omega
        rcases (show i = 0 ∨ i = 1 ∨ i = 2 ∨ i = 3 by omega) with rfl | rfl | rfl | rfl
        · have hc := and_smallS a0 255 (by omega)
          have hm := mask_small (a0 / 256)
          have HN := Lib.hid (lost_step HL.out hi4 (c := bits .and .i64 a0 255) (m := wrap64 (1 + bits .and .i64 (a0 / 256) 127)) (by exact hc.1) (by have : bits .and .i64 a0 255 ≤ 255 := hc.2; omega) hm.1 (by omega))
          have hok := HL.out.inv.ok
          clear hc hm HL
          go_wp2_with (fail)
          (refine wp_region_tail 12 (by kernel_rfl) (by kernel_rfl) hS ?_; clear hS; intro w' hS; simp only [List.take_succ_cons, List.take_zero, List.drop_succ_cons, List.drop_zero]; ((repeat (first | ((with_reducible refine s_load ?_); refine z_read rfl (h := ?_); simp only [Act.put, List.setIfInBounds_toArray, List.set_cons_zero, List.set_cons_succ]) | ((with_reducible refine s_index ?_); refine z_idx rfl (h := ?_); simp only [Act.put, List.setIfInBounds_toArray, List.set_cons_zero, List.set_cons_succ]) | ((with_reducible refine s_field ?_); refine z_fld rfl (h := ?_); simp only [Act.put, List.setIfInBounds_toArray, List.set_cons_zero, List.set_cons_succ]) | ((with_reducible refine s_len ?_); refine z_len rfl (h := ?_); simp only [Act.put, List.setIfInBounds_toArray, List.set_cons_zero, List.set_cons_succ]) | ((with_reducible refine s_cut ?_); refine z_str rfl (h := ?_); simp only [Act.put, List.setIfInBounds_toArray, List.set_cons_zero, List.set_cons_succ]) | ((with_reducible refine s_indexV ?_); refine z_six rfl (h := ?_); simp only [Act.put, List.setIfInBounds_toArray, List.set_cons_zero, List.set_cons_succ]) | ((with_reducible refine s_bin ?_); refine z_cat rfl (h := ?_); simp only [Act.put, List.setIfInBounds_toArray, List.set_cons_zero, List.set_cons_succ]) | ((with_reducible refine s_conv ?_); refine z_tos rfl (h := ?_); simp only [Act.put, List.setIfInBounds_toArray, List.set_cons_zero, List.set_cons_succ]) | still_step)); refine wpStill_nil ?_))
          go_wp2_with (first | (go_at_call 14; (refine (disk_rot hS hok _ _ _).mono ?_; clear hS; rintro e w' ⟨rfl, hS⟩)))
          exact ⟨⟨0 + 1, _, by omega, by simp, HN, hS⟩, by simp [intOf]⟩
        · have hc := and_smallS a1 255 (by omega)
          have hm := mask_small (a1 / 256)
          have HN := Lib.hid (lost_step HL.out hi4 (c := bits .and .i64 a1 255) (m := wrap64 (1 + bits .and .i64 (a1 / 256) 127)) (by exact hc.1) (by have : bits .and .i64 a1 255 ≤ 255 := hc.2; omega) hm.1 (by omega))
          have hok := HL.out.inv.ok
          clear hc hm HL
          go_wp2_with (fail)
          (refine wp_region_tail 12 (by kernel_rfl) (by kernel_rfl) hS ?_; clear hS; intro w' hS; simp only [List.take_succ_cons, List.take_zero, List.drop_succ_cons, List.drop_zero]; ((repeat (first | ((with_reducible refine s_load ?_); refine z_read rfl (h := ?_); simp only [Act.put, List.setIfInBounds_toArray, List.set_cons_zero, List.set_cons_succ]) | ((with_reducible refine s_index ?_); refine z_idx rfl (h := ?_); simp only [Act.put, List.setIfInBounds_toArray, List.set_cons_zero, List.set_cons_succ]) | ((with_reducible refine s_field ?_); refine z_fld rfl (h := ?_); simp only [Act.put, List.setIfInBounds_toArray, List.set_cons_zero, List.set_cons_succ]) | ((with_reducible refine s_len ?_); refine z_len rfl (h := ?_); simp only [Act.put, List.setIfInBounds_toArray, List.set_cons_zero, List.set_cons_succ]) | ((with_reducible refine s_cut ?_); refine z_str rfl (h := ?_); simp only [Act.put, List.setIfInBounds_toArray, List.set_cons_zero, List.set_cons_succ]) | ((with_reducible refine s_indexV ?_); refine z_six rfl (h := ?_); simp only [Act.put, List.setIfInBounds_toArray, List.set_cons_zero, List.set_cons_succ]) | ((with_reducible refine s_bin ?_); refine z_cat rfl (h := ?_); simp only [Act.put, List.setIfInBounds_toArray, List.set_cons_zero, List.set_cons_succ]) | ((with_reducible refine s_conv ?_); refine z_tos rfl (h := ?_); simp only [Act.put, List.setIfInBounds_toArray, List.set_cons_zero, List.set_cons_succ]) | still_step)); refine wpStill_nil ?_))
          go_wp2_with (first | (go_at_call 14; (refine (disk_rot hS hok _ _ _).mono ?_; clear hS; rintro e w' ⟨rfl, hS⟩)))
          exact ⟨⟨1 + 1, _, by omega, by simp, HN, hS⟩, by simp [intOf]⟩
        · have hc := and_smallS a2 255 (by omega)
          have hm := mask_small (a2 / 256)
          have HN := Lib.hid (lost_step HL.out hi4 (c := bits .and .i64 a2 255) (m := wrap64 (1 + bits .and .i64 (a2 / 256) 127)) (by exact hc.1) (by have : bits .and .i64 a2 255 ≤ 255 := hc.2; omega) hm.1 (by omega))
          have hok := HL.out.inv.ok
          clear hc hm HL
          go_wp2_with (fail)
          (refine wp_region_tail 12 (by kernel_rfl) (by kernel_rfl) hS ?_; clear hS; intro w' hS; simp only [List.take_succ_cons, List.take_zero, List.drop_succ_cons, List.drop_zero]; ((repeat (first | ((with_reducible refine s_load ?_); refine z_read rfl (h := ?_); simp only [Act.put, List.setIfInBounds_toArray, List.set_cons_zero, List.set_cons_succ]) | ((with_reducible refine s_index ?_); refine z_idx rfl (h := ?_); simp only [Act.put, List.setIfInBounds_toArray, List.set_cons_zero, List.set_cons_succ]) | ((with_reducible refine s_field ?_); refine z_fld rfl (h := ?_); simp only [Act.put, List.setIfInBounds_toArray, List.set_cons_zero, List.set_cons_succ]) | ((with_reducible refine s_len ?_); refine z_len rfl (h := ?_); simp only [Act.put, List.setIfInBounds_toArray, List.set_cons_zero, List.set_cons_succ]) | ((with_reducible refine s_cut ?_); refine z_str rfl (h := ?_); simp only [Act.put, List.setIfInBounds_toArray, List.set_cons_zero, List.set_cons_succ]) | ((with_reducible refine s_indexV ?_); refine z_six rfl (h := ?_); simp only [Act.put, List.setIfInBounds_toArray, List.set_cons_zero, List.set_cons_succ]) | ((with_reducible refine s_bin ?_); refine z_cat rfl (h := ?_); simp only [Act.put, List.setIfInBounds_toArray, List.set_cons_zero, List.set_cons_succ]) | ((with_reducible refine s_conv ?_); refine z_tos rfl (h := ?_); simp only [Act.put, List.setIfInBounds_toArray, List.set_cons_zero, List.set_cons_succ]) | still_step)); refine wpStill_nil ?_))
          go_wp2_with (first | (go_at_call 14; (refine (disk_rot hS hok _ _ _).mono ?_; clear hS; rintro e w' ⟨rfl, hS⟩)))
          exact ⟨⟨2 + 1, _, by omega, by simp, HN, hS⟩, by simp [intOf]⟩
        · have hc := and_smallS a3 255 (by omega)
          have hm := mask_small (a3 / 256)
          have HN := Lib.hid (lost_step HL.out hi4 (c := bits .and .i64 a3 255) (m := wrap64 (1 + bits .and .i64 (a3 / 256) 127)) (by exact hc.1) (by have : bits .and .i64 a3 255 ≤ 255 := hc.2; omega) hm.1 (by omega))
          have hok := HL.out.inv.ok
          clear hc hm HL
          go_wp2_with (fail)
          (refine wp_region_tail 12 (by kernel_rfl) (by kernel_rfl) hS ?_; clear hS; intro w' hS; simp only [List.take_succ_cons, List.take_zero, List.drop_succ_cons, List.drop_zero]; ((repeat (first | ((with_reducible refine s_load ?_); refine z_read rfl (h := ?_); simp only [Act.put, List.setIfInBounds_toArray, List.set_cons_zero, List.set_cons_succ]) | ((with_reducible refine s_index ?_); refine z_idx rfl (h := ?_); simp only [Act.put, List.setIfInBounds_toArray, List.set_cons_zero, List.set_cons_succ]) | ((with_reducible refine s_field ?_); refine z_fld rfl (h := ?_); simp only [Act.put, List.setIfInBounds_toArray, List.set_cons_zero, List.set_cons_succ]) | ((with_reducible refine s_len ?_); refine z_len rfl (h := ?_); simp only [Act.put, List.setIfInBounds_toArray, List.set_cons_zero, List.set_cons_succ]) | ((with_reducible refine s_cut ?_); refine z_str rfl (h := ?_); simp only [Act.put, List.setIfInBounds_toArray, List.set_cons_zero, List.set_cons_succ]) | ((with_reducible refine s_indexV ?_); refine z_six rfl (h := ?_); simp only [Act.put, List.setIfInBounds_toArray, List.set_cons_zero, List.set_cons_succ]) | ((with_reducible refine s_bin ?_); refine z_cat rfl (h := ?_); simp only [Act.put, List.setIfInBounds_toArray, List.set_cons_zero, List.set_cons_succ]) | ((with_reducible refine s_conv ?_); refine z_tos rfl (h := ?_); simp only [Act.put, List.setIfInBounds_toArray, List.set_cons_zero, List.set_cons_succ]) | still_step)); refine wpStill_nil ?_))
          go_wp2_with (first | (go_at_call 14; (refine (disk_rot hS hok _ _ _).mono ?_; clear hS; rintro e w' ⟨rfl, hS⟩)))
          exact ⟨⟨3 + 1, _, by omega, by simp, HN, hS⟩, by simp [intOf]⟩
      · obtain rfl : i = 4 := by omega
        have HRD := Lib.hid (fun (w0 w : World) (M : List Ent) (g : Nat) (hS : St [] w0 w (disk g D :: M)) => supRead_any hS HL.out.inv.ok (by have := HL.out.inv.len; omega))
        rw [lost_read HL.out] at HRD
        have hq : eqV Try.prog 4 28 (.agg zeroU.cells.toArray) (.agg zeroU.cells.toArray) = some true := by rw [eqSup, decide_eq_true rfl]
        go_wp2_with (first | go_skip | ((with_reducible refine g_alloc ?_); refine wl_of rfl ?_; refine wp_alloc hS rfl rfl rfl rfl ?_; clear hS; intro gx w1 hS) | ((with_reducible refine g_load ?_); refine wl_run rfl (by first | exact a_load1 hS rfl rfl rfl rfl (by (repeat (first | exact Ix.here | apply Ix.there))) (by rfl) | exact a_loadR hS rfl rfl rfl rfl (by (repeat (first | exact Ix.here | apply Ix.there))) (by rfl) | fail) ?_) | ((with_reducible refine g_store ?_); refine wl_of rfl ?_; refine a_storeA (vs := Sup.cells zeroU) (cs' := Sup.cells zeroU) hS rfl rfl rfl (by rfl) (sup_one _) (by (repeat (first | exact Sw.here | apply Sw.there))) (by exact Nat.le_refl 17) (by rfl) ?_; clear hS; intro w' hS) | (go_at_call 15; (refine (HRD.out _ _ _ _ (hS.out (by first | ((repeat (first | exact Out.here | apply Out.there)); done) | fail))).mono ?_; clear hS; rintro e w' ⟨rfl, hS⟩)) | ((with_reducible refine g_eql (t := 28) ?_); refine wl_run rfl (x_structEq rfl rfl rfl supGuard hq) ?_) | fail)
        go_ret
        exact ⟨rfl, hS.nil⟩
end
end Go.Proofs.Ytbfdnpahojoccaa
