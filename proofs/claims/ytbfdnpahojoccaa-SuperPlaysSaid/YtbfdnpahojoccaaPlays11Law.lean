/-
  Whatever happens to a disk with superblocks, SuperPlays returns true.
-/
import Derived.Test.YtbfdnpahojoccaaSup14
import Derived.Deep.DeepCutAuto
import Derived.Deep.CutBlock
set_option linter.unusedSimpArgs false
set_option linter.unusedVariables false
set_option linter.unusedSectionVars false
set_option maxRecDepth 100000
namespace Go.Proofs.Ytbfdnpahojoccaa
open Go.RowKit Go.Cmp

section
set_option maxHeartbeats 16000000 in
theorem law_plays11 (vl : Value) (L : List (SAct × Value)) (w : World) (hL : Rd w 22 vl L.length (L.flatMap sactCells)) (hok : ∀ x ∈ L, SActOk w x) :
    Calls Try.prog 7 #[vl] w fun e w' => e = .returned (.bool true) ∧ St [] w w' [] := by
  have hS := St.init w
  have HL := Lib.hid hL
  have HOK := Lib.hid hok
  clear hL hok
  have HAW := Lib.hid (fun w => awake11_any w)
  have HN1 := Lib.hid (fun (w0 w : World) (M : List Ent) (hS : St [] w0 w M) => disk_new 5 (by omega) (by omega) hS)
  have HN2 := Lib.hid (fun (w0 w : World) (M : List Ent) (hS : St [] w0 w M) => rdisk_new 5 (by omega) (by omega) hS)
  have K0 := Lib.hid livedS_start
  generalize newDsk 5 = D0 at HN1 HN2 K0
  (go_enter Try.func7, Try.ntmps7)
  go_wp2_with (first | go_skip | (go_at_call 8; refine (HAW.out _).mono ?_; rintro e w' ⟨rfl, h⟩; replace hS := hS.call h; clear h) | (go_at_call 11; refine (HN1.out _ _ _ hS).mono ?_; clear hS; rintro e w' ⟨g, rfl, hS⟩) | (go_at_call 24; refine (HN2.out _ _ _ hS).mono ?_; clear hS; rintro e w' ⟨g2, rfl, hS⟩) | fail)
  go_loopw [7] (fun k wr => ∃ (j : Nat) (D : Dsk), j ≤ 30 ∧ j ≤ L.length ∧ k = .int .i64 j ∧ Hid (LivedS j D) ∧ St [] w wr [disk g D, rdisk g2 D]) (fun k _ => (30 - intOf k).toNat)
  case atStart => exact ⟨0, D0, by omega, by omega, rfl, K0, hS.pick⟩
  case round =>
    clear hS K0 HN1 HN2 HAW
    obtain ⟨j, D, hj, hjl, rfl, HK, hS⟩ := hrel
    by_cases hlt : j < 30 ∧ j < L.length
    · obtain ⟨hlt, hlt2⟩ := hlt
      have hlt1 : (j : Int) < L.length := by omega
      have hlt3 : (j : Int) < 30 := by omega
      have hget0 := Lib.hid (get_lt (L := L) hlt2)
      have HX := Lib.hid (HOK.out _ (nth_mem hlt2))
      obtain ⟨X, hX⟩ : ∃ X, nth L j = X := ⟨_, rfl⟩
      rw [hX] at hget0 HX
      clear hX
      obtain ⟨x, vx⟩ := X
      have HK1 := Lib.hid (livedS_act HK.out hlt x HX.out.n2)
      obtain ⟨Y, hY⟩ : ∃ Y, deedS D x = Y := ⟨_, rfl⟩
      rw [hY] at HK1
      obtain ⟨e1, D1⟩ := Y
      simp only at HK1
      have HY := Lib.hid hY
      clear hY
      have hLx := HL.out
      have hget := hget0.out
      have hv1 : vx.oneCell' = true := HX.out.rd.one
      go_upto_block 2 with (first | go_skip | ((with_reducible refine g_len ?_); refine wl_run rfl (by exact a_len rfl rfl rfl (hS.old0 hLx)) ?_) | ((with_reducible refine g_index ?_); refine wl_run rfl (by exact a_index rfl rfl rfl rfl (hS.old0 hLx) (by rfl) (by omega) (by omega)) ?_) | ((with_reducible refine g_load (t := 56) ?_); refine wl_run rfl (by exact a_loadG (vs := x.cells vx) rfl (hS.old0 hLx) rfl rfl rfl (by rfl) (by intro _; rfl) hget rfl) ?_) | ((with_reducible refine g_alloc ?_); refine wl_of rfl ?_; refine wp_alloc hS rfl rfl rfl rfl ?_; clear hS; intro gx w1 hS) | ((with_reducible refine g_store (t := 56) ?_); refine wl_of rfl ?_; refine a_storeA (vs := x.cells vx) (cs' := x.cells vx) hS rfl rfl rfl (by rfl) (sact_one hv1) (by (repeat (first | exact Sw.here | apply Sw.there))) (by exact Nat.le_refl 22) (by rfl) ?_; clear hS; intro w' hS) | ((with_reducible refine g_load ?_); refine wl_run rfl (by first | exact a_load1 hS rfl rfl rfl rfl (by (repeat (first | exact Ix.here | apply Ix.there))) (by rfl) | exact a_loadR hS rfl rfl rfl rfl (by (repeat (first | exact Ix.here | apply Ix.there))) (by rfl) | fail) ?_) | fail)
      clear hLx hget hv1
      try simp only [Act.put, List.setIfInBounds_toArray, List.set_cons_zero, List.set_cons_succ]
      go_cut [9, 10] (fun a b wx => ∃ (e1 : Int) (D1 : Dsk), a = .int .i64 e1 ∧ b = .int .i64 e1 ∧ Hid (LivedS (j + 1) D1) ∧ St [] w wx [disk g D1, rdisk g2 D1])
      case first =>
        have ok := HK.out.ok
        have hwa := HK.out.ways
        have hsa := HK.out.steps
        have hla := HK.out.len
        have hu := HX.out.u
        have n1 := HX.out.n1
        have n2 := HX.out.n2
        have hpk := HX.out.picks
        have rp := HX.out.rd
        clear HX HOK HL hget0 HK
        by_cases h1 : x.kind = 1
        · have e : writeU x.s D = (e1, D1) := by rw [← HY.out]; unfold deedS; rw [if_pos h1]
          have HA := Lib.hid (fun (W : World) (M : List Ent) (hS : St [] w W (disk g D :: M)) => supWrite_any hS ok (by omega) (by omega) x.s hu)
          rw [e] at HA
          have HB := Lib.hid (fun (W : World) (M : List Ent) (hS : St [] w W (rdisk g2 D :: M)) => refWrite11_any hS ok (by omega) (by omega) x.s hu)
          rw [e] at HB
          have t1 : (x.kind == 1) = true := by rw [h1]; rfl
          clear e h1 HY ok
          go_wp2_with (first | go_skip | ((with_reducible refine g_load (t := 28) ?_); refine wl_run rfl (a_loadA (vs := x.s.cells) hS rfl rfl rfl rfl (by (repeat (first | exact Ix.here | apply Ix.there))) 17 (by rfl) (by rfl) (by rfl)) ?_) | ((with_reducible refine g_load ?_); refine wl_run rfl (by first | exact a_load1 hS rfl rfl rfl rfl (by (repeat (first | exact Ix.here | apply Ix.there))) (by rfl) | exact a_loadR hS rfl rfl rfl rfl (by (repeat (first | exact Ix.here | apply Ix.there))) (by rfl) | fail) ?_) | (go_at_call 12; (refine (HA.out _ _ (hS.out (by first | ((repeat (first | exact Out.here | apply Out.there)); done) | fail))).mono ?_; clear hS; rintro e w' ⟨rfl, hS⟩)) | (go_at_call 25; (refine (HB.out _ _ (hS.out (by first | ((repeat (first | exact Out.here | apply Out.there)); done) | fail))).mono ?_; clear hS; rintro e w' ⟨rfl, hS⟩)) | fail)
          go_meet
          exact ⟨e1, D1, rfl, rfl, HK1, hS.pick⟩
        by_cases h2 : x.kind = 2
        · have e : D.setFuse x.n = (e1, D1) := by rw [← HY.out]; unfold deedS; rw [if_neg h1, if_pos h2]
          have HA := Lib.hid (fun (W : World) (M : List Ent) (hS : St [] w W (disk g D :: M)) => disk_fuse hS x.n n1 n2)
          rw [e] at HA
          have HB := Lib.hid (fun (W : World) (M : List Ent) (hS : St [] w W (rdisk g2 D :: M)) => rdisk_fuse hS x.n n1 n2)
          rw [e] at HB
          have t1 : (x.kind == 1) = false := by rw [beq_eq_false_iff_ne]; exact h1
          have t2 : (x.kind == 2) = true := by rw [h2]; rfl
          clear e h1 h2 HY ok
          go_wp2_with (first | go_skip | ((with_reducible refine g_load ?_); refine wl_run rfl (by first | exact a_load1 hS rfl rfl rfl rfl (by (repeat (first | exact Ix.here | apply Ix.there))) (by rfl) | exact a_loadR hS rfl rfl rfl rfl (by (repeat (first | exact Ix.here | apply Ix.there))) (by rfl) | fail) ?_) | (go_at_call 21; (refine (HA.out _ _ (hS.out (by first | ((repeat (first | exact Out.here | apply Out.there)); done) | fail))).mono ?_; clear hS; rintro e w' ⟨rfl, hS⟩)) | (go_at_call 26; (refine (HB.out _ _ (hS.out (by first | ((repeat (first | exact Out.here | apply Out.there)); done) | fail))).mono ?_; clear hS; rintro e w' ⟨rfl, hS⟩)) | fail)
          go_meet
          exact ⟨e1, D1, rfl, rfl, HK1, hS.pick⟩
        by_cases h3 : x.kind = 3
        · have e : D.cut = (e1, D1) := by rw [← HY.out]; unfold deedS; rw [if_neg h1, if_neg h2, if_pos h3]
          have HA := Lib.hid (fun (W : World) (M : List Ent) (hS : St [] w W (disk g D :: M)) => disk_cut hS)
          rw [e] at HA
          have HB := Lib.hid (fun (W : World) (M : List Ent) (hS : St [] w W (rdisk g2 D :: M)) => rdisk_cut hS)
          rw [e] at HB
          have t1 : (x.kind == 1) = false := by rw [beq_eq_false_iff_ne]; exact h1
          have t2 : (x.kind == 2) = false := by rw [beq_eq_false_iff_ne]; exact h2
          have t3 : (x.kind == 3) = true := by rw [h3]; rfl
          clear e h1 h2 h3 HY ok
          go_wp2_with (first | go_skip | ((with_reducible refine g_load ?_); refine wl_run rfl (by first | exact a_load1 hS rfl rfl rfl rfl (by (repeat (first | exact Ix.here | apply Ix.there))) (by rfl) | exact a_loadR hS rfl rfl rfl rfl (by (repeat (first | exact Ix.here | apply Ix.there))) (by rfl) | fail) ?_) | (go_at_call 27; (refine (HA.out _ _ (hS.out (by first | ((repeat (first | exact Out.here | apply Out.there)); done) | fail))).mono ?_; clear hS; rintro e w' ⟨rfl, hS⟩)) | (go_at_call 28; (refine (HB.out _ _ (hS.out (by first | ((repeat (first | exact Out.here | apply Out.there)); done) | fail))).mono ?_; clear hS; rintro e w' ⟨rfl, hS⟩)) | fail)
          go_meet
          exact ⟨e1, D1, rfl, rfl, HK1, hS.pick⟩
        by_cases h4 : x.kind = 4
        · have e : D.start x.picks = (e1, D1) := by rw [← HY.out]; unfold deedS; rw [if_neg h1, if_neg h2, if_neg h3, if_pos h4]
          have HA := Lib.hid (fun (W : World) (M : List Ent) (hS : St [] w W (disk g D :: M)) => disk_start hS ok vx x.picks (Reads.old rp) hpk)
          rw [e] at HA
          have HB := Lib.hid (fun (W : World) (M : List Ent) (hS : St [] w W (rdisk g2 D :: M)) => rdisk_start hS ok vx x.picks (Reads.old rp) hpk)
          rw [e] at HB
          have t1 : (x.kind == 1) = false := by rw [beq_eq_false_iff_ne]; exact h1
          have t2 : (x.kind == 2) = false := by rw [beq_eq_false_iff_ne]; exact h2
          have t3 : (x.kind == 3) = false := by rw [beq_eq_false_iff_ne]; exact h3
          have t4 : (x.kind == 4) = true := by rw [h4]; rfl
          clear e h1 h2 h3 h4 HY ok
          go_wp2_with (first | go_skip | ((with_reducible refine g_load ?_); refine wl_run rfl (by first | exact a_load1 hS rfl rfl rfl rfl (by (repeat (first | exact Ix.here | apply Ix.there))) (by rfl) | exact a_loadR hS rfl rfl rfl rfl (by (repeat (first | exact Ix.here | apply Ix.there))) (by rfl) | fail) ?_) | (go_at_call 23; (refine (HA.out _ _ (hS.out (by first | ((repeat (first | exact Out.here | apply Out.there)); done) | fail))).mono ?_; clear hS; rintro e w' ⟨rfl, hS⟩)) | (go_at_call 29; (refine (HB.out _ _ (hS.out (by first | ((repeat (first | exact Out.here | apply Out.there)); done) | fail))).mono ?_; clear hS; rintro e w' ⟨rfl, hS⟩)) | fail)
          go_meet
          exact ⟨e1, D1, rfl, rfl, HK1, hS.pick⟩
        by_cases h5 : x.kind = 5
        · have e : D.rot x.i x.pos x.n = (e1, D1) := by rw [← HY.out]; unfold deedS; rw [if_neg h1, if_neg h2, if_neg h3, if_neg h4, if_pos h5]
          have HA := Lib.hid (fun (W : World) (M : List Ent) (hS : St [] w W (disk g D :: M)) => disk_rot hS ok x.i x.pos x.n)
          rw [e] at HA
          have HB := Lib.hid (fun (W : World) (M : List Ent) (hS : St [] w W (rdisk g2 D :: M)) => rdisk_rot hS ok x.i x.pos x.n)
          rw [e] at HB
          have t1 : (x.kind == 1) = false := by rw [beq_eq_false_iff_ne]; exact h1
          have t2 : (x.kind == 2) = false := by rw [beq_eq_false_iff_ne]; exact h2
          have t3 : (x.kind == 3) = false := by rw [beq_eq_false_iff_ne]; exact h3
          have t4 : (x.kind == 4) = false := by rw [beq_eq_false_iff_ne]; exact h4
          have t5 : (x.kind == 5) = true := by rw [h5]; rfl
          clear e h1 h2 h3 h4 h5 HY ok
          go_wp2_with (first | go_skip | ((with_reducible refine g_load ?_); refine wl_run rfl (by first | exact a_load1 hS rfl rfl rfl rfl (by (repeat (first | exact Ix.here | apply Ix.there))) (by rfl) | exact a_loadR hS rfl rfl rfl rfl (by (repeat (first | exact Ix.here | apply Ix.there))) (by rfl) | fail) ?_) | (go_at_call 14; (refine (HA.out _ _ (hS.out (by first | ((repeat (first | exact Out.here | apply Out.there)); done) | fail))).mono ?_; clear hS; rintro e w' ⟨rfl, hS⟩)) | (go_at_call 30; (refine (HB.out _ _ (hS.out (by first | ((repeat (first | exact Out.here | apply Out.there)); done) | fail))).mono ?_; clear hS; rintro e w' ⟨rfl, hS⟩)) | fail)
          go_meet
          exact ⟨e1, D1, rfl, rfl, HK1, hS.pick⟩
        by_cases h6 : x.kind = 6
        · have e : writeU (nextU (readU D).1) D = (e1, D1) := by rw [← HY.out]; unfold deedS; rw [if_neg h1, if_neg h2, if_neg h3, if_neg h4, if_neg h5, if_pos h6]
          have HA := Lib.hid (fun (W : World) (M : List Ent) (hS : St [] w W (disk g D :: M)) => supWrite_any hS ok (by omega) (by omega) (nextU (readU D).1) (nextU_U (readU_U D)))
          rw [e] at HA
          have HB := Lib.hid (fun (W : World) (M : List Ent) (hS : St [] w W (rdisk g2 D :: M)) => refWrite11_any hS ok (by omega) (by omega) (nextU (readU D).1) (nextU_U (readU_U D)))
          rw [e] at HB
          have HR1 := Lib.hid (fun (W : World) (M : List Ent) (hS : St [] w W (disk g D :: M)) => supRead_any hS ok (by omega))
          have HR2 := Lib.hid (fun (W : World) (M : List Ent) (hS : St [] w W (rdisk g2 D :: M)) => refRead11_any hS ok (by omega))
          have HN1 := Lib.hid (fun w => supNext_any (readU D).1 (readU_U D) w)
          have HN2 := Lib.hid (fun w => refNext11_any (readU D).1 (readU_U D) w)
          clear e
          generalize nextU (readU D).1 = N at HA HB HN1 HN2
          generalize readU D = R at HR1 HR2 HN1 HN2
          obtain ⟨R, rn, re⟩ := R
          simp only at HR1 HR2 HN1 HN2
          have t1 : (x.kind == 1) = false := by rw [beq_eq_false_iff_ne]; exact h1
          have t2 : (x.kind == 2) = false := by rw [beq_eq_false_iff_ne]; exact h2
          have t3 : (x.kind == 3) = false := by rw [beq_eq_false_iff_ne]; exact h3
          have t4 : (x.kind == 4) = false := by rw [beq_eq_false_iff_ne]; exact h4
          have t5 : (x.kind == 5) = false := by rw [beq_eq_false_iff_ne]; exact h5
          have t6 : (x.kind == 6) = true := by rw [h6]; rfl
          clear h1 h2 h3 h4 h5 h6 HY ok
          go_wp2_with (first | go_skip | (first | (have q9 := ga; clear q9; ((with_reducible refine g_alloc ?_); refine wl_of rfl ?_; refine wp_alloc hS rfl rfl rfl rfl ?_; clear hS; intro gb w1 hS)) | ((with_reducible refine g_alloc ?_); refine wl_of rfl ?_; refine wp_alloc hS rfl rfl rfl rfl ?_; clear hS; intro ga w1 hS)) | ((with_reducible refine g_store ?_); refine wl_of rfl ?_; refine a_storeA (vs := Sup.cells R) (cs' := Sup.cells R) hS rfl rfl rfl (by rfl) (sup_one _) (by (repeat (first | exact Sw.here | apply Sw.there))) (by exact Nat.le_refl 17) (by rfl) ?_; clear hS; intro w' hS) | ((with_reducible refine g_load ?_); refine wl_run rfl (by first | exact a_load1 hS rfl rfl rfl rfl (by (repeat (first | exact Ix.here | apply Ix.there))) (by rfl) | exact a_loadR hS rfl rfl rfl rfl (by (repeat (first | exact Ix.here | apply Ix.there))) (by rfl) | fail) ?_) | (go_at_call 12; (refine (HA.out _ _ (hS.out (by first | ((repeat (first | exact Out.here | apply Out.there)); done) | fail))).mono ?_; clear hS; rintro e w' ⟨rfl, hS⟩)) | (go_at_call 25; (refine (HB.out _ _ (hS.out (by first | ((repeat (first | exact Out.here | apply Out.there)); done) | fail))).mono ?_; clear hS; rintro e w' ⟨rfl, hS⟩)) | (go_at_call 15; (refine (HR1.out _ _ (hS.out (by first | ((repeat (first | exact Out.here | apply Out.there)); done) | fail))).mono ?_; clear hS; rintro e w' ⟨rfl, hS⟩)) | (go_at_call 31; (refine (HR2.out _ _ (hS.out (by first | ((repeat (first | exact Out.here | apply Out.there)); done) | fail))).mono ?_; clear hS; rintro e w' ⟨rfl, hS⟩)) | (go_at_call 19; refine (HN1.out _).mono ?_; rintro e w' ⟨rfl, h⟩; replace hS := hS.call h; clear h) | (go_at_call 20; refine (HN2.out _).mono ?_; rintro e w' ⟨rfl, h⟩; replace hS := hS.call h; clear h) | fail)
          go_meet
          exact ⟨e1, D1, rfl, rfl, HK1, hS.pick⟩
        have e : ((0 : Int), D) = (e1, D1) := by rw [← HY.out]; unfold deedS; rw [if_neg h1, if_neg h2, if_neg h3, if_neg h4, if_neg h5, if_neg h6]
        have t1 : (x.kind == 1) = false := by rw [beq_eq_false_iff_ne]; exact h1
        have t2 : (x.kind == 2) = false := by rw [beq_eq_false_iff_ne]; exact h2
        have t3 : (x.kind == 3) = false := by rw [beq_eq_false_iff_ne]; exact h3
        have t4 : (x.kind == 4) = false := by rw [beq_eq_false_iff_ne]; exact h4
        have t5 : (x.kind == 5) = false := by rw [beq_eq_false_iff_ne]; exact h5
        have t6 : (x.kind == 6) = false := by rw [beq_eq_false_iff_ne]; exact h6
        obtain ⟨rfl, rfl⟩ := Prod.mk.inj e
        clear e h1 h2 h3 h4 h5 h6 HY ok
        go_wp2_with (first | go_skip | ((with_reducible refine g_load ?_); refine wl_run rfl (by first | exact a_load1 hS rfl rfl rfl rfl (by (repeat (first | exact Ix.here | apply Ix.there))) (by rfl) | exact a_loadR hS rfl rfl rfl rfl (by (repeat (first | exact Ix.here | apply Ix.there))) (by rfl) | fail) ?_) | fail)
        go_meet
        exact ⟨0, D, rfl, rfl, HK1, hS.pick⟩
      case rest =>
        clear hS HX hget0 HK HK1 HY
        obtain ⟨e2, D2, rfl, rfl, HK2, hS⟩ := hcut
        have h5 := HK2.out.len
        have ok := HK2.out.ok
        have HR1 := Lib.hid (fun (W : World) (M : List Ent) (hS : St [] w W (disk g D2 :: M)) => supRead_any hS ok (by omega))
        have HR2 := Lib.hid (fun (W : World) (M : List Ent) (hS : St [] w W (rdisk g2 D2 :: M)) => refRead11_any hS ok (by omega))
        have HST := Lib.hid (fun (W : World) (M : List Ent) (hS : St [] w W (disk g D2 :: M)) => disk_steps hS)
        have HON := Lib.hid (fun (W : World) (M : List Ent) (hS : St [] w W (disk g D2 :: M)) => disk_on hS)
        have HD1 := Lib.hid (fun (W : World) (M : List Ent) (i : Int) (hS : St [] w W (disk g D2 :: M)) => disk_read hS ok i)
        have HD2 := Lib.hid (fun (W : World) (M : List Ent) (i : Int) (hS : St [] w W (rdisk g2 D2 :: M)) => rdisk_read hS ok i)
        generalize readU D2 = R at HR1 HR2
        obtain ⟨R, rn, re⟩ := R
        simp only at HR1 HR2
        have hq : eqV Try.prog 4 28 (.agg R.cells.toArray) (.agg R.cells.toArray) = some true := by rw [eqSup, decide_eq_true rfl]
        clear h5 ok
        go_wp2_with (first | go_skip | (first | (have q9 := ga; clear q9; ((with_reducible refine g_alloc ?_); refine wl_of rfl ?_; refine wp_alloc hS rfl rfl rfl rfl ?_; clear hS; intro gb w1 hS)) | ((with_reducible refine g_alloc ?_); refine wl_of rfl ?_; refine wp_alloc hS rfl rfl rfl rfl ?_; clear hS; intro ga w1 hS)) | ((with_reducible refine g_store ?_); refine wl_of rfl ?_; refine a_storeA (vs := Sup.cells R) (cs' := Sup.cells R) hS rfl rfl rfl (by rfl) (sup_one _) (by (repeat (first | exact Sw.here | apply Sw.there))) (by exact Nat.le_refl 17) (by rfl) ?_; clear hS; intro w' hS) | (go_at_call 15; (refine (HR1.out _ _ (hS.out (by first | ((repeat (first | exact Out.here | apply Out.there)); done) | fail))).mono ?_; clear hS; rintro e w' ⟨rfl, hS⟩)) | (go_at_call 31; (refine (HR2.out _ _ (hS.out (by first | ((repeat (first | exact Out.here | apply Out.there)); done) | fail))).mono ?_; clear hS; rintro e w' ⟨rfl, hS⟩)) | fail)
        replace hS := St.out (m := rdisk g2 D2) hS (by (repeat (first | exact Out.here | apply Out.there)))
        (have hU := St.unpack hS; clear hS; obtain ⟨⟨vl2, vm2, vw2⟩, _, hS⟩ := hU; simp only [List.cons_append, List.nil_append] at hS)
        have hoff : (!D2.off == D2.off) = false := by cases D2.off <;> rfl
        refine region_calm (by kernel_rfl) (by kernel_rfl) hS ?_
        iterate 4 (refine Calm.pure rfl (h := ?_); simp only [Act.put, List.setIfInBounds_toArray, List.set_cons_zero, List.set_cons_succ])
        iterate 2 (refine Calm.run rfl (fun W hW => by first | exact a_load1 hW rfl rfl rfl rfl (by (repeat (first | exact Ix.here | apply Ix.there))) (by rfl) | exact a_loadR hW rfl rfl rfl rfl (by (repeat (first | exact Ix.here | apply Ix.there))) (by rfl)) ?_; simp only [Act.put, List.setIfInBounds_toArray, List.set_cons_zero, List.set_cons_succ])
        (refine Calm.run rfl (fun W hW => by exact x_structNe rfl rfl rfl supGuard hq) ?_; simp only [Act.put, List.setIfInBounds_toArray, List.set_cons_zero, List.set_cons_succ])
        iterate 13 (refine Calm.pure rfl (h := ?_); simp only [Act.put, List.setIfInBounds_toArray, List.set_cons_zero, List.set_cons_succ])
        (refine Calm.call2 (calm_same (fun W hW => HST.out W _ (hW.out (by (repeat (first | exact Out.here | apply Out.there)))))) rfl (h := ?_); simp only [Act.put, List.setIfInBounds_toArray, List.set_cons_zero, List.set_cons_succ])
        (refine Calm.pure rfl (h := ?_); simp only [Act.put, List.setIfInBounds_toArray, List.set_cons_zero, List.set_cons_succ])
        (refine Calm.run rfl (fun W hW => p_nil rfl rfl) ?_; simp only [Act.put, List.setIfInBounds_toArray, List.set_cons_zero, List.set_cons_succ])
        (refine Calm.pure rfl (h := ?_); simp only [Act.put, List.setIfInBounds_toArray, List.set_cons_zero, List.set_cons_succ])
        (refine Calm.run rfl (fun W hW => by first | exact a_load1 hW rfl rfl rfl rfl (by (repeat (first | exact Ix.here | apply Ix.there))) (by rfl) | exact a_loadR hW rfl rfl rfl rfl (by (repeat (first | exact Ix.here | apply Ix.there))) (by rfl)) ?_; simp only [Act.put, List.setIfInBounds_toArray, List.set_cons_zero, List.set_cons_succ])
        iterate 4 (refine Calm.pure rfl (h := ?_); simp only [Act.put, List.setIfInBounds_toArray, List.set_cons_zero, List.set_cons_succ])
        (refine Calm.call2 (calm_same (fun W hW => HON.out W _ (hW.out (by (repeat (first | exact Out.here | apply Out.there)))))) rfl (h := ?_); simp only [Act.put, List.setIfInBounds_toArray, List.set_cons_zero, List.set_cons_succ])
        (refine Calm.pure rfl (h := ?_); simp only [Act.put, List.setIfInBounds_toArray, List.set_cons_zero, List.set_cons_succ])
        (refine Calm.run rfl (fun W hW => p_nil rfl rfl) ?_; simp only [Act.put, List.setIfInBounds_toArray, List.set_cons_zero, List.set_cons_succ])
        (refine Calm.pure rfl (h := ?_); simp only [Act.put, List.setIfInBounds_toArray, List.set_cons_zero, List.set_cons_succ])
        (refine Calm.run rfl (fun W hW => by first | exact a_load1 hW rfl rfl rfl rfl (by (repeat (first | exact Ix.here | apply Ix.there))) (by rfl) | exact a_loadR hW rfl rfl rfl rfl (by (repeat (first | exact Ix.here | apply Ix.there))) (by rfl)) ?_; simp only [Act.put, List.setIfInBounds_toArray, List.set_cons_zero, List.set_cons_succ])
        (refine Calm.run (v := .bool false) rfl (fun W hW => by (go_simp; try simp [hoff])) ?_; simp only [Act.put, List.setIfInBounds_toArray, List.set_cons_zero, List.set_cons_succ])
        (refine Calm.pure rfl (h := ?_); simp only [Act.put, List.setIfInBounds_toArray, List.set_cons_zero, List.set_cons_succ])
        (refine Calm.nil ?_; clear hS; intro w8 hS)
        replace hS : St [] w _ (rdisk g2 D2 :: [.row gb R.cells 28 (0, 0), .row ga R.cells 28 (0, 0), disk g D2]) := St.packs (vl2, vm2, vw2) hS
        clear HR1 HR2 HST HON hq hoff
        go_wp2_with (first | go_skip | fail | fail)
        go_loopw [23] (fun k wr => ∃ m : Nat, m ≤ 5 ∧ k = .int .i64 m ∧ St [] w wr [disk g D2, rdisk g2 D2]) (fun k _ => (5 - intOf k).toNat)
        case atStart => exact ⟨0, by omega, rfl, hS.pick⟩
        case round =>
          clear hS
          obtain ⟨m, hm, rfl, hS⟩ := hrel
          by_cases hm5 : m < 5
          · have hm51 : (m : Int) < 5 := by omega
            have HE1 := Lib.hid (fun (W : World) (M : List Ent) (hS : St [] w W (disk g D2 :: M)) => HD1.out W M (m : Int) hS)
            have HE2 := Lib.hid (fun (W : World) (M : List Ent) (hS : St [] w W (rdisk g2 D2 :: M)) => HD2.out W M (m : Int) hS)
            generalize D2.read (m : Int) = Q at HE1 HE2
            obtain ⟨q, qe⟩ := Q
            simp only at HE1 HE2
            clear HD1 HD2
            go_wp2_with (first | go_skip | (go_at_call 33; (refine (HE1.out _ _ (hS.out (by first | ((repeat (first | exact Out.here | apply Out.there)); done) | fail))).mono ?_; clear hS; rintro e w' ⟨rfl, hS⟩)) | (go_at_call 34; refine (HE2.out _ _ (hS.out (by first | ((repeat (first | exact Out.here | apply Out.there)); done) | fail))).mono ?_; rintro e w' ⟨rfl, rfl⟩) | fail)
            refine ⟨⟨_, _, _, _, _, _, _, _, _, _, _, _, _, _, _, _, _, _, _, _, _, _, _, _, _, ⟨m + 1, by omega, by simp, hS.pick⟩, rfl⟩, ?_⟩
            show (5 - intOf (.int .i64 ((m : Int) + 1))).toNat < (5 - intOf (.int .i64 (m : Int))).toNat
            simp [intOf]; omega
          · go_wp2_with (first | go_skip | fail | fail)
            go_round
            case rel => exact ⟨j + 1, D2, by omega, by omega, by go_num, HK2, hS⟩
            case measure => simp [intOf]; omega
    · by_cases hlt1 : (j : Int) < L.length
      all_goals
        try (have hlt2 : ¬ (j : Int) < 30 := by omega)
        have hLx := HL.out
        go_wp2_with (first | go_skip | ((with_reducible refine g_len ?_); refine wl_run rfl (by exact a_len rfl rfl rfl (hS.old0 hLx)) ?_) | fail)
        go_ret
        exact ⟨rfl, hS.nil⟩
end
end Go.Proofs.Ytbfdnpahojoccaa
