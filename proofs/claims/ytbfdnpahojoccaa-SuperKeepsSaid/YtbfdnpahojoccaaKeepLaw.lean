/-
  Old or new, wherever the power goes: SuperKeeps returns true.
-/
import Derived.Test.YtbfdnpahojoccaaKeepSpec
import Derived.Deep.DeepCutAuto
import Derived.Deep.CutBlock
set_option linter.unusedSimpArgs false
set_option linter.unusedVariables false
set_option linter.unusedSectionVars false
set_option maxRecDepth 100000
namespace Go.Proofs.Ytbfdnpahojoccaa
open Go.RowKit Go.Cmp

section
theorem keep_len {w : World} {v : Value} {l : List Int} (h : Rd w 1 v l.length (l.flatMap num)) : l.length ≤ 9223372036854775807 := by
  obtain ⟨_, p, cap, _, h2, h3, _⟩ := h
  have : maxLen = 9223372036854775807 := rfl
  omega
set_option maxHeartbeats 16000000 in
theorem law_keeps (s tt : Sup) (hsu : s.U64) (htu : tt.U64) (fz : Int) (hf1 : -9223372036854775808 ≤ fz) (hf2 : fz ≤ 9223372036854775807) (vp va vb : Value) (picks ahead behind : List Int) (w : World)
    (hP : Rd w 1 vp picks.length (picks.flatMap num)) (hRa : Rd w 1 va ahead.length (ahead.flatMap num)) (hRb : Rd w 1 vb behind.length (behind.flatMap num)) (hpk : ∀ p ∈ picks, p ≤ 9223372036854775807) :
    Calls Try.prog 6 #[.agg s.cells.toArray, .agg tt.cells.toArray, .int .i64 fz, vp, va, vb] w fun e w' => e = .returned (.bool true) ∧ St [] w w' [] := by
  have hS := St.init w
  have hla := keep_len hRa
  have hlb := keep_len hRb
  have HPP := Lib.hid hP
  have HRA := Lib.hid hRa
  have HRB := Lib.hid hRb
  clear hP hRa hRb
  have HAW := Lib.hid (fun w => awake11_any w)
  have HNW := Lib.hid (fun (w0 w : World) (M : List Ent) (hS : St [] w0 w M) => disk_new 4 (by omega) (by omega) hS)
  rw [new4] at HNW
  have HRS := Lib.hid (fun w => supRight_any s w)
  cases hr : s.right
  · rw [hr] at HRS
    generalize Dsk.fresh = F at HNW
    clear hr
    (go_enter Try.func6, Try.ntmps6)
    go_wp2_with (first | go_skip | (first | (have q9 := gs; clear q9; ((with_reducible refine g_box ?_); refine wl_of rfl ?_; refine wp_box hS rfl rfl rfl ?_; clear hS; intro gt w1 hS)) | ((with_reducible refine g_box ?_); refine wl_of rfl ?_; refine wp_box hS rfl rfl rfl ?_; clear hS; intro gs w1 hS)) | ((with_reducible refine g_load ?_); refine wl_run rfl (by first | exact a_load1 hS rfl rfl rfl rfl (by (repeat (first | exact Ix.here | apply Ix.there))) (by rfl) | exact a_loadR hS rfl rfl rfl rfl (by (repeat (first | exact Ix.here | apply Ix.there))) (by rfl) | fail) ?_) | (go_at_call 8; refine (HAW.out _).mono ?_; rintro e w' ⟨rfl, h⟩; replace hS := hS.call h; clear h) | (go_at_call 11; refine (HNW.out _ _ _ hS).mono ?_; clear hS; rintro e w' ⟨gd, rfl, hS⟩) | (go_at_call 13; refine (HRS.out _).mono ?_; rintro e w' ⟨rfl, h⟩; replace hS := hS.call h; clear h) | fail)
    go_ret
    exact ⟨rfl, hS.nil⟩
  rw [hr] at HRS
  obtain ⟨q1, q2⟩ := (sup_right.1 hr).seq
  by_cases hm : s.seq = 72057594037927935
  · have hm' : (s.seq == 72057594037927935) = true := by rw [hm]; rfl
    generalize Dsk.fresh = F at HNW
    clear hr
    (go_enter Try.func6, Try.ntmps6)
    go_wp2_with (first | go_skip | (first | (have q9 := gs; clear q9; ((with_reducible refine g_box ?_); refine wl_of rfl ?_; refine wp_box hS rfl rfl rfl ?_; clear hS; intro gt w1 hS)) | ((with_reducible refine g_box ?_); refine wl_of rfl ?_; refine wp_box hS rfl rfl rfl ?_; clear hS; intro gs w1 hS)) | ((with_reducible refine g_load ?_); refine wl_run rfl (by first | exact a_load1 hS rfl rfl rfl rfl (by (repeat (first | exact Ix.here | apply Ix.there))) (by rfl) | exact a_loadR hS rfl rfl rfl rfl (by (repeat (first | exact Ix.here | apply Ix.there))) (by rfl) | fail) ?_) | (go_at_call 8; refine (HAW.out _).mono ?_; rintro e w' ⟨rfl, h⟩; replace hS := hS.call h; clear h) | (go_at_call 11; refine (HNW.out _ _ _ hS).mono ?_; clear hS; rintro e w' ⟨gd, rfl, hS⟩) | (go_at_call 13; refine (HRS.out _).mono ?_; rintro e w' ⟨rfl, h⟩; replace hS := hS.call h; clear h) | fail)
    go_ret
    exact ⟨rfl, hS.nil⟩
  have hm' : (s.seq == 72057594037927935) = false := by rw [beq_eq_false_iff_ne]; exact hm
  have hq : s.seq + 1 ≤ 72057594037927935 := by omega
  obtain ⟨tseq, who, count, view, log, cop, cview, csum, area, size, s0, s1, s2, s3, s4, s5, parent⟩ := tt
  obtain ⟨T, hT⟩ : ∃ T : Sup, T = ⟨s.seq + 1, who, count, view, log, cop, cview, csum, area, size, s0, s1, s2, s3, s4, s5, parent⟩ := ⟨_, rfl⟩
  have hTc : T.cells = [.int .i64 (s.seq + 1), .int .i64 who, .int .i64 count, .int .i64 view, .int .i64 log, .int .i64 cop, .int .i64 cview, .int .u64 csum, .int .i64 area, .int .i64 size, .int .u64 s0, .int .u64 s1, .int .u64 s2, .int .u64 s3, .int .u64 s4, .int .u64 s5, .int .u64 parent] := by rw [hT]; rfl
  have hTU : T.U64 := by rw [hT]; exact ⟨htu.csum, htu.s0, htu.s1, htu.s2, htu.s3, htu.s4, htu.s5, htu.parent⟩
  have hTq : s.seq < T.seq := by rw [hT]; show s.seq < s.seq + 1; omega
  have HTC := Lib.hid hTc
  clear hT hTc htu hm
  simp only [Sup.cells]
  have HRT := Lib.hid (fun w => supRight_any T w)
  cases htr : T.right
  · rw [htr] at HRT
    generalize Dsk.fresh = F at HNW
    clear hr htr
    (go_enter Try.func6, Try.ntmps6)
    go_upto_region 9 with (first | go_skip | (first | (have q9 := gs; clear q9; ((with_reducible refine g_box ?_); refine wl_of rfl ?_; refine wp_box hS rfl rfl rfl ?_; clear hS; intro gt w1 hS)) | ((with_reducible refine g_box ?_); refine wl_of rfl ?_; refine wp_box hS rfl rfl rfl ?_; clear hS; intro gs w1 hS)) | ((with_reducible refine g_load ?_); refine wl_run rfl (by first | exact a_load1 hS rfl rfl rfl rfl (by (repeat (first | exact Ix.here | apply Ix.there))) (by rfl) | exact a_loadR hS rfl rfl rfl rfl (by (repeat (first | exact Ix.here | apply Ix.there))) (by rfl) | fail) ?_) | (go_at_call 8; refine (HAW.out _).mono ?_; rintro e w' ⟨rfl, h⟩; replace hS := hS.call h; clear h) | (go_at_call 11; refine (HNW.out _ _ _ hS).mono ?_; clear hS; rintro e w' ⟨gd, rfl, hS⟩) | (go_at_call 13; refine (HRS.out _).mono ?_; rintro e w' ⟨rfl, h⟩; replace hS := hS.call h; clear h) | ((with_reducible refine g_store ?_); refine wl_of rfl ?_; refine a_store1 (v := .int .i64 (s.seq + 1)) (cs' := [.int .i64 (s.seq + 1), .int .i64 who, .int .i64 count, .int .i64 view, .int .i64 log, .int .i64 cop, .int .i64 cview, .int .u64 csum, .int .i64 area, .int .i64 size, .int .u64 s0, .int .u64 s1, .int .u64 s2, .int .u64 s3, .int .u64 s4, .int .u64 s5, .int .u64 parent]) hS rfl rfl rfl rfl rfl rfl (by (repeat (first | exact Sw.here | apply Sw.there))) (by simp) (by rfl) ?_; clear hS; intro w' hS) | fail)
    rw [← HTC.out] at hS
    go_wp2_with (first | go_skip | ((with_reducible refine g_load ?_); refine wl_run rfl (by first | exact a_load1 hS rfl rfl rfl rfl (by (repeat (first | exact Ix.here | apply Ix.there))) (by rfl) | exact a_loadR hS rfl rfl rfl rfl (by (repeat (first | exact Ix.here | apply Ix.there))) (by rfl) | fail) ?_) | (go_at_call 13; refine (HRT.out _).mono ?_; rintro e w' ⟨rfl, h⟩; replace hS := hS.call h; clear h) | fail)
    go_ret
    exact ⟨rfl, hS.nil⟩
  rw [htr] at HRT
  have HW1 := Lib.hid (fun (w0 w : World) (M : List Ent) (g : Nat) (hS : St [] w0 w (disk g Dsk.fresh :: M)) => supWrite_any hS (by rw [← new4]; exact newDsk_ok 4 (by omega)) (by show 0 + 8 ≤ 1000000; omega) (by show (0 : Int) + 8 ≤ 1000000000; omega) s hsu)
  rw [Dsk.fresh_write hr] at HW1
  change Hid (∀ (w0 w : World) (M : List Ent) (g : Nat), St [] w0 w (disk g Dsk.fresh :: M) → Calls Try.prog 12 #[.pointer (some ⟨g, 0, none⟩), .agg s.cells.toArray] w fun e w' => e = .returned (.int .i64 0) ∧ St [] w0 w' (disk g (Dsk.full s) :: M)) at HW1
  have HKS := Lib.hid (keepA_start s T)
  have HKW := Lib.hid (fun (rots : Nat) (D : Dsk) (h : KeepA s T rots D) => keep_write hr hsu htr hTU h fz hf2)
  have HKE := Lib.hid (fun (e : Int) (rots : Nat) (D : Dsk) (h : KeepB s T e rots D) => keep_end hr hsu htr hTU hTq h)
  have HNE : Hid (s ≠ T) := Lib.hid (fun e => by rw [← e] at hTq; omega)
  generalize Dsk.fresh = F at HNW HW1
  generalize Dsk.full s = G at HW1 HKS
  clear hr htr
  (go_enter Try.func6, Try.ntmps6)
  go_upto_region 9 with (first | go_skip | (first | (have q9 := gs; clear q9; ((with_reducible refine g_box ?_); refine wl_of rfl ?_; refine wp_box hS rfl rfl rfl ?_; clear hS; intro gt w1 hS)) | ((with_reducible refine g_box ?_); refine wl_of rfl ?_; refine wp_box hS rfl rfl rfl ?_; clear hS; intro gs w1 hS)) | ((with_reducible refine g_load ?_); refine wl_run rfl (by first | exact a_load1 hS rfl rfl rfl rfl (by (repeat (first | exact Ix.here | apply Ix.there))) (by rfl) | exact a_loadR hS rfl rfl rfl rfl (by (repeat (first | exact Ix.here | apply Ix.there))) (by rfl) | fail) ?_) | (go_at_call 8; refine (HAW.out _).mono ?_; rintro e w' ⟨rfl, h⟩; replace hS := hS.call h; clear h) | (go_at_call 11; refine (HNW.out _ _ _ hS).mono ?_; clear hS; rintro e w' ⟨gd, rfl, hS⟩) | (go_at_call 13; refine (HRS.out _).mono ?_; rintro e w' ⟨rfl, h⟩; replace hS := hS.call h; clear h) | ((with_reducible refine g_store ?_); refine wl_of rfl ?_; refine a_store1 (v := .int .i64 (s.seq + 1)) (cs' := [.int .i64 (s.seq + 1), .int .i64 who, .int .i64 count, .int .i64 view, .int .i64 log, .int .i64 cop, .int .i64 cview, .int .u64 csum, .int .i64 area, .int .i64 size, .int .u64 s0, .int .u64 s1, .int .u64 s2, .int .u64 s3, .int .u64 s4, .int .u64 s5, .int .u64 parent]) hS rfl rfl rfl rfl rfl rfl (by (repeat (first | exact Sw.here | apply Sw.there))) (by simp) (by rfl) ?_; clear hS; intro w' hS) | fail)
  rw [← HTC.out] at hS
  clear HTC hTq hm' hq q1 q2
  go_upto_block 0 with (first | go_skip | ((with_reducible refine g_load ?_); refine wl_run rfl (by first | exact a_load1 hS rfl rfl rfl rfl (by (repeat (first | exact Ix.here | apply Ix.there))) (by rfl) | exact a_loadR hS rfl rfl rfl rfl (by (repeat (first | exact Ix.here | apply Ix.there))) (by rfl) | fail) ?_) | (go_at_call 13; refine (HRT.out _).mono ?_; rintro e w' ⟨rfl, h⟩; replace hS := hS.call h; clear h) | (go_at_call 12; (refine (HW1.out _ _ _ _ (hS.out (by first | ((repeat (first | exact Out.here | apply Out.there)); done) | fail))).mono ?_; clear hS; rintro e w' ⟨rfl, hS⟩)) | fail)
  go_cut [15] (fun r wx => ∃ (rots : Nat) (D : Dsk), r = .int .i64 rots ∧ Hid (KeepA s T rots D) ∧ St [] w wx [disk gd D, .row gs s.cells 28 (0, 0), .row gt T.cells 28 (0, 0)])
  case first =>
    go_wp2_with (fail)
    go_loopw [15, 16] (fun r k wz => ∃ (i rots : Nat) (D : Dsk), i ≤ ahead.length ∧ k = .int .i64 i ∧ r = .int .i64 rots ∧ Hid (KeepA s T rots D) ∧ St [] w wz [disk gd D, .row gs s.cells 28 (0, 0), .row gt T.cells 28 (0, 0)]) (fun _ k _ => ahead.length - (intOf k).toNat)
    case atStart => exact ⟨0, 0, G, by omega, rfl, rfl, HKS, hS.pick⟩
    case round =>
      clear hS
      obtain ⟨i, rots, D, hi, rfl, rfl, HK, hS⟩ := hrel
      have hr2 := HK.out.rots
      by_cases hi1 : i < ahead.length
      · have hi2 : (i : Int) < ahead.length := by omega
        by_cases hr : rots < 2
        · have hr1 : (rots : Int) < 2 := by omega
          have hok := HK.out.inv.ok
          have hget0 : Hid (ahead[i]? = some (nth ahead i)) := Lib.hid (get_lt hi1)
          have HN := Lib.hid (keepA_step HK.out hr (nth ahead i))
          have HX := Lib.hid (fun (W : World) (M : List Ent) (hS : St [] w W (disk gd D :: M)) => disk_rot hS hok (bits .and .i64 (nth ahead i) 3) (bits .and .i64 (nth ahead i / 4) 255) (wrap64 (1 + bits .and .i64 (nth ahead i / 1024) 127)))
          obtain ⟨E, hE⟩ : ∃ E, rotX D (nth ahead i) = E := ⟨_, rfl⟩
          have hE2 : D.rot (bits .and .i64 (nth ahead i) 3) (bits .and .i64 (nth ahead i / 4) 255) (wrap64 (1 + bits .and .i64 (nth ahead i / 1024) 127)) = E := hE
          rw [hE] at HN
          rw [hE2] at HX
          obtain ⟨er, D'⟩ := E
          simp only at HN HX
          clear hE hE2 hok HK
          generalize nth ahead i = x at hget0 HX
          have hRx := HRA.out
          go_wp2_with (first | ((with_reducible refine g_len ?_); refine wl_run rfl (by exact a_len rfl rfl rfl (hS.old0 hRx)) ?_))
          have hget := hget0.out
          (refine wp_region_tail 19 (by kernel_rfl) (by kernel_rfl) hS ?_; clear hS; intro w' hS; simp only [List.take_succ_cons, List.take_zero, List.drop_succ_cons, List.drop_zero]; (repeat (first | ((with_reducible refine s_index ?_); refine ws_run rfl (by exact a_index rfl rfl rfl rfl (hS.old0 hRx) (by rfl) (by omega) (by omega)) ?_; simp only [Act.put, List.setIfInBounds_toArray, List.set_cons_zero, List.set_cons_succ]) | ((with_reducible refine s_load ?_); refine ws_run rfl (by exact a_loadE rfl (hS.old0 hRx) rfl rfl rfl (by intro _; rfl) hget (by rfl)) ?_; simp only [Act.put, List.setIfInBounds_toArray, List.set_cons_zero, List.set_cons_succ]) | still_step)); refine wpStill_nil ?_)
          clear hget hRx
          by_cases he : er = 0
          · subst he
            have HN2 := Lib.hid HN.out
            rw [if_pos rfl] at HN2
            clear HN
            go_wp2_with (first | (go_at_call 14; (refine (HX.out _ _ hS).mono ?_; clear hS; rintro e w' ⟨rfl, hS⟩)))
            exact ⟨⟨i + 1, rots + 1, D', by omega, by simp, by simp, HN2, hS⟩, by simp [intOf]; omega⟩
          · have he1 : (er == 0) = false := by rw [beq_eq_false_iff_ne]; exact he
            have HN2 := Lib.hid HN.out
            rw [if_neg he] at HN2
            clear HN he
            go_wp2_with (first | (go_at_call 14; (refine (HX.out _ _ hS).mono ?_; clear hS; rintro e w' ⟨rfl, hS⟩)))
            exact ⟨⟨i + 1, rots, D', by omega, by simp, rfl, HN2, hS⟩, by simp [intOf]; omega⟩
        · have hr1 : ¬ (rots : Int) < 2 := by omega
          have hRx := HRA.out
          go_wp2_with (first | ((with_reducible refine g_len ?_); refine wl_run rfl (by exact a_len rfl rfl rfl (hS.old0 hRx)) ?_))
          go_meet
          exact ⟨rots, D, rfl, HK, hS⟩
      · have hi2 : ¬ (i : Int) < ahead.length := by omega
        have hRx := HRA.out
        go_wp2_with (first | go_skip | ((with_reducible refine g_len ?_); refine wl_run rfl (by exact a_len rfl rfl rfl (hS.old0 hRx)) ?_))
        go_meet
        exact ⟨rots, D, rfl, HK, hS⟩
  case rest =>
    clear hS HKS HW1 HNW
    obtain ⟨rots, D, rfl, HK, hS⟩ := hcut
    obtain ⟨D1, ew, D2, f1, o1, w1, st1, l1, wr1, o2, hcase⟩ := HKW.out rots D HK.out
    have HFU := Lib.hid (fun (W : World) (M : List Ent) (hS : St [] w W (disk gd D :: M)) => disk_fuse hS fz hf1 hf2)
    rw [f1] at HFU
    have HWR := Lib.hid (fun (W : World) (M : List Ent) (hS : St [] w W (disk gd D1 :: M)) => supWrite_any hS o1 (by rw [w1]; decide) (by omega) T hTU)
    rw [wr1] at HWR
    clear f1 o1 w1 st1 l1 wr1 HK HKW HRA
    go_upto_if 98 with (first | ((with_reducible refine g_load ?_); refine wl_run rfl (by first | exact a_load1 hS rfl rfl rfl rfl (by (repeat (first | exact Ix.here | apply Ix.there))) (by rfl) | exact a_loadR hS rfl rfl rfl rfl (by (repeat (first | exact Ix.here | apply Ix.there))) (by rfl) | fail) ?_) | (go_at_call 21; (refine (HFU.out _ _ hS).mono ?_; clear hS; rintro e w' ⟨rfl, hS⟩)) | (go_at_call 12; (refine (HWR.out _ _ hS).mono ?_; clear hS; rintro e w' ⟨rfl, hS⟩)) | (go_at_call 22; refine (disk_on hS).mono ?_; rintro e w' ⟨rfl, rfl⟩) | fail)
    go_cut [] (fun wx => ∃ D3 : Dsk, Hid (KeepB s T ew rots D3) ∧ St [] w wx [disk gd D3, .row gs s.cells 28 (0, 0), .row gt T.cells 28 (0, 0)])
    case first =>
      cases hoff : D2.off
      · have KB : KeepB s T ew rots D2 := by
          rcases hcase with h | h
          · exact h.2
          · exact absurd h.1 (by rw [hoff]; simp)
        have HKB := Lib.hid KB
        clear KB hcase
        go_wp2_with (fail)
        go_meet
        exact ⟨D2, HKB, hS⟩
      · have h2 : ∀ picks, ∃ D3, D2.start picks = (0, D3) ∧ KeepB s T ew rots D3 := by
          rcases hcase with h | h
          · exact absurd h.1 (by rw [hoff]; simp)
          · exact h.2
        obtain ⟨D3, e3, KB⟩ := h2 picks
        have HST := Lib.hid (fun (W : World) (M : List Ent) (hS : St [] w W (disk gd D2 :: M)) => disk_start hS o2 vp picks (Reads.old HPP.out) hpk)
        rw [e3] at HST
        have HKB := Lib.hid KB
        clear KB hcase h2 e3
        go_wp2_with (fail)
        refine (HST.out _ _ hS).mono ?_
        clear hS
        rintro e w' ⟨rfl, hS⟩
        go_wp2_with (fail)
        go_meet
        exact ⟨D3, HKB, hS⟩
    case rest =>
      clear hS hcase HFU HWR o2 HPP hpk
      obtain ⟨D3, HK2, hS⟩ := hcut
      go_upto_block 2 with (fail)
      go_cut [15] (fun r wx => ∃ (rots : Nat) (D : Dsk), r = .int .i64 rots ∧ Hid (KeepB s T ew rots D) ∧ St [] w wx [disk gd D, .row gs s.cells 28 (0, 0), .row gt T.cells 28 (0, 0)])
      case first =>
        go_wp2_with (fail)
        go_loopw [15, 18] (fun r k wz => ∃ (i rots : Nat) (D : Dsk), i ≤ behind.length ∧ k = .int .i64 i ∧ r = .int .i64 rots ∧ Hid (KeepB s T ew rots D) ∧ St [] w wz [disk gd D, .row gs s.cells 28 (0, 0), .row gt T.cells 28 (0, 0)]) (fun _ k _ => behind.length - (intOf k).toNat)
        case atStart => exact ⟨0, rots, D3, by omega, rfl, rfl, HK2, hS⟩
        case round =>
          clear hS
          obtain ⟨i, rots, D, hi, rfl, rfl, HK, hS⟩ := hrel
          have hr2 := HK.out.rots
          by_cases hi1 : i < behind.length
          · have hi2 : (i : Int) < behind.length := by omega
            by_cases hr : rots < 2
            · have hr1 : (rots : Int) < 2 := by omega
              have hok := HK.out.inv.ok
              have hget0 : Hid (behind[i]? = some (nth behind i)) := Lib.hid (get_lt hi1)
              have HN := Lib.hid (keepB_step HK.out hr (nth behind i))
              have HX := Lib.hid (fun (W : World) (M : List Ent) (hS : St [] w W (disk gd D :: M)) => disk_rot hS hok (bits .and .i64 (nth behind i) 3) (bits .and .i64 (nth behind i / 4) 255) (wrap64 (1 + bits .and .i64 (nth behind i / 1024) 127)))
              obtain ⟨E, hE⟩ : ∃ E, rotX D (nth behind i) = E := ⟨_, rfl⟩
              have hE2 : D.rot (bits .and .i64 (nth behind i) 3) (bits .and .i64 (nth behind i / 4) 255) (wrap64 (1 + bits .and .i64 (nth behind i / 1024) 127)) = E := hE
              rw [hE] at HN
              rw [hE2] at HX
              obtain ⟨er, D'⟩ := E
              simp only at HN HX
              clear hE hE2 hok HK
              generalize nth behind i = x at hget0 HX
              have hRx := HRB.out
              go_wp2_with (first | ((with_reducible refine g_len ?_); refine wl_run rfl (by exact a_len rfl rfl rfl (hS.old0 hRx)) ?_))
              have hget := hget0.out
              (refine wp_region_tail 19 (by kernel_rfl) (by kernel_rfl) hS ?_; clear hS; intro w' hS; simp only [List.take_succ_cons, List.take_zero, List.drop_succ_cons, List.drop_zero]; (repeat (first | ((with_reducible refine s_index ?_); refine ws_run rfl (by exact a_index rfl rfl rfl rfl (hS.old0 hRx) (by rfl) (by omega) (by omega)) ?_; simp only [Act.put, List.setIfInBounds_toArray, List.set_cons_zero, List.set_cons_succ]) | ((with_reducible refine s_load ?_); refine ws_run rfl (by exact a_loadE rfl (hS.old0 hRx) rfl rfl rfl (by intro _; rfl) hget (by rfl)) ?_; simp only [Act.put, List.setIfInBounds_toArray, List.set_cons_zero, List.set_cons_succ]) | still_step)); refine wpStill_nil ?_)
              clear hget hRx
              by_cases he : er = 0
              · subst he
                have HN2 := Lib.hid HN.out
                rw [if_pos rfl] at HN2
                clear HN
                go_wp2_with (first | (go_at_call 14; (refine (HX.out _ _ hS).mono ?_; clear hS; rintro e w' ⟨rfl, hS⟩)))
                exact ⟨⟨i + 1, rots + 1, D', by omega, by simp, by simp, HN2, hS⟩, by simp [intOf]; omega⟩
              · have he1 : (er == 0) = false := by rw [beq_eq_false_iff_ne]; exact he
                have HN2 := Lib.hid HN.out
                rw [if_neg he] at HN2
                clear HN he
                go_wp2_with (first | (go_at_call 14; (refine (HX.out _ _ hS).mono ?_; clear hS; rintro e w' ⟨rfl, hS⟩)))
                exact ⟨⟨i + 1, rots, D', by omega, by simp, rfl, HN2, hS⟩, by simp [intOf]; omega⟩
            · have hr1 : ¬ (rots : Int) < 2 := by omega
              have hRx := HRB.out
              go_wp2_with (first | ((with_reducible refine g_len ?_); refine wl_run rfl (by exact a_len rfl rfl rfl (hS.old0 hRx)) ?_))
              go_meet
              exact ⟨rots, D, rfl, HK, hS⟩
          · have hi2 : ¬ (i : Int) < behind.length := by omega
            have hRx := HRB.out
            go_wp2_with (first | go_skip | ((with_reducible refine g_len ?_); refine wl_run rfl (by exact a_len rfl rfl rfl (hS.old0 hRx)) ?_))
            go_meet
            exact ⟨rots, D, rfl, HK, hS⟩
      case rest =>
        clear hS HK2 HRB
        obtain ⟨rots4, D4, rfl, HK4, hS⟩ := hcut
        obtain ⟨u, n, D5, D6, rd, hus, huu, fu, o5, w5, s5, l5, wr, o6, l6, rd2⟩ := HKE.out ew rots4 D4 HK4.out
        have h4 := HK4.out.inv.len
        have HRD1 := Lib.hid (fun (W : World) (M : List Ent) (hS : St [] w W (disk gd D4 :: M)) => supRead_any hS HK4.out.inv.ok (by omega))
        rw [rd] at HRD1
        have HFU := Lib.hid (fun (W : World) (M : List Ent) (hS : St [] w W (disk gd D4 :: M)) => disk_fuse hS 0 (by omega) (by omega))
        rw [fu] at HFU
        have HWR := Lib.hid (fun (W : World) (M : List Ent) (hS : St [] w W (disk gd D5 :: M)) => supWrite_any hS o5 (by rw [w5]; decide) (by omega) u huu)
        rw [wr] at HWR
        have HRD2 := Lib.hid (fun (W : World) (M : List Ent) (hS : St [] w W (disk gd D6 :: M)) => supRead_any hS o6 l6)
        rw [rd2] at HRD2
        have hqq : eqV Try.prog 4 28 (.agg u.cells.toArray) (.agg u.cells.toArray) = some true := by rw [eqSup, decide_eq_true rfl]
        clear rd fu wr rd2 o5 w5 s5 l5 o6 l6 h4 huu HK4 HKE
        rcases hus with ⟨hu, he⟩ | hu
        · have hq1 : eqV Try.prog 4 28 (.agg u.cells.toArray) (.agg s.cells.toArray) = some true := by rw [eqSup, decide_eq_true hu]
          have he1 : (ew == 0) = false := by rw [beq_eq_false_iff_ne]; exact he
          clear hu he
          go_wp2_with (first | go_skip | (first | (have q9 := ga; clear q9; ((with_reducible refine g_alloc ?_); refine wl_of rfl ?_; refine wp_alloc hS rfl rfl rfl rfl ?_; clear hS; intro gb w1 hS)) | ((with_reducible refine g_alloc ?_); refine wl_of rfl ?_; refine wp_alloc hS rfl rfl rfl rfl ?_; clear hS; intro ga w1 hS)) | ((with_reducible refine g_load ?_); refine wl_run rfl (by first | exact a_load1 hS rfl rfl rfl rfl (by (repeat (first | exact Ix.here | apply Ix.there))) (by rfl) | exact a_loadR hS rfl rfl rfl rfl (by (repeat (first | exact Ix.here | apply Ix.there))) (by rfl) | fail) ?_) | ((with_reducible refine g_store ?_); refine wl_of rfl ?_; refine a_storeA (vs := Sup.cells u) (cs' := Sup.cells u) hS rfl rfl rfl (by rfl) (sup_one _) (by (repeat (first | exact Sw.here | apply Sw.there))) (by exact Nat.le_refl 17) (by rfl) ?_; clear hS; intro w' hS) | (go_at_call 15; (refine (HRD1.out _ _ (hS.out (by first | ((repeat (first | exact Out.here | apply Out.there)); done) | fail))).mono ?_; clear hS; rintro e w' ⟨rfl, hS⟩)) | (go_at_call 15; (refine (HRD2.out _ _ (hS.out (by first | ((repeat (first | exact Out.here | apply Out.there)); done) | fail))).mono ?_; clear hS; rintro e w' ⟨rfl, hS⟩)) | (go_at_call 21; (refine (HFU.out _ _ (hS.out (by first | ((repeat (first | exact Out.here | apply Out.there)); done) | fail))).mono ?_; clear hS; rintro e w' ⟨rfl, hS⟩)) | (go_at_call 12; (refine (HWR.out _ _ (hS.out (by first | ((repeat (first | exact Out.here | apply Out.there)); done) | fail))).mono ?_; clear hS; rintro e w' ⟨rfl, hS⟩)) | ((with_reducible refine g_eql (t := 28) ?_); refine wl_run rfl (x_structEq rfl rfl rfl supGuard hqq) ?_) | ((with_reducible refine g_neqS (t := 28) ?_); refine wl_run rfl (x_structNe rfl rfl rfl supGuard hq1) ?_) | fail)
          go_ret
          exact ⟨rfl, hS.nil⟩
        · have hq1 : eqV Try.prog 4 28 (.agg u.cells.toArray) (.agg s.cells.toArray) = some false := by rw [eqSup, decide_eq_false (fun e => HNE.out (by rw [← e, ← hu]))]
          have hq2 : eqV Try.prog 4 28 (.agg u.cells.toArray) (.agg T.cells.toArray) = some true := by rw [eqSup, decide_eq_true hu]
          clear hu
          by_cases he : ew = 0
          · have he1 : (ew == 0) = true := by rw [he]; rfl
            clear he
            go_wp2_with (first | go_skip | (first | (have q9 := ga; clear q9; ((with_reducible refine g_alloc ?_); refine wl_of rfl ?_; refine wp_alloc hS rfl rfl rfl rfl ?_; clear hS; intro gb w1 hS)) | ((with_reducible refine g_alloc ?_); refine wl_of rfl ?_; refine wp_alloc hS rfl rfl rfl rfl ?_; clear hS; intro ga w1 hS)) | ((with_reducible refine g_load ?_); refine wl_run rfl (by first | exact a_load1 hS rfl rfl rfl rfl (by (repeat (first | exact Ix.here | apply Ix.there))) (by rfl) | exact a_loadR hS rfl rfl rfl rfl (by (repeat (first | exact Ix.here | apply Ix.there))) (by rfl) | fail) ?_) | ((with_reducible refine g_store ?_); refine wl_of rfl ?_; refine a_storeA (vs := Sup.cells u) (cs' := Sup.cells u) hS rfl rfl rfl (by rfl) (sup_one _) (by (repeat (first | exact Sw.here | apply Sw.there))) (by exact Nat.le_refl 17) (by rfl) ?_; clear hS; intro w' hS) | (go_at_call 15; (refine (HRD1.out _ _ (hS.out (by first | ((repeat (first | exact Out.here | apply Out.there)); done) | fail))).mono ?_; clear hS; rintro e w' ⟨rfl, hS⟩)) | (go_at_call 15; (refine (HRD2.out _ _ (hS.out (by first | ((repeat (first | exact Out.here | apply Out.there)); done) | fail))).mono ?_; clear hS; rintro e w' ⟨rfl, hS⟩)) | (go_at_call 21; (refine (HFU.out _ _ (hS.out (by first | ((repeat (first | exact Out.here | apply Out.there)); done) | fail))).mono ?_; clear hS; rintro e w' ⟨rfl, hS⟩)) | (go_at_call 12; (refine (HWR.out _ _ (hS.out (by first | ((repeat (first | exact Out.here | apply Out.there)); done) | fail))).mono ?_; clear hS; rintro e w' ⟨rfl, hS⟩)) | ((with_reducible refine g_eql (t := 28) ?_); refine wl_run rfl (x_structEq rfl rfl rfl supGuard hqq) ?_) | ((with_reducible refine g_neqS (t := 28) ?_); refine wl_run rfl (x_structNe rfl rfl rfl supGuard hq1) ?_) | ((with_reducible refine g_neqS (t := 28) ?_); refine wl_run rfl (x_structNe rfl rfl rfl supGuard hq2) ?_) | fail)
            go_ret
            exact ⟨rfl, hS.nil⟩
          · have he1 : (ew == 0) = false := by rw [beq_eq_false_iff_ne]; exact he
            clear he
            go_wp2_with (first | go_skip | (first | (have q9 := ga; clear q9; ((with_reducible refine g_alloc ?_); refine wl_of rfl ?_; refine wp_alloc hS rfl rfl rfl rfl ?_; clear hS; intro gb w1 hS)) | ((with_reducible refine g_alloc ?_); refine wl_of rfl ?_; refine wp_alloc hS rfl rfl rfl rfl ?_; clear hS; intro ga w1 hS)) | ((with_reducible refine g_load ?_); refine wl_run rfl (by first | exact a_load1 hS rfl rfl rfl rfl (by (repeat (first | exact Ix.here | apply Ix.there))) (by rfl) | exact a_loadR hS rfl rfl rfl rfl (by (repeat (first | exact Ix.here | apply Ix.there))) (by rfl) | fail) ?_) | ((with_reducible refine g_store ?_); refine wl_of rfl ?_; refine a_storeA (vs := Sup.cells u) (cs' := Sup.cells u) hS rfl rfl rfl (by rfl) (sup_one _) (by (repeat (first | exact Sw.here | apply Sw.there))) (by exact Nat.le_refl 17) (by rfl) ?_; clear hS; intro w' hS) | (go_at_call 15; (refine (HRD1.out _ _ (hS.out (by first | ((repeat (first | exact Out.here | apply Out.there)); done) | fail))).mono ?_; clear hS; rintro e w' ⟨rfl, hS⟩)) | (go_at_call 15; (refine (HRD2.out _ _ (hS.out (by first | ((repeat (first | exact Out.here | apply Out.there)); done) | fail))).mono ?_; clear hS; rintro e w' ⟨rfl, hS⟩)) | (go_at_call 21; (refine (HFU.out _ _ (hS.out (by first | ((repeat (first | exact Out.here | apply Out.there)); done) | fail))).mono ?_; clear hS; rintro e w' ⟨rfl, hS⟩)) | (go_at_call 12; (refine (HWR.out _ _ (hS.out (by first | ((repeat (first | exact Out.here | apply Out.there)); done) | fail))).mono ?_; clear hS; rintro e w' ⟨rfl, hS⟩)) | ((with_reducible refine g_eql (t := 28) ?_); refine wl_run rfl (x_structEq rfl rfl rfl supGuard hqq) ?_) | ((with_reducible refine g_neqS (t := 28) ?_); refine wl_run rfl (x_structNe rfl rfl rfl supGuard hq1) ?_) | ((with_reducible refine g_neqS (t := 28) ?_); refine wl_run rfl (x_structNe rfl rfl rfl supGuard hq2) ?_) | fail)
            go_ret
            exact ⟨rfl, hS.nil⟩
end
end Go.Proofs.Ytbfdnpahojoccaa
