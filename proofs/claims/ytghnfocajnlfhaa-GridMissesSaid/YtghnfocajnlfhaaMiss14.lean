/-
  Just what has rotted is missing; put anew, the text is loaded: GridMisses returns true.
-/
import Derived.Test.YtghnfocajnlfhaaMiss14S
import Derived.Test.YtghnfocajnlfhaaGen
import Derived.Deep.DeepCutAuto
import Derived.Deep.CutBlock
set_option linter.unusedSimpArgs false
set_option linter.unusedVariables false
set_option linter.unusedSectionVars false
set_option maxRecDepth 100000
namespace Go.Proofs.Ytghnfocajnlfhaa
open Go.RowKit Go.Cmp

section
theorem mask_small14 (x : Int) : 1 ≤ wrap64 (1 + bits .and .i64 x 127) ∧ wrap64 (1 + bits .and .i64 x 127) ≤ 128 := by
  have h := and_small14 x 127 (by omega)
  have e : (((127 : Nat) : Int)) = 127 := rfl
  rw [e] at h
  unfold wrap64
  omega
theorem rem_small14 (x : Int) (c : Nat) (hc : 0 < c) : ∃ k : Nat, k < c ∧ (bits .and .i64 x 7).tmod (c : Int) = (k : Int) := by
  have h := and_small14 x 7 (by omega)
  rw [show ((7 : Nat) : Int) = 7 from rfl] at h
  obtain ⟨n, hn⟩ := Int.eq_ofNat_of_zero_le h.1
  refine ⟨n % c, Nat.mod_lt _ hc, ?_⟩
  rw [hn]
  rfl
set_option maxHeartbeats 4000000 in
theorem gridSums_long (s : List UInt8) (hlong : 1920 < s.length) (w : World) :
    Calls Try.prog 8 #[.string ⟨s.toArray⟩] w fun e w' => e = .returned (.tuple #[.agg zero6.toArray, .int .i64 5]) ∧ St [] w w' [] := by
  have hS := St.init w
  have h1 : (1920 : Int) < s.length := by omega
  clear hlong
  (go_enter Try.func8, Try.ntmps8)
  go_wp2_with (first | go_skip | (first | (have q9 := gz; clear q9; ((with_reducible refine g_alloc ?_); refine wl_of rfl ?_; refine wp_alloc hS rfl rfl rfl rfl ?_; clear hS; intro ga w1 hS)) | ((with_reducible refine g_alloc ?_); refine wl_of rfl ?_; refine wp_alloc hS rfl rfl rfl rfl ?_; clear hS; intro gz w1 hS)) | ((with_reducible refine g_load ?_); refine wl_run rfl (by first | exact a_load1 hS rfl rfl rfl rfl (by (repeat (first | exact Ix.here | apply Ix.there))) (by rfl) | exact a_loadR hS rfl rfl rfl rfl (by (repeat (first | exact Ix.here | apply Ix.there))) (by rfl) | fail) ?_) | (refine au5 (n := ?_); clear hS; intro w' hS) | fail)
  exact end_cell2 hS rfl rfl rfl rfl rfl rfl (h := ⟨rfl, hS.nil⟩)
set_option maxHeartbeats 32000000 in
theorem law_misses14 (s : List UInt8) (ar : Int) (vp : Value) (rots : List Int) (w : World)
    (hP : Rd w 1 vp rots.length (rots.flatMap num)) :
    Calls Try.prog 3 #[.string ⟨s.toArray⟩, .int .i64 ar, vp] w fun e w' => e = .returned (.bool true) ∧ St [] w w' [] := by
  have hS := St.init w
  have hrl : rots.length ≤ 9223372036854775807 := by
    obtain ⟨_, p, cap, _, h2, h3, _⟩ := hP
    have : maxLen = 9223372036854775807 := rfl
    omega
  have HPP := Lib.hid hP
  clear hP
  have HAW := Lib.hid (fun w => awake14 w)
  obtain ⟨D0, h0⟩ : ∃ D0, newDsk 32 = D0 := ⟨_, rfl⟩
  have HNW := Lib.hid (fun (w0 w : World) (M : List Ent) (hS : St [] w0 w M) => disk_new 32 (by omega) (by omega) hS)
  rw [h0] at HNW
  have ok0 : D0.Ok := by rw [← h0]; exact newDsk_ok 32 (by omega)
  obtain ⟨n1, n2, n3, n4, n5⟩ := newDsk_is 32
  rw [h0] at n1 n2 n3 n4 n5
  obtain ⟨a, ha, hea⟩ := bit_one ar
  have HEA := Lib.hid hea
  by_cases hl : 1920 < s.length
  · have hl1 : (1920 : Int) < s.length := by omega
    have HSU := Lib.hid (fun w => gridSums_long s hl w)
    clear hl n1 n2 n3 n4 n5 ok0 h0 ha hea
    (go_enter Try.func3, Try.ntmps3)
    go_wp2_with (first | go_skip | go_skip | (go_at_call 6; refine (HAW.out _).mono ?_; rintro e w' ⟨rfl, h⟩; replace hS := hS.call h; clear h) | (go_at_call 7; refine (HNW.out _ _ _ hS).mono ?_; clear hS; rintro e w' ⟨gd, rfl, hS⟩) | ((with_reducible refine g_load ?_); refine wl_run rfl (by first | exact a_load1 hS rfl rfl rfl rfl (by (repeat (first | exact Ix.here | apply Ix.there))) (by rfl) | exact a_loadR hS rfl rfl rfl rfl (by (repeat (first | exact Ix.here | apply Ix.there))) (by rfl) | fail) ?_) | ((with_reducible refine g_alloc ?_); refine wl_of rfl ?_; refine wp_alloc hS rfl rfl rfl rfl ?_; clear hS; intro ga w1 hS) | ((with_reducible refine g_store ?_); refine wl_of rfl ?_; refine a_storeA (vs := zero6) (cs' := zero6) hS rfl rfl rfl (by rfl) (by decide) (by (repeat (first | exact Sw.here | apply Sw.there))) (by exact Nat.le_refl 6) (by rfl) ?_; clear hS; intro w' hS) | (go_at_call 8; refine (HSU.out _).mono ?_; rintro e w' ⟨rfl, h⟩; replace hS := hS.call h; clear h) | fail)
    go_ret
    exact ⟨rfl, hS.nil⟩
  have hl1 : ¬ (1920 : Int) < s.length := by omega
  have hs : s.length ≤ 1920 := by omega
  have HSU := Lib.hid (fun w => gridSums_any s (by omega) w)
  have HW := Lib.hid (fun (w0 w : World) (M : List Ent) (g : Nat) (hS : St [] w0 w (disk g D0 :: M)) => gridWrite_any hS ok0 (by rw [n2]; decide) (by rw [n4]; decide) a ha s (by omega))
  obtain ⟨h1, h2, h3, h4⟩ := (write_holds n1 n5 n2 ha (s := s) (by omega) (by rw [n3]; decide)).resolve_right (fun q => q.2.1 n3)
  have ok1 := gWrite_ok ok0 (by rw [n2]; decide) (by rw [n4]; decide) a s
  obtain ⟨D1, hd1⟩ : ∃ D1, (gWrite D0 a s).2 = D1 := ⟨_, rfl⟩
  rw [h1, hd1] at HW
  rw [hd1] at h2 h3 h4 ok1
  rw [n4] at h4
  have hc6 : cntG s.length ≤ 6 := by unfold cntG; omega
  have HST := Lib.hid (rotG_start h2 ok1.1 (h3 n3) (by omega))
  have HSTEP := Lib.hid (fun (D : Dsk) (B : List Bool) (h : RotG D a s B) (k : Nat) (hk : k < cntG s.length) (c m : Int) (h1 : 0 ≤ c) (h2 : c < 384) (h3 : 1 ≤ m) (h4 : m ≤ 255) => rotG_step h ha hs hk h1 h2 h3 h4)
  have HLT := Lib.hid (fun (D : Dsk) (B : List Bool) (h : RotG D a s B) => wantB_lt h)
  have HLD := Lib.hid (fun (G : Dsk) (B : List Bool) (hG : RotG G a s B) (w0 w : World) (M : List Ent) (g : Nat) (hS : St [] w0 w (disk g G :: M)) => by
    have h := gridLoad_any hS hG.on.ok hG.on.off hG.on.len a ha s.length (by omega) (sumsN s) (by simp [sumsN]) (sumsV s) (sumsV_N s)
    rw [rotG_load hG ha hs] at h
    exact h)
  have HLE := Lib.hid (fun (G : Dsk) (hG : On14 G) (hH : HoldsG G a s) (w0 w : World) (M : List Ent) (g : Nat) (hS : St [] w0 w (disk g G :: M)) => by
    have h := gridLoad_any hS hG.ok hG.off hG.len a ha s.length (by omega) (sumsN s) (by simp [sumsN]) (sumsV s) (sumsV_N s)
    rw [load_holds hH ha hs] at h
    exact h)
  have HPUT := Lib.hid (fun (D : Dsk) (W : List Nat) (j : Nat) (h : PutG D a s W j) (hj : j < W.length) (hj6 : j ≤ 6) (hW : ∀ i ∈ W, i < cntG s.length) => putG_step h ha hs hj hj6 hW)
  have HGP := Lib.hid (fun (D : Dsk) (W : List Nat) (j : Nat) (h : PutG D a s W j) (hj6 : j ≤ 6) (i : Nat) (hi : i < 6) (S : List Nat) (w0 w : World) (M : List Ent) (g : Nat) (hS : St S w0 w (disk g D :: M)) =>
    gridPut_any hS h.on.ok (by rw [h.on.way]; decide) (by have := h.steps; omega) a i ha hi (piece s i) (by have := piece_len s i; omega))
  have HPI := Lib.hid (fun (i : Nat) (hi : i < cntG s.length) (w : World) => piece14_any s (by omega) i hi w)
  have HCO := Lib.hid (fun w => count14_any s.length (by omega) w)
  rw [gSums_ok (by omega)] at HSU
  have ho1 := sums_one s
  have hsv : sumsV s = [.int .u64 (sumG s 0), .int .u64 (sumG s 1), .int .u64 (sumG s 2), .int .u64 (sumG s 3), .int .u64 (sumG s 4), .int .u64 (sumG s 5)] := rfl
  rw [hsv] at HSU HLD HLE ho1
  have HO1 := Lib.hid ho1
  clear hl n1 n2 n3 n4 n5 ok0 h0 hea ok1 hd1 ho1 hsv h1 h2 h3 h4
  (go_enter Try.func3, Try.ntmps3)
  go_upto_region 7 with (first | (go_at_call 6; refine (HAW.out _).mono ?_; rintro e w' ⟨rfl, h⟩; replace hS := hS.call h; clear h) | (go_at_call 7; refine (HNW.out _ _ _ hS).mono ?_; clear hS; rintro e w' ⟨gd, rfl, hS⟩) | fail)
  rw [HEA.out]
  go_upto_region 12 with (first | go_skip | ((with_reducible refine g_load ?_); refine wl_run rfl (by first | exact a_load1 hS rfl rfl rfl rfl (by (repeat (first | exact Ix.here | apply Ix.there))) (by rfl) | exact a_loadR hS rfl rfl rfl rfl (by (repeat (first | exact Ix.here | apply Ix.there))) (by rfl) | fail) ?_) | ((with_reducible refine g_alloc ?_); refine wl_of rfl ?_; refine wp_alloc hS rfl rfl rfl rfl ?_; clear hS; intro ga w1 hS) | ((with_reducible refine g_store ?_); refine wl_of rfl ?_; refine a_storeA (vs := [.int .u64 (sumG s 0), .int .u64 (sumG s 1), .int .u64 (sumG s 2), .int .u64 (sumG s 3), .int .u64 (sumG s 4), .int .u64 (sumG s 5)]) (cs' := [.int .u64 (sumG s 0), .int .u64 (sumG s 1), .int .u64 (sumG s 2), .int .u64 (sumG s 3), .int .u64 (sumG s 4), .int .u64 (sumG s 5)]) hS rfl rfl rfl (by rfl) HO1.out (by (repeat (first | exact Sw.here | apply Sw.there))) (by exact Nat.le_refl 6) (by rfl) ?_; clear hS; intro w' hS) | (go_at_call 8; refine (HSU.out _).mono ?_; rintro e w' ⟨rfl, h⟩; replace hS := hS.call h; clear h) | (go_at_call 9; (refine (HW.out _ _ _ _ (hS.out (by first | ((repeat (first | exact Out.here | apply Out.there)); done) | fail))).mono ?_; clear hS; rintro e w' ⟨rfl, hS⟩)) | (go_at_call 10; refine (HCO.out _).mono ?_; rintro e w' ⟨rfl, rfl⟩) | ((with_reducible refine g_make ?_); refine wl_of rfl ?_; refine a_make hS rfl rfl rfl rfl (by rfl) rfl (by omega) (by omega) ?_; clear hS; intro vb w' hS) | fail)
  clear HW HSU HNW HAW
  replace hS : St [] w _ [.vec vb 4 1 noneB.length (noneB.flatMap bl), disk gd D1, .row ga [.int .u64 (sumG s 0), .int .u64 (sumG s 1), .int .u64 (sumG s 2), .int .u64 (sumG s 3), .int .u64 (sumG s 4), .int .u64 (sumG s 5)] 29 (0, 0)] := hS.pick
  go_upto_block 0 with (fail)
  go_cut [] (fun wx => ∃ (D : Dsk) (B : List Bool), Hid (RotG D a s B) ∧ St [] w wx [.vec vb 4 1 B.length (B.flatMap bl), disk gd D, .row ga [.int .u64 (sumG s 0), .int .u64 (sumG s 1), .int .u64 (sumG s 2), .int .u64 (sumG s 3), .int .u64 (sumG s 4), .int .u64 (sumG s 5)] 29 (0, 0)])
  case first =>
    clear HLD HLE HPUT HGP HPI HCO HLT
    go_wp2_with (fail)
    go_loopw [13, 14] (fun k kk wz => ∃ (i : Nat) (D : Dsk) (B : List Bool), i ≤ 12 ∧ k = .int .i64 i ∧ Hid (RotG D a s B) ∧ St [] w wz [.vec vb 4 1 B.length (B.flatMap bl), disk gd D, .row ga [.int .u64 (sumG s 0), .int .u64 (sumG s 1), .int .u64 (sumG s 2), .int .u64 (sumG s 3), .int .u64 (sumG s 4), .int .u64 (sumG s 5)] 29 (0, 0)]) (fun k _ _ => 12 - (intOf k).toNat)
    case atStart => exact ⟨0, D1, noneB, by omega, rfl, HST, hS⟩
    case round =>
      clear hS HST
      obtain ⟨i, D, B, hi, rfl, HR, hS⟩ := hrel
      have hRx := HPP.out
      by_cases hi1 : i < rots.length
      · have hi2 : (i : Int) < rots.length := by omega
        by_cases hi3 : i < 12
        · have hi4 : (i : Int) < 12 := by omega
          by_cases hc0 : 0 < cntG s.length
          · have hc1 : (0 : Int) < ((cntG s.length : Nat) : Int) := by omega
            have hget0 := Lib.hid (get_lt hi1)
            have HS2 := Lib.hid (HSTEP.out D B HR.out)
            have hok := HR.out.on.ok
            have hbl := HR.out.len
            generalize nth rots i = x at hget0
            obtain ⟨k, hk, hke⟩ := rem_small14 x (cntG s.length) hc0
            have HKE := Lib.hid hke
            have hc := and_small14 (x / 8) 255 (by omega)
            have hm := mask_small14 (x / 2048)
            obtain ⟨er, E, re, hEo, hE⟩ := HS2.out k hk (bits .and .i64 (x / 8) 255) (wrap64 (1 + bits .and .i64 (x / 2048) 127)) (by exact hc.1) (by have : bits .and .i64 (x / 8) 255 ≤ 255 := hc.2; omega) hm.1 (by omega)
            have HX := Lib.hid (fun (W : World) (M : List Ent) (hS : St [] w W (disk gd D :: M)) => disk_rot hS hok ((secN a k : Nat) : Int) (bits .and .i64 (x / 8) 255) (wrap64 (1 + bits .and .i64 (x / 2048) 127)))
            rw [re, show ((secN a k : Nat) : Int) = 20 + 6 * (a : Int) + (k : Int) from by unfold secN; omega] at HX
            have HE := Lib.hid hE
            have hka : (a : Int) < 2 := by omega
            have hkk : (k : Int) < 6 := by omega
            clear hke hc hm re hE HS2
            have hget := hget0.out
            go_wp2_with (first | go_skip | ((with_reducible refine g_len ?_); refine wl_run rfl (by exact a_len rfl rfl rfl (hS.old0 hRx)) ?_) | ((with_reducible refine g_index ?_); refine wl_run rfl (by exact a_index rfl rfl rfl rfl (hS.old0 hRx) (by rfl) (by omega) (by omega)) ?_) | ((with_reducible refine g_load ?_); refine wl_run rfl (by exact a_loadE rfl (hS.old0 hRx) rfl rfl rfl (by intro _; rfl) hget (by rfl)) ?_) | fail)
            rw [HKE.out]
            (refine wp_region_tail 19 (by kernel_rfl) (by kernel_rfl) hS ?_; clear hS; intro w' hS; simp only [List.take_succ_cons, List.take_zero, List.drop_succ_cons, List.drop_zero]; (repeat (first | ((with_reducible refine s_index ?_); refine ws_run rfl (by exact a_index rfl rfl rfl rfl (hS.old0 hRx) (by rfl) (by omega) (by omega)) ?_; simp only [Act.put, List.setIfInBounds_toArray, List.set_cons_zero, List.set_cons_succ]) | ((with_reducible refine s_load ?_); refine ws_run rfl (by exact a_loadE rfl (hS.old0 hRx) rfl rfl rfl (by intro _; rfl) hget (by rfl)) ?_; simp only [Act.put, List.setIfInBounds_toArray, List.set_cons_zero, List.set_cons_succ]) | still_step)); refine wpStill_nil ?_)
            clear hget hRx HKE
            by_cases he : er = 0
            · subst he
              have HE2 := Lib.hid ((HE.out.resolve_right (fun q => q.1 rfl)).2)
              clear HE
              go_wp2_with (first | (go_at_call 11; (refine (HX.out _ _ (hS.out (by first | ((repeat (first | exact Out.here | apply Out.there)); done) | fail))).mono ?_; clear hS; rintro e w' ⟨rfl, hS⟩)) | ((with_reducible refine g_index ?_); refine wl_run rfl (by exact a_index rfl rfl rfl rfl (hS.rdx (by (repeat (first | exact Ix.here | apply Ix.there)))) (by rfl) (by omega) (by omega)) ?_) | ((with_reducible refine g_store ?_); refine wl_of rfl ?_; refine k_ste (v := .bool true) hS rfl rfl rfl (h := ?_); clear hS; intro w' hS) | fail)
              replace hS : St [] w _ [.vec vb 4 1 (B.set k true).length ((B.set k true).flatMap bl), disk gd E, .row ga [.int .u64 (sumG s 0), .int .u64 (sumG s 1), .int .u64 (sumG s 2), .int .u64 (sumG s 3), .int .u64 (sumG s 4), .int .u64 (sumG s 5)] 29 (0, 0)] := hS.pick
              exact ⟨⟨i + 1, E, B.set k true, by omega, by simp, HE2, hS⟩, by simp [intOf]; omega⟩
            · have he1 : (er == 0) = false := by rw [beq_eq_false_iff_ne]; exact he
              have HE2 := Lib.hid ((HE.out.resolve_left (fun q => he q.1)).2)
              clear HE he
              go_wp2_with (first | (go_at_call 11; (refine (HX.out _ _ (hS.out (by first | ((repeat (first | exact Out.here | apply Out.there)); done) | fail))).mono ?_; clear hS; rintro e w' ⟨rfl, hS⟩)) | fail)
              exact ⟨⟨i + 1, E, B, by omega, by simp, HE2, hS.pick⟩, by simp [intOf]; omega⟩
          · have hc1 : ¬ (0 : Int) < ((cntG s.length : Nat) : Int) := by omega
            go_wp2_with (first | go_skip | ((with_reducible refine g_len ?_); refine wl_run rfl (by exact a_len rfl rfl rfl (hS.old0 hRx)) ?_) | fail)
            go_meet
            exact ⟨D, B, HR, hS⟩
        · have hi4 : ¬ (i : Int) < 12 := by omega
          go_wp2_with (first | go_skip | ((with_reducible refine g_len ?_); refine wl_run rfl (by exact a_len rfl rfl rfl (hS.old0 hRx)) ?_) | fail)
          go_meet
          exact ⟨D, B, HR, hS⟩
      · have hi2 : ¬ (i : Int) < rots.length := by omega
        go_wp2_with (first | go_skip | ((with_reducible refine g_len ?_); refine wl_run rfl (by exact a_len rfl rfl rfl (hS.old0 hRx)) ?_) | fail)
        go_meet
        exact ⟨D, B, HR, hS⟩
  case rest =>
    clear hS HST HSTEP HPP
    obtain ⟨D, B, HR, hS⟩ := hcut
    have HL1 := Lib.hid (HLD.out D B HR.out)
    obtain ⟨tt, htt⟩ : ∃ tt, (if wantB B 6 = [] then s else []) = tt := ⟨_, rfl⟩
    rw [htt] at HL1
    have HTT := Lib.hid htt
    clear htt
    have hbl := HR.out.len
    have hwl := wantB_len B 6
    go_wp2_with (first | ((with_reducible refine g_load ?_); refine wl_run rfl (by first | exact a_load1 hS rfl rfl rfl rfl (by (repeat (first | exact Ix.here | apply Ix.there))) (by rfl) | exact a_loadR hS rfl rfl rfl rfl (by (repeat (first | exact Ix.here | apply Ix.there))) (by rfl) | fail) ?_) | fail)
    refine (HL1.out _ _ _ _ (hS.pick : St [] w _ [disk gd D, .vec vb 4 1 B.length (B.flatMap bl), .row ga [.int .u64 (sumG s 0), .int .u64 (sumG s 1), .int .u64 (sumG s 2), .int .u64 (sumG s 3), .int .u64 (sumG s 4), .int .u64 (sumG s 5)] 29 (0, 0)])).mono ?_
    clear hS HL1 HLD
    rintro _ w' ⟨v, rfl, hS⟩
    go_wp2_with (first | ((with_reducible refine g_bs ?_); refine wl_of rfl ?_; refine a_build0 (k := 1) hS rfl rfl (by rfl) ?_; clear hS; intro vm w' hS) | fail)
    replace hS : St [] w _ [.vec vm 3 1 (wantB B 0).length ((wantB B 0).flatMap natI), .vec v 3 1 (wantB B 6).length ((wantB B 6).flatMap natI), .vec vb 4 1 B.length (B.flatMap bl), disk gd D, .row ga [.int .u64 (sumG s 0), .int .u64 (sumG s 1), .int .u64 (sumG s 2), .int .u64 (sumG s 3), .int .u64 (sumG s 4), .int .u64 (sumG s 5)] 29 (0, 0)] := hS.pick
    go_loopw [18, 19] (fun m k wz => ∃ i : Nat, i ≤ 6 ∧ k = .int .i64 i ∧ St [] w wz [.vec m 3 1 (wantB B i).length ((wantB B i).flatMap natI), .vec v 3 1 (wantB B 6).length ((wantB B 6).flatMap natI), .vec vb 4 1 B.length (B.flatMap bl), disk gd D, .row ga [.int .u64 (sumG s 0), .int .u64 (sumG s 1), .int .u64 (sumG s 2), .int .u64 (sumG s 3), .int .u64 (sumG s 4), .int .u64 (sumG s 5)] 29 (0, 0)]) (fun _ k _ => 6 - (intOf k).toNat)
    case atStart => exact ⟨0, by omega, rfl, hS⟩
    case round =>
      clear hS
      obtain ⟨i, hi, rfl, hS⟩ := hrel
      have hwi := wantB_len B i
      by_cases hi1 : i < 6
      · have hi2 : (i : Int) < 6 := by omega
        have hget := get_lt (L := B) (show i < B.length by omega)
        have HWS := Lib.hid (wantB_snoc B i)
        generalize nth B i = b at hget HWS
        cases b
        · go_wp2_with (first | ((with_reducible refine g_index ?_); refine wl_run rfl (by exact a_index rfl rfl rfl rfl (hS.rdx (by (repeat (first | exact Ix.here | apply Ix.there)))) (by rfl) (by omega) (by omega)) ?_) | ((with_reducible refine g_load ?_); refine wl_run rfl (by exact a_loadE (L := B) (f := bl) rfl (hS.rdx (by (repeat (first | exact Ix.here | apply Ix.there)))) rfl rfl rfl (by intro _; rfl) hget (by rfl)) ?_) | fail)
          exact ⟨⟨i + 1, by omega, by simp, by rw [HWS.out]; exact hS⟩, by simp [intOf]; omega⟩
        · go_wp2_with (first | ((with_reducible refine g_index ?_); refine wl_run rfl (by exact a_index rfl rfl rfl rfl (hS.rdx (by (repeat (first | exact Ix.here | apply Ix.there)))) (by rfl) (by omega) (by omega)) ?_) | ((with_reducible refine g_load ?_); refine wl_run rfl (by exact a_loadE (L := B) (f := bl) rfl (hS.rdx (by (repeat (first | exact Ix.here | apply Ix.there)))) rfl rfl rfl (by intro _; rfl) hget (by rfl)) ?_) | ((with_reducible refine g_bs ?_); refine wl_of rfl ?_; refine a_build1 (v := .int .i64 (i : Int)) (cs := natI i) hS rfl rfl rfl rfl (by rfl) (by show 1 ≤ 16777216; omega) ?_; clear hS; intro vq w' hS) | ((with_reducible refine g_append ?_); refine wl_of rfl ?_; refine k_app (z := i) (f := natI) (L := wantB B i) (k := 1) hS rfl rfl rfl rfl (hR := by exact hS.rdx Ix.here) (h1 := by simp [natI, Value.oneCell']) (h := ?_); clear hS; intro va w' hS hv2) | fail)
          exact ⟨⟨i + 1, by omega, by simp, by rw [HWS.out]; exact hS.pick⟩, by simp [intOf]; omega⟩
      · obtain rfl : i = 6 := by omega
        have hi2 : ¬ ((6 : Nat) : Int) < 6 := by omega
        have HLT2 := Lib.hid (HLT.out D B HR.out)
        have HPS := Lib.hid (putG_start HR.out)
        have hlen : s.length ≤ 1920 := by omega
        have hne : wantB B 6 ≠ [] → s ≠ [] := fun h e => by
          obtain ⟨i, hi⟩ := List.exists_mem_of_ne_nil _ h
          have := HLT2.out i hi
          rw [e] at this
          exact absurd this (by simp [cntG])
        clear hi hi1 HLT HR hbl hwi
        generalize wantB B 6 = WW at hS HTT HLT2 HPS hne hwl
        have HSA := Lib.hid (fun (wz : World) (M : List Ent) (hS : St [] w wz (.vec v 3 1 WW.length (WW.flatMap natI) :: .vec u18 3 1 WW.length (WW.flatMap natI) :: M)) => by
          have h := same14_any hS (by omega) (by omega)
          rw [decide_eq_true (rfl : WW = WW)] at h
          exact h)
        have hwl6 : WW.length ≤ 6 := hwl
        have hon := HPS.out.on
        by_cases hW : WW = []
        · subst hW
          have e1 : s = tt := by have := HTT.out; rwa [if_pos rfl] at this
          subst e1
          have HE2 := Lib.hid (HLE.out D hon (putG_end HPS.out))
          clear HTT HLE HPUT HGP HPI HPS hon hne HLT2
          go_wp2_with (fail)
          refine (HSA.out _ [.vec vb 4 1 B.length (B.flatMap bl), disk gd D, .row ga [.int .u64 (sumG s 0), .int .u64 (sumG s 1), .int .u64 (sumG s 2), .int .u64 (sumG s 3), .int .u64 (sumG s 4), .int .u64 (sumG s 5)] 29 (0, 0)] (by exact hS.pick)).mono ?_
          clear hS
          rintro _ w' ⟨rfl, hS⟩
          go_wp2_with (first | go_skip | ((with_reducible refine g_len ?_); refine wl_run rfl (by exact a_len rfl rfl rfl (hS.rdx (by (repeat (first | exact Ix.here | apply Ix.there))))) ?_) | fail)
          replace hS : St [] w _ [.vec v 3 1 ([] : List Nat).length (([] : List Nat).flatMap natI), disk gd D, .row ga [.int .u64 (sumG s 0), .int .u64 (sumG s 1), .int .u64 (sumG s 2), .int .u64 (sumG s 3), .int .u64 (sumG s 4), .int .u64 (sumG s 5)] 29 (0, 0)] := hS.pick
          have h0 : True := trivial
          go_loopw [20] (fun k wz => k = .int .i64 0 ∧ St [] w wz [.vec v 3 1 ([] : List Nat).length (([] : List Nat).flatMap natI), disk gd D, .row ga [.int .u64 (sumG s 0), .int .u64 (sumG s 1), .int .u64 (sumG s 2), .int .u64 (sumG s 3), .int .u64 (sumG s 4), .int .u64 (sumG s 5)] 29 (0, 0)]) (fun _ _ => 0)
          case atStart => exact ⟨rfl, hS⟩
          case round =>
            clear hS
            obtain ⟨rfl, hS⟩ := hrel
            go_wp2_with (first | go_skip | ((with_reducible refine g_len ?_); refine wl_run rfl (by exact a_len rfl rfl rfl (hS.rdx (by (repeat (first | exact Ix.here | apply Ix.there))))) ?_) | ((with_reducible refine g_load ?_); refine wl_run rfl (by first | exact a_load1 hS rfl rfl rfl rfl (by (repeat (first | exact Ix.here | apply Ix.there))) (by rfl) | exact a_loadR hS rfl rfl rfl rfl (by (repeat (first | exact Ix.here | apply Ix.there))) (by rfl) | fail) ?_) | fail)
            refine (HE2.out _ _ _ _ (hS.pick : St [] w _ [disk gd D, .row ga [.int .u64 (sumG s 0), .int .u64 (sumG s 1), .int .u64 (sumG s 2), .int .u64 (sumG s 3), .int .u64 (sumG s 4), .int .u64 (sumG s 5)] 29 (0, 0)])).mono ?_
            clear hS
            rintro _ w' ⟨v2, rfl, hS⟩
            go_wp2_with (first | go_skip | ((with_reducible refine g_len ?_); refine wl_run rfl (by exact a_len rfl rfl rfl (hS.rdx (by (repeat (first | exact Ix.here | apply Ix.there))))) ?_) | fail)
            go_ret
            exact ⟨rfl, hS.nil⟩
        · have e1 : tt = [] := by have := HTT.out; rw [if_neg hW] at this; exact this.symm
          subst e1
          have hse := hne hW
          have hem : s.isEmpty = false := by simpa using hse
          have hwn : ((WW.length : Int) == 0) = false := by have := List.length_pos_iff.2 hW; simp; omega
          go_wp2_with (fail)
          refine (HSA.out _ [.vec vb 4 1 B.length (B.flatMap bl), disk gd D, .row ga [.int .u64 (sumG s 0), .int .u64 (sumG s 1), .int .u64 (sumG s 2), .int .u64 (sumG s 3), .int .u64 (sumG s 4), .int .u64 (sumG s 5)] 29 (0, 0)] (by exact hS.pick)).mono ?_
          clear hS
          rintro _ w' ⟨rfl, hS⟩
          go_wp2_with (first | go_skip | ((with_reducible refine g_len ?_); refine wl_run rfl (by exact a_len rfl rfl rfl (hS.rdx (by (repeat (first | exact Ix.here | apply Ix.there))))) ?_) | fail)
          replace hS : St [] w _ [.vec v 3 1 WW.length (WW.flatMap natI), disk gd D, .row ga [.int .u64 (sumG s 0), .int .u64 (sumG s 1), .int .u64 (sumG s 2), .int .u64 (sumG s 3), .int .u64 (sumG s 4), .int .u64 (sumG s 5)] 29 (0, 0)] := hS.pick
          go_loopw [20] (fun k wz => ∃ (j : Nat) (E : Dsk), j ≤ WW.length ∧ k = .int .i64 j ∧ Hid (PutG E a s WW j) ∧ St [] w wz [.vec v 3 1 WW.length (WW.flatMap natI), disk gd E, .row ga [.int .u64 (sumG s 0), .int .u64 (sumG s 1), .int .u64 (sumG s 2), .int .u64 (sumG s 3), .int .u64 (sumG s 4), .int .u64 (sumG s 5)] 29 (0, 0)]) (fun k _ => 6 - (intOf k).toNat)
          case atStart => exact ⟨0, D, by omega, rfl, HPS, hS⟩
          case round =>
            clear hS HPS hon
            obtain ⟨j, E, hj, rfl, HP, hS⟩ := hrel
            by_cases hj1 : j < WW.length
            · have hj2 : (j : Int) < WW.length := by omega
              have hget := get_lt hj1
              have hwc := HLT2.out _ (nth_mem hj1)
              obtain ⟨E2, he2, HP2⟩ := HPUT.out E WW j HP.out hj1 (by omega) HLT2.out
              have HP3 := Lib.hid HP2
              have HG := Lib.hid (fun (S : List Nat) (w0 wz : World) (M : List Ent) (g : Nat) (hS : St S w0 wz (disk g E :: M)) => HGP.out E WW j HP.out (by omega) (nth WW j) (by omega) S w0 wz M g hS)
              rw [he2] at HG
              have HPI2 := Lib.hid (HPI.out (nth WW j) hwc)
              generalize nth WW j = q at hget HG HPI2
              clear HP2 he2
              go_wp2_with (first | go_skip | ((with_reducible refine g_len ?_); refine wl_run rfl (by exact a_len rfl rfl rfl (hS.rdx (by (repeat (first | exact Ix.here | apply Ix.there))))) ?_) | fail)
              replace hS : St [] w _ ([disk gd E] ++ [.vec v 3 1 WW.length (WW.flatMap natI), .row ga [.int .u64 (sumG s 0), .int .u64 (sumG s 1), .int .u64 (sumG s 2), .int .u64 (sumG s 3), .int .u64 (sumG s 4), .int .u64 (sumG s 5)] 29 (0, 0)]) := hS.pick
              obtain ⟨F, hA, hR, hB⟩ := St.split (A := [disk gd E]) hS
              clear hS
              have hS := hA.drew
              clear hA
              refine wp_region_held (S := fun W => Cmp.Mod F wr W) (by kernel_rfl) ?_
              change wpAnyH _ _ _ _ _ _ _ _ (wr).drew
              generalize (wr).drew = w2 at hS ⊢
              (refine whd_take 0 rfl rfl (by kernel_rfl) (by kernel_rfl) (by kernel_rfl) (fun _ _ _ h => h) rfl (fun W hW => by (go_simp; try with_reducible rfl)) hS.base ?_; simp only [Act.put, List.setIfInBounds_toArray, List.set_cons_zero, List.set_cons_succ])
              (refine whd_take 1 rfl rfl (by kernel_rfl) (by kernel_rfl) (by kernel_rfl) (fun _ _ _ h => h) rfl (fun W hW => by (go_simp; try with_reducible rfl)) hS.base ?_; simp only [Act.put, List.setIfInBounds_toArray, List.set_cons_zero, List.set_cons_succ])
              (refine whd_take 2 rfl rfl (by kernel_rfl) (by kernel_rfl) (by kernel_rfl) (fun _ _ _ h => h) rfl (fun W hW => by (go_simp; try with_reducible rfl)) hS.base ?_; simp only [Act.put, List.setIfInBounds_toArray, List.set_cons_zero, List.set_cons_succ])
              (refine whd_take 3 rfl rfl (by kernel_rfl) (by kernel_rfl) (by kernel_rfl) (fun _ _ _ h => h) rfl (fun W hW => by (go_simp; try with_reducible rfl)) hS.base ?_; simp only [Act.put, List.setIfInBounds_toArray, List.set_cons_zero, List.set_cons_succ])
              (refine whd_take 4 rfl rfl (by kernel_rfl) (by kernel_rfl) (by kernel_rfl) (fun _ _ _ h => h) rfl (fun W hW => (by exact a_index rfl rfl rfl rfl ((hR W hW).rdx (by (repeat (first | exact Ix.here | apply Ix.there)))) (by rfl) (by omega) (by omega))) hS.base ?_; simp only [Act.put, List.setIfInBounds_toArray, List.set_cons_zero, List.set_cons_succ])
              (refine whd_take 5 rfl rfl (by kernel_rfl) (by kernel_rfl) (by kernel_rfl) (fun _ _ _ h => h) rfl (fun W hW => (by exact a_loadE (L := WW) (f := natI) rfl ((hR W hW).rdx (by (repeat (first | exact Ix.here | apply Ix.there)))) rfl rfl rfl (by intro _; rfl) hget (by rfl))) hS.base ?_; simp only [Act.put, List.setIfInBounds_toArray, List.set_cons_zero, List.set_cons_succ])
              (refine whd_take 6 rfl rfl (by kernel_rfl) (by kernel_rfl) (by kernel_rfl) (fun _ _ _ h => h) rfl (fun W hW => by (go_simp; try with_reducible rfl)) hS.base ?_; simp only [Act.put, List.setIfInBounds_toArray, List.set_cons_zero, List.set_cons_succ])
              (refine whd_take 7 rfl rfl (by kernel_rfl) (by kernel_rfl) (by kernel_rfl) (fun _ _ _ h => h) rfl (fun W hW => by (go_simp; try with_reducible rfl)) hS.base ?_; simp only [Act.put, List.setIfInBounds_toArray, List.set_cons_zero, List.set_cons_succ])
              (refine whd_take 8 rfl rfl (by kernel_rfl) (by kernel_rfl) (by kernel_rfl) (fun _ _ _ h => h) rfl (fun W hW => by (go_simp; try with_reducible rfl)) hS.base ?_; simp only [Act.put, List.setIfInBounds_toArray, List.set_cons_zero, List.set_cons_succ])
              (refine whd_take 9 rfl rfl (by kernel_rfl) (by kernel_rfl) (by kernel_rfl) (fun _ _ _ h => h) rfl (fun W hW => (by exact a_index rfl rfl rfl rfl ((hR W hW).rdx (by (repeat (first | exact Ix.here | apply Ix.there)))) (by rfl) (by omega) (by omega))) hS.base ?_; simp only [Act.put, List.setIfInBounds_toArray, List.set_cons_zero, List.set_cons_succ])
              (refine whd_take 10 rfl rfl (by kernel_rfl) (by kernel_rfl) (by kernel_rfl) (fun _ _ _ h => h) rfl (fun W hW => (by exact a_loadE (L := WW) (f := natI) rfl ((hR W hW).rdx (by (repeat (first | exact Ix.here | apply Ix.there)))) rfl rfl rfl (by intro _; rfl) hget (by rfl))) hS.base ?_; simp only [Act.put, List.setIfInBounds_toArray, List.set_cons_zero, List.set_cons_succ])
              (refine wpAnyH_all (rs := [11]) (by kernel_rfl) (by simp) ?_; intro i hi; have hi := List.mem_singleton.1 hi; subst hi)
              refine wod_of rfl rfl rfl (wp_call (by go_simp) (HPI2.out w2) ?_)
              rintro e w4 ⟨rfl, rfl⟩
              refine ⟨_, rfl, hS.base, ?_⟩
              simp only [Act.put, List.setIfInBounds_toArray, List.set_cons_zero, List.set_cons_succ]
              (refine wpAnyH_all (rs := [12]) (by kernel_rfl) (by simp) ?_; intro i hi; have hi := List.mem_singleton.1 hi; subst hi)
              refine wod_of rfl rfl rfl (wp_call (by go_simp) (HG.out F wr _ [] gd hS) ?_)
              clear hS
              rintro e w4 ⟨rfl, hS⟩
              refine ⟨_, rfl, hS.base, ?_⟩
              simp only [Act.put, List.setIfInBounds_toArray, List.set_cons_zero, List.set_cons_succ]
              (refine whd_take 13 rfl rfl (by kernel_rfl) (by kernel_rfl) (by kernel_rfl) (fun _ _ _ h => h) rfl (fun W hW => by (go_simp; try with_reducible rfl)) hS.base ?_; simp only [Act.put, List.setIfInBounds_toArray, List.set_cons_zero, List.set_cons_succ])
              (refine wpAnyH_done (by kernel_rfl) ?_ _)
              replace hS := hB _ _ hS
              simp only [List.cons_append, List.nil_append] at hS
              go_wp2_with (fail)
              exact ⟨⟨j + 1, E2, by omega, by simp, HP3, hS.pick⟩, by simp [intOf]; omega⟩
            · obtain rfl : j = WW.length := by omega
              have hj2 : ¬ ((WW.length : Nat) : Int) < WW.length := by omega
              have HE2 := Lib.hid (HLE.out E HP.out.on (putG_end HP.out))
              go_wp2_with (first | go_skip | ((with_reducible refine g_len ?_); refine wl_run rfl (by exact a_len rfl rfl rfl (hS.rdx (by (repeat (first | exact Ix.here | apply Ix.there))))) ?_) | ((with_reducible refine g_load ?_); refine wl_run rfl (by first | exact a_load1 hS rfl rfl rfl rfl (by (repeat (first | exact Ix.here | apply Ix.there))) (by rfl) | exact a_loadR hS rfl rfl rfl rfl (by (repeat (first | exact Ix.here | apply Ix.there))) (by rfl) | fail) ?_) | fail)
              refine (HE2.out _ _ _ _ (hS.pick : St [] w _ [disk gd E, .row ga [.int .u64 (sumG s 0), .int .u64 (sumG s 1), .int .u64 (sumG s 2), .int .u64 (sumG s 3), .int .u64 (sumG s 4), .int .u64 (sumG s 5)] 29 (0, 0)])).mono ?_
              clear hS
              rintro _ w' ⟨v2, rfl, hS⟩
              go_wp2_with (first | go_skip | ((with_reducible refine g_len ?_); refine wl_run rfl (by exact a_len rfl rfl rfl (hS.rdx (by (repeat (first | exact Ix.here | apply Ix.there))))) ?_) | fail)
              go_ret
              exact ⟨rfl, hS.nil⟩
end
end Go.Proofs.Ytghnfocajnlfhaa
