/-
  Wherever the power goes as a text is written, its blocks are there, or missing: GridTears returns true.
-/
import Derived.Test.YtghnfocajnlfhaaTears14
set_option linter.unusedSimpArgs false
set_option linter.unusedVariables false
set_option linter.unusedSectionVars false
set_option maxRecDepth 100000
namespace Go.Proofs.Ytghnfocajnlfhaa
open Go.RowKit Go.Cmp

section
variable {w : World}
theorem a_strMidV {P : Program} {o : Oper} {a : Act} {w : World} {t : TypeId} {x lo hi : Operand} {l r : List UInt8} {b h : Int} (hr : (l.take h.toNat).drop b.toNat = r) (ho : o.op = .slice t x (some lo) (some hi) none) (hx : a.eval x = .string ⟨l.toArray⟩) (hb : a.eval lo = .int .i64 b) (hh : a.eval hi = .int .i64 h) (ht : P.underlying t = some .string) (h0 : 0 ≤ b) (h1 : b ≤ h) (h2 : h ≤ l.length) :
    (execOp a.eval o).run P w = .ok (.value (.string ⟨r.toArray⟩)) w := hr ▸ a_strMid ho hx hb hh ht h0 h1 h2
/-- Behind the write: what Load and Block give. -/
theorem block14 {S : List Nat} {w0 : World} {W : World} {M : List Ent} {g : Nat} {G : Dsk} (hS : St S w0 W (disk g G :: M)) (hG : On14 G) (a i : Nat) (ha : a < 2) (hi : i < 6) (s : List UInt8) (m : Nat) (hm : m = sumG s i) :
    Calls Try.prog 19 #[.pointer (some ⟨g, 0, none⟩), .int .i64 a, .int .i64 i, .int .u64 (m : Int)] W fun e w' => e = .returned (.tuple #[.string ⟨(partL G a (sumsN s) i).1.toArray⟩, .bool (partL G a (sumsN s) i).2, .int .i64 0]) ∧ St S w0 w' (disk g G :: M) := by
  have h := gridBlock_any hS hG.ok a i ha hi m
  have e0 := read_is hG.off hG.way hG.len ha hi
  have eb : blockG G a i m = ((partL G a (sumsN s) i).1, (partL G a (sumsN s) i).2, 0) := by
    unfold blockG partL sumsN
    rw [sumN_nth hi, ← hm, if_neg (by rw [e0]; exact fun h => h rfl)]
  rw [eb] at h
  exact h
set_option maxHeartbeats 16000000 in
theorem law_tears14 (old s : List UInt8) (ar fz : Int) (hf1 : -9223372036854775808 ≤ fz) (hf2 : fz ≤ 9223372036854775807) (vp : Value) (picks : List Int) (w : World)
    (hP : Rd w 1 vp picks.length (picks.flatMap num)) (hpk : ∀ p ∈ picks, p ≤ 9223372036854775807) :
    Calls Try.prog 5 #[.string ⟨old.toArray⟩, .string ⟨s.toArray⟩, .int .i64 ar, .int .i64 fz, vp] w fun e w' => e = .returned (.bool true) ∧ St [] w w' [] := by
  have hS := St.init w
  have HPP := Lib.hid hP
  clear hP
  have HAW := Lib.hid (fun w => awake14 w)
  obtain ⟨D0, h0⟩ : ∃ D0, newDsk 32 = D0 := ⟨_, rfl⟩
  have HNW := Lib.hid (fun (w0 w : World) (M : List Ent) (hS : St [] w0 w M) => disk_new 32 (by omega) (by omega) hS)
  rw [h0] at HNW
  by_cases hb : 2500 < old.length ∨ 2500 < s.length
  · clear h0
    by_cases hb1 : (2500 : Int) < old.length
    · (go_enter Try.func5, Try.ntmps5)
      go_wp2_with (first | go_skip | (go_at_call 6; refine (HAW.out _).mono ?_; rintro e w' ⟨rfl, h⟩; replace hS := hS.call h; clear h) | (go_at_call 7; refine (HNW.out _ _ _ hS).mono ?_; clear hS; rintro e w' ⟨gd, rfl, hS⟩) | fail)
      go_ret
      exact ⟨rfl, hS.nil⟩
    · have hb2 : (2500 : Int) < s.length := by omega
      (go_enter Try.func5, Try.ntmps5)
      go_wp2_with (first | go_skip | (go_at_call 6; refine (HAW.out _).mono ?_; rintro e w' ⟨rfl, h⟩; replace hS := hS.call h; clear h) | (go_at_call 7; refine (HNW.out _ _ _ hS).mono ?_; clear hS; rintro e w' ⟨gd, rfl, hS⟩) | fail)
      go_ret
      exact ⟨rfl, hS.nil⟩
  have hs1 : ¬ (2500 : Int) < old.length := by omega
  have ht1 : ¬ (2500 : Int) < s.length := by omega
  have ok0 : D0.Ok := by rw [← h0]; exact newDsk_ok 32 (by omega)
  obtain ⟨n1, n2, n3, n4, n5⟩ := newDsk_is 32
  rw [h0] at n1 n2 n3 n4 n5
  obtain ⟨a, ha, hea⟩ := bit_one ar
  have HEA := Lib.hid hea
  have HSU := Lib.hid (fun w => gridSums_any s (by omega) w)
  by_cases hl : 1920 < s.length
  · have hl1 : (1920 : Int) < s.length := by omega
    have e1 : gSums s = (zero6, 5) := by unfold gSums; rw [if_pos hl]
    rw [e1] at HSU
    clear hb hl n1 n2 n3 n4 n5 ok0 h0 ha hea e1
    (go_enter Try.func5, Try.ntmps5)
    go_wp2_with (first | go_skip | go_skip | (go_at_call 6; refine (HAW.out _).mono ?_; rintro e w' ⟨rfl, h⟩; replace hS := hS.call h; clear h) | (go_at_call 7; refine (HNW.out _ _ _ hS).mono ?_; clear hS; rintro e w' ⟨gd, rfl, hS⟩) | ((with_reducible refine g_load ?_); refine wl_run rfl (by first | exact a_load1 hS rfl rfl rfl rfl (by (repeat (first | exact Ix.here | apply Ix.there))) (by rfl) | exact a_loadR hS rfl rfl rfl rfl (by (repeat (first | exact Ix.here | apply Ix.there))) (by rfl) | fail) ?_) | ((with_reducible refine g_alloc ?_); refine wl_of rfl ?_; refine wp_alloc hS rfl rfl rfl rfl ?_; clear hS; intro ga w1 hS) | ((with_reducible refine g_store ?_); refine wl_of rfl ?_; refine a_storeA (vs := zero6) (cs' := zero6) hS rfl rfl rfl (by rfl) (by decide) (by (repeat (first | exact Sw.here | apply Sw.there))) (by exact Nat.le_refl 6) (by rfl) ?_; clear hS; intro w' hS) | (go_at_call 8; refine (HSU.out _).mono ?_; rintro e w' ⟨rfl, h⟩; replace hS := hS.call h; clear h) | fail)
    go_ret
    exact ⟨rfl, hS.nil⟩
  have hl1 : ¬ (1920 : Int) < s.length := by omega
  have on0 : On14 D0 := ⟨ok0, n1, n2, n5⟩
  have HW := Lib.hid (fun (w0 w : World) (M : List Ent) (g : Nat) (hS : St [] w0 w (disk g D0 :: M)) => gridWrite_any hS ok0 (by rw [n2]; decide) (by rw [n4]; decide) a ha old (by omega))
  obtain ⟨on1, st1⟩ := write_on14 on0 n3 (by rw [n4]; decide) ha old
  obtain ⟨D1, hd1⟩ : ∃ D1, (gWrite D0 a old).2 = D1 := ⟨_, rfl⟩
  rw [hd1] at HW on1 st1
  rw [n4] at st1
  obtain ⟨E, e, F, f1, f2, f3, f4, f5, f6, f7⟩ := tears14 on1 (by omega) ha s (by omega) fz hf2 picks
  have HFU := Lib.hid (fun (w0 w : World) (M : List Ent) (g : Nat) (hS : St [] w0 w (disk g D1 :: M)) => disk_fuse hS fz hf1 hf2)
  rw [f1] at HFU
  have HW2 := Lib.hid (fun (w0 w : World) (M : List Ent) (g : Nat) (hS : St [] w0 w (disk g E :: M)) => gridWrite_any hS f2 (by rw [f3]; decide) (by rw [f4]; omega) a ha s (by omega))
  rw [f5] at HW2
  have HLD := Lib.hid (fun (G : Dsk) (hG : On14 G) (w0 w : World) (M : List Ent) (g : Nat) (hS : St [] w0 w (disk g G :: M)) => gridLoad_any hS hG.ok hG.off hG.len a ha s.length (by omega) (sumsN s) (by simp [sumsN]) (sumsV s) (sumsV_N s))
  have HBL := Lib.hid (fun (G : Dsk) (hG : On14 G) (i : Nat) (hi : i < 6) (w0 w : World) (M : List Ent) (g : Nat) (hS : St [] w0 w (disk g G :: M)) => block14 hS hG a i ha hi s _ rfl)
  have HMS := Lib.hid (fun (G : Dsk) (hG : HoldsG G a s) => load_holds hG ha (by omega))
  have HLO := Lib.hid (fun (G : Dsk) (hm : missL G a s.length (sumsN s) (cntG s.length) = []) => loaded14 (by omega : s.length ≤ 1920) hm)
  have HSM := Lib.hid (fun (t : List UInt8) (ht : t.length ≤ 1920) (w : World) => summed14 t ht w)
  have HCO := Lib.hid (fun w => count14_any s.length (by omega) w)
  rw [gSums_ok (by omega)] at HSU
  have hc6 : cntG s.length ≤ 6 := by unfold cntG; omega
  have ho1 := sums_one s
  have HSV : Hid (∀ i, i < 6 → (sumsV s)[i]? = some (.int .u64 (sumG s i : Int))) := Lib.hid (fun i hi => sumsV_at hi)
  have hsv : sumsV s = [.int .u64 (sumG s 0), .int .u64 (sumG s 1), .int .u64 (sumG s 2), .int .u64 (sumG s 3), .int .u64 (sumG s 4), .int .u64 (sumG s 5)] := rfl
  rw [hsv] at HSU HLD ho1 HSV
  have HO1 := Lib.hid ho1
  have HSQ := Lib.hid hsv
  have HF7 := Lib.hid f7
  have HF6 := Lib.hid f6
  clear hb hl n1 n2 n3 n4 n5 ok0 h0 hea f1 f2 f3 f4 f5 f6 f7 on0 on1 st1 hd1 ho1 hsv
  (go_enter Try.func5, Try.ntmps5)
  go_upto_region 9 with (first | (go_at_call 6; refine (HAW.out _).mono ?_; rintro e w' ⟨rfl, h⟩; replace hS := hS.call h; clear h) | (go_at_call 7; refine (HNW.out _ _ _ hS).mono ?_; clear hS; rintro e w' ⟨gd, rfl, hS⟩) | fail)
  rw [HEA.out]
  go_upto_region 13 with (first | go_skip | ((with_reducible refine g_load ?_); refine wl_run rfl (by first | exact a_load1 hS rfl rfl rfl rfl (by (repeat (first | exact Ix.here | apply Ix.there))) (by rfl) | exact a_loadR hS rfl rfl rfl rfl (by (repeat (first | exact Ix.here | apply Ix.there))) (by rfl) | fail) ?_) | ((with_reducible refine g_alloc ?_); refine wl_of rfl ?_; refine wp_alloc hS rfl rfl rfl rfl ?_; clear hS; intro ga w1 hS) | ((with_reducible refine g_store ?_); refine wl_of rfl ?_; refine a_storeA (vs := [.int .u64 (sumG s 0), .int .u64 (sumG s 1), .int .u64 (sumG s 2), .int .u64 (sumG s 3), .int .u64 (sumG s 4), .int .u64 (sumG s 5)]) (cs' := [.int .u64 (sumG s 0), .int .u64 (sumG s 1), .int .u64 (sumG s 2), .int .u64 (sumG s 3), .int .u64 (sumG s 4), .int .u64 (sumG s 5)]) hS rfl rfl rfl (by rfl) HO1.out (by (repeat (first | exact Sw.here | apply Sw.there))) (by exact Nat.le_refl 6) (by rfl) ?_; clear hS; intro w' hS) | (go_at_call 8; refine (HSU.out _).mono ?_; rintro e w' ⟨rfl, h⟩; replace hS := hS.call h; clear h) | (go_at_call 9; (refine (HW.out _ _ _ _ (hS.out (by first | ((repeat (first | exact Out.here | apply Out.there)); done) | fail))).mono ?_; clear hS; rintro e w' ⟨rfl, hS⟩)) | fail)
  clear HW HSU HNW HAW
  go_wp2_with (fail)
  replace hS : St [] w _ [disk gd D1, .row ga [.int .u64 (sumG s 0), .int .u64 (sumG s 1), .int .u64 (sumG s 2), .int .u64 (sumG s 3), .int .u64 (sumG s 4), .int .u64 (sumG s 5)] 29 (0, 0)] := hS
  refine (HFU.out _ _ _ _ hS).mono ?_
  clear hS
  rintro _ w' ⟨rfl, hS⟩
  go_wp2_with (fail)
  replace hS : St [] w _ [disk gd E, .row ga [.int .u64 (sumG s 0), .int .u64 (sumG s 1), .int .u64 (sumG s 2), .int .u64 (sumG s 3), .int .u64 (sumG s 4), .int .u64 (sumG s 5)] 29 (0, 0)] := hS
  refine (HW2.out _ _ _ _ hS).mono ?_
  clear hS
  rintro _ w' ⟨rfl, hS⟩
  replace hS : St [] w _ [disk gd F, .row ga [.int .u64 (sumG s 0), .int .u64 (sumG s 1), .int .u64 (sumG s 2), .int .u64 (sumG s 3), .int .u64 (sumG s 4), .int .u64 (sumG s 5)] 29 (0, 0)] := hS
  clear HW2 HFU
  go_upto_if 65 with (first | (go_at_call 17; refine (disk_on hS).mono ?_; rintro e w' ⟨rfl, rfl⟩) | fail)
  go_cut [15] (fun o wx => ∃ (b : Bool) (G : Dsk), o = .bool b ∧ Hid (On14 G ∧ (b = true → loadG G a s.length (sumsN s) = (s, []))) ∧ St [] w wx [disk gd G, .row ga [.int .u64 (sumG s 0), .int .u64 (sumG s 1), .int .u64 (sumG s 2), .int .u64 (sumG s 3), .int .u64 (sumG s 4), .int .u64 (sumG s 5)] 29 (0, 0)])
  case first =>
    rcases HF7.out with ⟨rfl, hof, on2, hk⟩ | ⟨rfl, hof, G, hst, on2⟩
    · have HK := Lib.hid on2
      have HK2 := Lib.hid (HMS.out F hk)
      clear hk on2
      rw [hof]
      go_wp2_with (fail)
      go_meet
      exact ⟨true, F, rfl, Lib.hid ⟨HK.out, fun _ => HK2.out⟩, hS⟩
    · have HK := Lib.hid on2
      have HST := Lib.hid (fun (W : World) (M : List Ent) (hS : St [] w W (disk gd F :: M)) => disk_start hS HF6.out vp picks (Reads.old HPP.out) hpk)
      rw [hst] at HST
      clear on2 hst
      rw [hof]
      go_wp2_with (fail)
      refine (HST.out _ _ hS).mono ?_
      clear hS
      rintro _ w' ⟨rfl, hS⟩
      go_wp2_with (fail)
      go_meet
      exact ⟨false, G, rfl, Lib.hid ⟨HK.out, fun h => absurd h (by simp)⟩, hS⟩
  case rest =>
    clear hS HF7 HF6 HMS HPP
    obtain ⟨b, G, rfl, HK1, hS⟩ := hcut
    have HK := Lib.hid HK1.out.1
    have HL2 := Lib.hid (HLD.out G HK.out)
    have hld : loadG G a s.length (sumsN s) = if missL G a s.length (sumsN s) (cntG s.length) = [] then (textL G a (sumsN s) (cntG s.length), []) else ([], missL G a s.length (sumsN s) (cntG s.length)) := rfl
    by_cases hm : missL G a s.length (sumsN s) (cntG s.length) = []
    · obtain ⟨p1, p2, p3⟩ := HLO.out G hm
      rw [if_pos hm] at hld
      rw [hld] at HL2
      have HP2 := Lib.hid p2
      rw [HSQ.out] at p3
      clear hm hld HLO HLD p2 HSQ HK1 hc6
      generalize textL G a (sumsN s) (cntG s.length) = TL at HL2 p1 p3 HP2
      have HSM2 := Lib.hid (HSM.out TL (by omega))
      rw [p3] at HSM2
      have hcnt : cntG s.length ≤ 6 := by unfold cntG; omega
      have HCUT : Hid (∀ (i : Nat) (x : List UInt8), 320 * i + x.length ≤ s.length → (TL.take (320 * i + x.length)).drop (320 * i) = x → (TL.take (320 * (i : Int) + (x.length : Int)).toNat).drop (320 * (i : Int)).toNat = x) := Lib.hid (fun i x _ h => by
        rw [show (320 * (i : Int) + (x.length : Int)).toNat = 320 * i + x.length from by omega, show (320 * (i : Int)).toNat = 320 * i from by omega]; exact h)
      have hTL : (TL.length : Int) = s.length := by omega
      have hTL2 : ((TL.length : Int) == (s.length : Int)) = true := by simp; omega
      clear p1 p3 HSM
      cases b
      all_goals
        go_wp2_with (first | ((with_reducible refine g_load ?_); refine wl_run rfl (by first | exact a_load1 hS rfl rfl rfl rfl (by (repeat (first | exact Ix.here | apply Ix.there))) (by rfl) | exact a_loadR hS rfl rfl rfl rfl (by (repeat (first | exact Ix.here | apply Ix.there))) (by rfl) | fail) ?_) | fail)
        refine (HL2.out _ _ _ _ hS).mono ?_
        clear hS
        rintro _ w' ⟨v, rfl, hS⟩
        replace hS : St [] w _ [.vec v 3 1 ([] : List Nat).length (([] : List Nat).flatMap natI), disk gd G, .row ga [.int .u64 (sumG s 0), .int .u64 (sumG s 1), .int .u64 (sumG s 2), .int .u64 (sumG s 3), .int .u64 (sumG s 4), .int .u64 (sumG s 5)] 29 (0, 0)] := hS.pick
        go_wp2_with (first | go_skip | ((with_reducible refine g_len ?_); refine wl_run rfl (by exact a_len rfl rfl rfl (hS.rdx (by (repeat (first | exact Ix.here | apply Ix.there))))) ?_) | fail)
        go_loopw [19] (fun k wz => ∃ i : Nat, i ≤ cntG s.length ∧ k = .int .i64 i ∧ St [] w wz [.vec v 3 1 ([] : List Nat).length (([] : List Nat).flatMap natI), disk gd G, .row ga [.int .u64 (sumG s 0), .int .u64 (sumG s 1), .int .u64 (sumG s 2), .int .u64 (sumG s 3), .int .u64 (sumG s 4), .int .u64 (sumG s 5)] 29 (0, 0)]) (fun k _ => 6 - (intOf k).toNat)
        case atStart => exact ⟨0, by omega, rfl, hS⟩
        case round =>
          clear hS
          obtain ⟨i, hi, rfl, hS⟩ := hrel
          by_cases hil : i < cntG s.length
          · have hil1 : (i : Int) < cntG s.length := by omega
            have hi6 : i < 6 := by omega
            have HCI := Lib.hid (HSV.out i hi6)
            have HB1 := Lib.hid (HBL.out G HK.out i hi6)
            obtain ⟨q1, q2, q3⟩ := HP2.out i hil
            rw [q1] at HB1
            have HQ3 := Lib.hid q3
            clear q1 q3
            generalize (partL G a (sumsN s) i).1 = x at HB1 q2 HQ3
            have q4 : (x.length : Int) ≤ 320 + 1600 := by omega
            go_wp2_with (first | go_skip | (go_at_call 10; refine (HCO.out _).mono ?_; rintro e w' ⟨rfl, rfl⟩) | ((with_reducible refine g_index ?_); refine wl_run rfl (a_arr (n := 6) rfl rfl rfl rfl rfl (by omega) (by omega)) ?_) | ((with_reducible refine wl_guard ?_); refine stop_mem rfl rfl ?_))
            refine wl_run rfl (a_load1 hS rfl rfl rfl rfl (by (repeat (first | exact Ix.here | apply Ix.there))) HCI.out) ?_
            go_wp2_with (first | go_skip | (go_at_call 19; (refine (HB1.out _ _ _ _ (hS.out (by (repeat (first | exact Out.here | apply Out.there))))).mono ?_; clear hS; rintro e w' ⟨rfl, hS⟩)) | ((with_reducible refine g_len ?_); refine wl_run rfl (by exact a_len rfl rfl rfl (hS.rdx (by (repeat (first | exact Ix.here | apply Ix.there))))) ?_) | ((with_reducible refine g_cut ?_); refine wl_run rfl (a_strMidV (HCUT.out i x q2 HQ3.out) rfl rfl rfl rfl rfl (by omega) (by omega) (by omega)) ?_) | fail)
            exact ⟨⟨i + 1, by omega, by simp, hS.pick⟩, by simp [intOf]; omega⟩
          · obtain rfl : i = cntG s.length := by omega
            go_wp2_with (first | go_skip | (go_at_call 10; refine (HCO.out _).mono ?_; rintro e w' ⟨rfl, rfl⟩) | fail)
            refine region_calm (by kernel_rfl) (by kernel_rfl) hS ?_
            (repeat (first | ((with_reducible refine c_eqlS (t := 29) ?_); refine Calm.run rfl (fun W hW => by exact x_structEq rfl rfl rfl sixGuard (eqSix _ _ _ _ _ _)) ?_; simp only [Act.put, List.setIfInBounds_toArray, List.set_cons_zero, List.set_cons_succ]) | ((with_reducible refine c_call ?_); first | (refine Calm.call (calm_makes HSM2.out) rfl (h := ?_); simp only [Act.put, List.setIfInBounds_toArray, List.set_cons_zero, List.set_cons_succ])) | refine calm1 (n := ?_)))
            (refine Calm.nil ?_; clear hS; intro w8 hS)
            go_wp2_with (fail)
            go_ret
            exact ⟨rfl, hS.nil⟩
    · rw [if_neg hm] at hld
      rw [hld] at HL2
      cases b
      · clear HLO HLD HSM HSQ HK1 hld
        generalize missL G a s.length (sumsN s) (cntG s.length) = ML at HL2 hm
        have hml : (0 : Int) < ML.length := by have := List.length_pos_iff.2 hm; omega
        have hmlT : decide (0 < ML.length) = true := decide_eq_true (by omega)
        have hml2 : ((ML.length : Int) == 0) = false := by simp; omega
        clear hm
        go_wp2_with (first | ((with_reducible refine g_load ?_); refine wl_run rfl (by first | exact a_load1 hS rfl rfl rfl rfl (by (repeat (first | exact Ix.here | apply Ix.there))) (by rfl) | exact a_loadR hS rfl rfl rfl rfl (by (repeat (first | exact Ix.here | apply Ix.there))) (by rfl) | fail) ?_) | fail)
        refine (HL2.out _ _ _ _ hS).mono ?_
        clear hS
        rintro _ w' ⟨v, rfl, hS⟩
        replace hS : St [] w _ [.vec v 3 1 (ML : List Nat).length ((ML : List Nat).flatMap natI), disk gd G, .row ga [.int .u64 (sumG s 0), .int .u64 (sumG s 1), .int .u64 (sumG s 2), .int .u64 (sumG s 3), .int .u64 (sumG s 4), .int .u64 (sumG s 5)] 29 (0, 0)] := hS.pick
        go_wp2_with (first | go_skip | ((with_reducible refine g_len ?_); refine wl_run rfl (by exact a_len rfl rfl rfl (hS.rdx (by (repeat (first | exact Ix.here | apply Ix.there))))) ?_) | fail)
        go_loopw [19] (fun k wz => ∃ i : Nat, i ≤ cntG s.length ∧ k = .int .i64 i ∧ St [] w wz [.vec v 3 1 (ML : List Nat).length ((ML : List Nat).flatMap natI), disk gd G, .row ga [.int .u64 (sumG s 0), .int .u64 (sumG s 1), .int .u64 (sumG s 2), .int .u64 (sumG s 3), .int .u64 (sumG s 4), .int .u64 (sumG s 5)] 29 (0, 0)]) (fun k _ => 6 - (intOf k).toNat)
        case atStart => exact ⟨0, by omega, rfl, hS⟩
        case round =>
          clear hS
          obtain ⟨i, hi, rfl, hS⟩ := hrel
          by_cases hil : i < cntG s.length
          · have hil1 : (i : Int) < cntG s.length := by omega
            have hi6 : i < 6 := by omega
            have HCI := Lib.hid (HSV.out i hi6)
            have HB1 := Lib.hid (HBL.out G HK.out i hi6)
            generalize partL G a (sumsN s) i = X at HB1
            obtain ⟨x, ok⟩ := X
            simp only at HB1
            cases ok
            all_goals
              go_wp2_with (first | go_skip | (go_at_call 10; refine (HCO.out _).mono ?_; rintro e w' ⟨rfl, rfl⟩) | ((with_reducible refine g_index ?_); refine wl_run rfl (a_arr (n := 6) rfl rfl rfl rfl rfl (by omega) (by omega)) ?_) | ((with_reducible refine wl_guard ?_); refine stop_mem rfl rfl ?_))
              refine wl_run rfl (a_load1 hS rfl rfl rfl rfl (by (repeat (first | exact Ix.here | apply Ix.there))) HCI.out) ?_
              go_wp2_with (first | go_skip | (go_at_call 19; (refine (HB1.out _ _ _ _ (hS.out (by (repeat (first | exact Out.here | apply Out.there))))).mono ?_; clear hS; rintro e w' ⟨rfl, hS⟩)) | ((with_reducible refine g_len ?_); refine wl_run rfl (by exact a_len rfl rfl rfl (hS.rdx (by (repeat (first | exact Ix.here | apply Ix.there))))) ?_) | fail | fail)
              exact ⟨⟨i + 1, by omega, by simp, hS.pick⟩, by simp [intOf]; omega⟩
          · obtain rfl : i = cntG s.length := by omega
            go_wp2_with (first | go_skip | (go_at_call 10; refine (HCO.out _).mono ?_; rintro e w' ⟨rfl, rfl⟩) | fail)
            refine region_calm (by kernel_rfl) (by kernel_rfl) hS ?_
            (repeat (first | (simp only [hmlT]) | ((with_reducible refine c_call ?_); first | fail) | refine calm1 (n := ?_)))
            (refine Calm.nil ?_; clear hS; intro w8 hS)
            go_wp2_with (fail)
            go_ret
            exact ⟨rfl, hS.nil⟩
      · have := HK1.out.2 rfl
        rw [hld] at this
        simp only [Prod.mk.injEq] at this
        exact absurd this.2 hm
end
end Go.Proofs.Ytghnfocajnlfhaa
