/-
  However the power goes as an entry is taken out, SlotVoids returns true.
-/
import Derived.Test.YtkcgacadkpbpoaaTear12D
import Derived.Test.YtkcgacadkpbpoaaAw12
import Derived.Deep.DeepCutAuto
import Derived.Deep.CutBlock
set_option linter.unusedSimpArgs false
set_option linter.unusedVariables false
set_option linter.unusedSectionVars false
set_option maxRecDepth 100000
namespace Go.Proofs.Ytkcgacadkpbpoaa
open Go.RowKit Go.Cmp

section
set_option maxHeartbeats 32000000 in
theorem law_voids12 (e : En) (fuse : Int) (vp : Value) (picks : List Int) (hp : e.parent < 18446744073709551616) (hf1 : -9223372036854775808 ≤ fuse) (hf2 : fuse ≤ 9223372036854775807) (w : World) (hP : Rd w 1 vp picks.length (picks.flatMap num)) (hpk : ∀ p ∈ picks, p ≤ 9223372036854775807) :
    Calls Try.prog 8 #[.agg e.cells.toArray, .int .i64 fuse, vp] w fun x w' => x = .returned (.bool true) ∧ St [] w w' [] := by
  have HP := Lib.hid hP
  clear hP
  have hS := St.init w
  have HA := Lib.hid (fun w => awake12_any w)
  have HR := Lib.hid (fun w => entRightL_any e w)
  cases hr : e.right
  · rw [hr] at HR
    clear hr hp
    obtain ⟨vw, po, un, par, cl, se, rq, opr, body⟩ := e
    simp only [En.cells] at HR ⊢
    (go_enter Try.func8, Try.ntmps8)
    go_wp2_with (first | (go_at_call 10; refine (HA.out _).mono ?_; rintro e w' ⟨rfl, h⟩; replace hS := hS.call h; clear h) | (go_at_call 26; refine (HR.out _).mono ?_; rintro e w' ⟨rfl, h⟩; replace hS := hS.call h; clear h) | (go_at_call 28; refine (disk_new 2 (by omega) (by omega) hS).mono ?_; clear hS; rintro e w1 ⟨gd, rfl, hS⟩) | (first | refine au1 (n := ?_) | (refine au2 (n := ?_); clear hS; intro w' hS) | (refine au3 (n := ?_); clear hS; intro gb w1 hS) | (refine au4 (n := ?_); clear hS; intro v1 w' hS) | ((with_reducible refine wl_guard ?_); refine stop_mem rfl rfl ?_)))
    go_ret
    exact ⟨rfl, hS.nil⟩
  rw [hr] at HR
  have hb : e.body.length ≤ 1000000 := by have := right_body hr; omega
  have sp := prep_sld (o := []) hr
  have sh := hdr_sld (o := []) (stubE_right hr)
  have HPR := Lib.hid (fun w => slotPrepare_any [] e (by simp) hp hb w)
  have HHD := Lib.hid (fun w => slotHeader_any [] (stubE e) (by simp) (stubE_facts hp).1 (stubE_facts hp).2 w)
  have HSO := Lib.hid (fun w => slotStubOf_any e hp hb w)
  have HV1 := Lib.hid (fun w => slotVoid_any (hdrS [] (stubE e)).1 (by have := sh.len; omega) w)
  have HV0 := Lib.hid (fun w => slotVoid_any (prepS [] e).1 (by have := sp.len; omega) w)
  have j0 := full_judge (o := []) (o2 := []) hr hp
  have j1 := fun k hk => first_judge (o := []) (o2 := []) hr hp k hk
  have hlp := sp.len
  have hlh := sh.len
  have hl1 := (void_sld (hdrS [] (stubE e)).1).len
  have hl0 := (void_sld (prepS [] e).1).len
  have hz : ∀ q, judgeS q (voidS (hdrS [] (stubE e)).1) e.op = zeroI := fun q => void_judge _ _ _
  have e0 : ∃ c, (prepS [] e).2 = c := ⟨_, rfl⟩
  obtain ⟨c0, e0⟩ := e0
  obtain ⟨c1, e1⟩ : ∃ c, (hdrS [] (stubE e)).2 = c := ⟨_, rfl⟩
  rw [e0] at HPR
  rw [e1] at HHD
  clear e0 e1 sp sh hr
  generalize voidS (prepS [] e).1 = V0 at HV0 hl0
  generalize voidS (hdrS [] (stubE e)).1 = V1 at HV1 hl1 j1 hz
  generalize (prepS [] e).1 = P at HPR HV0 j0 j1 hlp
  generalize (hdrS [] (stubE e)).1 = H at HHD HV1 j0 j1 hlh
  obtain ⟨RR, hRR⟩ : ∃ RR : Bool → List UInt8 → List UInt8 → Prop, RR = fun bk a b => (bk = false ∧ judgeS a b e.op = ⟨1, stubE e, e⟩) ∨ judgeS a b e.op = zeroI := ⟨_, rfl⟩
  have r0 : RR false P H := by rw [hRR]; exact .inl ⟨rfl, j0⟩
  have r1 : ∀ k, k ≤ 384 → RR false P (mixS V1 H k) := fun k hk => by
    rw [hRR]
    rcases j1 k hk with h | h
    · exact .inl ⟨rfl, h⟩
    · exact .inr h
  have r2 : ∀ bk q, RR bk q V1 := fun bk q => by rw [hRR]; exact .inr (hz q)
  obtain ⟨D1, D2, D3, D4, hL⟩ := laid_any hlp hlh fuse hf2
  have HL := Lib.hid hL
  have H0 := Lib.hid hlp
  have H1 := Lib.hid hlh
  have HL0 := Lib.hid hl0
  have HL1 := Lib.hid hl1
  have R0 := Lib.hid r0
  have R1 := Lib.hid r1
  have R2 := Lib.hid r2
  have HRR := Lib.hid hRR
  clear hL hlp hlh hl0 hl1 j0 j1 hz r0 r1 r2 hRR
  obtain ⟨D0, hD0⟩ : ∃ D0, newDsk 2 = D0 := ⟨_, rfl⟩
  rw [hD0] at HL
  have Hn := Lib.hid hD0
  clear hD0
  obtain ⟨SE, hSE⟩ : ∃ s, stubE e = s := ⟨_, rfl⟩
  rw [hSE] at HHD HSO HRR
  clear hSE
  obtain ⟨so, sv, su, sp, ss⟩ := SE
  obtain ⟨vw, po, un, par, cl, se, rq, opr, body⟩ := e
  simp only [En.cells, Stb.cells] at HR HPR HHD HSO ⊢
  clear hb hp
  (go_enter Try.func8, Try.ntmps8)
  go_upto_region 10 with (first | (go_at_call 10; refine (HA.out _).mono ?_; rintro e w' ⟨rfl, h⟩; replace hS := hS.call h; clear h) | (go_at_call 26; refine (HR.out _).mono ?_; rintro e w' ⟨rfl, h⟩; replace hS := hS.call h; clear h) | (go_at_call 28; refine (disk_new 2 (by omega) (by omega) hS).mono ?_; clear hS; rintro e w1 ⟨gd, rfl, hS⟩; rw [Hn.out] at hS) | (go_at_call 18; refine (HPR.out _).mono ?_; rintro e w' ⟨rfl, h⟩; replace hS := hS.call h; clear h) | (go_at_call 22; refine (HSO.out _).mono ?_; rintro e w' ⟨rfl, h⟩; replace hS := hS.call h; clear h) | (go_at_call 20; refine (HHD.out _).mono ?_; rintro e w' ⟨rfl, h⟩; replace hS := hS.call h; clear h) | ((with_reducible refine g_box ?_); refine wl_of rfl ?_; refine wp_box hS rfl rfl rfl ?_; clear hS; intro ge w1 hS) | (first | refine au1 (n := ?_) | (refine au2 (n := ?_); clear hS; intro w' hS) | (refine au3 (n := ?_); clear hS; intro gb w1 hS) | (refine au4 (n := ?_); clear hS; intro v1 w' hS) | ((with_reducible refine wl_guard ?_); refine stop_mem rfl rfl ?_)))
  replace hS : St [] w _ [disk gd D0, .row ge [.int .i64 vw, .int .i64 po, .int .i64 un, .int .u64 par, .int .i64 cl, .int .i64 se, .int .i64 rq, .int .i64 opr, .string ⟨body.toArray⟩] 26 (0, 0)] := hS.pick
  go_wp2_with (fail)
  (refine (dw_of HL.out.w0 HL.out.ok0 hS).mono ?_; clear hS; rintro e w' ⟨rfl, hS⟩)
  go_wp2_with (fail)
  (refine (dw_of HL.out.w1 HL.out.ok1 hS).mono ?_; clear hS; rintro e w' ⟨rfl, hS⟩)
  go_wp2_with (fail)
  (refine (df_of HL.out.fl HL.out.ok2 hS).mono ?_; clear hS; rintro e w' ⟨rfl, hS⟩)
  go_wp2_with (fail)
  (refine (du_of HL.out.fu hf1 hf2 hS).mono ?_; clear hS; rintro e w' ⟨rfl, hS⟩)
  go_upto_region 14 with (fail)
  have A4 := Lib.hid HL.out.at4
  have S4 := Lib.hid HL.out.steps
  have O4 := Lib.hid A4.out.ok
  clear HA HR HPR HHD Hn HL hf1 hf2
  go_cut [13] (fun ok wx => ∃ (bk : Bool) (D : Dsk), ok = .bool bk ∧ Hid (D.Fin (RR bk)) ∧ St [] w wx (disk gd D :: [.row ge [.int .i64 vw, .int .i64 po, .int .i64 un, .int .u64 par, .int .i64 cl, .int .i64 se, .int .i64 rq, .int .i64 opr, .string ⟨body.toArray⟩] 26 (0, 0)]))
  case first =>
    obtain ⟨D5, h5⟩ := wr_any A4.out S4.out (by omega) (i := 1) (.inr rfl) HL1.out
    rcases h5 with ⟨w5, a5, s5⟩ | ⟨w5, a5⟩
    case inr =>
      have W5 := Lib.hid w5
      have A5 := Lib.hid a5
      clear w5 a5
      go_wp2_with (first | refine au1 (n := ?_) | (refine au5 (n := ?_); clear hS; intro w' hS) | (refine au3 (n := ?_); clear hS; intro gb w1 hS))
      (refine (HV1.out _).mono ?_; rintro e w' ⟨rfl, h⟩; replace hS := hS.call h; clear h)
      go_wp2_with (first | refine au1 (n := ?_) | (refine au5 (n := ?_); clear hS; intro w' hS) | (refine au3 (n := ?_); clear hS; intro gb w1 hS))
      (refine (dw_of W5.out O4.out hS).mono ?_; clear hS; rintro e w' ⟨rfl, hS⟩)
      go_wp2_with (first | refine au1 (n := ?_) | (refine au5 (n := ?_); clear hS; intro w' hS) | (refine au3 (n := ?_); clear hS; intro gb w1 hS))
      go_meet
      exact ⟨false, D5, rfl, Lib.hid (A5.out.fin R0.out), hS⟩
    have W5 := Lib.hid w5
    have A5 := Lib.hid a5
    have O5 := Lib.hid a5.ok
    clear w5 a5
    obtain ⟨D6, h6⟩ := fl_any A5.out s5 (by omega) (c := P) (d := V1) (fun E h => Dsk.puts1 E h)
    rcases h6 with ⟨w6, a6, s6⟩ | ⟨w6, a6⟩
    case inr =>
      have W6 := Lib.hid w6
      have A6 := Lib.hid a6
      clear w6 a6
      go_wp2_with (first | refine au1 (n := ?_) | (refine au5 (n := ?_); clear hS; intro w' hS) | (refine au3 (n := ?_); clear hS; intro gb w1 hS))
      (refine (HV1.out _).mono ?_; rintro e w' ⟨rfl, h⟩; replace hS := hS.call h; clear h)
      go_wp2_with (first | refine au1 (n := ?_) | (refine au5 (n := ?_); clear hS; intro w' hS) | (refine au3 (n := ?_); clear hS; intro gb w1 hS))
      (refine (dw_of W5.out O4.out hS).mono ?_; clear hS; rintro e w' ⟨rfl, hS⟩)
      go_wp2_with (first | refine au1 (n := ?_) | (refine au5 (n := ?_); clear hS; intro w' hS) | (refine au3 (n := ?_); clear hS; intro gb w1 hS))
      (refine (df_of W6.out O5.out hS).mono ?_; clear hS; rintro e w' ⟨rfl, hS⟩)
      go_wp2_with (first | refine au1 (n := ?_) | (refine au5 (n := ?_); clear hS; intro w' hS) | (refine au3 (n := ?_); clear hS; intro gb w1 hS))
      go_meet
      exact ⟨false, D6, rfl, Lib.hid (A6.out.fin1 R1.out), hS⟩
    have W6 := Lib.hid w6
    have A6 := Lib.hid a6
    have O6 := Lib.hid a6.ok
    clear w6 a6
    obtain ⟨D7, h7⟩ := wr_any A6.out s6 (by omega) (i := 0) (.inl rfl) HL0.out
    rcases h7 with ⟨w7, a7, s7⟩ | ⟨w7, a7⟩
    case inr =>
      have W7 := Lib.hid w7
      have A7 := Lib.hid a7
      clear w7 a7
      go_wp2_with (first | refine au1 (n := ?_) | (refine au5 (n := ?_); clear hS; intro w' hS) | (refine au3 (n := ?_); clear hS; intro gb w1 hS))
      (refine (HV1.out _).mono ?_; rintro e w' ⟨rfl, h⟩; replace hS := hS.call h; clear h)
      go_wp2_with (first | refine au1 (n := ?_) | (refine au5 (n := ?_); clear hS; intro w' hS) | (refine au3 (n := ?_); clear hS; intro gb w1 hS))
      (refine (dw_of W5.out O4.out hS).mono ?_; clear hS; rintro e w' ⟨rfl, hS⟩)
      go_wp2_with (first | refine au1 (n := ?_) | (refine au5 (n := ?_); clear hS; intro w' hS) | (refine au3 (n := ?_); clear hS; intro gb w1 hS))
      (refine (df_of W6.out O5.out hS).mono ?_; clear hS; rintro e w' ⟨rfl, hS⟩)
      go_wp2_with (first | refine au1 (n := ?_) | (refine au5 (n := ?_); clear hS; intro w' hS) | (refine au3 (n := ?_); clear hS; intro gb w1 hS))
      (refine (HV0.out _).mono ?_; rintro e w' ⟨rfl, h⟩; replace hS := hS.call h; clear h)
      go_wp2_with (first | refine au1 (n := ?_) | (refine au5 (n := ?_); clear hS; intro w' hS) | (refine au3 (n := ?_); clear hS; intro gb w1 hS))
      (refine (dw_of W7.out O6.out hS).mono ?_; clear hS; rintro e w' ⟨rfl, hS⟩)
      go_wp2_with (first | refine au1 (n := ?_) | (refine au5 (n := ?_); clear hS; intro w' hS) | (refine au3 (n := ?_); clear hS; intro gb w1 hS))
      go_meet
      exact ⟨false, D7, rfl, Lib.hid (A7.out.fin (R2.out _ _)), hS⟩
    have W7 := Lib.hid w7
    have A7 := Lib.hid a7
    have O7 := Lib.hid a7.ok
    clear w7 a7
    obtain ⟨D8, h8⟩ := fl_any A7.out s7 (by omega) (c := V0) (d := V1) (fun E h => Dsk.puts0 E h)
    rcases h8 with ⟨w8, a8, s8⟩ | ⟨w8, a8⟩
    all_goals
      have W8 := Lib.hid w8
      have A8 := Lib.hid a8
      clear w8 a8
      go_wp2_with (first | refine au1 (n := ?_) | (refine au5 (n := ?_); clear hS; intro w' hS) | (refine au3 (n := ?_); clear hS; intro gb w1 hS))
      (refine (HV1.out _).mono ?_; rintro e w' ⟨rfl, h⟩; replace hS := hS.call h; clear h)
      go_wp2_with (first | refine au1 (n := ?_) | (refine au5 (n := ?_); clear hS; intro w' hS) | (refine au3 (n := ?_); clear hS; intro gb w1 hS))
      (refine (dw_of W5.out O4.out hS).mono ?_; clear hS; rintro e w' ⟨rfl, hS⟩)
      go_wp2_with (first | refine au1 (n := ?_) | (refine au5 (n := ?_); clear hS; intro w' hS) | (refine au3 (n := ?_); clear hS; intro gb w1 hS))
      (refine (df_of W6.out O5.out hS).mono ?_; clear hS; rintro e w' ⟨rfl, hS⟩)
      go_wp2_with (first | refine au1 (n := ?_) | (refine au5 (n := ?_); clear hS; intro w' hS) | (refine au3 (n := ?_); clear hS; intro gb w1 hS))
      (refine (HV0.out _).mono ?_; rintro e w' ⟨rfl, h⟩; replace hS := hS.call h; clear h)
      go_wp2_with (first | refine au1 (n := ?_) | (refine au5 (n := ?_); clear hS; intro w' hS) | (refine au3 (n := ?_); clear hS; intro gb w1 hS))
      (refine (dw_of W7.out O6.out hS).mono ?_; clear hS; rintro e w' ⟨rfl, hS⟩)
      go_wp2_with (first | refine au1 (n := ?_) | (refine au5 (n := ?_); clear hS; intro w' hS) | (refine au3 (n := ?_); clear hS; intro gb w1 hS))
      (refine (df_of W8.out O7.out hS).mono ?_; clear hS; rintro e w' ⟨rfl, hS⟩)
      go_wp2_with (first | refine au1 (n := ?_) | (refine au5 (n := ?_); clear hS; intro w' hS) | (refine au3 (n := ?_); clear hS; intro gb w1 hS))
      go_meet
      first
      | exact ⟨true, D8, rfl, Lib.hid (A8.out.fin (R2.out _ _)), hS⟩
      | exact ⟨false, D8, rfl, Lib.hid (A8.out.fin0 (fun k hk => R2.out _ _)), hS⟩
  case rest =>
    obtain ⟨bk, D, rfl, HF, hS⟩ := hcut
    clear A4 S4 O4 HV0 HV1 HSO HL0 HL1 H0 H1 R0 R1 R2
    obtain ⟨RB, hRB⟩ : ∃ RB, RR bk = RB := ⟨_, rfl⟩
    rw [hRB] at HF
    go_upto_if 76 with (first | (go_at_call 32; refine (disk_on hS).mono ?_; rintro e w' ⟨rfl, rfl⟩) | (first | refine au1 (n := ?_) | (refine au5 (n := ?_); clear hS; intro w' hS) | (refine au3 (n := ?_); clear hS; intro gb w1 hS)))
    go_cut [] (fun wx => ∃ (D2 : Dsk) (A B : List UInt8), Hid (D2.At A B [] ∧ RB A B) ∧ St [] w wx (disk gd D2 :: [.row ge [.int .i64 vw, .int .i64 po, .int .i64 un, .int .u64 par, .int .i64 cl, .int .i64 se, .int .i64 rq, .int .i64 opr, .string ⟨body.toArray⟩] 26 (0, 0)]))
    case first =>
      cases hoff : D.off
      · obtain ⟨A, B, hat, hr⟩ := HF.out.on hoff
        have HAR := Lib.hid (And.intro hat hr)
        clear hat hr
        go_wp2_with (fail)
        go_meet
        exact ⟨D, A, B, HAR, hS⟩
      · obtain ⟨h1, A, B, hat, hr⟩ := HF.out.off picks hoff
        have HST := Lib.hid (fun (w1 : World) (hS : St [] w w1 (disk gd D :: [.row ge [.int .i64 vw, .int .i64 po, .int .i64 un, .int .u64 par, .int .i64 cl, .int .i64 se, .int .i64 rq, .int .i64 opr, .string ⟨body.toArray⟩] 26 (0, 0)])) => disk_start hS HF.out.ok vp picks (Reads.old HP.out) hpk)
        rw [h1] at HST
        generalize (D.start picks).2 = D2 at HST hat
        have HAR := Lib.hid (And.intro hat hr)
        clear hat hr h1
        go_wp2_with (fail)
        refine (HST.out _ hS).mono ?_
        clear hS
        rintro e w' ⟨rfl, hS⟩
        go_wp2_with (fail)
        go_meet
        exact ⟨D2, A, B, HAR, hS⟩
    case rest =>
      clear hS HF
      obtain ⟨D2, A, B, HAR, hS⟩ := hcut
      have HRD := Lib.hid (Dsk.read_at HAR.out.1)
      have hla := HAR.out.1.len
      have HD2 := Lib.hid HAR.out.1.ok
      have HJ := Lib.hid (fun w => slotJudge_any A B po (by omega) (by omega) w)
      have hrr := HAR.out.2
      clear hla HAR
      rw [← hRB, HRR.out] at hrr
      try simp only at hrr
      generalize judgeS A B po = J at hrr HJ
      clear hRB HRR
      rcases hrr with ⟨rfl, rfl⟩ | rfl
      all_goals
        simp only [It.cells, Stb.cells, En.cells, zeroI, zeroE, zeroB, List.cons_append, List.nil_append] at HJ
        go_wp2_with (fail)
        (refine (dr_of HRD.out.1 HD2.out hS).mono ?_; clear hS; rintro e w' ⟨rfl, hS⟩)
        go_wp2_with (fail)
        (refine (dr_of HRD.out.2 HD2.out hS).mono ?_; clear hS; rintro e w' ⟨rfl, hS⟩)
        clear HRD HD2
        go_wp2_with (first | ((with_reducible refine g_load ?_); refine k_read rfl (h := ?_)) | fail)
        refine (HJ.out _).mono ?_
        rintro e w' ⟨rfl, h⟩
        replace hS := hS.call h
        clear h HJ
        replace hS : St [] w _ [.row ge [.int .i64 vw, .int .i64 po, .int .i64 un, .int .u64 par, .int .i64 cl, .int .i64 se, .int .i64 rq, .int .i64 opr, .string ⟨body.toArray⟩] 26 (0, 0)] := hS.pick
        go_upto_region 20 with (first | ((with_reducible refine g_alloc ?_); refine wl_of rfl ?_; refine wp_alloc hS rfl rfl rfl rfl ?_; clear hS; intro gj w1 hS) | (refine au5 (n := ?_); clear hS; intro w' hS))
        go_wp2_with (first | ((with_reducible refine g_load ?_); refine wl_run rfl (by first | exact a_load1 hS rfl rfl rfl rfl (by (repeat (first | exact Ix.here | apply Ix.there))) (by rfl) | exact a_loadR hS rfl rfl rfl rfl (by (repeat (first | exact Ix.here | apply Ix.there))) (by rfl) | fail) ?_) | ((with_reducible refine g_load ?_); refine wl_run rfl (a_loadA (vs := [_, _, _, _, _, _, _, _, _]) hS rfl rfl rfl rfl (by (repeat (first | exact Ix.here | apply Ix.there))) 9 (by rfl) (by rfl) (by rfl)) ?_))
        go_ret
        exact ⟨rfl, hS.nil⟩
end
end Go.Proofs.Ytkcgacadkpbpoaa
