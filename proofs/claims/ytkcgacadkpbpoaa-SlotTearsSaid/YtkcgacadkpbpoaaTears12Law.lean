/-
  However the power goes as an entry is put into a slot that lacks it, SlotTears returns true.
-/
import Derived.Test.YtkcgacadkpbpoaaTear12D
import Derived.Test.YtkcgacadkpbpoaaAw12
import Derived.Deep.DeepCutAuto
import Derived.Deep.CutBlock
set_option linter.unusedSimpArgs false
set_option linter.unusedVariables false
set_option linter.unusedSectionVars false
set_option maxRecDepth 100000
namespace Go.Proofs.Ytkcgacadkpbpoaa
open Go.RowKit Go.Cmp

section
set_option maxHeartbeats 32000000 in
theorem law_tears12 (o : En) (void : Bool) (e : En) (fuse : Int) (vp : Value) (picks : List Int) (hpo : o.parent < 18446744073709551616) (hp : e.parent < 18446744073709551616) (hf1 : -9223372036854775808 ≤ fuse) (hf2 : fuse ≤ 9223372036854775807) (w : World) (hP : Rd w 1 vp picks.length (picks.flatMap num)) (hpk : ∀ p ∈ picks, p ≤ 9223372036854775807) :
    Calls Try.prog 7 #[.agg o.cells.toArray, .bool void, .agg e.cells.toArray, .int .i64 fuse, vp] w fun x w' => x = .returned (.bool true) ∧ St [] w w' [] := by
  have HP := Lib.hid hP
  clear hP
  have hS := St.init w
  have HA := Lib.hid (fun w => awake12_any w)
  have HRO := Lib.hid (fun w => entRightL_any o w)
  have HR := Lib.hid (fun w => entRightL_any e w)
  obtain ⟨D0, hD0⟩ : ∃ D0, newDsk 2 = D0 := ⟨_, rfl⟩
  have Hn := Lib.hid hD0
  by_cases hg : o.right = true ∧ e.right = true ∧ o.op ≠ e.op
  case neg =>
    have hsp : o.right = false ∨ (o.right = true ∧ e.right = false) ∨ (o.right = true ∧ e.right = true ∧ o.op = e.op) := by
      cases h1 : o.right
      · exact .inl rfl
      · cases h2 : e.right
        · exact .inr (.inl ⟨rfl, rfl⟩)
        · exact .inr (.inr ⟨rfl, rfl, Classical.byContradiction fun h3 => hg ⟨h1, h2, h3⟩⟩)
    clear hg hpo hp
    obtain ⟨ovw, opo, oun, opar, ocl, ose, orq, oopr, obody⟩ := o
    obtain ⟨vw, po, un, par, cl, se, rq, opr, body⟩ := e
    rcases hsp with h1 | ⟨h1, h2⟩ | ⟨h1, h2, h3⟩
    · rw [h1] at HRO
      clear h1
      simp only [En.cells] at HR HRO ⊢
      (go_enter Try.func7, Try.ntmps7)
      go_wp2_with (first | (go_at_call 10; refine (HA.out _).mono ?_; rintro e w' ⟨rfl, h⟩; replace hS := hS.call h; clear h) | (go_at_call 28; refine (disk_new 2 (by omega) (by omega) hS).mono ?_; clear hS; rintro e w1 ⟨gd, rfl, hS⟩; rw [Hn.out] at hS) | (have _h := ga; clear _h; ((with_reducible refine g_box ?_); refine wl_of rfl ?_; refine wp_box hS rfl rfl rfl ?_; clear hS; intro ge w1 hS)) | ((with_reducible refine g_box ?_); refine wl_of rfl ?_; refine wp_box hS rfl rfl rfl ?_; clear hS; intro ga w1 hS) | ((with_reducible refine g_load ?_); refine wl_run rfl (by first | exact a_load1 hS rfl rfl rfl rfl (by (repeat (first | exact Ix.here | apply Ix.there))) (by rfl) | exact a_loadR hS rfl rfl rfl rfl (by (repeat (first | exact Ix.here | apply Ix.there))) (by rfl) | fail) ?_) | (go_at_call 26; refine (HRO.out _).mono ?_; rintro e w' ⟨rfl, h⟩; replace hS := hS.call h; clear h))
      go_ret
      exact ⟨rfl, hS.nil⟩
    · rw [h1] at HRO
      rw [h2] at HR
      clear h1 h2
      simp only [En.cells] at HR HRO ⊢
      (go_enter Try.func7, Try.ntmps7)
      go_wp2_with (first | (go_at_call 10; refine (HA.out _).mono ?_; rintro e w' ⟨rfl, h⟩; replace hS := hS.call h; clear h) | (go_at_call 28; refine (disk_new 2 (by omega) (by omega) hS).mono ?_; clear hS; rintro e w1 ⟨gd, rfl, hS⟩; rw [Hn.out] at hS) | (have _h := ga; clear _h; ((with_reducible refine g_box ?_); refine wl_of rfl ?_; refine wp_box hS rfl rfl rfl ?_; clear hS; intro ge w1 hS)) | ((with_reducible refine g_box ?_); refine wl_of rfl ?_; refine wp_box hS rfl rfl rfl ?_; clear hS; intro ga w1 hS) | ((with_reducible refine g_load ?_); refine wl_run rfl (by first | exact a_load1 hS rfl rfl rfl rfl (by (repeat (first | exact Ix.here | apply Ix.there))) (by rfl) | exact a_loadR hS rfl rfl rfl rfl (by (repeat (first | exact Ix.here | apply Ix.there))) (by rfl) | fail) ?_))
      (refine (HRO.out _).mono ?_; rintro e w' ⟨rfl, h⟩; replace hS := hS.call h; clear h)
      go_wp2_with (((with_reducible refine g_load ?_); refine wl_run rfl (by first | exact a_load1 hS rfl rfl rfl rfl (by (repeat (first | exact Ix.here | apply Ix.there))) (by rfl) | exact a_loadR hS rfl rfl rfl rfl (by (repeat (first | exact Ix.here | apply Ix.there))) (by rfl) | fail) ?_))
      (refine (HR.out _).mono ?_; rintro e w' ⟨rfl, h⟩; replace hS := hS.call h; clear h)
      go_wp2_with (((with_reducible refine g_load ?_); refine wl_run rfl (by first | exact a_load1 hS rfl rfl rfl rfl (by (repeat (first | exact Ix.here | apply Ix.there))) (by rfl) | exact a_loadR hS rfl rfl rfl rfl (by (repeat (first | exact Ix.here | apply Ix.there))) (by rfl) | fail) ?_))
      go_ret
      exact ⟨rfl, hS.nil⟩
    · rw [h1] at HRO
      rw [h2] at HR
      simp only at h3
      subst h3
      clear h1 h2
      simp only [En.cells] at HR HRO ⊢
      (go_enter Try.func7, Try.ntmps7)
      go_wp2_with (first | (go_at_call 10; refine (HA.out _).mono ?_; rintro e w' ⟨rfl, h⟩; replace hS := hS.call h; clear h) | (go_at_call 28; refine (disk_new 2 (by omega) (by omega) hS).mono ?_; clear hS; rintro e w1 ⟨gd, rfl, hS⟩; rw [Hn.out] at hS) | (have _h := ga; clear _h; ((with_reducible refine g_box ?_); refine wl_of rfl ?_; refine wp_box hS rfl rfl rfl ?_; clear hS; intro ge w1 hS)) | ((with_reducible refine g_box ?_); refine wl_of rfl ?_; refine wp_box hS rfl rfl rfl ?_; clear hS; intro ga w1 hS) | ((with_reducible refine g_load ?_); refine wl_run rfl (by first | exact a_load1 hS rfl rfl rfl rfl (by (repeat (first | exact Ix.here | apply Ix.there))) (by rfl) | exact a_loadR hS rfl rfl rfl rfl (by (repeat (first | exact Ix.here | apply Ix.there))) (by rfl) | fail) ?_))
      (refine (HRO.out _).mono ?_; rintro e w' ⟨rfl, h⟩; replace hS := hS.call h; clear h)
      go_wp2_with (((with_reducible refine g_load ?_); refine wl_run rfl (by first | exact a_load1 hS rfl rfl rfl rfl (by (repeat (first | exact Ix.here | apply Ix.there))) (by rfl) | exact a_loadR hS rfl rfl rfl rfl (by (repeat (first | exact Ix.here | apply Ix.there))) (by rfl) | fail) ?_))
      (refine (HR.out _).mono ?_; rintro e w' ⟨rfl, h⟩; replace hS := hS.call h; clear h)
      go_wp2_with (((with_reducible refine g_load ?_); refine wl_run rfl (by first | exact a_load1 hS rfl rfl rfl rfl (by (repeat (first | exact Ix.here | apply Ix.there))) (by rfl) | exact a_loadR hS rfl rfl rfl rfl (by (repeat (first | exact Ix.here | apply Ix.there))) (by rfl) | fail) ?_))
      go_ret
      exact ⟨rfl, hS.nil⟩
  obtain ⟨hro, hr, hne⟩ := hg
  rw [hr] at HR
  rw [hro] at HRO
  have hb : e.body.length ≤ 1000000 := by have := right_body hr; omega
  have hbo : o.body.length ≤ 1000000 := by have := right_body hro; omega
  have hneb : (o.op == e.op) = false := by rw [beq_eq_false_iff_ne]; exact hne
  have HPO := Lib.hid (fun w => slotPrepare_any [] o (by simp) hpo hbo w)
  have HHO := Lib.hid (fun w => slotHeader_any [] (stubE o) (by simp) (stubE_facts hpo).1 (stubE_facts hpo).2 w)
  have HSO := Lib.hid (fun w => slotStubOf_any o hpo hbo w)
  have HV := Lib.hid (fun w => slotVoid_any [] (by simp) w)
  have HPE := Lib.hid (fun (p : List UInt8) (hl : p.length = 384) w => slotPrepare_any p e (by omega) hp hb w)
  have HHE := Lib.hid (fun (p : List UInt8) (hl : p.length = 384) w => slotHeader_any p (stubE e) (by omega) (stubE_facts hp).1 (stubE_facts hp).2 w)
  have HSE := Lib.hid (fun w => slotStubOf_any e hp hb w)
  have G0 : Hid (Sld (prepS [] o).1 ∧ Sld (hdrS [] (stubE o)).1 ∧ ∀ q, judgeS q (hdrS [] (stubE o)).1 e.op = zeroI) := Lib.hid ⟨prep_sld hro, hdr_sld (stubE_right hro), fun q => other_judge hro hpo hne⟩
  have G1 : Hid (Sld (voidS []) ∧ Sld (voidS []) ∧ ∀ q, judgeS q (voidS []) e.op = zeroI) := Lib.hid ⟨void_sld _, void_sld _, fun q => void_judge _ _ _⟩
  obtain ⟨RR, hRR⟩ : ∃ RR : Bool → List UInt8 → List UInt8 → Prop, RR = fun bk a b => judgeS a b e.op = ⟨1, stubE e, e⟩ ∨ (bk = false ∧ judgeS a b e.op = zeroI) := ⟨_, rfl⟩
  have HRR := Lib.hid hRR
  have HX : Hid (∀ p h, Sld h → (∀ q, judgeS q h e.op = zeroI) → (prepS p e).1.length = 384 ∧ (hdrS h (stubE e)).1.length = 384 ∧ (∀ q, RR false q h) ∧ (∀ bk, RR bk (prepS p e).1 (hdrS h (stubE e)).1) ∧ ∀ k, k ≤ 384 → RR false (prepS p e).1 (mixS (hdrS h (stubE e)).1 h k)) := Lib.hid (fun p h hh hz => by
    rw [hRR]
    refine ⟨prep_len hr, hdr_len hr, fun q => .inr ⟨rfl, hz q⟩, fun bk => .inl (full_judge hr hp), fun k hk => ?_⟩
    rcases last_judge (o := p) hr hp hh hz k hk with h1 | h1
    · exact .inl h1
    · exact .inr ⟨rfl, h1⟩)
  obtain ⟨c0, e0⟩ : ∃ c, (prepS [] o).2 = c := ⟨_, rfl⟩
  obtain ⟨c1, e1⟩ : ∃ c, (hdrS [] (stubE o)).2 = c := ⟨_, rfl⟩
  rw [e0] at HPO
  rw [e1] at HHO
  clear e0 e1 hro hr hRR hne hb hbo hp hpo
  generalize (prepS [] o).1 = PO at HPO G0
  generalize (hdrS [] (stubE o)).1 = HO at HHO G0
  generalize voidS [] = VV at HV G1
  obtain ⟨SO, hSO⟩ : ∃ s, stubE o = s := ⟨_, rfl⟩
  rw [hSO] at HHO HSO
  obtain ⟨SE, hSE⟩ : ∃ s, stubE e = s := ⟨_, rfl⟩
  rw [hSE] at HHE HSE HRR HX
  clear hSO hSE
  obtain ⟨oso, osv, osu, osp, oss⟩ := SO
  obtain ⟨so, sv, su, sp, ss⟩ := SE
  obtain ⟨ovw, opo, oun, opar, ocl, ose, orq, oopr, obody⟩ := o
  obtain ⟨vw, po, un, par, cl, se, rq, opr, body⟩ := e
  simp only at hneb
  simp only [En.cells, Stb.cells] at HR HRO HPO HHO HSO HPE HHE HSE ⊢
  (go_enter Try.func7, Try.ntmps7)
  go_wp2_with (first | (go_at_call 10; refine (HA.out _).mono ?_; rintro e w' ⟨rfl, h⟩; replace hS := hS.call h; clear h) | (go_at_call 28; refine (disk_new 2 (by omega) (by omega) hS).mono ?_; clear hS; rintro e w1 ⟨gd, rfl, hS⟩; rw [Hn.out] at hS) | (have _h := ga; clear _h; ((with_reducible refine g_box ?_); refine wl_of rfl ?_; refine wp_box hS rfl rfl rfl ?_; clear hS; intro ge w1 hS)) | ((with_reducible refine g_box ?_); refine wl_of rfl ?_; refine wp_box hS rfl rfl rfl ?_; clear hS; intro ga w1 hS) | ((with_reducible refine g_load ?_); refine wl_run rfl (by first | exact a_load1 hS rfl rfl rfl rfl (by (repeat (first | exact Ix.here | apply Ix.there))) (by rfl) | exact a_loadR hS rfl rfl rfl rfl (by (repeat (first | exact Ix.here | apply Ix.there))) (by rfl) | fail) ?_))
  (refine (HRO.out _).mono ?_; rintro e w' ⟨rfl, h⟩; replace hS := hS.call h; clear h)
  go_wp2_with (((with_reducible refine g_load ?_); refine wl_run rfl (by first | exact a_load1 hS rfl rfl rfl rfl (by (repeat (first | exact Ix.here | apply Ix.there))) (by rfl) | exact a_loadR hS rfl rfl rfl rfl (by (repeat (first | exact Ix.here | apply Ix.there))) (by rfl) | fail) ?_))
  (refine (HR.out _).mono ?_; rintro e w' ⟨rfl, h⟩; replace hS := hS.call h; clear h)
  go_wp2_with (((with_reducible refine g_load ?_); refine wl_run rfl (by first | exact a_load1 hS rfl rfl rfl rfl (by (repeat (first | exact Ix.here | apply Ix.there))) (by rfl) | exact a_loadR hS rfl rfl rfl rfl (by (repeat (first | exact Ix.here | apply Ix.there))) (by rfl) | fail) ?_))
  (refine (HPO.out _).mono ?_; rintro e w' ⟨rfl, h⟩; replace hS := hS.call h; clear h)
  go_wp2_with (((with_reducible refine g_load ?_); refine wl_run rfl (by first | exact a_load1 hS rfl rfl rfl rfl (by (repeat (first | exact Ix.here | apply Ix.there))) (by rfl) | exact a_loadR hS rfl rfl rfl rfl (by (repeat (first | exact Ix.here | apply Ix.there))) (by rfl) | fail) ?_))
  (refine (HSO.out _).mono ?_; rintro e w' ⟨rfl, h⟩; replace hS := hS.call h; clear h)
  go_wp2_with (((with_reducible refine g_load ?_); refine wl_run rfl (by first | exact a_load1 hS rfl rfl rfl rfl (by (repeat (first | exact Ix.here | apply Ix.there))) (by rfl) | exact a_loadR hS rfl rfl rfl rfl (by (repeat (first | exact Ix.here | apply Ix.there))) (by rfl) | fail) ?_))
  (refine (HHO.out _).mono ?_; rintro e w' ⟨rfl, h⟩; replace hS := hS.call h; clear h)
  go_upto_if 61 with (fail)
  replace hS : St [] w _ [disk gd D0, .row ga [.int .i64 ovw, .int .i64 opo, .int .i64 oun, .int .u64 opar, .int .i64 ocl, .int .i64 ose, .int .i64 orq, .int .i64 oopr, .string ⟨obody.toArray⟩] 26 (0, 0), .row ge [.int .i64 vw, .int .i64 po, .int .i64 un, .int .u64 par, .int .i64 cl, .int .i64 se, .int .i64 rq, .int .i64 opr, .string ⟨body.toArray⟩] 26 (0, 0)] := hS.pick
  clear HA HR HRO HPO HHO HSO
  go_cut [13, 15] (fun p h wx => ∃ (P H : List UInt8), p = .string ⟨P.toArray⟩ ∧ h = .string ⟨H.toArray⟩ ∧ Hid (Sld P ∧ Sld H ∧ ∀ q, judgeS q H po = zeroI) ∧ St [] w wx [disk gd D0, .row ga [.int .i64 ovw, .int .i64 opo, .int .i64 oun, .int .u64 opar, .int .i64 ocl, .int .i64 ose, .int .i64 orq, .int .i64 oopr, .string ⟨obody.toArray⟩] 26 (0, 0), .row ge [.int .i64 vw, .int .i64 po, .int .i64 un, .int .u64 par, .int .i64 cl, .int .i64 se, .int .i64 rq, .int .i64 opr, .string ⟨body.toArray⟩] 26 (0, 0)])
  case first =>
    cases void
    · go_wp2_with (fail)
      go_meet
      exact ⟨PO, HO, rfl, rfl, G0, hS⟩
    · go_wp2_with (fail)
      (refine (HV.out _).mono ?_; rintro e w' ⟨rfl, h⟩; replace hS := hS.call h; clear h)
      go_wp2_with (fail)
      (refine (HV.out _).mono ?_; rintro e w' ⟨rfl, h⟩; replace hS := hS.call h; clear h)
      go_wp2_with (fail)
      go_meet
      exact ⟨VV, VV, rfl, rfl, G1, hS.pick⟩
  case rest =>
    clear hS G0 G1 HV
    obtain ⟨P, H, rfl, rfl, HG, hS⟩ := hcut
    obtain ⟨x1, x2, x3, x4, x5⟩ := HX.out P H HG.out.2.1 HG.out.2.2
    have HPE := Lib.hid (HPE.out P HG.out.1.len)
    have HHE := Lib.hid (HHE.out H HG.out.2.1.len)
    obtain ⟨D1, D2, D3, D4, hL⟩ := laid_any HG.out.1.len HG.out.2.1.len fuse hf2
    rw [hD0] at hL
    have HL := Lib.hid hL
    obtain ⟨c0, e0⟩ : ∃ c, (prepS P ⟨vw, po, un, par, cl, se, rq, opr, body⟩).2 = c := ⟨_, rfl⟩
    obtain ⟨c1, e1⟩ : ∃ c, (hdrS H ⟨so, sv, su, sp, ss⟩).2 = c := ⟨_, rfl⟩
    rw [e0] at HPE
    rw [e1] at HHE
    clear e0 e1 hL HX HG
    generalize (prepS P ⟨vw, po, un, par, cl, se, rq, opr, body⟩).1 = X at HPE x1 x4 x5
    generalize (hdrS H ⟨so, sv, su, sp, ss⟩).1 = Y at HHE x2 x4 x5
    have HL0 := Lib.hid x1
    have HL1 := Lib.hid x2
    have R0 := Lib.hid x3
    have R1 := Lib.hid x4
    have R2 := Lib.hid x5
    clear x1 x2 x3 x4 x5 hD0 Hn
    go_wp2_with (fail)
    (refine (dw_of HL.out.w0 HL.out.ok0 hS).mono ?_; clear hS; rintro e w' ⟨rfl, hS⟩)
    go_wp2_with (fail)
    (refine (dw_of HL.out.w1 HL.out.ok1 hS).mono ?_; clear hS; rintro e w' ⟨rfl, hS⟩)
    go_wp2_with (fail)
    (refine (df_of HL.out.fl HL.out.ok2 hS).mono ?_; clear hS; rintro e w' ⟨rfl, hS⟩)
    go_wp2_with (((with_reducible refine g_load ?_); refine wl_run rfl (by first | exact a_load1 hS rfl rfl rfl rfl (by (repeat (first | exact Ix.here | apply Ix.there))) (by rfl) | exact a_loadR hS rfl rfl rfl rfl (by (repeat (first | exact Ix.here | apply Ix.there))) (by rfl) | fail) ?_))
    (refine (HPE.out _).mono ?_; rintro e w' ⟨rfl, h⟩; replace hS := hS.call h; clear h)
    go_wp2_with (((with_reducible refine g_load ?_); refine wl_run rfl (by first | exact a_load1 hS rfl rfl rfl rfl (by (repeat (first | exact Ix.here | apply Ix.there))) (by rfl) | exact a_loadR hS rfl rfl rfl rfl (by (repeat (first | exact Ix.here | apply Ix.there))) (by rfl) | fail) ?_))
    (refine (HSE.out _).mono ?_; rintro e w' ⟨rfl, h⟩; replace hS := hS.call h; clear h)
    go_wp2_with (((with_reducible refine g_load ?_); refine wl_run rfl (by first | exact a_load1 hS rfl rfl rfl rfl (by (repeat (first | exact Ix.here | apply Ix.there))) (by rfl) | exact a_loadR hS rfl rfl rfl rfl (by (repeat (first | exact Ix.here | apply Ix.there))) (by rfl) | fail) ?_))
    (refine (HHE.out _).mono ?_; rintro e w' ⟨rfl, h⟩; replace hS := hS.call h; clear h)
    go_wp2_with (((with_reducible refine g_load ?_); refine wl_run rfl (by first | exact a_load1 hS rfl rfl rfl rfl (by (repeat (first | exact Ix.here | apply Ix.there))) (by rfl) | exact a_loadR hS rfl rfl rfl rfl (by (repeat (first | exact Ix.here | apply Ix.there))) (by rfl) | fail) ?_))
    replace hS : St [] w _ [disk gd D3, .row ga [.int .i64 ovw, .int .i64 opo, .int .i64 oun, .int .u64 opar, .int .i64 ocl, .int .i64 ose, .int .i64 orq, .int .i64 oopr, .string ⟨obody.toArray⟩] 26 (0, 0), .row ge [.int .i64 vw, .int .i64 po, .int .i64 un, .int .u64 par, .int .i64 cl, .int .i64 se, .int .i64 rq, .int .i64 opr, .string ⟨body.toArray⟩] 26 (0, 0)] := hS.pick
    (refine (du_of HL.out.fu hf1 hf2 hS).mono ?_; clear hS; rintro e w' ⟨rfl, hS⟩)
    go_upto_region 19 with (fail)
    have A4 := Lib.hid HL.out.at4
    have S4 := Lib.hid HL.out.steps
    have O4 := Lib.hid A4.out.ok
    clear HPE HHE HL hf1 hf2
    go_cut [21] (fun ok wx => ∃ (bk : Bool) (D : Dsk), ok = .bool bk ∧ Hid (D.Fin (RR bk)) ∧ St [] w wx [disk gd D, .row ga [.int .i64 ovw, .int .i64 opo, .int .i64 oun, .int .u64 opar, .int .i64 ocl, .int .i64 ose, .int .i64 orq, .int .i64 oopr, .string ⟨obody.toArray⟩] 26 (0, 0), .row ge [.int .i64 vw, .int .i64 po, .int .i64 un, .int .u64 par, .int .i64 cl, .int .i64 se, .int .i64 rq, .int .i64 opr, .string ⟨body.toArray⟩] 26 (0, 0)])
    case first =>
      obtain ⟨D5, h5⟩ := wr_any A4.out S4.out (by omega) (i := 0) (.inl rfl) HL0.out
      rcases h5 with ⟨w5, a5, s5⟩ | ⟨w5, a5⟩
      case inr =>
        have W5 := Lib.hid w5
        have A5 := Lib.hid a5
        clear w5 a5
        go_wp2_with (first | refine au1 (n := ?_) | (refine au5 (n := ?_); clear hS; intro w' hS) | (refine au3 (n := ?_); clear hS; intro gb w1 hS))
        (refine (dw_of W5.out O4.out hS).mono ?_; clear hS; rintro e w' ⟨rfl, hS⟩)
        go_wp2_with (first | refine au1 (n := ?_) | (refine au5 (n := ?_); clear hS; intro w' hS) | (refine au3 (n := ?_); clear hS; intro gb w1 hS))
        go_meet
        exact ⟨false, D5, rfl, Lib.hid (A5.out.fin (R0.out _)), hS⟩
      have W5 := Lib.hid w5
      have A5 := Lib.hid a5
      have O5 := Lib.hid a5.ok
      clear w5 a5
      obtain ⟨D6, h6⟩ := fl_any A5.out s5 (by omega) (c := X) (d := H) (fun E h => Dsk.puts0 E h)
      rcases h6 with ⟨w6, a6, s6⟩ | ⟨w6, a6⟩
      case inr =>
        have W6 := Lib.hid w6
        have A6 := Lib.hid a6
        clear w6 a6
        go_wp2_with (first | refine au1 (n := ?_) | (refine au5 (n := ?_); clear hS; intro w' hS) | (refine au3 (n := ?_); clear hS; intro gb w1 hS))
        (refine (dw_of W5.out O4.out hS).mono ?_; clear hS; rintro e w' ⟨rfl, hS⟩)
        go_wp2_with (first | refine au1 (n := ?_) | (refine au5 (n := ?_); clear hS; intro w' hS) | (refine au3 (n := ?_); clear hS; intro gb w1 hS))
        (refine (df_of W6.out O5.out hS).mono ?_; clear hS; rintro e w' ⟨rfl, hS⟩)
        go_wp2_with (first | refine au1 (n := ?_) | (refine au5 (n := ?_); clear hS; intro w' hS) | (refine au3 (n := ?_); clear hS; intro gb w1 hS))
        go_meet
        exact ⟨false, D6, rfl, Lib.hid (A6.out.fin0 (fun k hk => R0.out _)), hS⟩
      have W6 := Lib.hid w6
      have A6 := Lib.hid a6
      have O6 := Lib.hid a6.ok
      clear w6 a6
      obtain ⟨D7, h7⟩ := wr_any A6.out s6 (by omega) (i := 1) (.inr rfl) HL1.out
      rcases h7 with ⟨w7, a7, s7⟩ | ⟨w7, a7⟩
      case inr =>
        have W7 := Lib.hid w7
        have A7 := Lib.hid a7
        clear w7 a7
        go_wp2_with (first | refine au1 (n := ?_) | (refine au5 (n := ?_); clear hS; intro w' hS) | (refine au3 (n := ?_); clear hS; intro gb w1 hS))
        (refine (dw_of W5.out O4.out hS).mono ?_; clear hS; rintro e w' ⟨rfl, hS⟩)
        go_wp2_with (first | refine au1 (n := ?_) | (refine au5 (n := ?_); clear hS; intro w' hS) | (refine au3 (n := ?_); clear hS; intro gb w1 hS))
        (refine (df_of W6.out O5.out hS).mono ?_; clear hS; rintro e w' ⟨rfl, hS⟩)
        go_wp2_with (first | refine au1 (n := ?_) | (refine au5 (n := ?_); clear hS; intro w' hS) | (refine au3 (n := ?_); clear hS; intro gb w1 hS))
        (refine (dw_of W7.out O6.out hS).mono ?_; clear hS; rintro e w' ⟨rfl, hS⟩)
        go_wp2_with (first | refine au1 (n := ?_) | (refine au5 (n := ?_); clear hS; intro w' hS) | (refine au3 (n := ?_); clear hS; intro gb w1 hS))
        go_meet
        exact ⟨false, D7, rfl, Lib.hid (A7.out.fin (R0.out _)), hS⟩
      have W7 := Lib.hid w7
      have A7 := Lib.hid a7
      have O7 := Lib.hid a7.ok
      clear w7 a7
      obtain ⟨D8, h8⟩ := fl_any A7.out s7 (by omega) (c := X) (d := Y) (fun E h => Dsk.puts1 E h)
      rcases h8 with ⟨w8, a8, s8⟩ | ⟨w8, a8⟩
      all_goals
        have W8 := Lib.hid w8
        have A8 := Lib.hid a8
        clear w8 a8
        go_wp2_with (first | refine au1 (n := ?_) | (refine au5 (n := ?_); clear hS; intro w' hS) | (refine au3 (n := ?_); clear hS; intro gb w1 hS))
        (refine (dw_of W5.out O4.out hS).mono ?_; clear hS; rintro e w' ⟨rfl, hS⟩)
        go_wp2_with (first | refine au1 (n := ?_) | (refine au5 (n := ?_); clear hS; intro w' hS) | (refine au3 (n := ?_); clear hS; intro gb w1 hS))
        (refine (df_of W6.out O5.out hS).mono ?_; clear hS; rintro e w' ⟨rfl, hS⟩)
        go_wp2_with (first | refine au1 (n := ?_) | (refine au5 (n := ?_); clear hS; intro w' hS) | (refine au3 (n := ?_); clear hS; intro gb w1 hS))
        (refine (dw_of W7.out O6.out hS).mono ?_; clear hS; rintro e w' ⟨rfl, hS⟩)
        go_wp2_with (first | refine au1 (n := ?_) | (refine au5 (n := ?_); clear hS; intro w' hS) | (refine au3 (n := ?_); clear hS; intro gb w1 hS))
        (refine (df_of W8.out O7.out hS).mono ?_; clear hS; rintro e w' ⟨rfl, hS⟩)
        go_wp2_with (first | refine au1 (n := ?_) | (refine au5 (n := ?_); clear hS; intro w' hS) | (refine au3 (n := ?_); clear hS; intro gb w1 hS))
        go_meet
        first
        | exact ⟨true, D8, rfl, Lib.hid (A8.out.fin (R1.out _)), hS⟩
        | exact ⟨false, D8, rfl, Lib.hid (A8.out.fin1 R2.out), hS⟩
    case rest =>
      obtain ⟨bk, D, rfl, HF, hS⟩ := hcut
      clear A4 S4 O4 HL0 HL1 R0 R1 R2
      obtain ⟨RB, hRB⟩ : ∃ RB, RR bk = RB := ⟨_, rfl⟩
      rw [hRB] at HF
      go_upto_if 110 with (first | (go_at_call 32; refine (disk_on hS).mono ?_; rintro e w' ⟨rfl, rfl⟩) | (first | refine au1 (n := ?_) | (refine au5 (n := ?_); clear hS; intro w' hS) | (refine au3 (n := ?_); clear hS; intro gb w1 hS)))
      go_cut [] (fun wx => ∃ (D2 : Dsk) (A B : List UInt8), Hid (D2.At A B [] ∧ RB A B) ∧ St [] w wx (disk gd D2 :: [.row ga [.int .i64 ovw, .int .i64 opo, .int .i64 oun, .int .u64 opar, .int .i64 ocl, .int .i64 ose, .int .i64 orq, .int .i64 oopr, .string ⟨obody.toArray⟩] 26 (0, 0), .row ge [.int .i64 vw, .int .i64 po, .int .i64 un, .int .u64 par, .int .i64 cl, .int .i64 se, .int .i64 rq, .int .i64 opr, .string ⟨body.toArray⟩] 26 (0, 0)]))
      case first =>
        cases hoff : D.off
        · obtain ⟨A, B, hat, hr⟩ := HF.out.on hoff
          have HAR := Lib.hid (And.intro hat hr)
          clear hat hr
          go_wp2_with (fail)
          go_meet
          exact ⟨D, A, B, HAR, hS⟩
        · obtain ⟨h1, A, B, hat, hr⟩ := HF.out.off picks hoff
          have HST := Lib.hid (fun (w1 : World) (hS : St [] w w1 (disk gd D :: [.row ga [.int .i64 ovw, .int .i64 opo, .int .i64 oun, .int .u64 opar, .int .i64 ocl, .int .i64 ose, .int .i64 orq, .int .i64 oopr, .string ⟨obody.toArray⟩] 26 (0, 0), .row ge [.int .i64 vw, .int .i64 po, .int .i64 un, .int .u64 par, .int .i64 cl, .int .i64 se, .int .i64 rq, .int .i64 opr, .string ⟨body.toArray⟩] 26 (0, 0)])) => disk_start hS HF.out.ok vp picks (Reads.old HP.out) hpk)
          rw [h1] at HST
          generalize (D.start picks).2 = D2 at HST hat
          have HAR := Lib.hid (And.intro hat hr)
          clear hat hr h1
          go_wp2_with (fail)
          refine (HST.out _ hS).mono ?_
          clear hS
          rintro e w' ⟨rfl, hS⟩
          go_wp2_with (fail)
          go_meet
          exact ⟨D2, A, B, HAR, hS⟩
      case rest =>
        clear hS HF
        obtain ⟨D2, A, B, HAR, hS⟩ := hcut
        have HRD := Lib.hid (Dsk.read_at HAR.out.1)
        have hla := HAR.out.1.len
        have HD2 := Lib.hid HAR.out.1.ok
        have HJ := Lib.hid (fun w => slotJudge_any A B po (by omega) (by omega) w)
        have hrr := HAR.out.2
        clear hla HAR
        rw [← hRB, HRR.out] at hrr
        try simp only at hrr
        generalize judgeS A B po = J at hrr HJ
        clear hRB HRR
        rcases hrr with rfl | ⟨rfl, rfl⟩
        all_goals
          simp only [It.cells, Stb.cells, En.cells, zeroI, zeroE, zeroB, List.cons_append, List.nil_append] at HJ
          go_wp2_with (fail)
          (refine (dr_of HRD.out.1 HD2.out hS).mono ?_; clear hS; rintro e w' ⟨rfl, hS⟩)
          go_wp2_with (fail)
          (refine (dr_of HRD.out.2 HD2.out hS).mono ?_; clear hS; rintro e w' ⟨rfl, hS⟩)
          clear HRD HD2
          go_wp2_with (first | ((with_reducible refine g_load ?_); refine k_read rfl (h := ?_)) | fail)
          refine (HJ.out _).mono ?_
          rintro e w' ⟨rfl, h⟩
          replace hS := hS.call h
          clear h HJ
          replace hS : St [] w _ [.row ga [.int .i64 ovw, .int .i64 opo, .int .i64 oun, .int .u64 opar, .int .i64 ocl, .int .i64 ose, .int .i64 orq, .int .i64 oopr, .string ⟨obody.toArray⟩] 26 (0, 0), .row ge [.int .i64 vw, .int .i64 po, .int .i64 un, .int .u64 par, .int .i64 cl, .int .i64 se, .int .i64 rq, .int .i64 opr, .string ⟨body.toArray⟩] 26 (0, 0)] := hS.pick
          go_upto_region 25 with (first | ((with_reducible refine g_alloc ?_); refine wl_of rfl ?_; refine wp_alloc hS rfl rfl rfl rfl ?_; clear hS; intro gj w1 hS) | (refine au5 (n := ?_); clear hS; intro w' hS))
        · cases bk
          all_goals
            go_wp2_with (((with_reducible refine g_load ?_); refine wl_run rfl (by first | exact a_load1 hS rfl rfl rfl rfl (by (repeat (first | exact Ix.here | apply Ix.there))) (by rfl) | exact a_loadR hS rfl rfl rfl rfl (by (repeat (first | exact Ix.here | apply Ix.there))) (by rfl) | fail) ?_))
            refine region_calm (by kernel_rfl) (by kernel_rfl) hS ?_
            (repeat (first | ((with_reducible refine c_load ?_); refine Calm.run rfl (fun W hW => by exact a_loadR hW rfl rfl rfl rfl (by (repeat (first | exact Ix.here | apply Ix.there))) (by rfl)) ?_; simp only [Act.put, List.setIfInBounds_toArray, List.set_cons_zero, List.set_cons_succ]) | ((with_reducible refine c_call ?_); first | fail) | refine calm1 (n := ?_)))
            (refine Calm.call (calm_makes HSE.out) rfl (h := ?_); simp only [Act.put, List.setIfInBounds_toArray, List.set_cons_zero, List.set_cons_succ])
            (repeat (first | ((with_reducible refine c_load ?_); refine Calm.run rfl (fun W hW => by exact a_loadR hW rfl rfl rfl rfl (by (repeat (first | exact Ix.here | apply Ix.there))) (by rfl)) ?_; simp only [Act.put, List.setIfInBounds_toArray, List.set_cons_zero, List.set_cons_succ]) | ((with_reducible refine c_call ?_); first | fail) | refine calm1 (n := ?_)))
            (refine Calm.nil ?_; clear hS; intro w8 hS)
            go_wp2_with (fail)
            go_ret
            exact ⟨rfl, hS.nil⟩
        · go_wp2_with (((with_reducible refine g_load ?_); refine wl_run rfl (by first | exact a_load1 hS rfl rfl rfl rfl (by (repeat (first | exact Ix.here | apply Ix.there))) (by rfl) | exact a_loadR hS rfl rfl rfl rfl (by (repeat (first | exact Ix.here | apply Ix.there))) (by rfl) | fail) ?_))
          go_ret
          exact ⟨rfl, hS.nil⟩
end
end Go.Proofs.Ytkcgacadkpbpoaa
