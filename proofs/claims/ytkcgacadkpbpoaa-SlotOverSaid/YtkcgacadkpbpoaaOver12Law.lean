/-
  However the power goes as an entry is put over another one, SlotOver returns true.
-/
import Derived.Test.YtkcgacadkpbpoaaTear12D
import Derived.Test.YtkcgacadkpbpoaaAw12
import Derived.Deep.DeepCutAuto
import Derived.Deep.CutBlock
set_option linter.unusedSimpArgs false
set_option linter.unusedVariables false
set_option linter.unusedSectionVars false
set_option maxRecDepth 100000
namespace Go.Proofs.Ytkcgacadkpbpoaa
open Go.RowKit Go.Cmp

section
set_option maxHeartbeats 32000000 in
theorem law_over12b (o e : En) (ep : Int) (hop : e.op = o.op) (fuse : Int) (vp : Value) (picks : List Int) (hpo : o.parent < 18446744073709551616) (hp : e.parent < 18446744073709551616) (hf1 : -9223372036854775808 ≤ fuse) (hf2 : fuse ≤ 9223372036854775807) (w : World) (hP : Rd w 1 vp picks.length (picks.flatMap num)) (hpk : ∀ p ∈ picks, p ≤ 9223372036854775807) :
    Calls Try.prog 9 #[.agg o.cells.toArray, .agg (En.cells ⟨e.view, ep, e.under, e.parent, e.client, e.session, e.request, e.oper, e.body⟩).toArray, .int .i64 fuse, vp] w fun x w' => x = .returned (.bool true) ∧ St [] w w' [] := by
  have HP := Lib.hid hP
  clear hP
  have hS := St.init w
  have HA := Lib.hid (fun w => awake12_any w)
  have HRO := Lib.hid (fun w => entRightL_any o w)
  have HR := Lib.hid (fun w => entRightL_any e w)
  obtain ⟨D0, hD0⟩ : ∃ D0, newDsk 2 = D0 := ⟨_, rfl⟩
  have Hn := Lib.hid hD0
  cases hro : o.right
  · rw [hro] at HRO
    clear hro hpo hp
    obtain ⟨ovw, opo, oun, opar, ocl, ose, orq, oopr, obody⟩ := o
    obtain ⟨vw, po, un, par, cl, se, rq, opr, body⟩ := e
    replace hop := hop.symm
    simp only at hop
    subst hop
    simp only [En.cells] at HR HRO ⊢
    (go_enter Try.func9, Try.ntmps9)
    go_upto_region 6 with (first | (go_at_call 10; refine (HA.out _).mono ?_; rintro e w' ⟨rfl, h⟩; replace hS := hS.call h; clear h) | (go_at_call 28; refine (disk_new 2 (by omega) (by omega) hS).mono ?_; clear hS; rintro e w1 ⟨gd, rfl, hS⟩; rw [Hn.out] at hS) | (have _h := ga; clear _h; ((with_reducible refine g_box ?_); refine wl_of rfl ?_; refine wp_box hS rfl rfl rfl ?_; clear hS; intro ge w1 hS)) | ((with_reducible refine g_box ?_); refine wl_of rfl ?_; refine wp_box hS rfl rfl rfl ?_; clear hS; intro ga w1 hS))
    replace hS : St [] w _ [.row ga [.int .i64 ovw, .int .i64 opo, .int .i64 oun, .int .u64 opar, .int .i64 ocl, .int .i64 ose, .int .i64 orq, .int .i64 oopr, .string ⟨obody.toArray⟩] 26 (0, 0), .row ge [.int .i64 vw, .int .i64 ep, .int .i64 un, .int .u64 par, .int .i64 cl, .int .i64 se, .int .i64 rq, .int .i64 opr, .string ⟨body.toArray⟩] 26 (0, 0)] := hS.pick
    go_upto_region 7 with (first | ((with_reducible refine g_load ?_); refine wl_run rfl (by first | exact a_load1 hS rfl rfl rfl rfl (by (repeat (first | exact Ix.here | apply Ix.there))) (by rfl) | exact a_loadR hS rfl rfl rfl rfl (by (repeat (first | exact Ix.here | apply Ix.there))) (by rfl) | fail) ?_) | (((with_reducible refine g_store ?_); refine wl_of rfl ?_; first | (refine k_sta hS rfl rfl rfl (h := ?_); intro w' hS; simp only [List.take, List.drop, List.cons_append, List.nil_append, List.length_cons, List.length_nil] at hS) | (first | ((first | (refine k_st1 (v := .int _ _) hS rfl rfl rfl (h := ?_)) | (refine k_st1 (v := .bool _) hS rfl rfl rfl (h := ?_)) | (refine k_st1 (v := .string _) hS rfl rfl rfl (h := ?_)) | (refine k_st1 (v := .slice none 0 0) hS rfl rfl rfl (h := ?_))); intro w' hS; simp only [List.set_cons_zero, List.set_cons_succ] at hS) | ((refine k_st1  hS rfl rfl rfl (h := ?_)); intro w' hS; simp only [List.set_cons_zero, List.set_cons_succ] at hS; simp only [Act.eval, Array.getD_eq_getD_getElem?, List.getElem?_toArray, List.getElem?_cons_succ, List.getElem?_cons_zero, Option.getD_some] at hS)) | (first | (refine k_ste (v := .int _ _) hS rfl rfl rfl (h := ?_); intro w' hS) | (refine k_ste (v := .bool _) hS rfl rfl rfl (h := ?_); intro w' hS) | (refine k_ste (v := .string _) hS rfl rfl rfl (h := ?_); intro w' hS)))))
    go_wp2_with (((with_reducible refine g_load ?_); refine wl_run rfl (by first | exact a_load1 hS rfl rfl rfl rfl (by (repeat (first | exact Ix.here | apply Ix.there))) (by rfl) | exact a_loadR hS rfl rfl rfl rfl (by (repeat (first | exact Ix.here | apply Ix.there))) (by rfl) | fail) ?_))
    (refine (HRO.out _).mono ?_; rintro e w' ⟨rfl, h⟩; replace hS := hS.call h; clear h)
    go_wp2_with (((with_reducible refine g_load ?_); refine wl_run rfl (by first | exact a_load1 hS rfl rfl rfl rfl (by (repeat (first | exact Ix.here | apply Ix.there))) (by rfl) | exact a_loadR hS rfl rfl rfl rfl (by (repeat (first | exact Ix.here | apply Ix.there))) (by rfl) | fail) ?_))
    go_ret
    exact ⟨rfl, hS.nil⟩
  cases hr : e.right
  · rw [hr] at HR
    rw [hro] at HRO
    clear hr hro hpo hp
    obtain ⟨ovw, opo, oun, opar, ocl, ose, orq, oopr, obody⟩ := o
    obtain ⟨vw, po, un, par, cl, se, rq, opr, body⟩ := e
    replace hop := hop.symm
    simp only at hop
    subst hop
    simp only [En.cells] at HR HRO ⊢
    (go_enter Try.func9, Try.ntmps9)
    go_upto_region 6 with (first | (go_at_call 10; refine (HA.out _).mono ?_; rintro e w' ⟨rfl, h⟩; replace hS := hS.call h; clear h) | (go_at_call 28; refine (disk_new 2 (by omega) (by omega) hS).mono ?_; clear hS; rintro e w1 ⟨gd, rfl, hS⟩; rw [Hn.out] at hS) | (have _h := ga; clear _h; ((with_reducible refine g_box ?_); refine wl_of rfl ?_; refine wp_box hS rfl rfl rfl ?_; clear hS; intro ge w1 hS)) | ((with_reducible refine g_box ?_); refine wl_of rfl ?_; refine wp_box hS rfl rfl rfl ?_; clear hS; intro ga w1 hS))
    replace hS : St [] w _ [.row ga [.int .i64 ovw, .int .i64 opo, .int .i64 oun, .int .u64 opar, .int .i64 ocl, .int .i64 ose, .int .i64 orq, .int .i64 oopr, .string ⟨obody.toArray⟩] 26 (0, 0), .row ge [.int .i64 vw, .int .i64 ep, .int .i64 un, .int .u64 par, .int .i64 cl, .int .i64 se, .int .i64 rq, .int .i64 opr, .string ⟨body.toArray⟩] 26 (0, 0)] := hS.pick
    go_upto_region 7 with (first | ((with_reducible refine g_load ?_); refine wl_run rfl (by first | exact a_load1 hS rfl rfl rfl rfl (by (repeat (first | exact Ix.here | apply Ix.there))) (by rfl) | exact a_loadR hS rfl rfl rfl rfl (by (repeat (first | exact Ix.here | apply Ix.there))) (by rfl) | fail) ?_) | (((with_reducible refine g_store ?_); refine wl_of rfl ?_; first | (refine k_sta hS rfl rfl rfl (h := ?_); intro w' hS; simp only [List.take, List.drop, List.cons_append, List.nil_append, List.length_cons, List.length_nil] at hS) | (first | ((first | (refine k_st1 (v := .int _ _) hS rfl rfl rfl (h := ?_)) | (refine k_st1 (v := .bool _) hS rfl rfl rfl (h := ?_)) | (refine k_st1 (v := .string _) hS rfl rfl rfl (h := ?_)) | (refine k_st1 (v := .slice none 0 0) hS rfl rfl rfl (h := ?_))); intro w' hS; simp only [List.set_cons_zero, List.set_cons_succ] at hS) | ((refine k_st1  hS rfl rfl rfl (h := ?_)); intro w' hS; simp only [List.set_cons_zero, List.set_cons_succ] at hS; simp only [Act.eval, Array.getD_eq_getD_getElem?, List.getElem?_toArray, List.getElem?_cons_succ, List.getElem?_cons_zero, Option.getD_some] at hS)) | (first | (refine k_ste (v := .int _ _) hS rfl rfl rfl (h := ?_); intro w' hS) | (refine k_ste (v := .bool _) hS rfl rfl rfl (h := ?_); intro w' hS) | (refine k_ste (v := .string _) hS rfl rfl rfl (h := ?_); intro w' hS)))))
    go_wp2_with (((with_reducible refine g_load ?_); refine wl_run rfl (by first | exact a_load1 hS rfl rfl rfl rfl (by (repeat (first | exact Ix.here | apply Ix.there))) (by rfl) | exact a_loadR hS rfl rfl rfl rfl (by (repeat (first | exact Ix.here | apply Ix.there))) (by rfl) | fail) ?_))
    (refine (HRO.out _).mono ?_; rintro e w' ⟨rfl, h⟩; replace hS := hS.call h; clear h)
    go_wp2_with (((with_reducible refine g_load ?_); refine wl_run rfl (by first | exact a_load1 hS rfl rfl rfl rfl (by (repeat (first | exact Ix.here | apply Ix.there))) (by rfl) | exact a_loadR hS rfl rfl rfl rfl (by (repeat (first | exact Ix.here | apply Ix.there))) (by rfl) | fail) ?_))
    (refine (HR.out _).mono ?_; rintro e w' ⟨rfl, h⟩; replace hS := hS.call h; clear h)
    go_wp2_with (((with_reducible refine g_load ?_); refine wl_run rfl (by first | exact a_load1 hS rfl rfl rfl rfl (by (repeat (first | exact Ix.here | apply Ix.there))) (by rfl) | exact a_loadR hS rfl rfl rfl rfl (by (repeat (first | exact Ix.here | apply Ix.there))) (by rfl) | fail) ?_))
    go_ret
    exact ⟨rfl, hS.nil⟩
  rw [hr] at HR
  rw [hro] at HRO
  have hb : e.body.length ≤ 1000000 := by have := right_body hr; omega
  have hbo : o.body.length ≤ 1000000 := by have := right_body hro; omega
  have sp := prep_sld (o := []) hro
  have sh := hdr_sld (o := []) (stubE_right hro)
  have HPO := Lib.hid (fun w => slotPrepare_any [] o (by simp) hpo hbo w)
  have HHO := Lib.hid (fun w => slotHeader_any [] (stubE o) (by simp) (stubE_facts hpo).1 (stubE_facts hpo).2 w)
  have HSO := Lib.hid (fun w => slotStubOf_any o hpo hbo w)
  have HSE := Lib.hid (fun w => slotStubOf_any e hp hb w)
  have HV := Lib.hid (fun w => slotVoid_any (hdrS [] (stubE o)).1 (by have := sh.len; omega) w)
  have HPE := Lib.hid (fun w => slotPrepare_any (prepS [] o).1 e (by have := sp.len; omega) hp hb w)
  have HHE := Lib.hid (fun w => slotHeader_any (voidS (hdrS [] (stubE o)).1) (stubE e) (by have := (void_sld (hdrS [] (stubE o)).1).len; omega) (stubE_facts hp).1 (stubE_facts hp).2 w)
  have j0 := full_judge (o := []) (o2 := []) hro hpo
  have j1 := fun k hk => first_judge (o := []) (o2 := []) hro hpo k hk
  have j2 := fun k hk => last_judge (o := (prepS [] o).1) hr hp (void_sld (hdrS [] (stubE o)).1) (fun q => void_judge _ _ _) k hk
  have j3 := full_judge (o := (prepS [] o).1) (o2 := voidS (hdrS [] (stubE o)).1) hr hp
  have hz : ∀ q, judgeS q (voidS (hdrS [] (stubE o)).1) e.op = zeroI := fun q => void_judge _ _ _
  have hlp := sp.len
  have hlh := sh.len
  have hlv := (void_sld (hdrS [] (stubE o)).1).len
  have hlx := prep_len (old := (prepS [] o).1) hr
  have hly := hdr_len (old := voidS (hdrS [] (stubE o)).1) hr
  rw [← hop] at j0 j1
  obtain ⟨c0, e0⟩ : ∃ c, (prepS [] o).2 = c := ⟨_, rfl⟩
  obtain ⟨c1, e1⟩ : ∃ c, (hdrS [] (stubE o)).2 = c := ⟨_, rfl⟩
  obtain ⟨c2, e2⟩ : ∃ c, (prepS (prepS [] o).1 e).2 = c := ⟨_, rfl⟩
  obtain ⟨c3, e3⟩ : ∃ c, (hdrS (voidS (hdrS [] (stubE o)).1) (stubE e)).2 = c := ⟨_, rfl⟩
  rw [e0] at HPO
  rw [e1] at HHO
  rw [e2] at HPE
  rw [e3] at HHE
  clear e0 e1 e2 e3 sp sh hro hr hp hpo hb hbo
  generalize (hdrS (voidS (hdrS [] (stubE o)).1) (stubE e)).1 = Y at HHE j2 j3 hly
  generalize (prepS (prepS [] o).1 e).1 = X at HPE j2 j3 hlx
  generalize voidS (hdrS [] (stubE o)).1 = V at HV HHE j1 j2 hz hlv
  generalize (prepS [] o).1 = P at HPO HPE j0 j1 hlp
  generalize (hdrS [] (stubE o)).1 = H at HHO HV j0 j1 hlh
  obtain ⟨RR, hRR⟩ : ∃ RR : Bool → List UInt8 → List UInt8 → Prop, RR = fun bk a b => judgeS a b e.op = ⟨1, stubE e, e⟩ ∨ (bk = false ∧ (judgeS a b e.op = zeroI ∨ judgeS a b e.op = ⟨1, stubE o, o⟩)) := ⟨_, rfl⟩
  have R0 : Hid (RR false P H) := Lib.hid (by rw [hRR]; exact .inr ⟨rfl, .inr j0⟩)
  have R1 : Hid (∀ k, k ≤ 384 → RR false P (mixS V H k)) := Lib.hid (fun k hk => by
    rw [hRR]
    rcases j1 k hk with h | h
    · exact .inr ⟨rfl, .inr h⟩
    · exact .inr ⟨rfl, .inl h⟩)
  have R2 : Hid (∀ q, RR false q V) := Lib.hid (fun q => by rw [hRR]; exact .inr ⟨rfl, .inl (hz q)⟩)
  have R3 : Hid (∀ k, k ≤ 384 → RR false X (mixS Y V k)) := Lib.hid (fun k hk => by
    rw [hRR]
    rcases j2 k hk with h | h
    · exact .inl h
    · exact .inr ⟨rfl, .inl h⟩)
  have R4 : Hid (∀ bk, RR bk X Y) := Lib.hid (fun bk => by rw [hRR]; exact .inl j3)
  obtain ⟨D1, D2, D3, D4, hL⟩ := laid_any hlp hlh fuse hf2
  rw [hD0] at hL
  have HL := Lib.hid hL
  have HLV := Lib.hid hlv
  have HLX := Lib.hid hlx
  have HLY := Lib.hid hly
  have HRR := Lib.hid hRR
  clear hL hlp hlh hlv hlx hly j0 j1 j2 j3 hz hRR hD0
  obtain ⟨SO, hSO⟩ : ∃ s, stubE o = s := ⟨_, rfl⟩
  rw [hSO] at HHO HSO HRR
  obtain ⟨SE, hSE⟩ : ∃ s, stubE e = s := ⟨_, rfl⟩
  rw [hSE] at HHE HSE HRR
  clear hSO hSE
  obtain ⟨oso, osv, osu, osp, oss⟩ := SO
  obtain ⟨so, sv, su, sp, ss⟩ := SE
  obtain ⟨ovw, opo, oun, opar, ocl, ose, orq, oopr, obody⟩ := o
  obtain ⟨vw, po, un, par, cl, se, rq, opr, body⟩ := e
  replace hop := hop.symm
  simp only at hop
  subst hop
  simp only [En.cells, Stb.cells] at HR HRO HPO HHO HSO HPE HHE HSE ⊢
  (go_enter Try.func9, Try.ntmps9)
  go_upto_region 6 with (first | (go_at_call 10; refine (HA.out _).mono ?_; rintro e w' ⟨rfl, h⟩; replace hS := hS.call h; clear h) | (go_at_call 28; refine (disk_new 2 (by omega) (by omega) hS).mono ?_; clear hS; rintro e w1 ⟨gd, rfl, hS⟩; rw [Hn.out] at hS) | (have _h := ga; clear _h; ((with_reducible refine g_box ?_); refine wl_of rfl ?_; refine wp_box hS rfl rfl rfl ?_; clear hS; intro ge w1 hS)) | ((with_reducible refine g_box ?_); refine wl_of rfl ?_; refine wp_box hS rfl rfl rfl ?_; clear hS; intro ga w1 hS))
  replace hS : St [] w _ [.row ga [.int .i64 ovw, .int .i64 opo, .int .i64 oun, .int .u64 opar, .int .i64 ocl, .int .i64 ose, .int .i64 orq, .int .i64 oopr, .string ⟨obody.toArray⟩] 26 (0, 0), .row ge [.int .i64 vw, .int .i64 ep, .int .i64 un, .int .u64 par, .int .i64 cl, .int .i64 se, .int .i64 rq, .int .i64 opr, .string ⟨body.toArray⟩] 26 (0, 0), disk gd D0] := hS.pick
  go_upto_region 7 with (first | ((with_reducible refine g_load ?_); refine wl_run rfl (by first | exact a_load1 hS rfl rfl rfl rfl (by (repeat (first | exact Ix.here | apply Ix.there))) (by rfl) | exact a_loadR hS rfl rfl rfl rfl (by (repeat (first | exact Ix.here | apply Ix.there))) (by rfl) | fail) ?_) | (((with_reducible refine g_store ?_); refine wl_of rfl ?_; first | (refine k_sta hS rfl rfl rfl (h := ?_); intro w' hS; simp only [List.take, List.drop, List.cons_append, List.nil_append, List.length_cons, List.length_nil] at hS) | (first | ((first | (refine k_st1 (v := .int _ _) hS rfl rfl rfl (h := ?_)) | (refine k_st1 (v := .bool _) hS rfl rfl rfl (h := ?_)) | (refine k_st1 (v := .string _) hS rfl rfl rfl (h := ?_)) | (refine k_st1 (v := .slice none 0 0) hS rfl rfl rfl (h := ?_))); intro w' hS; simp only [List.set_cons_zero, List.set_cons_succ] at hS) | ((refine k_st1  hS rfl rfl rfl (h := ?_)); intro w' hS; simp only [List.set_cons_zero, List.set_cons_succ] at hS; simp only [Act.eval, Array.getD_eq_getD_getElem?, List.getElem?_toArray, List.getElem?_cons_succ, List.getElem?_cons_zero, Option.getD_some] at hS)) | (first | (refine k_ste (v := .int _ _) hS rfl rfl rfl (h := ?_); intro w' hS) | (refine k_ste (v := .bool _) hS rfl rfl rfl (h := ?_); intro w' hS) | (refine k_ste (v := .string _) hS rfl rfl rfl (h := ?_); intro w' hS)))))
  go_wp2_with (((with_reducible refine g_load ?_); refine wl_run rfl (by first | exact a_load1 hS rfl rfl rfl rfl (by (repeat (first | exact Ix.here | apply Ix.there))) (by rfl) | exact a_loadR hS rfl rfl rfl rfl (by (repeat (first | exact Ix.here | apply Ix.there))) (by rfl) | fail) ?_))
  (refine (HRO.out _).mono ?_; rintro e w' ⟨rfl, h⟩; replace hS := hS.call h; clear h)
  go_wp2_with (((with_reducible refine g_load ?_); refine wl_run rfl (by first | exact a_load1 hS rfl rfl rfl rfl (by (repeat (first | exact Ix.here | apply Ix.there))) (by rfl) | exact a_loadR hS rfl rfl rfl rfl (by (repeat (first | exact Ix.here | apply Ix.there))) (by rfl) | fail) ?_))
  (refine (HR.out _).mono ?_; rintro e w' ⟨rfl, h⟩; replace hS := hS.call h; clear h)
  go_wp2_with (((with_reducible refine g_load ?_); refine wl_run rfl (by first | exact a_load1 hS rfl rfl rfl rfl (by (repeat (first | exact Ix.here | apply Ix.there))) (by rfl) | exact a_loadR hS rfl rfl rfl rfl (by (repeat (first | exact Ix.here | apply Ix.there))) (by rfl) | fail) ?_))
  (refine (HPO.out _).mono ?_; rintro e w' ⟨rfl, h⟩; replace hS := hS.call h; clear h)
  go_wp2_with (((with_reducible refine g_load ?_); refine wl_run rfl (by first | exact a_load1 hS rfl rfl rfl rfl (by (repeat (first | exact Ix.here | apply Ix.there))) (by rfl) | exact a_loadR hS rfl rfl rfl rfl (by (repeat (first | exact Ix.here | apply Ix.there))) (by rfl) | fail) ?_))
  (refine (HSO.out _).mono ?_; rintro e w' ⟨rfl, h⟩; replace hS := hS.call h; clear h)
  go_wp2_with (((with_reducible refine g_load ?_); refine wl_run rfl (by first | exact a_load1 hS rfl rfl rfl rfl (by (repeat (first | exact Ix.here | apply Ix.there))) (by rfl) | exact a_loadR hS rfl rfl rfl rfl (by (repeat (first | exact Ix.here | apply Ix.there))) (by rfl) | fail) ?_))
  (refine (HHO.out _).mono ?_; rintro e w' ⟨rfl, h⟩; replace hS := hS.call h; clear h)
  go_wp2_with (fail)
  replace hS : St [] w _ [disk gd D0, .row ga [.int .i64 ovw, .int .i64 opo, .int .i64 oun, .int .u64 opar, .int .i64 ocl, .int .i64 ose, .int .i64 orq, .int .i64 oopr, .string ⟨obody.toArray⟩] 26 (0, 0), .row ge [.int .i64 vw, .int .i64 opo, .int .i64 un, .int .u64 par, .int .i64 cl, .int .i64 se, .int .i64 rq, .int .i64 opr, .string ⟨body.toArray⟩] 26 (0, 0)] := hS.pick
  (refine (dw_of HL.out.w0 HL.out.ok0 hS).mono ?_; clear hS; rintro e w' ⟨rfl, hS⟩)
  go_wp2_with (fail)
  (refine (dw_of HL.out.w1 HL.out.ok1 hS).mono ?_; clear hS; rintro e w' ⟨rfl, hS⟩)
  go_wp2_with (fail)
  (refine (df_of HL.out.fl HL.out.ok2 hS).mono ?_; clear hS; rintro e w' ⟨rfl, hS⟩)
  go_wp2_with (fail)
  (refine (HV.out _).mono ?_; rintro e w' ⟨rfl, h⟩; replace hS := hS.call h; clear h)
  go_wp2_with (((with_reducible refine g_load ?_); refine wl_run rfl (by first | exact a_load1 hS rfl rfl rfl rfl (by (repeat (first | exact Ix.here | apply Ix.there))) (by rfl) | exact a_loadR hS rfl rfl rfl rfl (by (repeat (first | exact Ix.here | apply Ix.there))) (by rfl) | fail) ?_))
  (refine (HPE.out _).mono ?_; rintro e w' ⟨rfl, h⟩; replace hS := hS.call h; clear h)
  go_wp2_with (((with_reducible refine g_load ?_); refine wl_run rfl (by first | exact a_load1 hS rfl rfl rfl rfl (by (repeat (first | exact Ix.here | apply Ix.there))) (by rfl) | exact a_loadR hS rfl rfl rfl rfl (by (repeat (first | exact Ix.here | apply Ix.there))) (by rfl) | fail) ?_))
  (refine (HSE.out _).mono ?_; rintro e w' ⟨rfl, h⟩; replace hS := hS.call h; clear h)
  go_wp2_with (((with_reducible refine g_load ?_); refine wl_run rfl (by first | exact a_load1 hS rfl rfl rfl rfl (by (repeat (first | exact Ix.here | apply Ix.there))) (by rfl) | exact a_loadR hS rfl rfl rfl rfl (by (repeat (first | exact Ix.here | apply Ix.there))) (by rfl) | fail) ?_))
  (refine (HHE.out _).mono ?_; rintro e w' ⟨rfl, h⟩; replace hS := hS.call h; clear h)
  go_wp2_with (fail)
  replace hS : St [] w _ [disk gd D3, .row ga [.int .i64 ovw, .int .i64 opo, .int .i64 oun, .int .u64 opar, .int .i64 ocl, .int .i64 ose, .int .i64 orq, .int .i64 oopr, .string ⟨obody.toArray⟩] 26 (0, 0), .row ge [.int .i64 vw, .int .i64 opo, .int .i64 un, .int .u64 par, .int .i64 cl, .int .i64 se, .int .i64 rq, .int .i64 opr, .string ⟨body.toArray⟩] 26 (0, 0)] := hS.pick
  (refine (du_of HL.out.fu hf1 hf2 hS).mono ?_; clear hS; rintro e w' ⟨rfl, hS⟩)
  go_upto_region 18 with (fail)
  have A4 := Lib.hid HL.out.at4
  have S4 := Lib.hid HL.out.steps
  have O4 := Lib.hid A4.out.ok
  clear HA HR HRO HPO HHO HSO HV HPE HHE HL Hn hf1 hf2
  go_cut [20] (fun ok wx => ∃ (bk : Bool) (D : Dsk), ok = .bool bk ∧ Hid (D.Fin (RR bk)) ∧ St [] w wx [disk gd D, .row ga [.int .i64 ovw, .int .i64 opo, .int .i64 oun, .int .u64 opar, .int .i64 ocl, .int .i64 ose, .int .i64 orq, .int .i64 oopr, .string ⟨obody.toArray⟩] 26 (0, 0), .row ge [.int .i64 vw, .int .i64 opo, .int .i64 un, .int .u64 par, .int .i64 cl, .int .i64 se, .int .i64 rq, .int .i64 opr, .string ⟨body.toArray⟩] 26 (0, 0)])
  case first =>
    obtain ⟨D5, h5⟩ := wr_any A4.out S4.out (by omega) (i := 1) (.inr rfl) HLV.out
    rcases h5 with ⟨w5, a5, s5⟩ | ⟨w5, a5⟩
    case inr =>
      have W5 := Lib.hid w5
      have A5 := Lib.hid a5
      clear w5 a5
      go_wp2_with (first | refine au1 (n := ?_) | (refine au5 (n := ?_); clear hS; intro w' hS) | (refine au3 (n := ?_); clear hS; intro gb w1 hS))
      (refine (dw_of W5.out O4.out hS).mono ?_; clear hS; rintro e w' ⟨rfl, hS⟩)
      go_wp2_with (first | refine au1 (n := ?_) | (refine au5 (n := ?_); clear hS; intro w' hS) | (refine au3 (n := ?_); clear hS; intro gb w1 hS))
      go_meet
      exact ⟨false, D5, rfl, Lib.hid (A5.out.fin R0.out), hS⟩
    have W5 := Lib.hid w5
    have A5 := Lib.hid a5
    have O5 := Lib.hid a5.ok
    clear w5 a5
    obtain ⟨D6, h6⟩ := fl_any A5.out s5 (by omega) (c := P) (d := V) (fun E h => Dsk.puts1 E h)
    rcases h6 with ⟨w6, a6, s6⟩ | ⟨w6, a6⟩
    case inr =>
      have W6 := Lib.hid w6
      have A6 := Lib.hid a6
      clear w6 a6
      go_wp2_with (first | refine au1 (n := ?_) | (refine au5 (n := ?_); clear hS; intro w' hS) | (refine au3 (n := ?_); clear hS; intro gb w1 hS))
      (refine (dw_of W5.out O4.out hS).mono ?_; clear hS; rintro e w' ⟨rfl, hS⟩)
      go_wp2_with (first | refine au1 (n := ?_) | (refine au5 (n := ?_); clear hS; intro w' hS) | (refine au3 (n := ?_); clear hS; intro gb w1 hS))
      (refine (df_of W6.out O5.out hS).mono ?_; clear hS; rintro e w' ⟨rfl, hS⟩)
      go_wp2_with (first | refine au1 (n := ?_) | (refine au5 (n := ?_); clear hS; intro w' hS) | (refine au3 (n := ?_); clear hS; intro gb w1 hS))
      go_meet
      exact ⟨false, D6, rfl, Lib.hid (A6.out.fin1 R1.out), hS⟩
    have W6 := Lib.hid w6
    have A6 := Lib.hid a6
    have O6 := Lib.hid a6.ok
    clear w6 a6
    obtain ⟨D7, h7⟩ := wr_any A6.out s6 (by omega) (i := 0) (.inl rfl) HLX.out
    rcases h7 with ⟨w7, a7, s7⟩ | ⟨w7, a7⟩
    case inr =>
      have W7 := Lib.hid w7
      have A7 := Lib.hid a7
      clear w7 a7
      go_wp2_with (first | refine au1 (n := ?_) | (refine au5 (n := ?_); clear hS; intro w' hS) | (refine au3 (n := ?_); clear hS; intro gb w1 hS))
      (refine (dw_of W5.out O4.out hS).mono ?_; clear hS; rintro e w' ⟨rfl, hS⟩)
      go_wp2_with (first | refine au1 (n := ?_) | (refine au5 (n := ?_); clear hS; intro w' hS) | (refine au3 (n := ?_); clear hS; intro gb w1 hS))
      (refine (df_of W6.out O5.out hS).mono ?_; clear hS; rintro e w' ⟨rfl, hS⟩)
      go_wp2_with (first | refine au1 (n := ?_) | (refine au5 (n := ?_); clear hS; intro w' hS) | (refine au3 (n := ?_); clear hS; intro gb w1 hS))
      (refine (dw_of W7.out O6.out hS).mono ?_; clear hS; rintro e w' ⟨rfl, hS⟩)
      go_wp2_with (first | refine au1 (n := ?_) | (refine au5 (n := ?_); clear hS; intro w' hS) | (refine au3 (n := ?_); clear hS; intro gb w1 hS))
      go_meet
      exact ⟨false, D7, rfl, Lib.hid (A7.out.fin (R2.out _)), hS⟩
    have W7 := Lib.hid w7
    have A7 := Lib.hid a7
    have O7 := Lib.hid a7.ok
    clear w7 a7
    obtain ⟨D8, h8⟩ := fl_any A7.out s7 (by omega) (c := X) (d := V) (fun E h => Dsk.puts0 E h)
    rcases h8 with ⟨w8, a8, s8⟩ | ⟨w8, a8⟩
    case inr =>
      have W8 := Lib.hid w8
      have A8 := Lib.hid a8
      clear w8 a8
      go_wp2_with (first | refine au1 (n := ?_) | (refine au5 (n := ?_); clear hS; intro w' hS) | (refine au3 (n := ?_); clear hS; intro gb w1 hS))
      (refine (dw_of W5.out O4.out hS).mono ?_; clear hS; rintro e w' ⟨rfl, hS⟩)
      go_wp2_with (first | refine au1 (n := ?_) | (refine au5 (n := ?_); clear hS; intro w' hS) | (refine au3 (n := ?_); clear hS; intro gb w1 hS))
      (refine (df_of W6.out O5.out hS).mono ?_; clear hS; rintro e w' ⟨rfl, hS⟩)
      go_wp2_with (first | refine au1 (n := ?_) | (refine au5 (n := ?_); clear hS; intro w' hS) | (refine au3 (n := ?_); clear hS; intro gb w1 hS))
      (refine (dw_of W7.out O6.out hS).mono ?_; clear hS; rintro e w' ⟨rfl, hS⟩)
      go_wp2_with (first | refine au1 (n := ?_) | (refine au5 (n := ?_); clear hS; intro w' hS) | (refine au3 (n := ?_); clear hS; intro gb w1 hS))
      (refine (df_of W8.out O7.out hS).mono ?_; clear hS; rintro e w' ⟨rfl, hS⟩)
      go_wp2_with (first | refine au1 (n := ?_) | (refine au5 (n := ?_); clear hS; intro w' hS) | (refine au3 (n := ?_); clear hS; intro gb w1 hS))
      go_meet
      exact ⟨false, D8, rfl, Lib.hid (A8.out.fin0 (fun k hk => R2.out _)), hS⟩
    have W8 := Lib.hid w8
    have A8 := Lib.hid a8
    have O8 := Lib.hid a8.ok
    clear w8 a8
    obtain ⟨D9, h9⟩ := wr_any A8.out s8 (by omega) (i := 1) (.inr rfl) HLY.out
    rcases h9 with ⟨w9, a9, s9⟩ | ⟨w9, a9⟩
    case inr =>
      have W9 := Lib.hid w9
      have A9 := Lib.hid a9
      clear w9 a9
      go_wp2_with (first | refine au1 (n := ?_) | (refine au5 (n := ?_); clear hS; intro w' hS) | (refine au3 (n := ?_); clear hS; intro gb w1 hS))
      (refine (dw_of W5.out O4.out hS).mono ?_; clear hS; rintro e w' ⟨rfl, hS⟩)
      go_wp2_with (first | refine au1 (n := ?_) | (refine au5 (n := ?_); clear hS; intro w' hS) | (refine au3 (n := ?_); clear hS; intro gb w1 hS))
      (refine (df_of W6.out O5.out hS).mono ?_; clear hS; rintro e w' ⟨rfl, hS⟩)
      go_wp2_with (first | refine au1 (n := ?_) | (refine au5 (n := ?_); clear hS; intro w' hS) | (refine au3 (n := ?_); clear hS; intro gb w1 hS))
      (refine (dw_of W7.out O6.out hS).mono ?_; clear hS; rintro e w' ⟨rfl, hS⟩)
      go_wp2_with (first | refine au1 (n := ?_) | (refine au5 (n := ?_); clear hS; intro w' hS) | (refine au3 (n := ?_); clear hS; intro gb w1 hS))
      (refine (df_of W8.out O7.out hS).mono ?_; clear hS; rintro e w' ⟨rfl, hS⟩)
      go_wp2_with (first | refine au1 (n := ?_) | (refine au5 (n := ?_); clear hS; intro w' hS) | (refine au3 (n := ?_); clear hS; intro gb w1 hS))
      (refine (dw_of W9.out O8.out hS).mono ?_; clear hS; rintro e w' ⟨rfl, hS⟩)
      go_wp2_with (first | refine au1 (n := ?_) | (refine au5 (n := ?_); clear hS; intro w' hS) | (refine au3 (n := ?_); clear hS; intro gb w1 hS))
      go_meet
      exact ⟨false, D9, rfl, Lib.hid (A9.out.fin (R2.out _)), hS⟩
    have W9 := Lib.hid w9
    have A9 := Lib.hid a9
    have O9 := Lib.hid a9.ok
    clear w9 a9
    obtain ⟨D10, h10⟩ := fl_any A9.out s9 (by omega) (c := X) (d := Y) (fun E h => Dsk.puts1 E h)
    rcases h10 with ⟨w10, a10, s10⟩ | ⟨w10, a10⟩
    all_goals
      have W10 := Lib.hid w10
      have A10 := Lib.hid a10
      clear w10 a10
      go_wp2_with (first | refine au1 (n := ?_) | (refine au5 (n := ?_); clear hS; intro w' hS) | (refine au3 (n := ?_); clear hS; intro gb w1 hS))
      (refine (dw_of W5.out O4.out hS).mono ?_; clear hS; rintro e w' ⟨rfl, hS⟩)
      go_wp2_with (first | refine au1 (n := ?_) | (refine au5 (n := ?_); clear hS; intro w' hS) | (refine au3 (n := ?_); clear hS; intro gb w1 hS))
      (refine (df_of W6.out O5.out hS).mono ?_; clear hS; rintro e w' ⟨rfl, hS⟩)
      go_wp2_with (first | refine au1 (n := ?_) | (refine au5 (n := ?_); clear hS; intro w' hS) | (refine au3 (n := ?_); clear hS; intro gb w1 hS))
      (refine (dw_of W7.out O6.out hS).mono ?_; clear hS; rintro e w' ⟨rfl, hS⟩)
      go_wp2_with (first | refine au1 (n := ?_) | (refine au5 (n := ?_); clear hS; intro w' hS) | (refine au3 (n := ?_); clear hS; intro gb w1 hS))
      (refine (df_of W8.out O7.out hS).mono ?_; clear hS; rintro e w' ⟨rfl, hS⟩)
      go_wp2_with (first | refine au1 (n := ?_) | (refine au5 (n := ?_); clear hS; intro w' hS) | (refine au3 (n := ?_); clear hS; intro gb w1 hS))
      (refine (dw_of W9.out O8.out hS).mono ?_; clear hS; rintro e w' ⟨rfl, hS⟩)
      go_wp2_with (first | refine au1 (n := ?_) | (refine au5 (n := ?_); clear hS; intro w' hS) | (refine au3 (n := ?_); clear hS; intro gb w1 hS))
      (refine (df_of W10.out O9.out hS).mono ?_; clear hS; rintro e w' ⟨rfl, hS⟩)
      go_wp2_with (first | refine au1 (n := ?_) | (refine au5 (n := ?_); clear hS; intro w' hS) | (refine au3 (n := ?_); clear hS; intro gb w1 hS))
      go_meet
      first
      | exact ⟨true, D10, rfl, Lib.hid (A10.out.fin (R4.out _)), hS⟩
      | exact ⟨false, D10, rfl, Lib.hid (A10.out.fin1 R3.out), hS⟩
  case rest =>
    obtain ⟨bk, D, rfl, HF, hS⟩ := hcut
    clear A4 S4 O4 HLV HLX HLY R0 R1 R2 R3 R4
    obtain ⟨RB, hRB⟩ : ∃ RB, RR bk = RB := ⟨_, rfl⟩
    rw [hRB] at HF
    go_upto_if 115 with (first | (go_at_call 32; refine (disk_on hS).mono ?_; rintro e w' ⟨rfl, rfl⟩) | (first | refine au1 (n := ?_) | (refine au5 (n := ?_); clear hS; intro w' hS) | (refine au3 (n := ?_); clear hS; intro gb w1 hS)))
    go_cut [] (fun wx => ∃ (D2 : Dsk) (A B : List UInt8), Hid (D2.At A B [] ∧ RB A B) ∧ St [] w wx (disk gd D2 :: [.row ga [.int .i64 ovw, .int .i64 opo, .int .i64 oun, .int .u64 opar, .int .i64 ocl, .int .i64 ose, .int .i64 orq, .int .i64 oopr, .string ⟨obody.toArray⟩] 26 (0, 0), .row ge [.int .i64 vw, .int .i64 opo, .int .i64 un, .int .u64 par, .int .i64 cl, .int .i64 se, .int .i64 rq, .int .i64 opr, .string ⟨body.toArray⟩] 26 (0, 0)]))
    case first =>
      cases hoff : D.off
      · obtain ⟨A, B, hat, hr⟩ := HF.out.on hoff
        have HAR := Lib.hid (And.intro hat hr)
        clear hat hr
        go_wp2_with (fail)
        go_meet
        exact ⟨D, A, B, HAR, hS⟩
      · obtain ⟨h1, A, B, hat, hr⟩ := HF.out.off picks hoff
        have HST := Lib.hid (fun (w1 : World) (hS : St [] w w1 (disk gd D :: [.row ga [.int .i64 ovw, .int .i64 opo, .int .i64 oun, .int .u64 opar, .int .i64 ocl, .int .i64 ose, .int .i64 orq, .int .i64 oopr, .string ⟨obody.toArray⟩] 26 (0, 0), .row ge [.int .i64 vw, .int .i64 opo, .int .i64 un, .int .u64 par, .int .i64 cl, .int .i64 se, .int .i64 rq, .int .i64 opr, .string ⟨body.toArray⟩] 26 (0, 0)])) => disk_start hS HF.out.ok vp picks (Reads.old HP.out) hpk)
        rw [h1] at HST
        generalize (D.start picks).2 = D2 at HST hat
        have HAR := Lib.hid (And.intro hat hr)
        clear hat hr h1
        go_wp2_with (fail)
        refine (HST.out _ hS).mono ?_
        clear hS
        rintro e w' ⟨rfl, hS⟩
        go_wp2_with (fail)
        go_meet
        exact ⟨D2, A, B, HAR, hS⟩
    case rest =>
      clear hS HF
      obtain ⟨D2, A, B, HAR, hS⟩ := hcut
      have HRD := Lib.hid (Dsk.read_at HAR.out.1)
      have hla := HAR.out.1.len
      have HD2 := Lib.hid HAR.out.1.ok
      have HJ := Lib.hid (fun w => slotJudge_any A B opo (by omega) (by omega) w)
      have hrr := HAR.out.2
      clear hla HAR
      rw [← hRB, HRR.out] at hrr
      try simp only at hrr
      generalize judgeS A B opo = J at hrr HJ
      clear hRB HRR
      have hrr : (∃ b, bk = b ∧ J = ⟨1, ⟨so, sv, su, sp, ss⟩, ⟨vw, opo, un, par, cl, se, rq, opr, body⟩⟩) ∨ (bk = false ∧ J = zeroI) ∨ (bk = false ∧ J = ⟨1, ⟨oso, osv, osu, osp, oss⟩, ⟨ovw, opo, oun, opar, ocl, ose, orq, oopr, obody⟩⟩) := by
        rcases hrr with h | ⟨h, h2 | h2⟩
        · exact .inl ⟨_, rfl, h⟩
        · exact .inr (.inl ⟨h, h2⟩)
        · exact .inr (.inr ⟨h, h2⟩)
      rcases hrr with ⟨bk, rfl, rfl⟩ | ⟨rfl, rfl⟩ | ⟨rfl, rfl⟩
      all_goals
        simp only [It.cells, Stb.cells, En.cells, zeroI, zeroE, zeroB, List.cons_append, List.nil_append] at HJ
        go_wp2_with (fail)
        (refine (dr_of HRD.out.1 HD2.out hS).mono ?_; clear hS; rintro e w' ⟨rfl, hS⟩)
        go_wp2_with (fail)
        (refine (dr_of HRD.out.2 HD2.out hS).mono ?_; clear hS; rintro e w' ⟨rfl, hS⟩)
        clear HRD HD2
        go_wp2_with (first | ((with_reducible refine g_load ?_); refine k_read rfl (h := ?_)) | fail)
        refine (HJ.out _).mono ?_
        rintro e w' ⟨rfl, h⟩
        replace hS := hS.call h
        clear h HJ
        replace hS : St [] w _ [.row ga [.int .i64 ovw, .int .i64 opo, .int .i64 oun, .int .u64 opar, .int .i64 ocl, .int .i64 ose, .int .i64 orq, .int .i64 oopr, .string ⟨obody.toArray⟩] 26 (0, 0), .row ge [.int .i64 vw, .int .i64 opo, .int .i64 un, .int .u64 par, .int .i64 cl, .int .i64 se, .int .i64 rq, .int .i64 opr, .string ⟨body.toArray⟩] 26 (0, 0)] := hS.pick
        go_upto_region 24 with (first | ((with_reducible refine g_alloc ?_); refine wl_of rfl ?_; refine wp_alloc hS rfl rfl rfl rfl ?_; clear hS; intro gj w1 hS) | (refine au5 (n := ?_); clear hS; intro w' hS))
      --TAIL
      · cases bk
        · go_wp2_with (first | ((with_reducible refine g_load ?_); refine wl_run rfl (by first | exact a_load1 hS rfl rfl rfl rfl (by (repeat (first | exact Ix.here | apply Ix.there))) (by rfl) | exact a_loadR hS rfl rfl rfl rfl (by (repeat (first | exact Ix.here | apply Ix.there))) (by rfl) | fail) ?_) | ((with_reducible refine g_load ?_); refine wl_run rfl (a_loadA (vs := [_, _, _, _, _, _, _, _, _]) hS rfl rfl rfl rfl (by (repeat (first | exact Ix.here | apply Ix.there))) 9 (by rfl) (by rfl) (by rfl)) ?_))
          go_ret
          exact ⟨rfl, hS.nil⟩
        · go_wp2_with (((with_reducible refine g_load ?_); refine wl_run rfl (by first | exact a_load1 hS rfl rfl rfl rfl (by (repeat (first | exact Ix.here | apply Ix.there))) (by rfl) | exact a_loadR hS rfl rfl rfl rfl (by (repeat (first | exact Ix.here | apply Ix.there))) (by rfl) | fail) ?_))
          refine region_calm (by kernel_rfl) (by kernel_rfl) hS ?_
          (repeat (first | ((with_reducible refine c_load ?_); refine Calm.run rfl (fun W hW => by exact a_loadR hW rfl rfl rfl rfl (by (repeat (first | exact Ix.here | apply Ix.there))) (by rfl)) ?_; simp only [Act.put, List.setIfInBounds_toArray, List.set_cons_zero, List.set_cons_succ]) | ((with_reducible refine c_call ?_); first | fail) | refine calm1 (n := ?_)))
          (refine Calm.call (calm_makes HSE.out) rfl (h := ?_); simp only [Act.put, List.setIfInBounds_toArray, List.set_cons_zero, List.set_cons_succ])
          (repeat (first | ((with_reducible refine c_load ?_); refine Calm.run rfl (fun W hW => by exact a_loadR hW rfl rfl rfl rfl (by (repeat (first | exact Ix.here | apply Ix.there))) (by rfl)) ?_; simp only [Act.put, List.setIfInBounds_toArray, List.set_cons_zero, List.set_cons_succ]) | ((with_reducible refine c_call ?_); first | fail) | refine calm1 (n := ?_)))
          (refine Calm.nil ?_; clear hS; intro w8 hS)
          go_wp2_with (fail)
          go_ret
          exact ⟨rfl, hS.nil⟩
      · go_wp2_with (first | ((with_reducible refine g_load ?_); refine wl_run rfl (by first | exact a_load1 hS rfl rfl rfl rfl (by (repeat (first | exact Ix.here | apply Ix.there))) (by rfl) | exact a_loadR hS rfl rfl rfl rfl (by (repeat (first | exact Ix.here | apply Ix.there))) (by rfl) | fail) ?_) | ((with_reducible refine g_load ?_); refine wl_run rfl (a_loadA (vs := [_, _, _, _, _, _, _, _, _]) hS rfl rfl rfl rfl (by (repeat (first | exact Ix.here | apply Ix.there))) 9 (by rfl) (by rfl) (by rfl)) ?_))
        go_ret
        exact ⟨rfl, hS.nil⟩
      · go_wp2_with (first | ((with_reducible refine g_load ?_); refine wl_run rfl (by first | exact a_load1 hS rfl rfl rfl rfl (by (repeat (first | exact Ix.here | apply Ix.there))) (by rfl) | exact a_loadR hS rfl rfl rfl rfl (by (repeat (first | exact Ix.here | apply Ix.there))) (by rfl) | fail) ?_) | ((with_reducible refine g_load ?_); refine wl_run rfl (a_loadA (vs := [_, _, _, _, _, _, _, _, _]) hS rfl rfl rfl rfl (by (repeat (first | exact Ix.here | apply Ix.there))) 9 (by rfl) (by rfl) (by rfl)) ?_))
        all_goals
          go_ret
          first
          | exact ⟨rfl, hS.nil⟩
          | exact ⟨by simp_all, hS.nil⟩
theorem law_over12 (o e : En) (fuse : Int) (vp : Value) (picks : List Int) (hpo : o.parent < 18446744073709551616) (hp : e.parent < 18446744073709551616) (hf1 : -9223372036854775808 ≤ fuse) (hf2 : fuse ≤ 9223372036854775807) (w : World) (hP : Rd w 1 vp picks.length (picks.flatMap num)) (hpk : ∀ p ∈ picks, p ≤ 9223372036854775807) :
    Calls Try.prog 9 #[.agg o.cells.toArray, .agg e.cells.toArray, .int .i64 fuse, vp] w fun x w' => x = .returned (.bool true) ∧ St [] w w' [] := by
  obtain ⟨vw, po, un, par, cl, se, rq, opr, body⟩ := e
  exact law_over12b o ⟨vw, o.op, un, par, cl, se, rq, opr, body⟩ po rfl fuse vp picks hpo hp hf1 hf2 w hP hpk
end
end Go.Proofs.Ytkcgacadkpbpoaa
