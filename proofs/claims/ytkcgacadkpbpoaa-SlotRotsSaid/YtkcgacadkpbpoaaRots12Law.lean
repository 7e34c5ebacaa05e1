/-
  Whatever rots, SlotRots returns true.
-/
import Derived.Test.YtkcgacadkpbpoaaRot12Sp2
import Derived.Test.YtkcgacadkpbpoaaMix12
import Derived.Test.YtkcgacadkpbpoaaAw12
import Derived.Deep.DeepCutAuto
import Derived.Deep.CutBlock
set_option linter.unusedSimpArgs false
set_option linter.unusedVariables false
set_option linter.unusedSectionVars false
set_option maxRecDepth 100000
namespace Go.Proofs.Ytkcgacadkpbpoaa
open Go.RowKit Go.Cmp

section
set_option maxHeartbeats 16000000 in
theorem law_rots12 (e : En) (which at' : Int) (m : UInt8) (hp : e.parent < 18446744073709551616) (w : World) :
    Calls Try.prog 6 #[.agg e.cells.toArray, .int .i64 which, .int .i64 at', .int .u8 (m.toNat : Int)] w fun x w' => x = .returned (.bool true) ∧ St [] w w' [] := by
  have hS := St.init w
  have HA := Lib.hid (fun w => awake12_any w)
  have HR := Lib.hid (fun w => entRightL_any e w)
  cases hr : e.right
  · rw [hr] at HR
    clear hr hp
    obtain ⟨vw, po, un, par, cl, se, rq, opr, body⟩ := e
    simp only [En.cells] at HR ⊢
    (go_enter Try.func6, Try.ntmps6)
    go_wp2_with (first | (go_at_call 10; refine (HA.out _).mono ?_; rintro e w' ⟨rfl, h⟩; replace hS := hS.call h; clear h) | (go_at_call 26; refine (HR.out _).mono ?_; rintro e w' ⟨rfl, h⟩; replace hS := hS.call h; clear h) | (first | refine au1 (n := ?_) | (refine au2 (n := ?_); clear hS; intro w' hS) | (refine au3 (n := ?_); clear hS; intro gb w1 hS) | (refine au4 (n := ?_); clear hS; intro v1 w' hS) | ((with_reducible refine wl_guard ?_); refine stop_mem rfl rfl ?_)))
    go_ret
    exact ⟨rfl, hS.nil⟩
  rw [hr] at HR
  by_cases hm : m = 0
  · subst hm
    clear hr hp
    obtain ⟨vw, po, un, par, cl, se, rq, opr, body⟩ := e
    simp only [En.cells] at HR ⊢
    have hz : ((0 : UInt8).toNat : Int) = 0 := rfl
    rw [hz]
    (go_enter Try.func6, Try.ntmps6)
    go_wp2_with (first | (go_at_call 10; refine (HA.out _).mono ?_; rintro e w' ⟨rfl, h⟩; replace hS := hS.call h; clear h) | (go_at_call 26; refine (HR.out _).mono ?_; rintro e w' ⟨rfl, h⟩; replace hS := hS.call h; clear h) | (first | refine au1 (n := ?_) | (refine au2 (n := ?_); clear hS; intro w' hS) | (refine au3 (n := ?_); clear hS; intro gb w1 hS) | (refine au4 (n := ?_); clear hS; intro v1 w' hS) | ((with_reducible refine wl_guard ?_); refine stop_mem rfl rfl ?_)))
    go_ret
    exact ⟨rfl, hS.nil⟩
  have hb : e.body.length ≤ 1000000 := by have := right_body hr; omega
  have hm0 : ((m.toNat : Int) == 0) = false := by
    rw [beq_eq_false_iff_ne]
    intro h
    exact hm (by apply UInt8.toNat_inj.1; show m.toNat = 0; omega)
  obtain ⟨q, hq, hq2⟩ : ∃ q : Nat, wrap64 ((IntKind.u64.wrap at').tmod 384) = (q : Int) ∧ q < 384 := by
    have h0 : 0 ≤ IntKind.u64.wrap at' := by rw [IntKind.wrap_u64]; omega
    have h1 := Int.emod_nonneg (IntKind.u64.wrap at') (show (384 : Int) ≠ 0 by omega)
    have h2 := Int.emod_lt_of_pos (IntKind.u64.wrap at') (show (0 : Int) < 384 by omega)
    rw [Int.tmod_eq_emod_of_nonneg h0]
    have h3 : wrap64 ((IntKind.u64.wrap at') % 384) = (IntKind.u64.wrap at') % 384 := by unfold wrap64; omega
    rw [h3]
    exact ⟨((IntKind.u64.wrap at') % 384).toNat, by omega, by omega⟩
  have HQ := Lib.hid hq
  clear hq
  have hj0 := judge_rot0 (o1 := []) (o2 := []) hr hp hq2 hm
  have hj1 := judge_rot1 (o1 := []) (o2 := []) hr hp hq2 hm
  have hj2 := judge_rot2 (o1 := []) (o2 := []) hr hq2 hm
  have HPR := Lib.hid (fun w => slotPrepare_any [] e (by simp) hp hb w)
  have HHD := Lib.hid (fun w => slotHeader_any [] (stubE e) (by simp) (stubE_facts hp).1 (stubE_facts hp).2 w)
  have HSO := Lib.hid (fun w => slotStubOf_any e hp hb w)
  have hpl := prep_len (old := []) hr
  have hhl := hdr_len (old := []) hr
  generalize prepS [] e = PS at HPR hj0 hj1 hj2 hpl
  generalize hdrS [] (stubE e) = HS at HHD hj0 hj1 hj2 hhl
  obtain ⟨p, pe⟩ := PS
  obtain ⟨h, he⟩ := HS
  simp only at HPR HHD hj0 hj1 hj2 hpl hhl
  have HMX := Lib.hid (fun w => ref_mix p p q w hpl hpl (by omega))
  rw [mixB_same] at HMX
  have hl0 := rotP_len p q m
  have hl1 := rotP_len h q m
  have HJ0 := Lib.hid (fun w => slotJudge_any (rotP p q m) h e.op (by omega) (by omega) w)
  have HJ1 := Lib.hid (fun w => slotJudge_any p (rotP h q m) e.op (by omega) (by omega) w)
  have HJ2 := Lib.hid (fun w => slotJudge_any (rotP p q m) (rotP h q m) e.op (by omega) (by omega) w)
  rw [hj0] at HJ0
  rw [hj1] at HJ1
  rw [hj2] at HJ2
  have HRP : Hid (p.set q (nth p q ^^^ m) = rotP p q m) := Lib.hid rfl
  have HRH : Hid (h.set q (nth h q ^^^ m) = rotP h q m) := Lib.hid rfl
  clear hj0 hj1 hj2 hr hp hm
  generalize rotP p q m = pb at HJ0 HJ2 HRP hl0
  generalize rotP h q m = cb at HJ1 HJ2 HRH hl1
  generalize stubE e = SE at HHD HSO HJ0 HJ1
  have hpm : p.length ≤ maxLen := by unfold maxLen; omega
  have hhm : h.length ≤ maxLen := by unfold maxLen; omega
  obtain ⟨so, sv, su, sp, ss⟩ := SE
  obtain ⟨vw, po, un, par, cl, se, rq, opr, body⟩ := e
  simp only [En.cells, Stb.cells, It.cells, zeroE, zeroB, List.cons_append, List.nil_append] at HR HPR HHD HSO HJ0 HJ1 HJ2 ⊢
  (go_enter Try.func6, Try.ntmps6)
  go_upto_region 8 with (first | (go_at_call 10; refine (HA.out _).mono ?_; rintro e w' ⟨rfl, h⟩; replace hS := hS.call h; clear h) | (go_at_call 26; refine (HR.out _).mono ?_; rintro e w' ⟨rfl, h⟩; replace hS := hS.call h; clear h) | (go_at_call 18; refine (HPR.out _).mono ?_; rintro e w' ⟨rfl, h⟩; replace hS := hS.call h; clear h) | (go_at_call 22; refine (HSO.out _).mono ?_; rintro e w' ⟨rfl, h⟩; replace hS := hS.call h; clear h) | (go_at_call 20; refine (HHD.out _).mono ?_; rintro e w' ⟨rfl, h⟩; replace hS := hS.call h; clear h) | ((with_reducible refine g_box ?_); refine wl_of rfl ?_; refine wp_box hS rfl rfl rfl ?_; clear hS; intro ge w1 hS) | (first | refine au1 (n := ?_) | (refine au2 (n := ?_); clear hS; intro w' hS) | (refine au3 (n := ?_); clear hS; intro gb w1 hS) | (refine au4 (n := ?_); clear hS; intro v1 w' hS) | ((with_reducible refine wl_guard ?_); refine stop_mem rfl rfl ?_)))
  rw [HQ.out]
  clear HA HR HPR HHD
  have hqp : q < p.length := by omega
  have hqh : q < h.length := by omega
  go_upto_region 13 with (first | (go_at_call 27; refine (HMX.out _).mono ?_; rintro e w' ⟨rfl, h⟩; replace hS := hS.call h; clear h) | (have _h := vx; clear _h; ((with_reducible refine g_conv ?_); refine wl_of rfl ?_; refine a_toBytes hS rfl rfl rfl rfl rfl hhm ?_; clear hS; intro vy w1 hS)) | ((with_reducible refine g_conv ?_); refine wl_of rfl ?_; refine a_toBytes hS rfl rfl rfl rfl rfl hpm ?_; clear hS; intro vx w1 hS) | ((with_reducible refine g_xor ?_); refine wl_run rfl (a_xor8 (d := m) rfl rfl rfl) ?_) | ((with_reducible refine g_store ?_); refine wl_of rfl ?_; refine a_storeE (z := (nth p q ^^^ m)) (v := .int _ _) hS rfl rfl rfl rfl rfl (by rfl) rfl (by (repeat (first | exact Sw.here | apply Sw.there))) (by intro _; rfl) (by omega) (by rfl) ?_; clear hS; intro w' hS) | ((with_reducible refine g_store ?_); refine wl_of rfl ?_; refine a_storeE (z := (nth h q ^^^ m)) (v := .int _ _) hS rfl rfl rfl rfl rfl (by rfl) rfl (by (repeat (first | exact Sw.here | apply Sw.there))) (by intro _; rfl) (by omega) (by rfl) ?_; clear hS; intro w' hS) | (first | refine au1 (n := ?_) | (refine au2 (n := ?_); clear hS; intro w' hS) | (refine au3 (n := ?_); clear hS; intro gb w1 hS) | (refine au4 (n := ?_); clear hS; intro v1 w' hS) | ((with_reducible refine wl_guard ?_); refine stop_mem rfl rfl ?_)))
  simp only [Int.toNat_natCast] at hS
  rw [HRP.out, HRH.out] at hS
  replace hS : St [] w _ [.vec vy 5 1 cb.length (cb.flatMap byt), .vec vx 5 1 pb.length (pb.flatMap byt), .row ge [.int .i64 vw, .int .i64 po, .int .i64 un, .int .u64 par, .int .i64 cl, .int .i64 se, .int .i64 rq, .int .i64 opr, .string ⟨body.toArray⟩] 26 (0, 0)] := hS.pick
  clear HRP HRH HMX HQ hqp hqh hpm hhm hpl hhl
  go_wp2_with (first | refine au1 (n := ?_) | (refine au2 (n := ?_); clear hS; intro w' hS) | (refine au3 (n := ?_); clear hS; intro gb w1 hS) | (refine au4 (n := ?_); clear hS; intro v1 w' hS) | ((with_reducible refine wl_guard ?_); refine stop_mem rfl rfl ?_))
  · refine region_calm (by kernel_rfl) (by kernel_rfl) hS ?_
    (repeat (first | ((with_reducible refine c_call ?_); first | fail) | refine calm1 (n := ?_)))
    (refine Calm.run rfl (fun W hW => by exact a_toString2 rfl rfl rfl rfl rfl (by (first | exact St.rdx hW (by (repeat (first | exact Ix.here | apply Ix.there))) | exact Reads.at (by assumption) hW (by (repeat (first | exact List.Sublist.refl _ | apply List.Sublist.cons))) | exact St.old0 hW (by assumption)))) ?_; simp only [Act.put, List.setIfInBounds_toArray, List.set_cons_zero, List.set_cons_succ])
    (repeat (first | ((with_reducible refine c_call ?_); first | fail) | refine calm1 (n := ?_)))
    (refine Calm.call (calm_makes HJ0.out) rfl (h := ?_); simp only [Act.put, List.setIfInBounds_toArray, List.set_cons_zero, List.set_cons_succ])
    (repeat (first | ((with_reducible refine c_call ?_); first | fail) | refine calm1 (n := ?_)))
    (refine Calm.call (calm_makes HSO.out) rfl (h := ?_); simp only [Act.put, List.setIfInBounds_toArray, List.set_cons_zero, List.set_cons_succ])
    (repeat (first | ((with_reducible refine c_call ?_); first | fail) | refine calm1 (n := ?_)))
    (refine Calm.nil ?_; clear hS; intro w8 hS)
    go_wp2_with (fail)
    go_ret
    exact ⟨rfl, hS.nil⟩
  · refine region_calm (by kernel_rfl) (by kernel_rfl) hS ?_
    (repeat (first | ((with_reducible refine c_call ?_); first | fail) | refine calm1 (n := ?_)))
    (refine Calm.run rfl (fun W hW => by exact a_toString2 rfl rfl rfl rfl rfl (by (first | exact St.rdx hW (by (repeat (first | exact Ix.here | apply Ix.there))) | exact Reads.at (by assumption) hW (by (repeat (first | exact List.Sublist.refl _ | apply List.Sublist.cons))) | exact St.old0 hW (by assumption)))) ?_; simp only [Act.put, List.setIfInBounds_toArray, List.set_cons_zero, List.set_cons_succ])
    (repeat (first | ((with_reducible refine c_call ?_); first | fail) | refine calm1 (n := ?_)))
    (refine Calm.call (calm_makes HJ1.out) rfl (h := ?_); simp only [Act.put, List.setIfInBounds_toArray, List.set_cons_zero, List.set_cons_succ])
    (repeat (first | ((with_reducible refine c_call ?_); first | fail) | refine calm1 (n := ?_)))
    (refine Calm.call (calm_makes HSO.out) rfl (h := ?_); simp only [Act.put, List.setIfInBounds_toArray, List.set_cons_zero, List.set_cons_succ])
    (repeat (first | ((with_reducible refine c_call ?_); first | fail) | refine calm1 (n := ?_)))
    (refine Calm.nil ?_; clear hS; intro w8 hS)
    go_wp2_with (fail)
    go_ret
    exact ⟨rfl, hS.nil⟩
  · refine (HJ2.out _).mono ?_
    rintro e w' ⟨rfl, h⟩
    replace hS := hS.call h
    clear h
    go_wp2_with (first | refine au1 (n := ?_) | (refine au2 (n := ?_); clear hS; intro w' hS) | (refine au3 (n := ?_); clear hS; intro gb w1 hS) | (refine au4 (n := ?_); clear hS; intro v1 w' hS) | ((with_reducible refine wl_guard ?_); refine stop_mem rfl rfl ?_))
    go_ret
    exact ⟨rfl, hS.nil⟩
theorem rots_at (e : En) (which at' m : Int) (hm : (Lit.int .u8 m).wf = true) (hp : e.parent < 18446744073709551616) (w : World) :
    Calls Try.prog 6 #[.agg e.cells.toArray, .int .i64 which, .int .i64 at', .int .u8 m] w fun x w' => x = .returned (.bool true) ∧ St [] w w' [] := by
  have e1 : IntKind.u8.min = 0 := rfl
  have e2 : IntKind.u8.max = 255 := rfl
  simp [Lit.wf, e1, e2] at hm
  obtain ⟨d, rfl⟩ := u8_of hm.1 hm.2
  exact law_rots12 e which at' d hp w
end
end Go.Proofs.Ytkcgacadkpbpoaa
