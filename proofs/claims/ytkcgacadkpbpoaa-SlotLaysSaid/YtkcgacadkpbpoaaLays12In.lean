/-
  Whatever is laid, SlotLays returns true.
-/
import Derived.Test.YtkcgacadkpbpoaaLaysSpec
import Derived.Test.YtkcgacadkpbpoaaRot12Sp2
import Derived.Test.YtkcgacadkpbpoaaAw12
import Derived.Test.YtkcgacadkpbpoaaSlotR2
import Derived.Deep.DeepCutAuto
import Derived.Deep.CutBlock
set_option linter.unusedSimpArgs false
set_option linter.unusedVariables false
set_option linter.unusedSectionVars false
set_option maxRecDepth 100000
namespace Go.Proofs.Ytkcgacadkpbpoaa
open Go.RowKit Go.Cmp

section
variable {P : Program} {ops : Array Oper} {Q : Exit → Act → World → Prop} {rest : List Oper} {a : Act} {w : World}
theorem g_neq12 {d : Option Tmp} {ty : TypeId} {pos : String} {af : Array Edge} {gd : Option (Nat × Bool)} {t t2 : TypeId} {x y : Operand} (H : wpList P ops Q (⟨d, .binOp .neq t x y t2, ty, pos, af, gd⟩ :: rest) a w) : wpList P ops Q (⟨d, .binOp .neq t x y t2, ty, pos, af, gd⟩ :: rest) a w := H
end
section
set_option maxHeartbeats 32000000 in
theorem law_lays_in (old : List UInt8) (e : En) (s : Stb) (hl : ¬ (5000 : Int) < e.body.length) (hl2 : ¬ (5000 : Int) < old.length) (hp : e.parent < 18446744073709551616) (hsp : s.parent < 18446744073709551616) (hss : s.sum < 18446744073709551616) (w : World) :
    Calls Try.prog 5 #[.string ⟨old.toArray⟩, .agg e.cells.toArray, .agg s.cells.toArray] w fun x w' => x = .returned (.bool true) ∧ St [] w w' [] := by
  have hS := St.init w
  have HA := Lib.hid (fun w => awake12_any w)
  have HL := Lib.hid (fun w => law_long e.body w)
  have HL2 := Lib.hid (fun w => law_long old w)
  rw [decide_eq_false hl] at HL
  rw [decide_eq_false hl2] at HL2
  have hb1 : e.body.length ≤ 1000000 := by omega
  have hb2 : old.length ≤ 1000000 := by omega
  clear hl hl2
  have HPR := Lib.hid (fun w => slotPrepare_any old e hb2 hp hb1 w)
  have HPR2 := Lib.hid (fun w => ref12Prepare_any old e hb2 hp hb1 w)
  have HHD := Lib.hid (fun w => slotHeader_any old s hb2 hsp hss w)
  have HHD2 := Lib.hid (fun w => refHeader12_any old s hb2 hsp hss w)
  have HSO := Lib.hid (fun w => slotStubOf_any e hp hb1 w)
  have HSO2 := Lib.hid (fun w => ref12StubOf_any e hp hb1 w)
  have HVO := Lib.hid (fun w => slotVoid_any old hb2 w)
  have HVO2 := Lib.hid (fun w => ref12Void_any old hb2 w)
  have hpe : ((prepS old e).1.length ≤ 384) ∧ (((prepS old e).2 = 0 ∧ entP (prepS old e).1 = (e, true, true)) ∨ ((prepS old e).2 = 4 ∧ entP (prepS old e).1 = (⟨0, 0, 0, 0, 0, 0, 0, 0, []⟩, false, false))) := by
    cases hr : e.right
    · rw [prepS_bad hr]
      exact ⟨by show 0 ≤ _; omega, .inr ⟨rfl, entP_nil⟩⟩
    · refine ⟨by rw [prep_len hr]; exact Nat.le_refl _, .inl ⟨?_, prep_ent hr hp⟩⟩
      rw [prepS_right hr]
  have hhe : ((hdrS old s).1.length ≤ 384) ∧ (((hdrS old s).2 = 0 ∧ stbP (hdrS old s).1 = (s, true, true)) ∨ ((hdrS old s).2 = 4 ∧ stbP (hdrS old s).1 = (⟨0, 0, 0, 0, 0⟩, false, false))) := by
    cases hr : s.right
    · rw [hdrS_bad hr]
      exact ⟨by show 0 ≤ _; omega, .inr ⟨rfl, stbP_nil⟩⟩
    · rw [hdrS_right hr]
      exact ⟨by rw [sealed_len (by rw [stubB_len]; omega)]; omega, .inl ⟨rfl, stbP_sealed hr hsp hss⟩⟩
  have hvl : (voidS old).length ≤ 384 := by rw [voidS_eq, sealed_len (by simp)]; omega
  have HEN := Lib.hid (fun w => slotEntry_any (prepS old e).1 (by omega) w)
  have HST := Lib.hid (fun w => slotStub_any (hdrS old s).1 (by omega) w)
  have HEV := Lib.hid (fun w => slotEntry_any (voidS old) (by omega) w)
  have hev : entP (voidS old) = (zeroE, false, true) := by rw [voidS_eq]; exact entP_void
  rw [hev] at HEV
  have HPE := Lib.hid hpe.2
  have HHE := Lib.hid hhe.2
  clear hpe hhe hvl hev hp hsp hss hb1
  generalize entP (prepS old e).1 = E at HEN HPE
  generalize stbP (hdrS old s).1 = T at HST HHE
  generalize prepS old e = PS at HPR HPR2 HEN HPE
  generalize hdrS old s = HS at HHD HHD2 HST HHE
  generalize voidS old = V at HVO HVO2 HEV
  generalize stubE e = SE at HSO HSO2
  obtain ⟨p1, p2⟩ := PS
  obtain ⟨h1, h2⟩ := HS
  obtain ⟨qo, qv, qu, qp, qs⟩ := SE
  obtain ⟨⟨x1, x2, x3, x4, x5, x6, x7, x8, x9⟩, xh, xr⟩ := E
  obtain ⟨⟨y1, y2, y3, y4, y5⟩, yh, yr⟩ := T
  obtain ⟨vw, po, un, par, cl, se, rq, opr, body⟩ := e
  obtain ⟨so, sv, su, sp, ss⟩ := s
  simp only at HPR HPR2 HHD HHD2 HEN HST HPE HHE
  simp only [En.cells, Stb.cells, zeroE, zeroB] at HL HPR HPR2 HHD HHD2 HSO HSO2 HEN HST HEV ⊢
  (go_enter Try.func5, Try.ntmps5)
  go_wp2_with (first | (go_at_call 10; refine (HA.out _).mono ?_; rintro e w' ⟨rfl, h⟩; replace hS := hS.call h; clear h) | (have _h := ga; clear _h; ((with_reducible refine g_box ?_); refine wl_of rfl ?_; refine wp_box hS rfl rfl rfl ?_; clear hS; intro gb2 w1 hS)) | ((with_reducible refine g_box ?_); refine wl_of rfl ?_; refine wp_box hS rfl rfl rfl ?_; clear hS; intro ga w1 hS) | ((with_reducible refine g_load ?_); refine wl_run rfl (by first | exact a_load1 hS rfl rfl rfl rfl (by (repeat (first | exact Ix.here | apply Ix.there))) (by rfl) | exact a_loadR hS rfl rfl rfl rfl (by (repeat (first | exact Ix.here | apply Ix.there))) (by rfl) | fail) ?_))
  refine (HL.out _).mono ?_
  rintro e w' ⟨rfl, rfl⟩
  go_wp2_with (((with_reducible refine g_load ?_); refine wl_run rfl (by first | exact a_load1 hS rfl rfl rfl rfl (by (repeat (first | exact Ix.here | apply Ix.there))) (by rfl) | exact a_loadR hS rfl rfl rfl rfl (by (repeat (first | exact Ix.here | apply Ix.there))) (by rfl) | fail) ?_))
  refine (HL2.out _).mono ?_
  rintro e w' ⟨rfl, rfl⟩
  go_wp2_with (((with_reducible refine g_load ?_); refine wl_run rfl (by first | exact a_load1 hS rfl rfl rfl rfl (by (repeat (first | exact Ix.here | apply Ix.there))) (by rfl) | exact a_loadR hS rfl rfl rfl rfl (by (repeat (first | exact Ix.here | apply Ix.there))) (by rfl) | fail) ?_))
  (refine (HPR.out _).mono ?_; rintro e w' ⟨rfl, h⟩; replace hS := hS.call h; clear h)
  go_wp2_with (((with_reducible refine g_load ?_); refine wl_run rfl (by first | exact a_load1 hS rfl rfl rfl rfl (by (repeat (first | exact Ix.here | apply Ix.there))) (by rfl) | exact a_loadR hS rfl rfl rfl rfl (by (repeat (first | exact Ix.here | apply Ix.there))) (by rfl) | fail) ?_))
  (refine (HPR2.out _).mono ?_; rintro e w' ⟨rfl, h⟩; replace hS := hS.call h; clear h)
  go_wp2_with (((with_reducible refine g_load ?_); refine wl_run rfl (by first | exact a_load1 hS rfl rfl rfl rfl (by (repeat (first | exact Ix.here | apply Ix.there))) (by rfl) | exact a_loadR hS rfl rfl rfl rfl (by (repeat (first | exact Ix.here | apply Ix.there))) (by rfl) | fail) ?_))
  (refine (HHD.out _).mono ?_; rintro e w' ⟨rfl, h⟩; replace hS := hS.call h; clear h)
  go_wp2_with (((with_reducible refine g_load ?_); refine wl_run rfl (by first | exact a_load1 hS rfl rfl rfl rfl (by (repeat (first | exact Ix.here | apply Ix.there))) (by rfl) | exact a_loadR hS rfl rfl rfl rfl (by (repeat (first | exact Ix.here | apply Ix.there))) (by rfl) | fail) ?_))
  (refine (HHD2.out _).mono ?_; rintro e w' ⟨rfl, h⟩; replace hS := hS.call h; clear h)
  go_wp2_with (fail)
  refine region_calm (by kernel_rfl) (by kernel_rfl) hS ?_
  (repeat (first | ((with_reducible refine c_load ?_); refine Calm.run rfl (fun W hW => by exact a_loadR hW rfl rfl rfl rfl (by (repeat (first | exact Ix.here | apply Ix.there))) (by rfl)) ?_; simp only [Act.put, List.setIfInBounds_toArray, List.set_cons_zero, List.set_cons_succ]) | ((with_reducible refine c_call ?_); first | fail) | refine calm1 (n := ?_)))
  (refine Calm.call (calm_makes HSO.out) rfl (h := ?_); simp only [Act.put, List.setIfInBounds_toArray, List.set_cons_zero, List.set_cons_succ])
  (repeat (first | ((with_reducible refine c_load ?_); refine Calm.run rfl (fun W hW => by exact a_loadR hW rfl rfl rfl rfl (by (repeat (first | exact Ix.here | apply Ix.there))) (by rfl)) ?_; simp only [Act.put, List.setIfInBounds_toArray, List.set_cons_zero, List.set_cons_succ]) | ((with_reducible refine c_call ?_); first | fail) | refine calm1 (n := ?_)))
  (refine Calm.call (calm_makes HSO2.out) rfl (h := ?_); simp only [Act.put, List.setIfInBounds_toArray, List.set_cons_zero, List.set_cons_succ])
  (repeat (first | ((with_reducible refine c_load ?_); refine Calm.run rfl (fun W hW => by exact a_loadR hW rfl rfl rfl rfl (by (repeat (first | exact Ix.here | apply Ix.there))) (by rfl)) ?_; simp only [Act.put, List.setIfInBounds_toArray, List.set_cons_zero, List.set_cons_succ]) | ((with_reducible refine c_call ?_); first | fail) | refine calm1 (n := ?_)))
  (refine Calm.call (calm_makes HVO.out) rfl (h := ?_); simp only [Act.put, List.setIfInBounds_toArray, List.set_cons_zero, List.set_cons_succ])
  (repeat (first | ((with_reducible refine c_load ?_); refine Calm.run rfl (fun W hW => by exact a_loadR hW rfl rfl rfl rfl (by (repeat (first | exact Ix.here | apply Ix.there))) (by rfl)) ?_; simp only [Act.put, List.setIfInBounds_toArray, List.set_cons_zero, List.set_cons_succ]) | ((with_reducible refine c_call ?_); first | fail) | refine calm1 (n := ?_)))
  (refine Calm.call (calm_makes HVO2.out) rfl (h := ?_); simp only [Act.put, List.setIfInBounds_toArray, List.set_cons_zero, List.set_cons_succ])
  (repeat (first | ((with_reducible refine c_load ?_); refine Calm.run rfl (fun W hW => by exact a_loadR hW rfl rfl rfl rfl (by (repeat (first | exact Ix.here | apply Ix.there))) (by rfl)) ?_; simp only [Act.put, List.setIfInBounds_toArray, List.set_cons_zero, List.set_cons_succ]) | ((with_reducible refine c_call ?_); first | fail) | refine calm1 (n := ?_)))
  (refine Calm.nil ?_; clear hS; intro w8 hS)
  go_wp2_with (fail)
  (refine (HEN.out _).mono ?_; rintro e w' ⟨rfl, h⟩; replace hS := hS.call h; clear h)
  go_wp2_with (first | ((with_reducible refine g_alloc ?_); refine wl_of rfl ?_; refine wp_alloc hS rfl rfl rfl rfl ?_; clear hS; intro gx w1 hS) | (refine au5 (n := ?_); clear hS; intro w' hS))
  (refine (HST.out _).mono ?_; rintro e w' ⟨rfl, h⟩; replace hS := hS.call h; clear h)
  go_upto_region 13 with (first | ((with_reducible refine g_alloc ?_); refine wl_of rfl ?_; refine wp_alloc hS rfl rfl rfl rfl ?_; clear hS; intro gy w1 hS) | (refine au5 (n := ?_); clear hS; intro w' hS))
  clear HA HL HL2 HPR HPR2 HHD HHD2 HSO HSO2 HVO2 HEN HST
  go_cut [132] (fun v wx => v = .bool false ∧ St [] w wx [])
  case first =>
    clear HVO HEV
    rcases HPE.out with ⟨rfl, hx⟩ | ⟨rfl, hx⟩
    all_goals
      clear HPE
      simp only [Prod.mk.injEq, En.mk.injEq] at hx
      obtain ⟨⟨rfl, rfl, rfl, rfl, rfl, rfl, rfl, rfl, rfl⟩, rfl, rfl⟩ := hx
      rcases HHE.out with ⟨rfl, hx⟩ | ⟨rfl, hx⟩
    all_goals
      clear HHE
      simp only [Prod.mk.injEq, Stb.mk.injEq] at hx
      obtain ⟨⟨rfl, rfl, rfl, rfl, rfl⟩, rfl, rfl⟩ := hx
    all_goals
      try simp only [Int.natCast_zero] at hS
      try simp only [Int.natCast_zero]
    all_goals
      go_wp2_with (first | go_skip | ((with_reducible refine g_load ?_); refine wl_run rfl (by first | exact a_load1 hS rfl rfl rfl rfl (by (repeat (first | exact Ix.here | apply Ix.there))) (by rfl) | exact a_loadR hS rfl rfl rfl rfl (by (repeat (first | exact Ix.here | apply Ix.there))) (by rfl) | fail) ?_))
    all_goals
      go_meet
      exact ⟨rfl, hS.nil⟩
  case rest =>
    clear hS HPE HHE
    obtain ⟨rfl, hS⟩ := hcut
    go_wp2_with (fail)
    (refine (HVO.out _).mono ?_; rintro e w' ⟨rfl, h⟩; replace hS := hS.call h; clear h)
    go_wp2_with (fail)
    (refine (HEV.out _).mono ?_; rintro e w' ⟨rfl, h⟩; replace hS := hS.call h; clear h)
    go_wp2_with (first | ((with_reducible refine g_alloc ?_); refine wl_of rfl ?_; refine wp_alloc hS rfl rfl rfl rfl ?_; clear hS; intro gz w1 hS) | (refine au5 (n := ?_); clear hS; intro w' hS))
    go_ret
    exact ⟨rfl, hS.nil⟩
end
end Go.Proofs.Ytkcgacadkpbpoaa
