/-
  The law's helpers: awake, long, noughts.
-/
import Derived.Test.YtkcgacadkpbpoaaSlot5
import Derived.Test.YtkcgacadkpbpoaaSlot2
import Derived.Test.YtkcgacadkpbpoaaAw12Spec
set_option linter.unusedSimpArgs false
set_option linter.unusedVariables false
set_option linter.unusedSectionVars false
set_option maxRecDepth 100000
namespace Go.Proofs.Ytkcgacadkpbpoaa
open Go.RowKit Go.Cmp
set_option maxRecDepth 100000

section
variable {S : List Nat} {w0 w : World} {M : List Ent}
theorem law_long (s : List UInt8) (w : World) :
    Calls Try.prog 11 #[.string ⟨s.toArray⟩] w fun e w' => e = .returned (.bool (decide ((5000 : Int) < s.length))) ∧ w' = w := by
  (go_enter Try.func11, Try.ntmps11)
  go_wp2
  go_ret
  exact ⟨rfl, rfl⟩
theorem noughts_any (w : World) :
    Calls Try.prog 35 #[] w fun e w' => e = .returned (.string ⟨nought.toArray⟩) ∧ St [] w w' [] := by
  have hS := St.init w
  have HN : Hid (List.replicate (384 : Int).toNat (Value.int .u8 0) = nought.flatMap byt) := Lib.hid (by
    unfold nought
    show List.replicate 384 (Value.int .u8 0) = (List.replicate 384 (0 : UInt8)).flatMap byt
    have : ∀ n, List.replicate n (Value.int .u8 0) = (List.replicate n (0 : UInt8)).flatMap byt := by
      intro n
      induction n with
      | zero => rfl
      | succ n ih => rw [List.replicate_succ, List.replicate_succ, List.flatMap_cons, ← ih]; rfl
    exact this 384)
  have HL : Hid (nought.length = (384 : Int).toNat) := Lib.hid List.length_replicate
  generalize nought = Z at HN HL ⊢
  (go_enter Try.func35, Try.ntmps35)
  go_wp2_with (first | ((with_reducible refine g_make ?_); refine wl_of rfl ?_; refine a_make (n := 384) hS rfl rfl rfl rfl (by rfl) rfl (by omega) (by omega) ?_; clear hS; intro v1 w' hS; rw [HN.out, ← HL.out] at hS) | (first | refine au1 (n := ?_) | (refine au2 (n := ?_); clear hS; intro w' hS) | (refine au3 (n := ?_); clear hS; intro gb w1 hS) | (refine au4 (n := ?_); clear hS; intro v1 w' hS) | ((with_reducible refine wl_guard ?_); refine stop_mem rfl rfl ?_)))
  go_ret
  exact ⟨rfl, hS.nil⟩
set_option maxHeartbeats 8000000 in
theorem awake12_any (w : World) :
    Calls Try.prog 10 #[] w fun e w' => e = .returned (.bool true) ∧ St [] w w' [] := by
  have hS := St.init w
  have hpl : (sealed 1 (packE e0).1).length = 384 := sealed_len (by have := packE_len e0; omega)
  have hvl : (sealed 1 []).length = 384 := sealed_len (by simp)
  have hnl : nought.length = 384 := List.length_replicate
  have HP := Lib.hid (fun w => slotPrepare_any [] e0 (by simp) (by decide) (by decide) w)
  rw [prep0] at HP
  have HV := Lib.hid (fun w => slotVoid_any [] (by simp) w)
  rw [void0] at HV
  have HJ1 := Lib.hid (fun w => slotJudge_any (sealed 1 []) (sealed 1 []) 1 (by omega) (by omega) w)
  rw [jud1] at HJ1
  have HJ2 := Lib.hid (fun w => slotJudge_any (sealed 1 (packE e0).1) nought 3 (by omega) (by omega) w)
  rw [jud2] at HJ2
  have HJ3 := Lib.hid (fun w => slotJudge_any (sealed 1 (packE e0).1) nought 11 (by omega) (by omega) w)
  rw [jud3] at HJ3
  have HJ4 := Lib.hid (fun w => slotJudge_any nought nought 3 (by omega) (by omega) w)
  rw [jud4] at HJ4
  have HNO := Lib.hid (fun w => noughts_any w)
  generalize sealed 1 (packE e0).1 = P at HP HJ2 HJ3
  generalize sealed 1 [] = V at HV HJ1
  generalize nought = Z at HJ2 HJ3 HJ4 HNO
  generalize stubE e0 = SE at HJ2
  obtain ⟨so, sv, su, sp, ss⟩ := SE
  clear hpl hvl hnl
  simp only [It.cells, Stb.cells, En.cells, e0, zeroI, zeroE, zeroB, List.cons_append, List.nil_append] at HP HJ1 HJ2 HJ3 HJ4
  (go_enter Try.func10, Try.ntmps10)
  go_wp2_with (first | (go_at_call 18; refine (HP.out _).mono ?_; rintro e w' ⟨rfl, h⟩; replace hS := hS.call h; clear h) | (go_at_call 24; refine (HV.out _).mono ?_; rintro e w' ⟨rfl, h⟩; replace hS := hS.call h; clear h) | (first | refine au1 (n := ?_) | (refine au2 (n := ?_); clear hS; intro w' hS) | (refine au3 (n := ?_); clear hS; intro gb w1 hS) | (refine au4 (n := ?_); clear hS; intro v1 w' hS) | ((with_reducible refine wl_guard ?_); refine stop_mem rfl rfl ?_)))
  refine (HJ1.out _).mono ?_
  rintro e w' ⟨rfl, h⟩
  replace hS := hS.call h
  clear h
  go_wp2_with (first | (go_at_call 35; refine (HNO.out _).mono ?_; rintro e w' ⟨rfl, h⟩; replace hS := hS.call h; clear h) | (first | refine au1 (n := ?_) | (refine au2 (n := ?_); clear hS; intro w' hS) | (refine au3 (n := ?_); clear hS; intro gb w1 hS) | (refine au4 (n := ?_); clear hS; intro v1 w' hS) | ((with_reducible refine wl_guard ?_); refine stop_mem rfl rfl ?_)))
  refine (HJ2.out _).mono ?_
  rintro e w' ⟨rfl, h⟩
  replace hS := hS.call h
  clear h
  go_wp2_with (first | (refine wl_run rfl (v := .int .i64 1) (a_fieldV rfl rfl rfl rfl rfl rfl rfl) ?_) | (go_at_call 35; refine (HNO.out _).mono ?_; rintro e w' ⟨rfl, h⟩; replace hS := hS.call h; clear h) | (first | refine au1 (n := ?_) | (refine au2 (n := ?_); clear hS; intro w' hS) | (refine au3 (n := ?_); clear hS; intro gb w1 hS) | (refine au4 (n := ?_); clear hS; intro v1 w' hS) | ((with_reducible refine wl_guard ?_); refine stop_mem rfl rfl ?_)))
  refine (HJ3.out _).mono ?_
  rintro e w' ⟨rfl, h⟩
  replace hS := hS.call h
  clear h
  go_wp2_with (first | (go_at_call 35; refine (HNO.out _).mono ?_; rintro e w' ⟨rfl, h⟩; replace hS := hS.call h; clear h) | (first | refine au1 (n := ?_) | (refine au2 (n := ?_); clear hS; intro w' hS) | (refine au3 (n := ?_); clear hS; intro gb w1 hS) | (refine au4 (n := ?_); clear hS; intro v1 w' hS) | ((with_reducible refine wl_guard ?_); refine stop_mem rfl rfl ?_)))
  refine (HJ4.out _).mono ?_
  rintro e w' ⟨rfl, h⟩
  replace hS := hS.call h
  clear h
  go_wp2_with (first | refine au1 (n := ?_) | (refine au2 (n := ?_); clear hS; intro w' hS) | (refine au3 (n := ?_); clear hS; intro gb w1 hS) | (refine au4 (n := ?_); clear hS; intro v1 w' hS) | ((with_reducible refine wl_guard ?_); refine stop_mem rfl rfl ?_))
  go_ret
  exact ⟨rfl, hS.nil⟩
end
end Go.Proofs.Ytkcgacadkpbpoaa
