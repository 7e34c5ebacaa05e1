/-
  Whatever is laid, SlotLays returns true.
-/
import Derived.Test.YtkcgacadkpbpoaaLays12In
set_option linter.unusedSimpArgs false
set_option linter.unusedVariables false
set_option linter.unusedSectionVars false
set_option maxRecDepth 100000
namespace Go.Proofs.Ytkcgacadkpbpoaa
open Go.RowKit Go.Cmp
set_option maxRecDepth 100000

section
set_option maxHeartbeats 8000000 in
theorem law_lays12 (old : List UInt8) (e : En) (s : Stb) (hp : e.parent < 18446744073709551616) (hsp : s.parent < 18446744073709551616) (hss : s.sum < 18446744073709551616) (w : World) :
    Calls Try.prog 5 #[.string ⟨old.toArray⟩, .agg e.cells.toArray, .agg s.cells.toArray] w fun x w' => x = .returned (.bool true) ∧ St [] w w' [] := by
  have hS := St.init w
  have HA := Lib.hid (fun w => awake12_any w)
  have HL := Lib.hid (fun w => law_long e.body w)
  have HL2 := Lib.hid (fun w => law_long old w)
  by_cases hl : (5000 : Int) < e.body.length
  · rw [decide_eq_true hl] at HL
    obtain ⟨vw, po, un, par, cl, se, rq, opr, body⟩ := e
    obtain ⟨so, sv, su, sp, ss⟩ := s
    simp only [En.cells, Stb.cells] at HL ⊢
    (go_enter Try.func5, Try.ntmps5)
    go_wp2_with (first | (go_at_call 10; refine (HA.out _).mono ?_; rintro e w' ⟨rfl, h⟩; replace hS := hS.call h; clear h) | (go_at_call 11; refine (HL.out _).mono ?_; rintro e w' ⟨rfl, rfl⟩) | (first | refine au1 (n := ?_) | (refine au2 (n := ?_); clear hS; intro w' hS) | (refine au3 (n := ?_); clear hS; intro gb w1 hS) | (refine au4 (n := ?_); clear hS; intro v1 w' hS) | ((with_reducible refine wl_guard ?_); refine stop_mem rfl rfl ?_)))
    go_ret
    exact ⟨rfl, hS.nil⟩
  rw [decide_eq_false hl] at HL
  by_cases hl2 : (5000 : Int) < old.length
  · rw [decide_eq_true hl2] at HL2
    obtain ⟨vw, po, un, par, cl, se, rq, opr, body⟩ := e
    obtain ⟨so, sv, su, sp, ss⟩ := s
    simp only [En.cells, Stb.cells] at HL ⊢
    (go_enter Try.func5, Try.ntmps5)
    go_wp2_with (first | (go_at_call 10; refine (HA.out _).mono ?_; rintro e w' ⟨rfl, h⟩; replace hS := hS.call h; clear h) | (first | refine au1 (n := ?_) | (refine au2 (n := ?_); clear hS; intro w' hS) | (refine au3 (n := ?_); clear hS; intro gb w1 hS) | (refine au4 (n := ?_); clear hS; intro v1 w' hS) | ((with_reducible refine wl_guard ?_); refine stop_mem rfl rfl ?_)))
    refine (HL.out _).mono ?_
    rintro e w' ⟨rfl, rfl⟩
    go_wp2_with (first | refine au1 (n := ?_) | (refine au2 (n := ?_); clear hS; intro w' hS) | (refine au3 (n := ?_); clear hS; intro gb w1 hS) | (refine au4 (n := ?_); clear hS; intro v1 w' hS) | ((with_reducible refine wl_guard ?_); refine stop_mem rfl rfl ?_))
    refine (HL2.out _).mono ?_
    rintro e w' ⟨rfl, rfl⟩
    go_wp2_with (first | refine au1 (n := ?_) | (refine au2 (n := ?_); clear hS; intro w' hS) | (refine au3 (n := ?_); clear hS; intro gb w1 hS) | (refine au4 (n := ?_); clear hS; intro v1 w' hS) | ((with_reducible refine wl_guard ?_); refine stop_mem rfl rfl ?_))
    go_ret
    exact ⟨rfl, hS.nil⟩
  exact law_lays_in old e s hl hl2 hp hsp hss w
end
end Go.Proofs.Ytkcgacadkpbpoaa
