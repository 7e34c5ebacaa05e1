/-
  Stubs that came in.
-/
import Derived.Test.YtkcgacadkpbpoaaRdEn
import Derived.Test.YtkcgacadkpbpoaaSlotSpec
set_option linter.unusedSimpArgs false
set_option linter.unusedVariables false
set_option linter.unusedSectionVars false
set_option maxRecDepth 100000
namespace Go.Proofs.Ytkcgacadkpbpoaa
open Go.RowKit Go.Cmp Go.ChangeShapes Go.WideShapes Go.Deep
set_option maxRecDepth 100000
section
variable {H : Type} {enc : TypeId × Value → H} {w : World} {base : Nat} {spare : Nat → Bool} {held : Bool}
theorem stb_of {n : Nat} {cs : List Value} {y : DataW H × List MemPlace} (hl : cs.length = 5) (h : DataW.trod enc Try.prog w base spare held n 30 cs = some y) : ∃ X : Stb, (X.parent < 18446744073709551616 ∧ X.sum < 18446744073709551616) ∧ cs = X.cells := by
  obtain ⟨ys, n', _, _, _, hyl, hf⟩ := DataW.trod_struct (P := Try.prog) (t := 30) rfl h
  have ci : Try.prog.cellsOf 3 = 1 := by kernel_rfl
  have cu : Try.prog.cellsOf 24 = 1 := by kernel_rfl
  match cs, hl with
  | [c0, c1, c2, c3, c4], _ =>
    have h0 : DataW.trod enc Try.prog w base spare held n' 3 (([c0, c1, c2, c3, c4].drop 0).take (Try.prog.cellsOf 3)) = ys[0]? := hf 0 _ rfl
    have h1 : DataW.trod enc Try.prog w base spare held n' 3 (([c0, c1, c2, c3, c4].drop 1).take (Try.prog.cellsOf 3)) = ys[1]? := hf 1 _ rfl
    have h2 : DataW.trod enc Try.prog w base spare held n' 3 (([c0, c1, c2, c3, c4].drop 2).take (Try.prog.cellsOf 3)) = ys[2]? := hf 2 _ rfl
    have h3 : DataW.trod enc Try.prog w base spare held n' 24 (([c0, c1, c2, c3, c4].drop 3).take (Try.prog.cellsOf 24)) = ys[3]? := hf 3 _ rfl
    have h4 : DataW.trod enc Try.prog w base spare held n' 24 (([c0, c1, c2, c3, c4].drop 4).take (Try.prog.cellsOf 24)) = ys[4]? := hf 4 _ rfl
    have hyl6 : ys.length = 5 := hyl
    rw [ci] at h0 h1 h2
    rw [cu] at h3 h4
    have g : ∀ i, i < 5 → ∃ z, ys[i]? = some z := fun i hi => ⟨_, List.getElem?_eq_getElem (by omega)⟩
    obtain ⟨z0, g0⟩ := g 0 (by omega)
    obtain ⟨z1, g1⟩ := g 1 (by omega)
    obtain ⟨z2, g2⟩ := g 2 (by omega)
    obtain ⟨z3, g3⟩ := g 3 (by omega)
    obtain ⟨z4, g4⟩ := g 4 (by omega)
    obtain ⟨k0, e0, _⟩ := int_of (k := .i64) rfl (h0.trans g0)
    obtain ⟨k1, e1, _⟩ := int_of (k := .i64) rfl (h1.trans g1)
    obtain ⟨k2, e2, _⟩ := int_of (k := .i64) rfl (h2.trans g2)
    obtain ⟨k3, e3, w3⟩ := int_of (k := .u64) rfl (h3.trans g3)
    obtain ⟨k4, e4, w4⟩ := int_of (k := .u64) rfl (h4.trans g4)
    simp only [List.drop_succ_cons, List.drop_zero, List.take_succ_cons, List.take_zero, List.cons.injEq, and_true] at e0 e1 e2 e3 e4
    subst e0 e1 e2 e3 e4
    have hw := wf_u64 w3
    have hw2 := wf_u64 w4
    obtain ⟨m, rfl⟩ := Int.eq_ofNat_of_zero_le hw.1
    obtain ⟨m2, rfl⟩ := Int.eq_ofNat_of_zero_le hw2.1
    exact ⟨⟨k0, k1, k2, m, m2⟩, ⟨by show m < _; omega, by show m2 < _; omega⟩, rfl⟩
end
end Go.Proofs.Ytkcgacadkpbpoaa
