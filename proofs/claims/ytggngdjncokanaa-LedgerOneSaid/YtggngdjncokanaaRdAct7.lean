/-
  Operations that came in.
-/
import Derived.Test.YtggngdjncokanaaGen
import Derived.Test.YtggngdjncokanaaEvRd
import Derived.Test.YtggngdjncokanaaLedC
set_option linter.unusedSimpArgs false
set_option linter.unusedVariables false
set_option linter.unusedSectionVars false
namespace Go.Proofs.Ytggngdjncokanaa
open Go.RowKit Go.Cmp Go.ChangeShapes Go.WideShapes Go.Deep
set_option maxRecDepth 100000

def Act7.Any (_ : Act7) : Prop := True

section
variable {H : Type} {enc : TypeId × Value → H} {w : World} {base : Nat} {spare : Nat → Bool} {held : Bool}

theorem act_of {n : Nat} {cs : List Value} {y : DataW H × List MemPlace} (hl : cs.length = 2) (h : DataW.trod enc Try.prog w base spare held n 53 cs = some y) : ∃ X : Act7, X.Any ∧ cs = X.cells := by
  obtain ⟨ys, n', _, _, _, hyl, hf⟩ := DataW.trod_struct (P := Try.prog) (t := 53) rfl h
  have ci : Try.prog.cellsOf 3 = 1 := by kernel_rfl
  have ct : Try.prog.cellsOf 9 = 1 := by kernel_rfl
  match cs, hl with
  | [c0, c1], _ =>
    have h0 : DataW.trod enc Try.prog w base spare held n' 3 (([c0, c1].drop 0).take (Try.prog.cellsOf 3)) = ys[0]? := hf 0 _ rfl
    have h1 : DataW.trod enc Try.prog w base spare held n' 9 (([c0, c1].drop 1).take (Try.prog.cellsOf 9)) = ys[1]? := hf 1 _ rfl
    have hyl2 : ys.length = 2 := hyl
    rw [ci] at h0
    rw [ct] at h1
    have g : ∀ i, i < 2 → ∃ z, ys[i]? = some z := fun i hi => ⟨_, List.getElem?_eq_getElem (by omega)⟩
    obtain ⟨z0, g0⟩ := g 0 (by omega)
    obtain ⟨z1, g1⟩ := g 1 (by omega)
    obtain ⟨k0, e0, _⟩ := int_of (k := .i64) rfl (h0.trans g0)
    obtain ⟨s, e1, _⟩ := str_of rfl (h1.trans g1)
    simp only [List.drop_succ_cons, List.drop_zero, List.take_succ_cons, List.take_zero, List.cons.injEq, and_true] at e0 e1
    subst e0 e1
    exact ⟨⟨k0, s⟩, trivial, rfl⟩
end
end Go.Proofs.Ytggngdjncokanaa
