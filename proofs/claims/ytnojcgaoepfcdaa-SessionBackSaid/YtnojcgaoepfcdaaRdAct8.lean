/-
  Calls on a table that came in.
-/
import Derived.Test.YtnojcgaoepfcdaaOpen
import Derived.Test.YtnojcgaoepfcdaaSesNilLaw
namespace Go.Proofs.Ytnojcgaoepfcdaa
open Go.RowKit Go.Cmp Go.ChangeShapes Go.WideShapes Go.Deep

section
variable {H : Type} {enc : TypeId × Value → H} {w : World} {base : Nat} {spare : Nat → Bool} {held : Bool}

theorem act_of {n : Nat} {cs : List Value} {y : DataW H × List MemPlace} (hl : cs.length = 6) (h : DataW.trod enc Try.prog w base spare held n 33 cs = some y) : ∃ X : Act8, X.Ok ∧ cs = X.cells := by
  obtain ⟨ys, n', _, _, _, hyl, hf⟩ := DataW.trod_struct (P := Try.prog) (t := 33) rfl h
  have ci : Try.prog.cellsOf 3 = 1 := by kernel_rfl
  have ct : Try.prog.cellsOf 9 = 1 := by kernel_rfl
  match cs, hl with
  | [c0, c1, c2, c3, c4, c5], _ =>
    have h0 : DataW.trod enc Try.prog w base spare held n' 3 (([c0, c1, c2, c3, c4, c5].drop 0).take (Try.prog.cellsOf 3)) = ys[0]? := hf 0 _ rfl
    have h1 : DataW.trod enc Try.prog w base spare held n' 3 (([c0, c1, c2, c3, c4, c5].drop 1).take (Try.prog.cellsOf 3)) = ys[1]? := hf 1 _ rfl
    have h2 : DataW.trod enc Try.prog w base spare held n' 3 (([c0, c1, c2, c3, c4, c5].drop 2).take (Try.prog.cellsOf 3)) = ys[2]? := hf 2 _ rfl
    have h3 : DataW.trod enc Try.prog w base spare held n' 3 (([c0, c1, c2, c3, c4, c5].drop 3).take (Try.prog.cellsOf 3)) = ys[3]? := hf 3 _ rfl
    have h4 : DataW.trod enc Try.prog w base spare held n' 3 (([c0, c1, c2, c3, c4, c5].drop 4).take (Try.prog.cellsOf 3)) = ys[4]? := hf 4 _ rfl
    have h5 : DataW.trod enc Try.prog w base spare held n' 9 (([c0, c1, c2, c3, c4, c5].drop 5).take (Try.prog.cellsOf 9)) = ys[5]? := hf 5 _ rfl
    have hyl6 : ys.length = 6 := hyl
    rw [ci] at h0 h1 h2 h3 h4
    rw [ct] at h5
    have g : ∀ i, i < 6 → ∃ z, ys[i]? = some z := fun i hi => ⟨_, List.getElem?_eq_getElem (by omega)⟩
    obtain ⟨z0, g0⟩ := g 0 (by omega)
    obtain ⟨z1, g1⟩ := g 1 (by omega)
    obtain ⟨z2, g2⟩ := g 2 (by omega)
    obtain ⟨z3, g3⟩ := g 3 (by omega)
    obtain ⟨z4, g4⟩ := g 4 (by omega)
    obtain ⟨z5, g5⟩ := g 5 (by omega)
    obtain ⟨k0, e0, _⟩ := int_of (k := .i64) rfl (h0.trans g0)
    obtain ⟨k1, e1, _⟩ := int_of (k := .i64) rfl (h1.trans g1)
    obtain ⟨k2, e2, _⟩ := int_of (k := .i64) rfl (h2.trans g2)
    obtain ⟨k3, e3, w3⟩ := int_of (k := .i64) rfl (h3.trans g3)
    obtain ⟨k4, e4, _⟩ := int_of (k := .i64) rfl (h4.trans g4)
    obtain ⟨s, e5, _⟩ := str_of rfl (h5.trans g5)
    simp only [List.drop_succ_cons, List.drop_zero, List.take_succ_cons, List.take_zero, List.cons.injEq, and_true] at e0 e1 e2 e3 e4 e5
    subst e0 e1 e2 e3 e4 e5
    exact ⟨⟨k0, k1, k2, k3, k4, s⟩, wf_i64 w3, rfl⟩
end
end Go.Proofs.Ytnojcgaoepfcdaa
