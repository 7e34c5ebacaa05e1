/-
  Calls on a net that came in.
-/
import Derived.Test.YtnkgfkioijlkaaaOpen
import Derived.Test.YtnkgfkioijlkaaaNetNilLaw
namespace Go.Proofs.Ytnkgfkioijlkaaa
open Go.RowKit Go.Cmp Go.ChangeShapes Go.WideShapes Go.Deep

section
variable {H : Type} {enc : TypeId × Value → H} {w : World} {base : Nat} {spare : Nat → Bool} {held : Bool}

/-- What the fields of a letter are. -/
theorem letter_of {n : Nat} {cs : List Value} {y : DataW H × List MemPlace} (hl : cs.length = 3) (h : DataW.trod enc Try.prog w base spare held n 28 cs = some y) : ∃ (a b : Int) (d : List UInt8), cs = [.int .i64 a, .int .i64 b, .string ⟨d.toArray⟩] := by
  obtain ⟨ys, n', _, _, _, hyl, hf⟩ := DataW.trod_struct (P := Try.prog) (t := 28) rfl h
  have ci : Try.prog.cellsOf 3 = 1 := by kernel_rfl
  have ct : Try.prog.cellsOf 9 = 1 := by kernel_rfl
  match cs, hl with
  | [c0, c1, c2], _ =>
    have h0 : DataW.trod enc Try.prog w base spare held n' 3 (([c0, c1, c2].drop 0).take (Try.prog.cellsOf 3)) = ys[0]? := hf 0 _ rfl
    have h1 : DataW.trod enc Try.prog w base spare held n' 3 (([c0, c1, c2].drop 1).take (Try.prog.cellsOf 3)) = ys[1]? := hf 1 _ rfl
    have h2 : DataW.trod enc Try.prog w base spare held n' 9 (([c0, c1, c2].drop 2).take (Try.prog.cellsOf 9)) = ys[2]? := hf 2 _ rfl
    have hyl3 : ys.length = 3 := hyl
    rw [ci] at h0 h1
    rw [ct] at h2
    have g : ∀ i, i < 3 → ∃ z, ys[i]? = some z := fun i hi => ⟨_, List.getElem?_eq_getElem (by omega)⟩
    obtain ⟨z0, g0⟩ := g 0 (by omega)
    obtain ⟨z1, g1⟩ := g 1 (by omega)
    obtain ⟨z2, g2⟩ := g 2 (by omega)
    obtain ⟨a, e0, _⟩ := int_of (k := .i64) rfl (h0.trans g0)
    obtain ⟨b, e1, _⟩ := int_of (k := .i64) rfl (h1.trans g1)
    obtain ⟨s, e2, _⟩ := str_of rfl (h2.trans g2)
    simp only [List.drop_succ_cons, List.drop_zero, List.take_succ_cons, List.take_zero, List.cons.injEq, and_true] at e0 e1 e2
    subst e0 e1 e2
    exact ⟨a, b, s, rfl⟩

theorem act_of {n : Nat} {cs : List Value} {y : DataW H × List MemPlace} (hl : cs.length = 9) (h : DataW.trod enc Try.prog w base spare held n 30 cs = some y) : ∃ X : Act23, X.Ok ∧ cs = X.cells := by
  obtain ⟨ys, n', _, _, _, hyl, hf⟩ := DataW.trod_struct (P := Try.prog) (t := 30) rfl h
  have ci : Try.prog.cellsOf 3 = 1 := by kernel_rfl
  have cb : Try.prog.cellsOf 4 = 1 := by kernel_rfl
  have cl : Try.prog.cellsOf 28 = 3 := by kernel_rfl
  match cs, hl with
  | [c0, c1, c2, c3, c4, c5, c6, c7, c8], _ =>
    have h0 : DataW.trod enc Try.prog w base spare held n' 3 (([c0, c1, c2, c3, c4, c5, c6, c7, c8].drop 0).take (Try.prog.cellsOf 3)) = ys[0]? := hf 0 _ rfl
    have h1 : DataW.trod enc Try.prog w base spare held n' 28 (([c0, c1, c2, c3, c4, c5, c6, c7, c8].drop 1).take (Try.prog.cellsOf 28)) = ys[1]? := hf 1 _ rfl
    have h2 : DataW.trod enc Try.prog w base spare held n' 3 (([c0, c1, c2, c3, c4, c5, c6, c7, c8].drop 4).take (Try.prog.cellsOf 3)) = ys[2]? := hf 2 _ rfl
    have h3 : DataW.trod enc Try.prog w base spare held n' 4 (([c0, c1, c2, c3, c4, c5, c6, c7, c8].drop 5).take (Try.prog.cellsOf 4)) = ys[3]? := hf 3 _ rfl
    have h4 : DataW.trod enc Try.prog w base spare held n' 3 (([c0, c1, c2, c3, c4, c5, c6, c7, c8].drop 6).take (Try.prog.cellsOf 3)) = ys[4]? := hf 4 _ rfl
    have h5 : DataW.trod enc Try.prog w base spare held n' 3 (([c0, c1, c2, c3, c4, c5, c6, c7, c8].drop 7).take (Try.prog.cellsOf 3)) = ys[5]? := hf 5 _ rfl
    have h6 : DataW.trod enc Try.prog w base spare held n' 3 (([c0, c1, c2, c3, c4, c5, c6, c7, c8].drop 8).take (Try.prog.cellsOf 3)) = ys[6]? := hf 6 _ rfl
    have hyl7 : ys.length = 7 := hyl
    rw [ci] at h0 h2 h4 h5 h6
    rw [cb] at h3
    rw [cl] at h1
    have g : ∀ i, i < 7 → ∃ z, ys[i]? = some z := fun i hi => ⟨_, List.getElem?_eq_getElem (by omega)⟩
    obtain ⟨z0, g0⟩ := g 0 (by omega)
    obtain ⟨z1, g1⟩ := g 1 (by omega)
    obtain ⟨z2, g2⟩ := g 2 (by omega)
    obtain ⟨z3, g3⟩ := g 3 (by omega)
    obtain ⟨z4, g4⟩ := g 4 (by omega)
    obtain ⟨z5, g5⟩ := g 5 (by omega)
    obtain ⟨z6, g6⟩ := g 6 (by omega)
    obtain ⟨k, e0, _⟩ := int_of (k := .i64) rfl (h0.trans g0)
    obtain ⟨a, b, d, e1⟩ := letter_of rfl (h1.trans g1)
    obtain ⟨i, e2, w2⟩ := int_of (k := .i64) rfl (h2.trans g2)
    obtain ⟨o, e3⟩ := bool_of rfl (h3.trans g3)
    obtain ⟨p, e4, _⟩ := int_of (k := .i64) rfl (h4.trans g4)
    obtain ⟨q, e5, _⟩ := int_of (k := .i64) rfl (h5.trans g5)
    obtain ⟨m, e6, _⟩ := int_of (k := .i64) rfl (h6.trans g6)
    simp only [List.drop_succ_cons, List.drop_zero, List.take_succ_cons, List.take_zero, List.cons.injEq, and_true] at e0 e1 e2 e3 e4 e5 e6
    obtain ⟨e1, e7, e8⟩ := e1
    subst e0 e1 e2 e3 e4 e5 e6 e7 e8
    exact ⟨⟨k, a, b, d, i, o, p, q, m⟩, wf_i64 w2, rfl⟩
end
end Go.Proofs.Ytnkgfkioijlkaaa
