/-
  Calls that came in.
-/
import Derived.Test.YthddaflpoklglaaOpen
import Derived.Test.YthddaflpoklglaaDiskAct
namespace Go.Proofs.Ythddaflpoklglaa
open Go.RowKit Go.Cmp Go.ChangeShapes Go.WideShapes Go.Deep

section
variable {H : Type} {enc : TypeId × Value → H} {w : World} {base : Nat} {spare : Nat → Bool} {held : Bool}

def actCells (x : Act3 × Value) : List Value := x.1.cells x.2
def ActOk (w : World) (x : Act3 × Value) : Prop := x.1.Ok ∧ Rd w 1 x.2 x.1.picks.length (x.1.picks.flatMap num)

theorem act_of {n : Nat} {cs : List Value} {y : DataW H × List MemPlace} (hl : cs.length = 7) (h : DataW.trod enc Try.prog w base spare held n 44 cs = some y) : ∃ X, ActOk w X ∧ cs = actCells X := by
  obtain ⟨ys, n', _, _, _, hyl, hf⟩ := DataW.trod_struct (P := Try.prog) (t := 44) rfl h
  have ci : Try.prog.cellsOf 3 = 1 := by kernel_rfl
  have cb : Try.prog.cellsOf 5 = 1 := by kernel_rfl
  have ct : Try.prog.cellsOf 9 = 1 := by kernel_rfl
  have cp : Try.prog.cellsOf 31 = 1 := by kernel_rfl
  match cs, hl with
  | [c0, c1, c2, c3, c4, c5, c6], _ =>
    have h0 : DataW.trod enc Try.prog w base spare held n' 3 (([c0, c1, c2, c3, c4, c5, c6].drop 0).take (Try.prog.cellsOf 3)) = ys[0]? := hf 0 _ rfl
    have h1 : DataW.trod enc Try.prog w base spare held n' 3 (([c0, c1, c2, c3, c4, c5, c6].drop 1).take (Try.prog.cellsOf 3)) = ys[1]? := hf 1 _ rfl
    have h2 : DataW.trod enc Try.prog w base spare held n' 3 (([c0, c1, c2, c3, c4, c5, c6].drop 2).take (Try.prog.cellsOf 3)) = ys[2]? := hf 2 _ rfl
    have h3 : DataW.trod enc Try.prog w base spare held n' 3 (([c0, c1, c2, c3, c4, c5, c6].drop 3).take (Try.prog.cellsOf 3)) = ys[3]? := hf 3 _ rfl
    have h4 : DataW.trod enc Try.prog w base spare held n' 5 (([c0, c1, c2, c3, c4, c5, c6].drop 4).take (Try.prog.cellsOf 5)) = ys[4]? := hf 4 _ rfl
    have h5 : DataW.trod enc Try.prog w base spare held n' 9 (([c0, c1, c2, c3, c4, c5, c6].drop 5).take (Try.prog.cellsOf 9)) = ys[5]? := hf 5 _ rfl
    have h6 : DataW.trod enc Try.prog w base spare held n' 31 (([c0, c1, c2, c3, c4, c5, c6].drop 6).take (Try.prog.cellsOf 31)) = ys[6]? := hf 6 _ rfl
    have hyl7 : ys.length = 7 := hyl
    rw [ci] at h0 h1 h2 h3
    rw [cb] at h4
    rw [ct] at h5
    rw [cp] at h6
    have g : ∀ i, i < 7 → ∃ z, ys[i]? = some z := fun i hi => ⟨_, List.getElem?_eq_getElem (by omega)⟩
    obtain ⟨z0, g0⟩ := g 0 (by omega)
    obtain ⟨z1, g1⟩ := g 1 (by omega)
    obtain ⟨z2, g2⟩ := g 2 (by omega)
    obtain ⟨z3, g3⟩ := g 3 (by omega)
    obtain ⟨z4, g4⟩ := g 4 (by omega)
    obtain ⟨z5, g5⟩ := g 5 (by omega)
    obtain ⟨z6, g6⟩ := g 6 (by omega)
    obtain ⟨k, e0, _⟩ := int_of (k := .i64) rfl (h0.trans g0)
    obtain ⟨i, e1, _⟩ := int_of (k := .i64) rfl (h1.trans g1)
    obtain ⟨p, e2, _⟩ := int_of (k := .i64) rfl (h2.trans g2)
    obtain ⟨m, e3, w3⟩ := int_of (k := .i64) rfl (h3.trans g3)
    obtain ⟨b, e4, w4⟩ := int_of (k := .u8) rfl (h4.trans g4)
    obtain ⟨s, e5, _⟩ := str_of rfl (h5.trans g5)
    obtain ⟨v, xs, e6, w6, hR⟩ := ints_of (e := 3) rfl ci rfl (h6.trans g6)
    obtain ⟨d, rfl⟩ := wf_u8 w4
    simp only [List.drop_succ_cons, List.drop_zero, List.take_succ_cons, List.take_zero, List.cons.injEq, and_true] at e0 e1 e2 e3 e4 e5 e6
    subst e0 e1 e2 e3 e4 e5 e6
    exact ⟨(⟨k, i, p, m, d, s, xs⟩, c6), ⟨⟨(wf_i64 w3).1, (wf_i64 w3).2, fun q hq => (w6 q hq).2⟩, hR⟩, rfl⟩
end
end Go.Proofs.Ythddaflpoklglaa
