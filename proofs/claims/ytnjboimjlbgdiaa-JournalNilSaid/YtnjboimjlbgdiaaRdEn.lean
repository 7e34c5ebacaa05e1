/-
  Entries that came in.
-/
import Derived.Test.YtnjboimjlbgdiaaGen
import Derived.Test.YtnjboimjlbgdiaaEntA
set_option linter.unusedSimpArgs false
set_option linter.unusedVariables false
set_option linter.unusedSectionVars false
set_option maxRecDepth 100000
namespace Go.Proofs.Ytnjboimjlbgdiaa
open Go.RowKit Go.Cmp Go.ChangeShapes Go.WideShapes Go.Deep
set_option maxRecDepth 100000
theorem wf_u64 {n : Int} (h : (Lit.int .u64 n).wf = true) : 0 ≤ n ∧ n ≤ 18446744073709551615 := by
  have e1 : IntKind.u64.min = 0 := rfl
  have e2 : IntKind.u64.max = 18446744073709551615 := rfl
  simp [Lit.wf, e1, e2] at h
  exact h

def parOk (X : En) : Prop := X.parent < 18446744073709551616

section
variable {H : Type} {enc : TypeId × Value → H} {w : World} {base : Nat} {spare : Nat → Bool} {held : Bool}
theorem en_of {n : Nat} {cs : List Value} {y : DataW H × List MemPlace} (hl : cs.length = 9) (h : DataW.trod enc Try.prog w base spare held n 24 cs = some y) : ∃ X : En, X.parent < 18446744073709551616 ∧ cs = X.cells := by
  obtain ⟨ys, n', _, _, _, hyl, hf⟩ := DataW.trod_struct (P := Try.prog) (t := 24) rfl h
  have ci : Try.prog.cellsOf 3 = 1 := by kernel_rfl
  have cu : Try.prog.cellsOf 22 = 1 := by kernel_rfl
  have ct : Try.prog.cellsOf 9 = 1 := by kernel_rfl
  match cs, hl with
  | [c0, c1, c2, c3, c4, c5, c6, c7, c8], _ =>
    have h0 : DataW.trod enc Try.prog w base spare held n' 3 (([c0, c1, c2, c3, c4, c5, c6, c7, c8].drop 0).take (Try.prog.cellsOf 3)) = ys[0]? := hf 0 _ rfl
    have h1 : DataW.trod enc Try.prog w base spare held n' 3 (([c0, c1, c2, c3, c4, c5, c6, c7, c8].drop 1).take (Try.prog.cellsOf 3)) = ys[1]? := hf 1 _ rfl
    have h2 : DataW.trod enc Try.prog w base spare held n' 3 (([c0, c1, c2, c3, c4, c5, c6, c7, c8].drop 2).take (Try.prog.cellsOf 3)) = ys[2]? := hf 2 _ rfl
    have h3 : DataW.trod enc Try.prog w base spare held n' 22 (([c0, c1, c2, c3, c4, c5, c6, c7, c8].drop 3).take (Try.prog.cellsOf 22)) = ys[3]? := hf 3 _ rfl
    have h4 : DataW.trod enc Try.prog w base spare held n' 3 (([c0, c1, c2, c3, c4, c5, c6, c7, c8].drop 4).take (Try.prog.cellsOf 3)) = ys[4]? := hf 4 _ rfl
    have h5 : DataW.trod enc Try.prog w base spare held n' 3 (([c0, c1, c2, c3, c4, c5, c6, c7, c8].drop 5).take (Try.prog.cellsOf 3)) = ys[5]? := hf 5 _ rfl
    have h6 : DataW.trod enc Try.prog w base spare held n' 3 (([c0, c1, c2, c3, c4, c5, c6, c7, c8].drop 6).take (Try.prog.cellsOf 3)) = ys[6]? := hf 6 _ rfl
    have h7 : DataW.trod enc Try.prog w base spare held n' 3 (([c0, c1, c2, c3, c4, c5, c6, c7, c8].drop 7).take (Try.prog.cellsOf 3)) = ys[7]? := hf 7 _ rfl
    have h8 : DataW.trod enc Try.prog w base spare held n' 9 (([c0, c1, c2, c3, c4, c5, c6, c7, c8].drop 8).take (Try.prog.cellsOf 9)) = ys[8]? := hf 8 _ rfl
    have hyl6 : ys.length = 9 := hyl
    rw [ci] at h0 h1 h2 h4 h5 h6 h7
    rw [cu] at h3
    rw [ct] at h8
    have g : ∀ i, i < 9 → ∃ z, ys[i]? = some z := fun i hi => ⟨_, List.getElem?_eq_getElem (by omega)⟩
    obtain ⟨z0, g0⟩ := g 0 (by omega)
    obtain ⟨z1, g1⟩ := g 1 (by omega)
    obtain ⟨z2, g2⟩ := g 2 (by omega)
    obtain ⟨z3, g3⟩ := g 3 (by omega)
    obtain ⟨z4, g4⟩ := g 4 (by omega)
    obtain ⟨z5, g5⟩ := g 5 (by omega)
    obtain ⟨z6, g6⟩ := g 6 (by omega)
    obtain ⟨z7, g7⟩ := g 7 (by omega)
    obtain ⟨z8, g8⟩ := g 8 (by omega)
    obtain ⟨k0, e0, _⟩ := int_of (k := .i64) rfl (h0.trans g0)
    obtain ⟨k1, e1, _⟩ := int_of (k := .i64) rfl (h1.trans g1)
    obtain ⟨k2, e2, _⟩ := int_of (k := .i64) rfl (h2.trans g2)
    obtain ⟨k3, e3, w3⟩ := int_of (k := .u64) rfl (h3.trans g3)
    obtain ⟨k4, e4, _⟩ := int_of (k := .i64) rfl (h4.trans g4)
    obtain ⟨k5, e5, _⟩ := int_of (k := .i64) rfl (h5.trans g5)
    obtain ⟨k6, e6, _⟩ := int_of (k := .i64) rfl (h6.trans g6)
    obtain ⟨k7, e7, _⟩ := int_of (k := .i64) rfl (h7.trans g7)
    obtain ⟨k8, e8, _⟩ := str_of rfl (h8.trans g8)
    simp only [List.drop_succ_cons, List.drop_zero, List.take_succ_cons, List.take_zero, List.cons.injEq, and_true] at e0 e1 e2 e3 e4 e5 e6 e7 e8
    subst e0 e1 e2 e3 e4 e5 e6 e7 e8
    have hw := wf_u64 w3
    obtain ⟨m, rfl⟩ := Int.eq_ofNat_of_zero_le hw.1
    exact ⟨⟨k0, k1, k2, m, k4, k5, k6, k7, k8⟩, by show m < _; omega, rfl⟩
end
end Go.Proofs.Ytnjboimjlbgdiaa
