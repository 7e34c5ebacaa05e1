/-
  Four numbers that came in.
-/
import Derived.Test.YtbfdnpahojoccaaOpenFlat
set_option linter.unusedSimpArgs false
set_option linter.unusedVariables false
set_option linter.unusedSectionVars false
set_option maxRecDepth 100000
namespace Go.Proofs.Ytbfdnpahojoccaa
open Go.RowKit Go.Cmp Go.ChangeShapes Go.WideShapes Go.Deep

section
variable {H : Type} {enc : TypeId × Value → H} {w : World} {base : Nat} {spare : Nat → Bool} {held : Bool}
theorem four_of {n : Nat} {cs : List Value} {y : DataW H × List MemPlace} (hl : cs.length = 4) (h : DataW.trod enc Try.prog w base spare held n 33 cs = some y) : ∃ X : Int × Int × Int × Int, True ∧ cs = [.int .i64 X.1, .int .i64 X.2.1, .int .i64 X.2.2.1, .int .i64 X.2.2.2] := by
  have hC : Try.prog.cellsOf 33 = 4 := by kernel_rfl
  have ci : Try.prog.cellsOf 3 = 1 := by kernel_rfl
  have hp : partsAt Try.prog 4 33 = [(0, 3), (1, 3), (2, 3), (3, 3)] := by decide +kernel
  have hf := parts_of 4 n _ cs y (by rw [hC]; omega) h
  rw [hp] at hf
  clear hp h hC
  match cs, hl with
  | [c0, c1, c2, c3], _ =>
    obtain ⟨_, _, g0⟩ := hf (0, 3) (by simp)
    simp only [ci] at g0
    obtain ⟨_, _, g1⟩ := hf (1, 3) (by simp)
    simp only [ci] at g1
    obtain ⟨_, _, g2⟩ := hf (2, 3) (by simp)
    simp only [ci] at g2
    obtain ⟨_, _, g3⟩ := hf (3, 3) (by simp)
    simp only [ci] at g3
    obtain ⟨k0, e0, q0⟩ := int_of (k := .i64) rfl g0
    have w0 := wf_i64 q0
    obtain ⟨k1, e1, q1⟩ := int_of (k := .i64) rfl g1
    have w1 := wf_i64 q1
    obtain ⟨k2, e2, q2⟩ := int_of (k := .i64) rfl g2
    have w2 := wf_i64 q2
    obtain ⟨k3, e3, q3⟩ := int_of (k := .i64) rfl g3
    have w3 := wf_i64 q3
    simp only [List.drop_succ_cons, List.drop_zero, List.take_succ_cons, List.take_zero, List.cons.injEq, and_true] at e0 e1 e2 e3
    subst e0 e1 e2 e3
    exact ⟨(k0, k1, k2, k3), trivial, rfl⟩
end
end Go.Proofs.Ytbfdnpahojoccaa
