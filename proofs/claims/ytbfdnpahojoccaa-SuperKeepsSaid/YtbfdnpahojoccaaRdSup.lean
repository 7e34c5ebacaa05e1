/-
  Superblocks that came in.
-/
import Derived.Test.YtbfdnpahojoccaaOpenFlat
import Derived.Test.YtbfdnpahojoccaaSupSpec
set_option linter.unusedSimpArgs false
set_option linter.unusedVariables false
set_option linter.unusedSectionVars false
set_option maxRecDepth 100000
namespace Go.Proofs.Ytbfdnpahojoccaa
open Go.RowKit Go.Cmp Go.ChangeShapes Go.WideShapes Go.Deep

section
variable {H : Type} {enc : TypeId × Value → H} {w : World} {base : Nat} {spare : Nat → Bool} {held : Bool}
theorem sup_of {n : Nat} {cs : List Value} {y : DataW H × List MemPlace} (hl : cs.length = 17) (h : DataW.trod enc Try.prog w base spare held n 28 cs = some y) : ∃ X : Sup, X.U64 ∧ cs = X.cells := by
  have hC : Try.prog.cellsOf 28 = 17 := by kernel_rfl
  have ci : Try.prog.cellsOf 3 = 1 := by kernel_rfl
  have cu : Try.prog.cellsOf 23 = 1 := by kernel_rfl
  have hp : partsAt Try.prog 4 28 = [(0, 3), (1, 3), (2, 3), (3, 3), (4, 3), (5, 3), (6, 3), (7, 23), (8, 3), (9, 3), (10, 23), (11, 23), (12, 23), (13, 23), (14, 23), (15, 23), (16, 23)] := by decide +kernel
  have hf := parts_of 4 n _ cs y (by rw [hC]; omega) h
  rw [hp] at hf
  clear hp h hC
  match cs, hl with
  | [c0, c1, c2, c3, c4, c5, c6, c7, c8, c9, c10, c11, c12, c13, c14, c15, c16], _ =>
    obtain ⟨_, _, g0⟩ := hf (0, 3) (by simp)
    simp only [ci] at g0
    obtain ⟨_, _, g1⟩ := hf (1, 3) (by simp)
    simp only [ci] at g1
    obtain ⟨_, _, g2⟩ := hf (2, 3) (by simp)
    simp only [ci] at g2
    obtain ⟨_, _, g3⟩ := hf (3, 3) (by simp)
    simp only [ci] at g3
    obtain ⟨_, _, g4⟩ := hf (4, 3) (by simp)
    simp only [ci] at g4
    obtain ⟨_, _, g5⟩ := hf (5, 3) (by simp)
    simp only [ci] at g5
    obtain ⟨_, _, g6⟩ := hf (6, 3) (by simp)
    simp only [ci] at g6
    obtain ⟨_, _, g7⟩ := hf (7, 23) (by simp)
    simp only [cu] at g7
    obtain ⟨_, _, g8⟩ := hf (8, 3) (by simp)
    simp only [ci] at g8
    obtain ⟨_, _, g9⟩ := hf (9, 3) (by simp)
    simp only [ci] at g9
    obtain ⟨_, _, g10⟩ := hf (10, 23) (by simp)
    simp only [cu] at g10
    obtain ⟨_, _, g11⟩ := hf (11, 23) (by simp)
    simp only [cu] at g11
    obtain ⟨_, _, g12⟩ := hf (12, 23) (by simp)
    simp only [cu] at g12
    obtain ⟨_, _, g13⟩ := hf (13, 23) (by simp)
    simp only [cu] at g13
    obtain ⟨_, _, g14⟩ := hf (14, 23) (by simp)
    simp only [cu] at g14
    obtain ⟨_, _, g15⟩ := hf (15, 23) (by simp)
    simp only [cu] at g15
    obtain ⟨_, _, g16⟩ := hf (16, 23) (by simp)
    simp only [cu] at g16
    obtain ⟨k0, e0, q0⟩ := int_of (k := .i64) rfl g0
    have w0 := wf_i64 q0
    obtain ⟨k1, e1, q1⟩ := int_of (k := .i64) rfl g1
    have w1 := wf_i64 q1
    obtain ⟨k2, e2, q2⟩ := int_of (k := .i64) rfl g2
    have w2 := wf_i64 q2
    obtain ⟨k3, e3, q3⟩ := int_of (k := .i64) rfl g3
    have w3 := wf_i64 q3
    obtain ⟨k4, e4, q4⟩ := int_of (k := .i64) rfl g4
    have w4 := wf_i64 q4
    obtain ⟨k5, e5, q5⟩ := int_of (k := .i64) rfl g5
    have w5 := wf_i64 q5
    obtain ⟨k6, e6, q6⟩ := int_of (k := .i64) rfl g6
    have w6 := wf_i64 q6
    obtain ⟨j7, e7, q7⟩ := int_of (k := .u64) rfl g7
    obtain ⟨k7, rfl, w7⟩ := wf_u64n q7
    obtain ⟨k8, e8, q8⟩ := int_of (k := .i64) rfl g8
    have w8 := wf_i64 q8
    obtain ⟨k9, e9, q9⟩ := int_of (k := .i64) rfl g9
    have w9 := wf_i64 q9
    obtain ⟨j10, e10, q10⟩ := int_of (k := .u64) rfl g10
    obtain ⟨k10, rfl, w10⟩ := wf_u64n q10
    obtain ⟨j11, e11, q11⟩ := int_of (k := .u64) rfl g11
    obtain ⟨k11, rfl, w11⟩ := wf_u64n q11
    obtain ⟨j12, e12, q12⟩ := int_of (k := .u64) rfl g12
    obtain ⟨k12, rfl, w12⟩ := wf_u64n q12
    obtain ⟨j13, e13, q13⟩ := int_of (k := .u64) rfl g13
    obtain ⟨k13, rfl, w13⟩ := wf_u64n q13
    obtain ⟨j14, e14, q14⟩ := int_of (k := .u64) rfl g14
    obtain ⟨k14, rfl, w14⟩ := wf_u64n q14
    obtain ⟨j15, e15, q15⟩ := int_of (k := .u64) rfl g15
    obtain ⟨k15, rfl, w15⟩ := wf_u64n q15
    obtain ⟨j16, e16, q16⟩ := int_of (k := .u64) rfl g16
    obtain ⟨k16, rfl, w16⟩ := wf_u64n q16
    simp only [List.drop_succ_cons, List.drop_zero, List.take_succ_cons, List.take_zero, List.cons.injEq, and_true] at e0 e1 e2 e3 e4 e5 e6 e7 e8 e9 e10 e11 e12 e13 e14 e15 e16
    subst e0 e1 e2 e3 e4 e5 e6 e7 e8 e9 e10 e11 e12 e13 e14 e15 e16
    exact ⟨⟨k0, k1, k2, k3, k4, k5, k6, k7, k8, k9, k10, k11, k12, k13, k14, k15, k16⟩, ⟨w7, w10, w11, w12, w13, w14, w15, w16⟩, rfl⟩
end
end Go.Proofs.Ytbfdnpahojoccaa
