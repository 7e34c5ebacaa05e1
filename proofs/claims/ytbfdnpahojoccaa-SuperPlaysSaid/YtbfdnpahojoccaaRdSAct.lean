/-
  Calls that came in.
-/
import Derived.Test.YtbfdnpahojoccaaOpenFlat
import Derived.Test.YtbfdnpahojoccaaSup14
set_option linter.unusedSimpArgs false
set_option linter.unusedVariables false
set_option linter.unusedSectionVars false
set_option maxRecDepth 100000
namespace Go.Proofs.Ytbfdnpahojoccaa
open Go.RowKit Go.Cmp Go.ChangeShapes Go.WideShapes Go.Deep

section
variable {H : Type} {enc : TypeId × Value → H} {w : World} {base : Nat} {spare : Nat → Bool} {held : Bool}
theorem sact_of {n : Nat} {cs : List Value} {y : DataW H × List MemPlace} (hl : cs.length = 22) (h : DataW.trod enc Try.prog w base spare held n 56 cs = some y) : ∃ X : SAct × Value, SActOk w X ∧ cs = X.1.cells X.2 := by
  have hC : Try.prog.cellsOf 56 = 22 := by kernel_rfl
  have ci : Try.prog.cellsOf 3 = 1 := by kernel_rfl
  have cp : Try.prog.cellsOf 47 = 1 := by kernel_rfl
  have cu : Try.prog.cellsOf 23 = 1 := by kernel_rfl
  have hp : partsAt Try.prog 4 56 = [(0, 3), (1, 3), (2, 3), (3, 3), (4, 3), (5, 3), (6, 3), (7, 3), (8, 23), (9, 3), (10, 3), (11, 23), (12, 23), (13, 23), (14, 23), (15, 23), (16, 23), (17, 23), (18, 3), (19, 3), (20, 3), (21, 47)] := by decide +kernel
  have hf := parts_of 4 n _ cs y (by rw [hC]; omega) h
  rw [hp] at hf
  clear hp h hC
  match cs, hl with
  | [c0, c1, c2, c3, c4, c5, c6, c7, c8, c9, c10, c11, c12, c13, c14, c15, c16, c17, c18, c19, c20, c21], _ =>
    obtain ⟨_, _, g0⟩ := hf (0, 3) (by simp)
    simp only [ci] at g0
    obtain ⟨_, _, g1⟩ := hf (1, 3) (by simp)
    simp only [ci] at g1
    obtain ⟨_, _, g2⟩ := hf (2, 3) (by simp)
    simp only [ci] at g2
    obtain ⟨_, _, g3⟩ := hf (3, 3) (by simp)
    simp only [ci] at g3
    obtain ⟨_, _, g4⟩ := hf (4, 3) (by simp)
    simp only [ci] at g4
    obtain ⟨_, _, g5⟩ := hf (5, 3) (by simp)
    simp only [ci] at g5
    obtain ⟨_, _, g6⟩ := hf (6, 3) (by simp)
    simp only [ci] at g6
    obtain ⟨_, _, g7⟩ := hf (7, 3) (by simp)
    simp only [ci] at g7
    obtain ⟨_, _, g8⟩ := hf (8, 23) (by simp)
    simp only [cu] at g8
    obtain ⟨_, _, g9⟩ := hf (9, 3) (by simp)
    simp only [ci] at g9
    obtain ⟨_, _, g10⟩ := hf (10, 3) (by simp)
    simp only [ci] at g10
    obtain ⟨_, _, g11⟩ := hf (11, 23) (by simp)
    simp only [cu] at g11
    obtain ⟨_, _, g12⟩ := hf (12, 23) (by simp)
    simp only [cu] at g12
    obtain ⟨_, _, g13⟩ := hf (13, 23) (by simp)
    simp only [cu] at g13
    obtain ⟨_, _, g14⟩ := hf (14, 23) (by simp)
    simp only [cu] at g14
    obtain ⟨_, _, g15⟩ := hf (15, 23) (by simp)
    simp only [cu] at g15
    obtain ⟨_, _, g16⟩ := hf (16, 23) (by simp)
    simp only [cu] at g16
    obtain ⟨_, _, g17⟩ := hf (17, 23) (by simp)
    simp only [cu] at g17
    obtain ⟨_, _, g18⟩ := hf (18, 3) (by simp)
    simp only [ci] at g18
    obtain ⟨_, _, g19⟩ := hf (19, 3) (by simp)
    simp only [ci] at g19
    obtain ⟨_, _, g20⟩ := hf (20, 3) (by simp)
    simp only [ci] at g20
    obtain ⟨_, _, g21⟩ := hf (21, 47) (by simp)
    simp only [cp] at g21
    obtain ⟨k0, e0, q0⟩ := int_of (k := .i64) rfl g0
    have w0 := wf_i64 q0
    obtain ⟨k1, e1, q1⟩ := int_of (k := .i64) rfl g1
    have w1 := wf_i64 q1
    obtain ⟨k2, e2, q2⟩ := int_of (k := .i64) rfl g2
    have w2 := wf_i64 q2
    obtain ⟨k3, e3, q3⟩ := int_of (k := .i64) rfl g3
    have w3 := wf_i64 q3
    obtain ⟨k4, e4, q4⟩ := int_of (k := .i64) rfl g4
    have w4 := wf_i64 q4
    obtain ⟨k5, e5, q5⟩ := int_of (k := .i64) rfl g5
    have w5 := wf_i64 q5
    obtain ⟨k6, e6, q6⟩ := int_of (k := .i64) rfl g6
    have w6 := wf_i64 q6
    obtain ⟨k7, e7, q7⟩ := int_of (k := .i64) rfl g7
    have w7 := wf_i64 q7
    obtain ⟨j8, e8, q8⟩ := int_of (k := .u64) rfl g8
    obtain ⟨k8, rfl, w8⟩ := wf_u64n q8
    obtain ⟨k9, e9, q9⟩ := int_of (k := .i64) rfl g9
    have w9 := wf_i64 q9
    obtain ⟨k10, e10, q10⟩ := int_of (k := .i64) rfl g10
    have w10 := wf_i64 q10
    obtain ⟨j11, e11, q11⟩ := int_of (k := .u64) rfl g11
    obtain ⟨k11, rfl, w11⟩ := wf_u64n q11
    obtain ⟨j12, e12, q12⟩ := int_of (k := .u64) rfl g12
    obtain ⟨k12, rfl, w12⟩ := wf_u64n q12
    obtain ⟨j13, e13, q13⟩ := int_of (k := .u64) rfl g13
    obtain ⟨k13, rfl, w13⟩ := wf_u64n q13
    obtain ⟨j14, e14, q14⟩ := int_of (k := .u64) rfl g14
    obtain ⟨k14, rfl, w14⟩ := wf_u64n q14
    obtain ⟨j15, e15, q15⟩ := int_of (k := .u64) rfl g15
    obtain ⟨k15, rfl, w15⟩ := wf_u64n q15
    obtain ⟨j16, e16, q16⟩ := int_of (k := .u64) rfl g16
    obtain ⟨k16, rfl, w16⟩ := wf_u64n q16
    obtain ⟨j17, e17, q17⟩ := int_of (k := .u64) rfl g17
    obtain ⟨k17, rfl, w17⟩ := wf_u64n q17
    obtain ⟨k18, e18, q18⟩ := int_of (k := .i64) rfl g18
    have w18 := wf_i64 q18
    obtain ⟨k19, e19, q19⟩ := int_of (k := .i64) rfl g19
    have w19 := wf_i64 q19
    obtain ⟨k20, e20, q20⟩ := int_of (k := .i64) rfl g20
    have w20 := wf_i64 q20
    obtain ⟨v21, k21, e21, w21, R21⟩ := ints_of (e := 3) rfl ci rfl g21
    simp only [List.drop_succ_cons, List.drop_zero, List.take_succ_cons, List.take_zero, List.cons.injEq, and_true] at e0 e1 e2 e3 e4 e5 e6 e7 e8 e9 e10 e11 e12 e13 e14 e15 e16 e17 e18 e19 e20 e21
    subst e0 e1 e2 e3 e4 e5 e6 e7 e8 e9 e10 e11 e12 e13 e14 e15 e16 e17 e18 e19 e20 e21
    exact ⟨(⟨k0, ⟨k1, k2, k3, k4, k5, k6, k7, k8, k9, k10, k11, k12, k13, k14, k15, k16, k17⟩, k18, k19, k20, k21⟩, c21), ⟨⟨w8, w11, w12, w13, w14, w15, w16, w17⟩, w20.1, w20.2, fun p hp => (w21 p hp).2, R21⟩, rfl⟩
end
end Go.Proofs.Ytbfdnpahojoccaa
