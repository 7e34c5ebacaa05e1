/-
  Structs and arrays that came in, opened down to their cells. Every lemma holds for every program.
  Calls that came in.
-/
import Derived.Test.YtnjboimjlbgdiaaGen
import Derived.OpenShut
import Derived.Test.YtnjboimjlbgdiaaJrnQ
set_option linter.unusedSimpArgs false
set_option linter.unusedVariables false
set_option linter.unusedSectionVars false
set_option maxRecDepth 100000
namespace Go.Cmp
open Go.RowKit Go.ChangeShapes Go.WideShapes Go.Deep
/-- The places and types of the parts, d levels down. -/
def partsAt (P : Program) : Nat → TypeId → List (Nat × TypeId)
  | 0, t => [(0, t)]
  | d + 1, t =>
    match P.underlying t with
    | some (.struct fs) => fs.toList.flatMap fun f => ((partsAt P d f.type).filter fun x => decide (x.1 + P.cellsOf x.2 ≤ P.cellsOf f.type)).map fun x => (f.offset + x.1, x.2)
    | some (.array n e) => (List.range n).flatMap fun i => ((partsAt P d e).filter fun x => decide (x.1 + P.cellsOf x.2 ≤ P.cellsOf e)).map fun x => (i * P.cellsOf e + x.1, x.2)
    | _ => [(0, t)]
section
variable {H : Type} {enc : TypeId × Value → H} {P : Program} {w : World} {base : Nat} {spare : Nat → Bool} {held : Bool}
theorem cut_cut {cs : List Value} {a c b k : Nat} (h : b + k ≤ c) : ((((cs.drop a).take c).drop b).take k) = (cs.drop (a + b)).take k := by
  rw [List.drop_take, List.take_take, List.drop_drop, Nat.min_eq_left (by omega)]
theorem parts_of : ∀ (d n : Nat) (t : TypeId) (cs : List Value) (y : DataW H × List MemPlace), cs.length ≤ P.cellsOf t → DataW.trod enc P w base spare held n t cs = some y →
    ∀ x ∈ partsAt P d t, ∃ n' y', DataW.trod enc P w base spare held n' x.2 ((cs.drop x.1).take (P.cellsOf x.2)) = some y'
  | 0, n, t, cs, y, hl, h, x, hx => by
    simp only [partsAt, List.mem_singleton] at hx
    subst hx
    exact ⟨n, y, by rw [List.drop_zero, List.take_of_length_le hl]; exact h⟩
  | d + 1, n, t, cs, y, hl, h, x, hx => by
    unfold partsAt at hx
    split at hx
    · rename_i fs hu
      obtain ⟨xs, m, _, _, hcl, hxl, hf⟩ := DataW.trod_struct hu h
      rw [List.mem_flatMap] at hx
      obtain ⟨f, hf1, hx⟩ := hx
      rw [List.mem_map] at hx
      obtain ⟨z, hz, rfl⟩ := hx
      rw [List.mem_filter, decide_eq_true_eq] at hz
      obtain ⟨hz1, hz2⟩ := hz
      obtain ⟨i, hi, hi2⟩ := List.mem_iff_getElem.1 hf1
      have hi' : i < fs.size := by simpa using hi
      have hfi : fs[i]? = some f := by rw [← hi2]; simp [hi']
      have hq := hf i f hfi
      rw [List.getElem?_eq_getElem (by omega)] at hq
      have := parts_of d m f.type _ _ (by rw [List.length_take]; omega) hq z hz1
      simp only
      rw [cut_cut hz2] at this
      exact this
    · rename_i k e hu
      obtain ⟨xs, m, _, _, hcl, hxl, hf⟩ := DataW.trod_array hu h
      rw [List.mem_flatMap] at hx
      obtain ⟨i, hi, hx⟩ := hx
      rw [List.mem_map] at hx
      obtain ⟨z, hz, rfl⟩ := hx
      rw [List.mem_filter, decide_eq_true_eq] at hz
      obtain ⟨hz1, hz2⟩ := hz
      have hi' := List.mem_range.1 hi
      have hq := hf i hi'
      rw [List.getElem?_eq_getElem (by omega)] at hq
      have := parts_of d m e _ _ (by rw [List.length_take]; omega) hq z hz1
      simp only
      rw [cut_cut hz2] at this
      exact this
    · simp only [List.mem_singleton] at hx
      subst hx
      exact ⟨n, y, by rw [List.drop_zero, List.take_of_length_le hl]; exact h⟩
theorem okWide_agg {n : Nat} {e t : TypeId} {r : Reach} {v : Value} (ht : P.underlying t = some (.array n e)) (h : Value.okWide P w r base t v) : ∃ cs, v = .agg cs ∧ cs.size = P.cellsOf t := by
  simp only [Value.okWide, ht] at h
  obtain ⟨cs, h1, h2, _⟩ := h
  exact ⟨cs, h1, h2⟩
theorem wf_u64n {n : Int} (h : (Lit.int .u64 n).wf = true) : ∃ m : Nat, n = (m : Int) ∧ m < 18446744073709551616 := by
  have e1 : IntKind.u64.min = 0 := rfl
  have e2 : IntKind.u64.max = 18446744073709551615 := rfl
  simp [Lit.wf, e1, e2] at h
  obtain ⟨m, rfl⟩ := Int.eq_ofNat_of_zero_le h.1
  exact ⟨m, rfl, by omega⟩
end
end Go.Cmp
namespace Go.Proofs.Ytnjboimjlbgdiaa
open Go.RowKit Go.Cmp Go.ChangeShapes Go.WideShapes Go.Deep

section
variable {H : Type} {enc : TypeId × Value → H} {w : World} {base : Nat} {spare : Nat → Bool} {held : Bool}
theorem jact_of {n : Nat} {cs : List Value} {y : DataW H × List MemPlace} (hl : cs.length = 15) (h : DataW.trod enc Try.prog w base spare held n 46 cs = some y) : ∃ X : JAct × Value, JActOk w X ∧ cs = X.1.cells X.2 := by
  have hC : Try.prog.cellsOf 46 = 15 := by kernel_rfl
  have cofi : Try.prog.cellsOf 3 = 1 := by kernel_rfl
  have cofp : Try.prog.cellsOf 44 = 1 := by kernel_rfl
  have cofs : Try.prog.cellsOf 9 = 1 := by kernel_rfl
  have cofu : Try.prog.cellsOf 22 = 1 := by kernel_rfl
  have hp : partsAt Try.prog 4 46 = [(0, 3), (1, 3), (2, 3), (3, 3), (4, 22), (5, 3), (6, 3), (7, 3), (8, 3), (9, 9), (10, 3), (11, 3), (12, 3), (13, 3), (14, 44)] := by decide +kernel
  have hf := parts_of 4 n _ cs y (by rw [hC]; omega) h
  rw [hp] at hf
  clear hp h hC
  match cs, hl with
  | [c0, c1, c2, c3, c4, c5, c6, c7, c8, c9, c10, c11, c12, c13, c14], _ =>
    obtain ⟨_, _, g0⟩ := hf (0, 3) (by simp)
    simp only [cofi] at g0
    obtain ⟨_, _, g1⟩ := hf (1, 3) (by simp)
    simp only [cofi] at g1
    obtain ⟨_, _, g2⟩ := hf (2, 3) (by simp)
    simp only [cofi] at g2
    obtain ⟨_, _, g3⟩ := hf (3, 3) (by simp)
    simp only [cofi] at g3
    obtain ⟨_, _, g4⟩ := hf (4, 22) (by simp)
    simp only [cofu] at g4
    obtain ⟨_, _, g5⟩ := hf (5, 3) (by simp)
    simp only [cofi] at g5
    obtain ⟨_, _, g6⟩ := hf (6, 3) (by simp)
    simp only [cofi] at g6
    obtain ⟨_, _, g7⟩ := hf (7, 3) (by simp)
    simp only [cofi] at g7
    obtain ⟨_, _, g8⟩ := hf (8, 3) (by simp)
    simp only [cofi] at g8
    obtain ⟨_, _, g9⟩ := hf (9, 9) (by simp)
    simp only [cofs] at g9
    obtain ⟨_, _, g10⟩ := hf (10, 3) (by simp)
    simp only [cofi] at g10
    obtain ⟨_, _, g11⟩ := hf (11, 3) (by simp)
    simp only [cofi] at g11
    obtain ⟨_, _, g12⟩ := hf (12, 3) (by simp)
    simp only [cofi] at g12
    obtain ⟨_, _, g13⟩ := hf (13, 3) (by simp)
    simp only [cofi] at g13
    obtain ⟨_, _, g14⟩ := hf (14, 44) (by simp)
    simp only [cofp] at g14
    obtain ⟨k0, e0, q0⟩ := int_of (k := .i64) rfl g0
    have w0 := wf_i64 q0
    obtain ⟨k1, e1, q1⟩ := int_of (k := .i64) rfl g1
    have w1 := wf_i64 q1
    obtain ⟨k2, e2, q2⟩ := int_of (k := .i64) rfl g2
    have w2 := wf_i64 q2
    obtain ⟨k3, e3, q3⟩ := int_of (k := .i64) rfl g3
    have w3 := wf_i64 q3
    obtain ⟨j4, e4, q4⟩ := int_of (k := .u64) rfl g4
    obtain ⟨k4, rfl, w4⟩ := wf_u64n q4
    obtain ⟨k5, e5, q5⟩ := int_of (k := .i64) rfl g5
    have w5 := wf_i64 q5
    obtain ⟨k6, e6, q6⟩ := int_of (k := .i64) rfl g6
    have w6 := wf_i64 q6
    obtain ⟨k7, e7, q7⟩ := int_of (k := .i64) rfl g7
    have w7 := wf_i64 q7
    obtain ⟨k8, e8, q8⟩ := int_of (k := .i64) rfl g8
    have w8 := wf_i64 q8
    obtain ⟨k9, e9, w9⟩ := str_of rfl g9
    obtain ⟨k10, e10, q10⟩ := int_of (k := .i64) rfl g10
    have w10 := wf_i64 q10
    obtain ⟨k11, e11, q11⟩ := int_of (k := .i64) rfl g11
    have w11 := wf_i64 q11
    obtain ⟨k12, e12, q12⟩ := int_of (k := .i64) rfl g12
    have w12 := wf_i64 q12
    obtain ⟨k13, e13, q13⟩ := int_of (k := .i64) rfl g13
    have w13 := wf_i64 q13
    obtain ⟨v14, k14, e14, w14, R14⟩ := ints_of (e := 3) rfl cofi rfl g14
    simp only [List.drop_succ_cons, List.drop_zero, List.take_succ_cons, List.take_zero, List.cons.injEq, and_true] at e0 e1 e2 e3 e4 e5 e6 e7 e8 e9 e10 e11 e12 e13 e14
    subst e0 e1 e2 e3 e4 e5 e6 e7 e8 e9 e10 e11 e12 e13 e14
    exact ⟨(⟨k0, ⟨k1, k2, k3, k4, k5, k6, k7, k8, k9⟩, k10, k11, k12, k13, k14⟩, c14), ⟨w4, w2.2, w10.1, w10.2, fun p hp => (w14 p hp).2, R14⟩, rfl⟩
end
end Go.Proofs.Ytnjboimjlbgdiaa
