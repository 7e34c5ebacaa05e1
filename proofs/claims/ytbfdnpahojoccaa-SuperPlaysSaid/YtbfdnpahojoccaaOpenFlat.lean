/-
  Structs and arrays that came in, opened down to their cells. Every lemma holds for every program.
-/
import Derived.Test.YtbfdnpahojoccaaGen
import Derived.OpenShut
set_option linter.unusedSimpArgs false
set_option linter.unusedVariables false
set_option linter.unusedSectionVars false
set_option maxRecDepth 100000
namespace Go.Cmp
open Go.RowKit Go.ChangeShapes Go.WideShapes Go.Deep
/-- The places and types of the parts, d levels down. -/
def partsAt (P : Program) : Nat → TypeId → List (Nat × TypeId)
  | 0, t => [(0, t)]
  | d + 1, t =>
    match P.underlying t with
    | some (.struct fs) => fs.toList.flatMap fun f => ((partsAt P d f.type).filter fun x => decide (x.1 + P.cellsOf x.2 ≤ P.cellsOf f.type)).map fun x => (f.offset + x.1, x.2)
    | some (.array n e) => (List.range n).flatMap fun i => ((partsAt P d e).filter fun x => decide (x.1 + P.cellsOf x.2 ≤ P.cellsOf e)).map fun x => (i * P.cellsOf e + x.1, x.2)
    | _ => [(0, t)]
section
variable {H : Type} {enc : TypeId × Value → H} {P : Program} {w : World} {base : Nat} {spare : Nat → Bool} {held : Bool}
theorem cut_cut {cs : List Value} {a c b k : Nat} (h : b + k ≤ c) : ((((cs.drop a).take c).drop b).take k) = (cs.drop (a + b)).take k := by
  rw [List.drop_take, List.take_take, List.drop_drop, Nat.min_eq_left (by omega)]
theorem parts_of : ∀ (d n : Nat) (t : TypeId) (cs : List Value) (y : DataW H × List MemPlace), cs.length ≤ P.cellsOf t → DataW.trod enc P w base spare held n t cs = some y →
    ∀ x ∈ partsAt P d t, ∃ n' y', DataW.trod enc P w base spare held n' x.2 ((cs.drop x.1).take (P.cellsOf x.2)) = some y'
  | 0, n, t, cs, y, hl, h, x, hx => by
    simp only [partsAt, List.mem_singleton] at hx
    subst hx
    exact ⟨n, y, by rw [List.drop_zero, List.take_of_length_le hl]; exact h⟩
  | d + 1, n, t, cs, y, hl, h, x, hx => by
    unfold partsAt at hx
    split at hx
    · rename_i fs hu
      obtain ⟨xs, m, _, _, hcl, hxl, hf⟩ := DataW.trod_struct hu h
      rw [List.mem_flatMap] at hx
      obtain ⟨f, hf1, hx⟩ := hx
      rw [List.mem_map] at hx
      obtain ⟨z, hz, rfl⟩ := hx
      rw [List.mem_filter, decide_eq_true_eq] at hz
      obtain ⟨hz1, hz2⟩ := hz
      obtain ⟨i, hi, hi2⟩ := List.mem_iff_getElem.1 hf1
      have hi' : i < fs.size := by simpa using hi
      have hfi : fs[i]? = some f := by rw [← hi2]; simp [hi']
      have hq := hf i f hfi
      rw [List.getElem?_eq_getElem (by omega)] at hq
      have := parts_of d m f.type _ _ (by rw [List.length_take]; omega) hq z hz1
      simp only
      rw [cut_cut hz2] at this
      exact this
    · rename_i k e hu
      obtain ⟨xs, m, _, _, hcl, hxl, hf⟩ := DataW.trod_array hu h
      rw [List.mem_flatMap] at hx
      obtain ⟨i, hi, hx⟩ := hx
      rw [List.mem_map] at hx
      obtain ⟨z, hz, rfl⟩ := hx
      rw [List.mem_filter, decide_eq_true_eq] at hz
      obtain ⟨hz1, hz2⟩ := hz
      have hi' := List.mem_range.1 hi
      have hq := hf i hi'
      rw [List.getElem?_eq_getElem (by omega)] at hq
      have := parts_of d m e _ _ (by rw [List.length_take]; omega) hq z hz1
      simp only
      rw [cut_cut hz2] at this
      exact this
    · simp only [List.mem_singleton] at hx
      subst hx
      exact ⟨n, y, by rw [List.drop_zero, List.take_of_length_le hl]; exact h⟩
theorem okWide_agg {n : Nat} {e t : TypeId} {r : Reach} {v : Value} (ht : P.underlying t = some (.array n e)) (h : Value.okWide P w r base t v) : ∃ cs, v = .agg cs ∧ cs.size = P.cellsOf t := by
  simp only [Value.okWide, ht] at h
  obtain ⟨cs, h1, h2, _⟩ := h
  exact ⟨cs, h1, h2⟩
theorem wf_u64n {n : Int} (h : (Lit.int .u64 n).wf = true) : ∃ m : Nat, n = (m : Int) ∧ m < 18446744073709551616 := by
  have e1 : IntKind.u64.min = 0 := rfl
  have e2 : IntKind.u64.max = 18446744073709551615 := rfl
  simp [Lit.wf, e1, e2] at h
  obtain ⟨m, rfl⟩ := Int.eq_ofNat_of_zero_le h.1
  exact ⟨m, rfl, by omega⟩
end
end Go.Cmp
