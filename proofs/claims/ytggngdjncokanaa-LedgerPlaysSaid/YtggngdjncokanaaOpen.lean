/-
  What came in, opened: slices of things, and what they hold. Every lemma holds for every program.
-/
import Derived.Test.YtggngdjncokanaaAuto
import Derived.Deep.Slices
import Derived.Deep.Fields
import Derived.ChangeSame
import Derived.Lib.SmallJoins
set_option linter.unusedSimpArgs false
set_option linter.unusedVariables false
set_option linter.unusedSectionVars false
namespace Go.Cmp
open Go.RowKit Go.ChangeShapes Go.WideShapes Go.Deep

section
variable {H : Type} {enc : TypeId × Value → H} {P : Program} {w : World} {base : Nat} {spare : Nat → Bool} {held : Bool}

theorem rows_of {α : Type} (ok : α → Prop) (val : α → List Value) (k : Nat) (hv : ∀ x, (val x).length = k) (a : Addr) (len : Nat)
    (h : ∀ i, i < len → ∃ x, ok x ∧ ∀ j, j < k → w.cell? ((a.add (i * k)).add j) = (val x)[j]?) :
    ∃ xs : List α, xs.length = len ∧ (∀ x ∈ xs, ok x) ∧ ∀ (i : Nat) y, (xs.flatMap val)[i]? = some y → w.cell? (a.add i) = some y := by
  induction len with
  | zero => exact ⟨[], rfl, by simp, by simp⟩
  | succ len ih =>
    obtain ⟨xs, h1, h2, h3⟩ := ih (fun i hi => h i (by omega))
    obtain ⟨x, h4, h5⟩ := h len (by omega)
    have hfl : (xs.flatMap val).length = len * k := by rw [flat_len hv, h1]
    refine ⟨xs ++ [x], by simp [h1], ?_, ?_⟩
    · intro y hy
      rcases List.mem_append.1 hy with hy | hy
      · exact h2 y hy
      · simp only [List.mem_singleton] at hy
        subst hy
        exact h4
    · intro i y hy
      rw [List.flatMap_append] at hy
      by_cases hi : i < len * k
      · rw [List.getElem?_append_left (by omega)] at hy
        exact h3 i y hy
      · rw [List.getElem?_append_right (by omega), hfl] at hy
        simp only [List.flatMap_cons, List.flatMap_nil, List.append_nil] at hy
        have hj : i - len * k < k := by
          have := (List.getElem?_eq_some_iff.1 hy).1
          rw [hv] at this
          exact this
        have h6 := h5 (i - len * k) hj
        rw [Go.Cmp.add_add, show len * k + (i - len * k) = i by omega, hy] at h6
        exact h6

/-- A slice of things. -/
theorem rd_slice {α : Type} (ok : α → Prop) (f : α → List Value) (k : Nat) (hf : ∀ x, (f x).length = k) {t e : TypeId} (ht : P.underlying t = some (.slice e)) (hC : P.cellsOf e = k)
    (hone : ∀ (n : Nat) (cs' : List Value) y, cs'.length = k → DataW.trod enc P w base spare held n e cs' = some y → ∃ x, ok x ∧ cs' = f x)
    {fuel : Nat} {cs : List Value} {x : DataW H × List MemPlace} (h : DataW.trod enc P w base spare held fuel t cs = some x) :
    ∃ (v : Value) (xs : List α), cs = [v] ∧ (∀ x ∈ xs, ok x) ∧ Rd w k v xs.length (xs.flatMap f) := by
  rcases open_slice ht h with ⟨rfl, _⟩ | ⟨a, len, cap, m, n, D, Pl, rfl, _, hl, hm, hmm, _, hi⟩
  · exact ⟨_, [], rfl, by simp, Rd.nil _ _⟩
  · have hlm : len ≤ m := by rw [hmm]; split <;> omega
    obtain ⟨xs, h1, h2, h3⟩ := rows_of ok f k hf (w := w) a len (fun i hlt => by
      obtain ⟨cs', hc, ht'⟩ := hi i (by omega)
      rw [hC] at hc
      obtain ⟨_, hcl, hat⟩ := World.cells?_some hc
      obtain ⟨X, hX, rfl⟩ := hone n cs' _ hcl ht'
      exact ⟨X, hX, hat⟩)
    refine ⟨_, xs, rfl, h2, by rw [flat_len hf], some a, cap, by rw [h1], by rw [h1]; exact hl, hm, by simp, fun b hb i y hy => by cases hb; exact h3 i y hy⟩

theorem int_of {k : IntKind} {n : Nat} {t : TypeId} {cs : List Value} {y : DataW H × List MemPlace} (ht : P.underlying t = some (.int k)) (h : DataW.trod enc P w base spare held n t cs = some y) : ∃ z : Int, cs = [.int k z] ∧ (Lit.int k z).wf = true := by
  obtain ⟨v, hv, _, hw⟩ := DataW.trod_int ht h
  exact ⟨v, hv, hw⟩
theorem str_of {n : Nat} {t : TypeId} {cs : List Value} {y : DataW H × List MemPlace} (ht : P.underlying t = some .string) (h : DataW.trod enc P w base spare held n t cs = some y) : ∃ l : List UInt8, cs = [.string ⟨l.toArray⟩] ∧ l.length ≤ maxLen := by
  obtain ⟨⟨⟨l⟩⟩, hv, _, hw⟩ := DataW.trod_string ht h
  exact ⟨l, hv, by simpa [ByteArray.size] using hw⟩
theorem bool_of {n : Nat} {t : TypeId} {cs : List Value} {y : DataW H × List MemPlace} (ht : P.underlying t = some .bool) (h : DataW.trod enc P w base spare held n t cs = some y) : ∃ b : Bool, cs = [.bool b] := by
  obtain ⟨b, hv, _⟩ := DataW.trod_bool ht h
  exact ⟨b, hv⟩
theorem wf_i64 {n : Int} (h : (Lit.int .i64 n).wf = true) : -9223372036854775808 ≤ n ∧ n ≤ 9223372036854775807 := by
  have e1 : IntKind.i64.min = -9223372036854775808 := rfl
  have e2 : IntKind.i64.max = 9223372036854775807 := rfl
  simp [Lit.wf, e1, e2] at h
  exact h
theorem wf_u8 {n : Int} (h : (Lit.int .u8 n).wf = true) : ∃ d : UInt8, n = (d.toNat : Int) := by
  have e1 : IntKind.u8.min = 0 := rfl
  have e2 : IntKind.u8.max = 255 := rfl
  simp [Lit.wf, e1, e2] at h
  exact u8_of h.1 h.2
/-- Integers that came in. -/
theorem ints_of {n : Nat} {t e : TypeId} {cs : List Value} {y : DataW H × List MemPlace} (ht : P.underlying t = some (.slice e)) (hC : P.cellsOf e = 1) (he : P.underlying e = some (.int .i64)) (h : DataW.trod enc P w base spare held n t cs = some y) :
    ∃ (v : Value) (xs : List Int), cs = [v] ∧ (∀ x ∈ xs, -9223372036854775808 ≤ x ∧ x ≤ 9223372036854775807) ∧ Rd w 1 v xs.length (xs.flatMap fun n => [.int .i64 n]) :=
  rd_slice (fun x : Int => -9223372036854775808 ≤ x ∧ x ≤ 9223372036854775807) (fun n => [.int .i64 n]) 1 (fun _ => rfl) ht hC (fun n cs' y _ h' => by
    obtain ⟨z, rfl, hz⟩ := int_of he h'
    exact ⟨z, wf_i64 hz, rfl⟩) h
end
end Go.Cmp
