/-
  Entries in plain lists: bounds.
-/
import Derived.Test.YtkcgacadkpbpoaaEntSpec
set_option linter.unusedSimpArgs false
set_option linter.unusedVariables false
set_option linter.unusedSectionVars false
namespace Go.Cmp
open Go.RowKit
theorem unpH_err (s : List UInt8) : (unpH s).2.2 = 0 ∨ (unpH s).2.2 = 4 := by
  unfold unpH
  split
  · exact .inr rfl
  · split
    · exact .inl rfl
    · exact .inr rfl
theorem unpH_len (s : List UInt8) : (unpH s).2.1.length ≤ s.length := by
  unfold unpH
  split
  · show 0 ≤ _; omega
  · split
    · show (s.drop 128).length ≤ _; rw [List.length_drop]; omega
    · show 0 ≤ _; omega
theorem head_test (h : Hd) (b : List UInt8) : headE (enOf h b) = h ↔ 255 = h.kind ∧ 0 = h.frm ∧ 0 = h.commit ∧ 0 = h.b := by
  obtain ⟨k1, k2, k3, n1, n2, n3, n4, n5, n6, n7, n8, par⟩ := h
  simp [headE, enOf]
theorem packE_err (e : En) : (packE e).2 = 0 ∨ (packE e).2 = 4 := by
  cases h : e.right
  · rw [packE_bad h]; exact .inr rfl
  · rw [packE_ok h]; exact .inl rfl
theorem packE_len (e : En) : (packE e).1.length ≤ 328 := by
  cases h : e.right
  · rw [packE_bad h]; show 0 ≤ _; omega
  · rw [packE_ok h, packed_length]
    simp only [En.right, Bool.and_eq_true, decide_eq_true_eq] at h
    omega
def fitsL (l n : Int) : Prop := l ≤ n ∧ n ≤ 72057594037927935
instance (l n : Int) : Decidable (fitsL l n) := by unfold fitsL; infer_instance
theorem en_right_eq (e : En) : e.right = (decide (fitsL 1 e.op) && decide (fitsL 1 e.client) && decide (fitsL 0 e.view) && decide (fitsL 0 e.under) && decide (fitsL 0 e.session) && decide (fitsL 0 e.request) && decide (e.under ≤ e.view) && decide (1 ≤ e.oper) && decide (e.oper ≤ 255) && decide ((e.body.length : Int) ≤ 200)) := by
  obtain ⟨vw, po, un, par, cl, se, rq, opr, body⟩ := e
  rw [Bool.eq_iff_iff]
  simp only [En.right, Hd.right, Hd.smalls, Hd.nums, headE, List.all_cons, List.all_nil, Bool.and_true, Bool.and_eq_true, decide_eq_true_eq]
  unfold small fits fitsL
  omega
end Go.Cmp
