/-
  Texts in blocks: the chapter's example, in plain lists.
-/
import Derived.Test.YtghnfocajnlfhaaGridSp4
import Derived.Test.YtghnfocajnlfhaaGrid8
set_option linter.unusedSimpArgs false
set_option linter.unusedVariables false
set_option linter.unusedSectionVars false
set_option maxRecDepth 100000
namespace Go.Cmp
open Go.RowKit
theorem aw_chain : Nat.beq (chainOf 2 (piece (textN 1 700) 2)) 0 = false := by kernel_rfl
theorem aw_sum2 : sumG (textN 1 700) 2 ≠ 0 := by
  have h : chainOf 2 (piece (textN 1 700) 2) ≠ 0 := by
    intro h
    have := aw_chain
    rw [h] at this
    exact absurd this (by decide)
  unfold sumG
  rw [if_pos (by rw [textN_len]; decide)]
  exact h
theorem aw_sum3 : sumG (textN 1 700) 3 = 0 := by
  unfold sumG
  rw [if_neg (by rw [textN_len]; decide)]
end Go.Cmp
