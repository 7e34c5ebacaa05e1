/-
  Lemmas that hold for every program: the getter of a beginning, of an end.
-/
import Derived.Test.YtnjboimjlbgdiaaGen
set_option linter.unusedSimpArgs false
set_option linter.unusedVariables false
set_option linter.unusedSectionVars false
set_option maxRecDepth 100000
namespace Go.Cmp
open Go.RowKit
theorem nth_take {l : List UInt8} {i k : Nat} (h : i < k) : nth (l.take k) i = nth l i := by
  unfold nth
  rw [List.getD_eq_getElem?_getD, List.getD_eq_getElem?_getD, List.getElem?_take_of_lt h]
theorem nth_drop {l : List UInt8} {i k : Nat} : nth (l.drop k) i = nth l (k + i) := by
  unfold nth
  rw [List.getD_eq_getElem?_getD, List.getD_eq_getElem?_getD, List.getElem?_drop]
end Go.Cmp
