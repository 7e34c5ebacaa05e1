/-
  A number and a text are read: the document's.
-/
import Derived.Test.YtnjboimjlbgdiaaCodec
set_option linter.unusedSimpArgs false
set_option linter.unusedVariables false
set_option linter.unusedSectionVars false
set_option maxRecDepth 100000
namespace Go.Cmp
open Go.RowKit
theorem leN_cons_drop (c : List UInt8) (j : Nat) (h : j < c.length) : leN (c.drop j) = leN (c.drop (j + 1)) * 256 + (nth c j).toNat := by
  rw [List.drop_eq_getElem_cons h]
  simp only [leN]
  have e : nth c j = c[j] := nth_eq (List.getElem?_eq_getElem h)
  rw [e]
  omega
theorem byt_get {l : List UInt8} {i : Nat} (h : i < l.length) : l[i]? = some (nth l i) := get_lt h
end Go.Cmp
namespace Go.Proofs.Ytnjboimjlbgdiaa
open Go.RowKit Go.Cmp
set_option maxRecDepth 100000

section
variable {w : World}
end
end Go.Proofs.Ytnjboimjlbgdiaa
