/-
  The document's answers: the same lists?
-/
import Derived.Test.YtggngdjncokanaaRefPut
set_option linter.unusedSimpArgs false
set_option linter.unusedVariables false
set_option linter.unusedSectionVars false
namespace Go.Proofs.Ytggngdjncokanaa
open Go.RowKit Go.Cmp
set_option maxRecDepth 100000

theorem Rd_le {w : World} {k : Nat} {v : Value} {n : Nat} {xs : List Value} (h : Rd w k v n xs) : n ≤ 9223372036854775807 := by
  obtain ⟨_, p, cap, rfl, h2, h3, _, _⟩ := h
  unfold maxLen at h3
  omega

end Go.Proofs.Ytggngdjncokanaa
