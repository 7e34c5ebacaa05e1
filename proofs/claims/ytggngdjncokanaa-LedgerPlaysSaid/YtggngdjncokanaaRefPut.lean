/-
  The document's answers: lists' bytes.
-/
import Derived.Test.YtggngdjncokanaaRef
set_option linter.unusedSimpArgs false
set_option linter.unusedVariables false
set_option linter.unusedSectionVars false
namespace Go.Proofs.Ytggngdjncokanaa
open Go.RowKit Go.Cmp
set_option maxRecDepth 100000

theorem bcat (a b : List UInt8) : (⟨a.toArray⟩ : ByteArray) ++ ⟨b.toArray⟩ = ⟨(a ++ b).toArray⟩ := by
  apply ByteArray.ext
  simp

end Go.Proofs.Ytggngdjncokanaa
