/-
  Headers: the document's Pack.
-/
import Derived.Test.YtnjboimjlbgdiaaHead4
set_option linter.unusedSimpArgs false
set_option linter.unusedVariables false
set_option linter.unusedSectionVars false
set_option maxRecDepth 100000
namespace Go.Proofs.Ytnjboimjlbgdiaa
open Go.RowKit Go.Cmp
set_option maxRecDepth 100000

section
variable {S : List Nat} {w0 w : World} {M : List Ent}
end
end Go.Proofs.Ytnjboimjlbgdiaa
