/-
  Headers: the document's Right, Pack.
-/
import Derived.Test.YtbfdnpahojoccaaHead3
import Derived.Test.YtbfdnpahojoccaaDrift
set_option linter.unusedSimpArgs false
set_option linter.unusedVariables false
set_option linter.unusedSectionVars false
set_option maxRecDepth 100000
namespace Go.Proofs.Ytbfdnpahojoccaa
open Go.RowKit Go.Cmp
set_option maxRecDepth 100000

section
end
end Go.Proofs.Ytbfdnpahojoccaa
