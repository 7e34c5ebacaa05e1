/-
  A sector is sealed: the document's.
-/
import Derived.Test.YtnjboimjlbgdiaaSeal1
set_option linter.unusedSimpArgs false
set_option linter.unusedVariables false
set_option linter.unusedSectionVars false
set_option maxRecDepth 100000
namespace Go.Proofs.Ytnjboimjlbgdiaa
open Go.RowKit Go.Cmp
set_option maxRecDepth 100000

section
end
end Go.Proofs.Ytnjboimjlbgdiaa
