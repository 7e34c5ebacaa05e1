/-
  The examples of the chapter.
-/
import Derived.Test.YtggngdjncokanaaSame
set_option linter.unusedSimpArgs false
set_option linter.unusedVariables false
set_option linter.unusedSectionVars false
namespace Go.Proofs.Ytggngdjncokanaa
open Go.RowKit Go.Cmp
set_option maxRecDepth 100000

end Go.Proofs.Ytggngdjncokanaa
