/-
  Calls that came in.
-/
import Derived.Test.YtbfdnpahojoccaaGen
import Derived.Test.YtbfdnpahojoccaaDiskAct
set_option linter.unusedSimpArgs false
set_option linter.unusedVariables false
set_option linter.unusedSectionVars false
set_option maxRecDepth 100000
namespace Go.Proofs.Ytbfdnpahojoccaa
open Go.RowKit Go.Cmp Go.ChangeShapes Go.WideShapes Go.Deep

section
variable {H : Type} {enc : TypeId × Value → H} {w : World} {base : Nat} {spare : Nat → Bool} {held : Bool}

def actCells (x : Act3 × Value) : List Value := x.1.cells x.2
def ActOk (w : World) (x : Act3 × Value) : Prop := x.1.Ok ∧ Rd w 1 x.2 x.1.picks.length (x.1.picks.flatMap num)

end
end Go.Proofs.Ytbfdnpahojoccaa
