/-
  Lemmas that hold for every program: the greater of two numbers; an element of a struct value.
-/
import Derived.Test.YtjjiibcnknljfaaGreatGen
set_option linter.unusedSimpArgs false
set_option linter.unusedVariables false
set_option linter.unusedSectionVars false
set_option maxRecDepth 100000
namespace Go.Cmp
open Go.RowKit
theorem x_max {P : Program} {o : Oper} {a : Act} {w : World} {x y : Operand} {ts : Array TypeId} (ho : o.op = .call { callee := .builtin .max, args := #[x, y], argTypes := ts }) {k k2 : IntKind} {i j m : Int} (hx : a.eval x = .int k i) (hy : a.eval y = .int k2 j) (hm : (if i < j then j else i) = m) : (execOp a.eval o).run P w = .ok (.value (.int k m)) w := by
  subst hm
  simp [execOp, ho, resolve, invoke, builtin, hx, hy, Builtin.max_, Builtin.max2]
/-- Paths that meet: the first one tells what is left (K). -/
theorem mrg {K G : Prop} (paths : Nx K → G) (key : K) : G := paths ⟨key⟩
end Go.Cmp
