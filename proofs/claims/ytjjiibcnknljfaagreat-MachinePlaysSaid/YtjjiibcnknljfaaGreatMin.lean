/-
  Lemmas that hold for every program: the lesser of two numbers.
-/
import Derived.Test.YtjjiibcnknljfaaGreatGen
set_option linter.unusedSimpArgs false
set_option linter.unusedVariables false
set_option linter.unusedSectionVars false
set_option maxRecDepth 100000
namespace Go.Cmp
open Go.RowKit
theorem g_min {P : Program} {ops : Array Oper} {rest : List Oper} {a : Act} {Q : Exit → Act → World → Prop} {w : World} {d : Option Tmp} {ty : TypeId} {pos : String} {af : Array Edge} {gd : Option (Nat × Bool)} {as' : Array Operand} {ts : Array TypeId} (H : wpList P ops Q (⟨d, .call ⟨.builtin .min, as', ts⟩, ty, pos, af, gd⟩ :: rest) a w) : wpList P ops Q (⟨d, .call ⟨.builtin .min, as', ts⟩, ty, pos, af, gd⟩ :: rest) a w := H
theorem x_min {P : Program} {o : Oper} {a : Act} {w : World} {x y : Operand} {ts : Array TypeId} (ho : o.op = .call { callee := .builtin .min, args := #[x, y], argTypes := ts }) {k k2 : IntKind} {i j m : Int} (hx : a.eval x = .int k i) (hy : a.eval y = .int k2 j) (hm : (if j < i then j else i) = m) : (execOp a.eval o).run P w = .ok (.value (.int k m)) w := by
  subst hm
  simp [execOp, ho, resolve, invoke, builtin, hx, hy, Builtin.min_, Builtin.min2]

end Go.Cmp
