/-
  Lemmas that hold for every program: a field of a struct's value.
-/
import Derived.Test.YtnjboimjlbgdiaaGen
set_option linter.unusedSimpArgs false
set_option linter.unusedVariables false
set_option linter.unusedSectionVars false
set_option maxRecDepth 100000
namespace Go.Cmp
open Go.RowKit
theorem a_fieldV {P : Program} {o : Oper} {a : Act} {w : World} {t : TypeId} {x : Operand} {f : Nat} (ho : o.op = .field t x f) {cs : List Value} (hx : a.eval x = .agg cs.toArray)
    {fields : Array Field} (hd : P.underlying t = some (.struct fields)) {fl : Field} (hf : fields[f]? = some fl) {d : TypeDesc} (hu : P.underlying fl.type = some d) (hn : (match d with | .struct _ | .array _ _ => true | _ => false) = false) {v : Value} (hv : cs[fl.offset]? = some v) :
    (execOp a.eval o).run P w = .ok (.value v) w := by
  have hag : (isAgg fl.type).run P w = .ok false w := by
    unfold isAgg
    cases d <;> simp [run_underlying hu] at hn ⊢
  simp [execOp, ho, hx, Instr.field, asAgg, run_underlying hd, hf, part, hag, hv]
end Go.Cmp
