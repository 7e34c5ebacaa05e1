/-
  Lemmas that hold for every program: a slice compared with nil.
-/
import Derived.Test.YtggngdjncokanaaAuto
set_option linter.unusedSimpArgs false
set_option linter.unusedVariables false
set_option linter.unusedSectionVars false
namespace Go.Cmp
open Go.RowKit
section
variable {P : Program} {ops : Array Oper} {rest : List Oper} {o : Oper} {a : Act} {Q : Exit → Act → World → Prop} {w w0 : World} {S : List Nat} {M : List Ent}
theorem g_eql {d : Option Tmp} {ty : TypeId} {pos : String} {af : Array Edge} {gd : Option (Nat × Bool)} {t u : TypeId} {x y : Operand} (H : wpList P ops Q (⟨d, .binOp .eql t x y u, ty, pos, af, gd⟩ :: rest) a w) : wpList P ops Q (⟨d, .binOp .eql t x y u, ty, pos, af, gd⟩ :: rest) a w := H
theorem run_eq_nil (w : World) (d : Nat) (t e : TypeId) (p : Option Addr) (n c n' c' : Nat) (h : P.underlying t = some (.slice e)) :
    (Op.equalIn (d + 1) t (.slice p n c) (.slice none n' c')).run P w = .ok p.isNone w := by
  cases p <;> simp [Op.equalIn, run_underlying h]
theorem x_eqnil {t r e : TypeId} {x y : Operand} (ho : o.op = .binOp .eql t x y r) {p : Option Addr} {n c n' c' : Nat} (hx : a.eval x = .slice p n c) (hy : a.eval y = .slice none n' c') (ht : P.underlying t = some (.slice e)) : (execOp a.eval o).run P w = .ok (.value (.bool p.isNone)) w := by
  have h : (binOp .eql t (.slice p n c) (.slice none n' c')).run P w = .ok (.bool p.isNone) w := by
    simp only [binOp]
    simp [Op.equal, Op.maxDepth, run_eq_nil w 9999 t e p n c n' c' ht]
  simp [execOp, ho, hx, hy, eqGuard, h]
end
end Go.Cmp
