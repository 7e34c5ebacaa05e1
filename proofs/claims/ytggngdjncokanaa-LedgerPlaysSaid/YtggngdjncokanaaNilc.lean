/-
  Lemmas that hold for every program: a nil check of the address of an element.
-/
import Derived.Test.YtggngdjncokanaaAuto
set_option linter.unusedSimpArgs false
set_option linter.unusedVariables false
set_option linter.unusedSectionVars false
namespace Go.Cmp
open Go.RowKit
section
variable {P : Program} {ops : Array Oper} {rest : List Oper} {o : Oper} {a : Act} {Q : Exit → Act → World → Prop} {w w0 : World} {S : List Nat} {M : List Ent}
theorem g_nilc {d : Option Tmp} {ty : TypeId} {pos : String} {af : Array Edge} {gd : Option (Nat × Bool)} {x : Operand} (H : wpList P ops Q (⟨d, .nilCheck x, ty, pos, af, gd⟩ :: rest) a w) : wpList P ops Q (⟨d, .nilCheck x, ty, pos, af, gd⟩ :: rest) a w := H
theorem a_nilc {x : Operand} (ho : o.op = .nilCheck x) {u : Value} {off : Nat} (hx : a.eval x = ptrAt u off) {k n : Nat} {xs : List Value} (hR : Rd w k u n xs) (h0 : 0 < n) : (execOp a.eval o).run P w = .ok (.value (ptrAt u off)) w := by
  obtain ⟨p, cap, rfl⟩ := hR.some h0
  simp [execOp, ho, hx, ptrAt]
end
end Go.Cmp
