/-
  Lemmas that hold for every program: guards for a calm walk.
-/
import Derived.Test.YtggngdjncokanaaHeld
set_option linter.unusedSimpArgs false
set_option linter.unusedVariables false
set_option linter.unusedSectionVars false
namespace Go.Cmp
open Go.RowKit
section
variable {P : Program} {ops : Array Oper} {a : Act} {w0 : World} {S : List Nat} {M : List Ent} {Kq : Act → Prop} {rest : List Oper}
/-! Guards: they look at the head operation alone. -/
theorem c_load {d : Option Tmp} {ty : TypeId} {pos : String} {af : Array Edge} {gd : Option (Nat × Bool)} {t : TypeId} {x : Operand} (H : Calm P S w0 M ops Kq (⟨d, .load t x, ty, pos, af, gd⟩ :: rest) a) : Calm P S w0 M ops Kq (⟨d, .load t x, ty, pos, af, gd⟩ :: rest) a := H
theorem c_index {d : Option Tmp} {ty : TypeId} {pos : String} {af : Array Edge} {gd : Option (Nat × Bool)} {t : TypeId} {x y : Operand} (H : Calm P S w0 M ops Kq (⟨d, .indexAddr t x y, ty, pos, af, gd⟩ :: rest) a) : Calm P S w0 M ops Kq (⟨d, .indexAddr t x y, ty, pos, af, gd⟩ :: rest) a := H
theorem c_field {d : Option Tmp} {ty : TypeId} {pos : String} {af : Array Edge} {gd : Option (Nat × Bool)} {t : TypeId} {x : Operand} {n : Nat} (H : Calm P S w0 M ops Kq (⟨d, .fieldAddr t x n, ty, pos, af, gd⟩ :: rest) a) : Calm P S w0 M ops Kq (⟨d, .fieldAddr t x n, ty, pos, af, gd⟩ :: rest) a := H
theorem c_len {d : Option Tmp} {ty : TypeId} {pos : String} {af : Array Edge} {gd : Option (Nat × Bool)} {as' : Array Operand} {ts : Array TypeId} (H : Calm P S w0 M ops Kq (⟨d, .call ⟨.builtin .len, as', ts⟩, ty, pos, af, gd⟩ :: rest) a) : Calm P S w0 M ops Kq (⟨d, .call ⟨.builtin .len, as', ts⟩, ty, pos, af, gd⟩ :: rest) a := H
theorem c_call {d : Option Tmp} {ty : TypeId} {pos : String} {af : Array Edge} {gd : Option (Nat × Bool)} {f : Operand} {as' : Array Operand} {ts : Array TypeId} (H : Calm P S w0 M ops Kq (⟨d, .call ⟨.value f, as', ts⟩, ty, pos, af, gd⟩ :: rest) a) : Calm P S w0 M ops Kq (⟨d, .call ⟨.value f, as', ts⟩, ty, pos, af, gd⟩ :: rest) a := H
theorem c_conv {d : Option Tmp} {ty : TypeId} {pos : String} {af : Array Edge} {gd : Option (Nat × Bool)} {t u : TypeId} {x : Operand} (H : Calm P S w0 M ops Kq (⟨d, .convert t u x, ty, pos, af, gd⟩ :: rest) a) : Calm P S w0 M ops Kq (⟨d, .convert t u x, ty, pos, af, gd⟩ :: rest) a := H
theorem Calm.call2 {o : Oper} {v : Value} {f : FuncId} {args : Array Value} (hc : CalmC P S w0 M f args v) (hw : Region.wanted o (yielded ops a.tmps) = true) (hr : ∀ W, (execOp a.eval o).run P W = .ok (.enter f args) W := by intro W; first | (go_simp; done) | fail) (h : Calm P S w0 M ops Kq rest (a.put o.dst v)) : Calm P S w0 M ops Kq (o :: rest) a := ⟨wq_call hw hr hc h.out⟩
theorem Calm.pure2 {o : Oper} {v : Value} (hw : Region.wanted o (yielded ops a.tmps) = true) (hr : ∀ W, St S w0 W M → (execOp a.eval o).run P W = .ok (.value v) W := by intro W hW; first | (go_simp; done) | (go_simp; with_reducible rfl) | fail) (h : Calm P S w0 M ops Kq rest (a.put o.dst v)) : Calm P S w0 M ops Kq (o :: rest) a := ⟨wq_run hw hr h.out⟩
end
end Go.Cmp
