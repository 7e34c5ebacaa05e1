/-
  Lemmas that hold for every program: one more guard for a calm walk.
-/
import Derived.Test.YtnkgfkioijlkaaaCalm
namespace Go.Cmp
open Go.RowKit
section
variable {P : Program} {ops : Array Oper} {a : Act} {w0 : World} {S : List Nat} {M : List Ent} {Kq : Act → Prop} {rest : List Oper}
theorem c_indexV {d : Option Tmp} {ty : TypeId} {pos : String} {af : Array Edge} {gd : Option (Nat × Bool)} {t : TypeId} {x y : Operand} (H : Calm P S w0 M ops Kq (⟨d, .index t x y, ty, pos, af, gd⟩ :: rest) a) : Calm P S w0 M ops Kq (⟨d, .index t x y, ty, pos, af, gd⟩ :: rest) a := H
end
end Go.Cmp
