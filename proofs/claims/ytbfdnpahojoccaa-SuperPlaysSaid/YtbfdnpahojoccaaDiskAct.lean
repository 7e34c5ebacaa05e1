/-
  A call, as the statements spell it: done by the disk.
-/
import Derived.Test.YtbfdnpahojoccaaDiskAw2
import Derived.Test.YtbfdnpahojoccaaDiskB
set_option linter.unusedSimpArgs false
set_option linter.unusedVariables false
set_option linter.unusedSectionVars false
set_option maxRecDepth 100000
namespace Go.Cmp
open Go.RowKit

structure Act3 where
  kind : Int
  i : Int
  pos : Int
  n : Int
  c : UInt8
  text : List UInt8
  picks : List Int
deriving Inhabited
def Act3.cells (x : Act3) (vp : Value) : List Value := [.int .i64 x.kind, .int .i64 x.i, .int .i64 x.pos, .int .i64 x.n, .int .u8 (x.c.toNat : Int), .string ⟨x.text.toArray⟩, vp]
structure Act3.Ok (x : Act3) : Prop where
  n0 : -9223372036854775808 ≤ x.n
  n1 : x.n ≤ 9223372036854775807
  picks : ∀ p ∈ x.picks, p ≤ 9223372036854775807
end Go.Cmp
namespace Go.Proofs.Ytbfdnpahojoccaa
open Go.RowKit Go.Cmp

def body (x : Act3) : List UInt8 := if x.text = [] then sect x.c else x.text
def act (D : Dsk) (x : Act3) : Int × Dsk :=
  if x.kind = 1 then D.write x.i (body x) else if x.kind = 2 then D.flush else if x.kind = 3 then D.setFuse x.n else if x.kind = 4 then D.cut
  else if x.kind = 5 then D.start x.picks else if x.kind = 6 then D.rot x.i x.pos x.n else ((D.read x.i).2, D)
theorem act_next {D : Dsk} (h : D.Ok) (x : Act3) (hx : x.Ok) (hw : D.way.length < 1000000) (hs : D.steps < 1000000000) : Dsk.Next D (act D x).2 := by
  unfold act
  split
  · exact Dsk.write_next h _ _ hw hs
  split
  · exact Dsk.flush_next h hs
  split
  · exact Dsk.fuse_next h _ hx.n1
  split
  · exact Dsk.cut_next h
  split
  · exact Dsk.start_next h _
  split
  · exact Dsk.rot_next h _ _ _
  · exact .same h

section
variable {S : List Nat} {w0 w : World} {M : List Ent} {g : Nat} {D : Dsk}

end
end Go.Proofs.Ytbfdnpahojoccaa
