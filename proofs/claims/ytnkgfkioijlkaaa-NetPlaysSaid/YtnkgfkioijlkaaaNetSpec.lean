/-
  Letters on their way, in plain lists.
-/
import Derived.Test.YtnkgfkioijlkaaaAuto
namespace Go.Cmp
open Go.RowKit

structure Pk where
  fr : Int
  to : Int
  data : List UInt8
  id : Int
  marked : Bool
deriving Inhabited
def Pk.cells (x : Pk) : List Value := [.int .i64 x.fr, .int .i64 x.to, .string ⟨x.data.toArray⟩, .int .i64 x.id, .bool x.marked]
structure Nt where
  last : Int
  all : List Pk
namespace Nt
def add (N : Nt) (p : Pk) : Int × Int × Nt := if 4096 ≤ (N.all.length : Int) then (0, 9, N) else (N.last + 1, 0, ⟨N.last + 1, N.all ++ [{ p with id := N.last + 1 }]⟩)
def send (N : Nt) (fr to : Int) (d : List UInt8) : Int × Int × Nt := if (N.all.length : Int) < 4096 ∧ 4096 < (d.length : Int) then (0, 5, N) else N.add ⟨fr, to, d, 0, false⟩
def at' (N : Nt) (k : Int) : Nat := (if Int.tmod k N.all.length < 0 then Int.tmod k N.all.length + N.all.length else Int.tmod k N.all.length).toNat
def place (N : Nt) (k : Int) : Int := if N.all.length = 0 then 0 else (nth N.all (N.at' k)).id
structure Ok (N : Nt) : Prop where
  len : N.all.length ≤ 4096
  last0 : 0 ≤ N.last
  last1 : N.last ≤ 1000000000
end Nt
theorem tmod_range (k : Int) (n : Nat) (h : 0 < n) : -(n : Int) < Int.tmod k n ∧ Int.tmod k n < n := by
  have h1 := Int.tmod_lt_of_pos k (b := (n : Int)) (by omega)
  have h2 := Int.lt_tmod_of_pos k (b := (n : Int)) (by omega)
  omega
end Go.Cmp
