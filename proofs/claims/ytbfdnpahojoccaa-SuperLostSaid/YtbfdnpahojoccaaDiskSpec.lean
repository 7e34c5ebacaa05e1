/-
  A disk, in plain lists: what lasts, which sectors are marked, what is under way.
-/
import Derived.Test.YtbfdnpahojoccaaGen
set_option linter.unusedSimpArgs false
set_option linter.unusedVariables false
set_option linter.unusedSectionVars false
set_option maxRecDepth 100000
namespace Go.Cmp
open Go.RowKit

def str (s : List UInt8) : List Value := [.string ⟨s.toArray⟩]
def bl (b : Bool) : List Value := [.bool b]
def num (n : Int) : List Value := [.int .i64 n]

structure Wr where
  sector : Int
  text : List UInt8
deriving Inhabited
def Wr.cells (x : Wr) : List Value := [.int .i64 x.sector, .string ⟨x.text.toArray⟩]

structure Dsk where
  lasts : List (List UInt8)
  mark : List Bool
  way : List Wr
  off : Bool
  fuse : Int
  steps : Int

namespace Dsk
def is (D : Dsk) (i : Int) : Bool := decide (0 ≤ i) && decide (i < D.lasts.length)
/-- The text of the last one under way. -/
def under (i : Int) : List Wr → Option (List UInt8)
  | [] => none
  | x :: l => match under i l with | some s => some s | none => if x.sector = i then some x.text else none
def read (D : Dsk) (i : Int) : List UInt8 × Int :=
  if D.is i = false then ([], 1) else if D.off = true then ([], 6) else ((under i D.way).getD (nth D.lasts i.toNat), 0)
def step (D : Dsk) : Bool × Dsk :=
  if D.fuse = 1 then (false, { D with steps := D.steps + 1, fuse := 0, off := true }) else (true, { D with steps := D.steps + 1, fuse := max 0 (D.fuse - 1) })
def write (D : Dsk) (i : Int) (t : List UInt8) : Int × Dsk :=
  if D.is i = false ∨ (t.length : Int) ≠ 384 then (1, D) else if D.off = true then (6, D) else if D.step.1 = false then (6, D.step.2) else (0, { D.step.2 with way := D.way ++ [⟨i, t⟩] })
def put (D : Dsk) (x : Wr) : Dsk := { D with lasts := D.lasts.set x.sector.toNat x.text, mark := D.mark.set x.sector.toNat false }
def puts (D : Dsk) (l : List Wr) : Dsk := l.foldl put D
def flush (D : Dsk) : Int × Dsk :=
  if D.off = true then (6, D) else if D.step.1 = false then (6, D.step.2) else (0, { D.step.2.puts D.way with way := [] })
def setFuse (D : Dsk) (n : Int) : Int × Dsk := if D.off = true then (6, D) else (0, { D with fuse := max 0 n })
def cut (D : Dsk) : Int × Dsk := if D.off = true then (6, D) else (0, { D with off := true, fuse := 0 })
def kept (pick : Int) : Nat := if pick < 0 ∨ pick % 3 = 0 then 0 else if pick % 3 = 1 then 384 else (pick / 3 % 385).toNat
def settle (D : Dsk) (x : Wr) (pick : Int) : Dsk :=
  if kept pick = 0 then D else { D with lasts := D.lasts.set x.sector.toNat (x.text.take (kept pick) ++ (nth D.lasts x.sector.toNat).drop (kept pick)), mark := D.mark.set x.sector.toNat (decide ((kept pick : Int) < 384)) }
def pickAt (picks : List Int) (k : Nat) : Int := if picks.length = 0 then 0 else (nth picks (k % picks.length))
def settles (D : Dsk) (picks : List Int) : Nat → List Wr → Dsk
  | _, [] => D
  | k, x :: l => settles (D.settle x (pickAt picks k)) picks (k + 1) l
def start (D : Dsk) (picks : List Int) : Int × Dsk := if D.off = false then (10, D) else (0, { D.settles picks 0 D.way with way := [], off := false })
def turn (s : List UInt8) (at' : Nat) (mask : Int) : List UInt8 := s.set at' ((nth s (at')) ^^^ UInt8.ofNat mask.toNat)
def rot (D : Dsk) (i at' mask : Int) : Int × Dsk :=
  if D.is i = false ∨ at' < 0 ∨ 384 ≤ at' ∨ mask < 1 ∨ 255 < mask then (1, D) else if D.way.any (fun x => x.sector == i) then (10, D) else if (nth D.mark i.toNat) = true then (7, D)
  else (0, { D with lasts := D.lasts.set i.toNat (turn (nth D.lasts i.toNat) at'.toNat mask), mark := D.mark.set i.toNat true })
structure Ok (D : Dsk) : Prop where
  len : D.mark.length = D.lasts.length
  few : D.lasts.length ≤ 64
  size : ∀ s ∈ D.lasts, s.length = 384
  way : ∀ x ∈ D.way, 0 ≤ x.sector ∧ x.sector < D.lasts.length ∧ x.text.length = 384
  ways : D.way.length ≤ 1000000
  fuse0 : 0 ≤ D.fuse
  fuse1 : D.fuse ≤ 9223372036854775807
  steps0 : 0 ≤ D.steps
  steps1 : D.steps ≤ 1000000000
end Dsk
end Go.Cmp
