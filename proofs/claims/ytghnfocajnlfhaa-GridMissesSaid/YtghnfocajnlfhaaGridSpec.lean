/-
  Texts in blocks on a disk: in plain lists.
-/
import Derived.Test.YtghnfocajnlfhaaSealOpen
import Derived.Test.YtghnfocajnlfhaaDiskP
import Derived.Test.YtghnfocajnlfhaaCrc
set_option linter.unusedSimpArgs false
set_option linter.unusedVariables false
set_option linter.unusedSectionVars false
set_option maxRecDepth 100000
namespace Go.Cmp
open Go.RowKit
def cntG (n : Nat) : Nat := (n + 319) / 320
def piece (s : List UInt8) (i : Nat) : List UInt8 := (s.drop (320 * i)).take 320
def piecesTo (s : List UInt8) (i : Nat) : List (List UInt8) := (List.range i).map (piece s)
def piecesG (s : List UInt8) : List (List UInt8) := piecesTo s (cntG s.length)
theorem cntG_lt {n i : Nat} : i < cntG n ↔ 320 * i < n := by unfold cntG; omega
theorem piece_len (s : List UInt8) (i : Nat) : (piece s i).length = min 320 (s.length - 320 * i) := by unfold piece; rw [List.length_take, List.length_drop]
theorem piecesTo_len (s : List UInt8) (i : Nat) : (piecesTo s i).length = i := by simp [piecesTo]
theorem piecesTo_snoc (s : List UInt8) (i : Nat) : piecesTo s (i + 1) = piecesTo s i ++ [piece s i] := by simp [piecesTo, List.range_succ]
theorem piecesTo_nth {s : List UInt8} {i k : Nat} (h : i < k) : (piecesTo s k)[i]? = some (piece s i) := by simp [piecesTo, h]
def sumG (s : List UInt8) (i : Nat) : Nat := if i < cntG s.length then chainOf i (piece s i) else 0
/-- The sums when so many are reckoned. -/
def sumsTo (s : List UInt8) (j : Nat) : List Value := (List.range 6).map fun i => .int .u64 (if i < j then (chainOf i (piece s i) : Int) else 0)
def sumsV (s : List UInt8) : List Value := (List.range 6).map fun i => .int .u64 (sumG s i : Int)
def secG (a : Nat) (i : Nat) : Int := 20 + 6 * a + i
def layG (D : Dsk) (k : Int) (b : List UInt8) : Int × Dsk :=
  if (D.read k).2 ≠ 0 then ((D.read k).2, D) else if (sealS (D.read k).1 b).2 ≠ 0 then ((sealS (D.read k).1 b).2, D) else D.write k (sealS (D.read k).1 b).1
def writesG (a : Nat) : Nat → List (List UInt8) → Dsk → Int × Dsk
  | _, [], D => D.flush
  | i, b :: l, D => if (layG D (secG a i) b).1 ≠ 0 then layG D (secG a i) b else writesG a (i + 1) l (layG D (secG a i) b).2
def gWrite (D : Dsk) (a : Nat) (s : List UInt8) : Int × Dsk := if 1920 < s.length then (5, D) else writesG a 0 (piecesG s) D
/-- What a sector has as a block with that sum. -/
def hasG (x : List UInt8) (i sum : Nat) : List UInt8 × Bool :=
  if (openS x).2 = false ∨ 320 < (openS x).1.length ∨ chainOf i (openS x).1 ≠ sum then ([], false) else ((openS x).1, true)
def blockG (D : Dsk) (a i sum : Nat) : List UInt8 × Bool × Int :=
  if (D.read (secG a i)).2 ≠ 0 then ([], false, (D.read (secG a i)).2) else ((hasG (D.read (secG a i)).1 i sum).1, (hasG (D.read (secG a i)).1 i sum).2, 0)
def gPut (D : Dsk) (a i : Nat) (b : List UInt8) : Int × Dsk :=
  if 320 < b.length then (5, D) else if (layG D (secG a i) b).1 ≠ 0 then layG D (secG a i) b else (layG D (secG a i) b).2.flush
def strLen : Value → Nat | .string b => b.size | _ => 0
end Go.Cmp
