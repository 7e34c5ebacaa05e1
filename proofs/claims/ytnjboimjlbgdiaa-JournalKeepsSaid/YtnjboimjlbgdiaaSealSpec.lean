/-
  Sealed sectors in plain lists.
-/
import Derived.Test.YtnjboimjlbgdiaaCrc
import Derived.Test.YtnjboimjlbgdiaaCodec
set_option linter.unusedSimpArgs false
set_option linter.unusedVariables false
set_option linter.unusedSectionVars false
set_option maxRecDepth 100000
namespace Go.Cmp
open Go.RowKit
instance : Inhabited UInt8 := ⟨0⟩

/-- What a sector has ahead of its sum. -/
def aheadB (g : UInt8) (s : List UInt8) : List UInt8 := [g] ++ txt s ++ List.replicate (376 - s.length) 0
/-- The sealed sector with a byte and a text. -/
def sealed (g : UInt8) (s : List UInt8) : List UInt8 := aheadB g s ++ leB 4 (sumOf (aheadB g s)) ++ [g]
def nextG (old : List UInt8) : UInt8 := if old = [] then 1 else UInt8.ofNat (((nth old (old.length - 1)).toNat + 1) % 256)
def sealS (old s : List UInt8) : List UInt8 × Int := if 376 < s.length then ([], 5) else (sealed (nextG old) s, 0)
/-- The text of a sector. -/
def openS (p : List UInt8) : List UInt8 × Bool :=
  if p.length = 384 ∧ sealed (nth p 0) (takeT p 1 376).1 = p ∧ (takeT p 1 376).2.2 = 0 then ((takeT p 1 376).1, true) else ([], false)
theorem aheadB_len {g : UInt8} {s : List UInt8} (h : s.length ≤ 376) : (aheadB g s).length = 379 := by
  unfold aheadB
  simp only [List.length_append, List.length_singleton, txt_length, List.length_replicate]
  omega
theorem sealed_len {g : UInt8} {s : List UInt8} (h : s.length ≤ 376) : (sealed g s).length = 384 := by
  unfold sealed
  simp only [List.length_append, List.length_singleton, aheadB_len h, leB_length]
end Go.Cmp
