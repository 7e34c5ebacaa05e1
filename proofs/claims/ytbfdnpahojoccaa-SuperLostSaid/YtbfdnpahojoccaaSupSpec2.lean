/-
  Superblocks on a disk, in plain lists.
-/
import Derived.Test.YtbfdnpahojoccaaSupSpec
import Derived.Test.YtbfdnpahojoccaaSealOpen
import Derived.Test.YtbfdnpahojoccaaDiskOk
set_option linter.unusedSimpArgs false
set_option linter.unusedVariables false
set_option linter.unusedSectionVars false
set_option maxRecDepth 100000
namespace Go.Cmp
open Go.RowKit
/-- What a sector has. -/
def hasU (old : List UInt8) : Sup × Bool :=
  if (openS old).2 = false then (zeroU, false) else ((unpU (openS old).1).1, decide ((unpU (openS old).1).2 = 0))
/-- One copy: the superblock, the sector, was it read, the error. -/
def oneU (D : Dsk) (i : Int) : Sup × List UInt8 × Bool × Int :=
  if (D.read i).2 ≠ 0 then (zeroU, [], false, (D.read i).2) else ((hasU (D.read i).1).1, (D.read i).1, (hasU (D.read i).1).2, 0)
/-- The newest so far, and how many copies have it. -/
def bestU (a : Sup × Nat) (x : Sup × Bool) : Sup × Nat :=
  if x.2 = false then a else if a.1.seq < x.1.seq then (x.1, 1) else if x.1 = a.1 then (a.1, a.2 + 1) else a
def copies (D : Dsk) (n : Nat) : List (Sup × Bool) := (List.range n).map fun (i : Nat) => hasU (D.read (i : Int)).1
def readU (D : Dsk) : Sup × Nat × Int :=
  if D.off = true then (zeroU, 0, 6) else if ((copies D 4).foldl bestU (zeroU, 0)).2 = 0 then (zeroU, 0, 11) else (((copies D 4).foldl bestU (zeroU, 0)).1, ((copies D 4).foldl bestU (zeroU, 0)).2, 0)
/-- From copy i on (k of them). -/
def writesU (s : Sup) : Nat → Nat → Dsk → Int × Dsk
  | 0, _, D => (0, D)
  | k + 1, i, D =>
    if (oneU D i).2.2.2 ≠ 0 then ((oneU D i).2.2.2, D)
    else if (oneU D i).2.2.1 = true ∧ (oneU D i).1 = s then writesU s k (i + 1) D
    else if (D.write i (sealS (oneU D i).2.1 (supB s)).1).1 ≠ 0 then D.write i (sealS (oneU D i).2.1 (supB s)).1
    else if (D.write i (sealS (oneU D i).2.1 (supB s)).1).2.flush.1 ≠ 0 then (D.write i (sealS (oneU D i).2.1 (supB s)).1).2.flush
    else writesU s k (i + 1) (D.write i (sealS (oneU D i).2.1 (supB s)).1).2.flush.2
def writeU (s : Sup) (D : Dsk) : Int × Dsk := if s.right = false then (4, D) else writesU s 4 0 D
theorem supO_zero_fields (b : List UInt8) : (unpU b).1.U64 := by
  unfold unpU
  split
  · exact ⟨by decide, by decide, by decide, by decide, by decide, by decide, by decide, by decide⟩
  · split
    · exact ⟨by decide, by decide, by decide, by decide, by decide, by decide, by decide, by decide⟩
    · exact supO_U b
theorem hasU_sealed {g : UInt8} {s : Sup} (hr : s.right = true) (hu : s.U64) (ho : openS (sealed g (supB s)) = (supB s, true)) : hasU (sealed g (supB s)) = (s, true) := by
  unfold hasU
  rw [ho, unpU_B hr hu]
  rfl
end Go.Cmp
