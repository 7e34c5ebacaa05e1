/-
  No cell of these rows narrows 'for every input' (looked for: loops, veiled, ifaces, maps, wideKeys, modest, calm, conditions, laid).
  DERIVED. THE GIVEN ROWS OF THIS SEAT. 7 by the template 'for every input the law returns true; each argument reads behind the call as it read before'; 0 by the template 'total and deterministic' (their statements: YtkcgacadkpbpoaaTotals.lean).
  GIVEN WITH THE SEED: the statements are not yours to turn. If you find one false, say at which input.
  Laid BY PROGRAM, IN A SANDBOX (cutbox-rows.mjs): the forced cells as the released guide's own fill.sh prints them over the translation 0524ac139c721d7b… (all of the seat's roots in one cut). By AI agents, Wed Nov 11 2026. No macro, syntax, notation, axiom, sorry.
-/
import Derived.Test.YtkcgacadkpbpoaaChecked
import GoSem.Claim
import GoSem.ClaimJoined
import GoSem.ClaimMapViews
import Derived.JoinedTies
import Derived.KernelRfl
namespace Go.Proofs.Ytkcgacadkpbpoaa
/- THE CELL 'sum', in the pinned program and in every row, IS THE sha256 OF THE DUMP (.gsa) THAT YtkcgacadkpbpoaaProg.lean LOADS. Nothing in Lean hashes anything: it is a label: what it is worth is what the hold of that sum in a sandbox is worth. -/
noncomputable def Try.pinned : Pinned := { name := "ytkcgacadkpbpoaa", sum := "0524ac139c721d7b52c432fce075ba1e9774049fff1b203e27242c0e8b3bd005", checked := Try.checked }
namespace Rows
def none {H : Type} : Left H := { results := [], args := [] }

/-- 'comptorlaw12.SlotReads': WHATEVER THE INPUT: true; the input reads as it did. -/
def slotReadsSpec : ChangeSpec := { name := "slotReads", fn := fun _ => fun
  | [d] => { results := [.lit (.bool true)], args := [d] }
  | _ => none }
def slotReadsRow : OpenClaim := { program := "ytkcgacadkpbpoaa", sum := "0524ac139c721d7b52c432fce075ba1e9774049fff1b203e27242c0e8b3bd005", func := "comptor/comptorlaw12.SlotReads", spec := "slotReads", inPlace := ["internal/bytealg.MakeNoZero"], apart := false }
def SlotReadsSaid : Prop := slotReadsRow.holds Try.pinned (OpenSpec.ofChange slotReadsSpec)

/-- ITS FALSE NEIGHBOUR: 'it returns false'. Refute it at one input. -/
def slotReadsWrong : ChangeSpec := { name := "slotReads", fn := fun _ => fun
  | [d] => { results := [.lit (.bool false)], args := [d] }
  | _ => none }
def SlotReadsWrongFalsely : Prop := slotReadsRow.holds Try.pinned (OpenSpec.ofChange slotReadsWrong)

/-- 'comptorlaw12.SlotJudges': WHATEVER THE INPUT: true; the input reads as it did. -/
def slotJudgesSpec : ChangeSpec := { name := "slotJudges", fn := fun _ => fun
  | [d1, d2, d3] => { results := [.lit (.bool true)], args := [d1, d2, d3] }
  | _ => none }
def slotJudgesRow : OpenClaim := { program := "ytkcgacadkpbpoaa", sum := "0524ac139c721d7b52c432fce075ba1e9774049fff1b203e27242c0e8b3bd005", func := "comptor/comptorlaw12.SlotJudges", spec := "slotJudges", inPlace := ["internal/bytealg.MakeNoZero"], apart := false }
def SlotJudgesSaid : Prop := slotJudgesRow.holds Try.pinned (OpenSpec.ofChange slotJudgesSpec)

/-- ITS FALSE NEIGHBOUR: 'it returns false'. Refute it at one input. -/
def slotJudgesWrong : ChangeSpec := { name := "slotJudges", fn := fun _ => fun
  | [d1, d2, d3] => { results := [.lit (.bool false)], args := [d1, d2, d3] }
  | _ => none }
def SlotJudgesWrongFalsely : Prop := slotJudgesRow.holds Try.pinned (OpenSpec.ofChange slotJudgesWrong)

/-- 'comptorlaw12.SlotLays': WHATEVER THE INPUT: true; the input reads as it did. -/
def slotLaysSpec : ChangeSpec := { name := "slotLays", fn := fun _ => fun
  | [d1, d2, d3] => { results := [.lit (.bool true)], args := [d1, d2, d3] }
  | _ => none }
def slotLaysRow : OpenClaim := { program := "ytkcgacadkpbpoaa", sum := "0524ac139c721d7b52c432fce075ba1e9774049fff1b203e27242c0e8b3bd005", func := "comptor/comptorlaw12.SlotLays", spec := "slotLays", inPlace := ["internal/bytealg.MakeNoZero"], apart := false }
def SlotLaysSaid : Prop := slotLaysRow.holds Try.pinned (OpenSpec.ofChange slotLaysSpec)

/-- ITS FALSE NEIGHBOUR: 'it returns false'. Refute it at one input. -/
def slotLaysWrong : ChangeSpec := { name := "slotLays", fn := fun _ => fun
  | [d1, d2, d3] => { results := [.lit (.bool false)], args := [d1, d2, d3] }
  | _ => none }
def SlotLaysWrongFalsely : Prop := slotLaysRow.holds Try.pinned (OpenSpec.ofChange slotLaysWrong)

/-- 'comptorlaw12.SlotRots': WHATEVER THE INPUT: true; the input reads as it did. -/
def slotRotsSpec : ChangeSpec := { name := "slotRots", fn := fun _ => fun
  | [d1, d2, d3, d4] => { results := [.lit (.bool true)], args := [d1, d2, d3, d4] }
  | _ => none }
def slotRotsRow : OpenClaim := { program := "ytkcgacadkpbpoaa", sum := "0524ac139c721d7b52c432fce075ba1e9774049fff1b203e27242c0e8b3bd005", func := "comptor/comptorlaw12.SlotRots", spec := "slotRots", inPlace := ["internal/bytealg.MakeNoZero"], apart := false }
def SlotRotsSaid : Prop := slotRotsRow.holds Try.pinned (OpenSpec.ofChange slotRotsSpec)

/-- ITS FALSE NEIGHBOUR: 'it returns false'. Refute it at one input. -/
def slotRotsWrong : ChangeSpec := { name := "slotRots", fn := fun _ => fun
  | [d1, d2, d3, d4] => { results := [.lit (.bool false)], args := [d1, d2, d3, d4] }
  | _ => none }
def SlotRotsWrongFalsely : Prop := slotRotsRow.holds Try.pinned (OpenSpec.ofChange slotRotsWrong)

/-- 'comptorlaw12.SlotTears': WHATEVER THE INPUT: true; the input reads as it did. -/
def slotTearsSpec : ChangeSpec := { name := "slotTears", fn := fun _ => fun
  | [d1, d2, d3, d4, d5] => { results := [.lit (.bool true)], args := [d1, d2, d3, d4, d5] }
  | _ => none }
def slotTearsRow : OpenClaim := { program := "ytkcgacadkpbpoaa", sum := "0524ac139c721d7b52c432fce075ba1e9774049fff1b203e27242c0e8b3bd005", func := "comptor/comptorlaw12.SlotTears", spec := "slotTears", inPlace := ["internal/bytealg.MakeNoZero"], apart := false }
def SlotTearsSaid : Prop := slotTearsRow.holds Try.pinned (OpenSpec.ofChange slotTearsSpec)

/-- ITS FALSE NEIGHBOUR: 'it returns false'. Refute it at one input. -/
def slotTearsWrong : ChangeSpec := { name := "slotTears", fn := fun _ => fun
  | [d1, d2, d3, d4, d5] => { results := [.lit (.bool false)], args := [d1, d2, d3, d4, d5] }
  | _ => none }
def SlotTearsWrongFalsely : Prop := slotTearsRow.holds Try.pinned (OpenSpec.ofChange slotTearsWrong)

/-- 'comptorlaw12.SlotVoids': WHATEVER THE INPUT: true; the input reads as it did. -/
def slotVoidsSpec : ChangeSpec := { name := "slotVoids", fn := fun _ => fun
  | [d1, d2, d3] => { results := [.lit (.bool true)], args := [d1, d2, d3] }
  | _ => none }
def slotVoidsRow : OpenClaim := { program := "ytkcgacadkpbpoaa", sum := "0524ac139c721d7b52c432fce075ba1e9774049fff1b203e27242c0e8b3bd005", func := "comptor/comptorlaw12.SlotVoids", spec := "slotVoids", inPlace := ["internal/bytealg.MakeNoZero"], apart := false }
def SlotVoidsSaid : Prop := slotVoidsRow.holds Try.pinned (OpenSpec.ofChange slotVoidsSpec)

/-- ITS FALSE NEIGHBOUR: 'it returns false'. Refute it at one input. -/
def slotVoidsWrong : ChangeSpec := { name := "slotVoids", fn := fun _ => fun
  | [d1, d2, d3] => { results := [.lit (.bool false)], args := [d1, d2, d3] }
  | _ => none }
def SlotVoidsWrongFalsely : Prop := slotVoidsRow.holds Try.pinned (OpenSpec.ofChange slotVoidsWrong)

/-- 'comptorlaw12.SlotOver': WHATEVER THE INPUT: true; the input reads as it did. -/
def slotOverSpec : ChangeSpec := { name := "slotOver", fn := fun _ => fun
  | [d1, d2, d3, d4] => { results := [.lit (.bool true)], args := [d1, d2, d3, d4] }
  | _ => none }
def slotOverRow : OpenClaim := { program := "ytkcgacadkpbpoaa", sum := "0524ac139c721d7b52c432fce075ba1e9774049fff1b203e27242c0e8b3bd005", func := "comptor/comptorlaw12.SlotOver", spec := "slotOver", inPlace := ["internal/bytealg.MakeNoZero"], apart := false }
def SlotOverSaid : Prop := slotOverRow.holds Try.pinned (OpenSpec.ofChange slotOverSpec)

/-- ITS FALSE NEIGHBOUR: 'it returns false'. Refute it at one input. -/
def slotOverWrong : ChangeSpec := { name := "slotOver", fn := fun _ => fun
  | [d1, d2, d3, d4] => { results := [.lit (.bool false)], args := [d1, d2, d3, d4] }
  | _ => none }
def SlotOverWrongFalsely : Prop := slotOverRow.holds Try.pinned (OpenSpec.ofChange slotOverWrong)

/- THE SECOND FORM. 'bulk': how many values and letters a reading holds, each counted each time it is reached (what is shared counts as often as it is met; a slice's spare places count too). A statement '..UptoSaid' is the law's where the arguments, and the package variables that the reading takes, are together of bulk at most 1048576: NARROWER than '..Said'. Prove '..Said' where nothing that the law and all that it calls make is longer than what came in: it says more and counts as full. Else prove '..UptoSaid'. A law counts once. -/
mutual
def uptoBulk {H : Type} : DataW H → Nat
  | .lit (.string bytes) => bytes.length + 1
  | .lit _ => 1
  | .nil => 1
  | .ptr d => uptoBulk d + 1
  | .slice elems spare => uptoBulkAll elems + uptoBulkAll spare + 1
  | .agg parts => uptoBulkAll parts + 1
  | .iface _ d => uptoBulk d + 1
  | .map entries => uptoBulkEntries entries + 1
  | .held _ => 1
def uptoBulkAll {H : Type} : List (DataW H) → Nat
  | [] => 0
  | d :: r => uptoBulk d + uptoBulkAll r
def uptoBulkEntries {H : Type} : List (Lit × DataW H) → Nat
  | [] => 0
  | x :: r => uptoBulkEntry x + uptoBulkEntries r
def uptoBulkEntry {H : Type} : Lit × DataW H → Nat
  | (.string bytes, d) => bytes.length + uptoBulk d + 1
  | (_, d) => uptoBulk d + 1
 end
def uptoSmall : (H : Type) → List (DataW H) → Bool := fun _ ds => decide (uptoBulkAll ds ≤ 1048576)
def OpenSpec.upto (s : _root_.Go.ChangeSpec) : _root_.Go.OpenSpec := { _root_.Go.OpenSpec.ofChange s with cond := some uptoSmall }

/-- 'comptorlaw12.SlotReads', WHERE WHAT IT READS IS OF BULK AT MOST 1048576: true; the input reads as it did. -/
def slotReadsUptoRow : OpenClaim := { program := "ytkcgacadkpbpoaa", sum := "0524ac139c721d7b52c432fce075ba1e9774049fff1b203e27242c0e8b3bd005", func := "comptor/comptorlaw12.SlotReads", spec := "slotReads", inPlace := ["internal/bytealg.MakeNoZero"], apart := false, narrowed := true }
def SlotReadsUptoSaid : Prop := slotReadsUptoRow.holds Try.pinned (OpenSpec.upto slotReadsSpec)

/-- 'comptorlaw12.SlotJudges', WHERE WHAT IT READS IS OF BULK AT MOST 1048576: true; the input reads as it did. -/
def slotJudgesUptoRow : OpenClaim := { program := "ytkcgacadkpbpoaa", sum := "0524ac139c721d7b52c432fce075ba1e9774049fff1b203e27242c0e8b3bd005", func := "comptor/comptorlaw12.SlotJudges", spec := "slotJudges", inPlace := ["internal/bytealg.MakeNoZero"], apart := false, narrowed := true }
def SlotJudgesUptoSaid : Prop := slotJudgesUptoRow.holds Try.pinned (OpenSpec.upto slotJudgesSpec)

/-- 'comptorlaw12.SlotLays', WHERE WHAT IT READS IS OF BULK AT MOST 1048576: true; the input reads as it did. -/
def slotLaysUptoRow : OpenClaim := { program := "ytkcgacadkpbpoaa", sum := "0524ac139c721d7b52c432fce075ba1e9774049fff1b203e27242c0e8b3bd005", func := "comptor/comptorlaw12.SlotLays", spec := "slotLays", inPlace := ["internal/bytealg.MakeNoZero"], apart := false, narrowed := true }
def SlotLaysUptoSaid : Prop := slotLaysUptoRow.holds Try.pinned (OpenSpec.upto slotLaysSpec)

/-- 'comptorlaw12.SlotRots', WHERE WHAT IT READS IS OF BULK AT MOST 1048576: true; the input reads as it did. -/
def slotRotsUptoRow : OpenClaim := { program := "ytkcgacadkpbpoaa", sum := "0524ac139c721d7b52c432fce075ba1e9774049fff1b203e27242c0e8b3bd005", func := "comptor/comptorlaw12.SlotRots", spec := "slotRots", inPlace := ["internal/bytealg.MakeNoZero"], apart := false, narrowed := true }
def SlotRotsUptoSaid : Prop := slotRotsUptoRow.holds Try.pinned (OpenSpec.upto slotRotsSpec)

/-- 'comptorlaw12.SlotTears', WHERE WHAT IT READS IS OF BULK AT MOST 1048576: true; the input reads as it did. -/
def slotTearsUptoRow : OpenClaim := { program := "ytkcgacadkpbpoaa", sum := "0524ac139c721d7b52c432fce075ba1e9774049fff1b203e27242c0e8b3bd005", func := "comptor/comptorlaw12.SlotTears", spec := "slotTears", inPlace := ["internal/bytealg.MakeNoZero"], apart := false, narrowed := true }
def SlotTearsUptoSaid : Prop := slotTearsUptoRow.holds Try.pinned (OpenSpec.upto slotTearsSpec)

/-- 'comptorlaw12.SlotVoids', WHERE WHAT IT READS IS OF BULK AT MOST 1048576: true; the input reads as it did. -/
def slotVoidsUptoRow : OpenClaim := { program := "ytkcgacadkpbpoaa", sum := "0524ac139c721d7b52c432fce075ba1e9774049fff1b203e27242c0e8b3bd005", func := "comptor/comptorlaw12.SlotVoids", spec := "slotVoids", inPlace := ["internal/bytealg.MakeNoZero"], apart := false, narrowed := true }
def SlotVoidsUptoSaid : Prop := slotVoidsUptoRow.holds Try.pinned (OpenSpec.upto slotVoidsSpec)

/-- 'comptorlaw12.SlotOver', WHERE WHAT IT READS IS OF BULK AT MOST 1048576: true; the input reads as it did. -/
def slotOverUptoRow : OpenClaim := { program := "ytkcgacadkpbpoaa", sum := "0524ac139c721d7b52c432fce075ba1e9774049fff1b203e27242c0e8b3bd005", func := "comptor/comptorlaw12.SlotOver", spec := "slotOver", inPlace := ["internal/bytealg.MakeNoZero"], apart := false, narrowed := true }
def SlotOverUptoSaid : Prop := slotOverUptoRow.holds Try.pinned (OpenSpec.upto slotOverSpec)

end Rows
end Go.Proofs.Ytkcgacadkpbpoaa
