/-
  No cell of these rows narrows 'for every input' (looked for: loops, veiled, ifaces, maps, wideKeys, modest, calm, conditions, laid).
  DERIVED. THE GIVEN ROWS OF THIS SEAT. 5 by the template 'for every input the law returns true; each argument reads behind the call as it read before'; 0 by the template 'total and deterministic' (their statements: YtbfdnpahojoccaaTotals.lean).
  GIVEN WITH THE SEED: the statements are not yours to turn. If you find one false, say at which input.
  Laid BY PROGRAM, IN A SANDBOX (cutbox-rows.mjs): the forced cells as the released guide's own fill.sh prints them over the translation 4c96b6c9732a6a5e… (all of the seat's roots in one cut). By AI agents, Wed Nov 11 2026. No macro, syntax, notation, axiom, sorry.
-/
import Derived.Test.YtbfdnpahojoccaaChecked
import GoSem.Claim
import GoSem.ClaimJoined
import GoSem.ClaimMapViews
import Derived.JoinedTies
import Derived.KernelRfl
namespace Go.Proofs.Ytbfdnpahojoccaa
/- THE CELL 'sum', in the pinned program and in every row, IS THE sha256 OF THE DUMP (.gsa) THAT YtbfdnpahojoccaaProg.lean LOADS. Nothing in Lean hashes anything: it is a label: what it is worth is what the hold of that sum in a sandbox is worth. -/
noncomputable def Try.pinned : Pinned := { name := "ytbfdnpahojoccaa", sum := "4c96b6c9732a6a5e618b63282784062a4eeb69b81a6df0a234af6ec24e1f6577", checked := Try.checked }
namespace Rows
def none {H : Type} : Left H := { results := [], args := [] }

/-- 'comptorlaw11.SuperReads': WHATEVER THE INPUT: true; the input reads as it did. -/
def superReadsSpec : ChangeSpec := { name := "superReads", fn := fun _ => fun
  | [d] => { results := [.lit (.bool true)], args := [d] }
  | _ => none }
def superReadsRow : OpenClaim := { program := "ytbfdnpahojoccaa", sum := "4c96b6c9732a6a5e618b63282784062a4eeb69b81a6df0a234af6ec24e1f6577", func := "comptor/comptorlaw11.SuperReads", spec := "superReads", inPlace := ["internal/bytealg.MakeNoZero"], apart := false }
def SuperReadsSaid : Prop := superReadsRow.holds Try.pinned (OpenSpec.ofChange superReadsSpec)

/-- ITS FALSE NEIGHBOUR: 'it returns false'. Refute it at one input. -/
def superReadsWrong : ChangeSpec := { name := "superReads", fn := fun _ => fun
  | [d] => { results := [.lit (.bool false)], args := [d] }
  | _ => none }
def SuperReadsWrongFalsely : Prop := superReadsRow.holds Try.pinned (OpenSpec.ofChange superReadsWrong)

/-- 'comptorlaw11.SuperLost': WHATEVER THE INPUT: true; the input reads as it did. -/
def superLostSpec : ChangeSpec := { name := "superLost", fn := fun _ => fun
  | [d1, d2] => { results := [.lit (.bool true)], args := [d1, d2] }
  | _ => none }
def superLostRow : OpenClaim := { program := "ytbfdnpahojoccaa", sum := "4c96b6c9732a6a5e618b63282784062a4eeb69b81a6df0a234af6ec24e1f6577", func := "comptor/comptorlaw11.SuperLost", spec := "superLost", inPlace := ["internal/bytealg.MakeNoZero"], apart := false }
def SuperLostSaid : Prop := superLostRow.holds Try.pinned (OpenSpec.ofChange superLostSpec)

/-- ITS FALSE NEIGHBOUR: 'it returns false'. Refute it at one input. -/
def superLostWrong : ChangeSpec := { name := "superLost", fn := fun _ => fun
  | [d1, d2] => { results := [.lit (.bool false)], args := [d1, d2] }
  | _ => none }
def SuperLostWrongFalsely : Prop := superLostRow.holds Try.pinned (OpenSpec.ofChange superLostWrong)

/-- 'comptorlaw11.SuperPacks': WHATEVER THE INPUT: true; the input reads as it did. -/
def superPacksSpec : ChangeSpec := { name := "superPacks", fn := fun _ => fun
  | [d] => { results := [.lit (.bool true)], args := [d] }
  | _ => none }
def superPacksRow : OpenClaim := { program := "ytbfdnpahojoccaa", sum := "4c96b6c9732a6a5e618b63282784062a4eeb69b81a6df0a234af6ec24e1f6577", func := "comptor/comptorlaw11.SuperPacks", spec := "superPacks", inPlace := ["internal/bytealg.MakeNoZero"], apart := false }
def SuperPacksSaid : Prop := superPacksRow.holds Try.pinned (OpenSpec.ofChange superPacksSpec)

/-- ITS FALSE NEIGHBOUR: 'it returns false'. Refute it at one input. -/
def superPacksWrong : ChangeSpec := { name := "superPacks", fn := fun _ => fun
  | [d] => { results := [.lit (.bool false)], args := [d] }
  | _ => none }
def SuperPacksWrongFalsely : Prop := superPacksRow.holds Try.pinned (OpenSpec.ofChange superPacksWrong)

/-- 'comptorlaw11.SuperKeeps': WHATEVER THE INPUT: true; the input reads as it did. -/
def superKeepsSpec : ChangeSpec := { name := "superKeeps", fn := fun _ => fun
  | [d1, d2, d3, d4, d5, d6] => { results := [.lit (.bool true)], args := [d1, d2, d3, d4, d5, d6] }
  | _ => none }
def superKeepsRow : OpenClaim := { program := "ytbfdnpahojoccaa", sum := "4c96b6c9732a6a5e618b63282784062a4eeb69b81a6df0a234af6ec24e1f6577", func := "comptor/comptorlaw11.SuperKeeps", spec := "superKeeps", inPlace := ["internal/bytealg.MakeNoZero"], apart := false }
def SuperKeepsSaid : Prop := superKeepsRow.holds Try.pinned (OpenSpec.ofChange superKeepsSpec)

/-- ITS FALSE NEIGHBOUR: 'it returns false'. Refute it at one input. -/
def superKeepsWrong : ChangeSpec := { name := "superKeeps", fn := fun _ => fun
  | [d1, d2, d3, d4, d5, d6] => { results := [.lit (.bool false)], args := [d1, d2, d3, d4, d5, d6] }
  | _ => none }
def SuperKeepsWrongFalsely : Prop := superKeepsRow.holds Try.pinned (OpenSpec.ofChange superKeepsWrong)

/-- 'comptorlaw11.SuperPlays': WHATEVER THE INPUT: true; the input reads as it did. -/
def superPlaysSpec : ChangeSpec := { name := "superPlays", fn := fun _ => fun
  | [d] => { results := [.lit (.bool true)], args := [d] }
  | _ => none }
def superPlaysRow : OpenClaim := { program := "ytbfdnpahojoccaa", sum := "4c96b6c9732a6a5e618b63282784062a4eeb69b81a6df0a234af6ec24e1f6577", func := "comptor/comptorlaw11.SuperPlays", spec := "superPlays", inPlace := ["internal/bytealg.MakeNoZero"], apart := false }
def SuperPlaysSaid : Prop := superPlaysRow.holds Try.pinned (OpenSpec.ofChange superPlaysSpec)

/-- ITS FALSE NEIGHBOUR: 'it returns false'. Refute it at one input. -/
def superPlaysWrong : ChangeSpec := { name := "superPlays", fn := fun _ => fun
  | [d] => { results := [.lit (.bool false)], args := [d] }
  | _ => none }
def SuperPlaysWrongFalsely : Prop := superPlaysRow.holds Try.pinned (OpenSpec.ofChange superPlaysWrong)

/- THE SECOND FORM. 'bulk': how many values and letters a reading holds, each counted each time it is reached (what is shared counts as often as it is met; a slice's spare places count too). A statement '..UptoSaid' is the law's where the arguments, and the package variables that the reading takes, are together of bulk at most 1048576: NARROWER than '..Said'. Prove '..Said' where nothing that the law and all that it calls make is longer than what came in: it says more and counts as full. Else prove '..UptoSaid'. A law counts once. -/
mutual
def uptoBulk {H : Type} : DataW H → Nat
  | .lit (.string bytes) => bytes.length + 1
  | .lit _ => 1
  | .nil => 1
  | .ptr d => uptoBulk d + 1
  | .slice elems spare => uptoBulkAll elems + uptoBulkAll spare + 1
  | .agg parts => uptoBulkAll parts + 1
  | .iface _ d => uptoBulk d + 1
  | .map entries => uptoBulkEntries entries + 1
  | .held _ => 1
def uptoBulkAll {H : Type} : List (DataW H) → Nat
  | [] => 0
  | d :: r => uptoBulk d + uptoBulkAll r
def uptoBulkEntries {H : Type} : List (Lit × DataW H) → Nat
  | [] => 0
  | x :: r => uptoBulkEntry x + uptoBulkEntries r
def uptoBulkEntry {H : Type} : Lit × DataW H → Nat
  | (.string bytes, d) => bytes.length + uptoBulk d + 1
  | (_, d) => uptoBulk d + 1
 end
def uptoSmall : (H : Type) → List (DataW H) → Bool := fun _ ds => decide (uptoBulkAll ds ≤ 1048576)
def OpenSpec.upto (s : _root_.Go.ChangeSpec) : _root_.Go.OpenSpec := { _root_.Go.OpenSpec.ofChange s with cond := some uptoSmall }

/-- 'comptorlaw11.SuperReads', WHERE WHAT IT READS IS OF BULK AT MOST 1048576: true; the input reads as it did. -/
def superReadsUptoRow : OpenClaim := { program := "ytbfdnpahojoccaa", sum := "4c96b6c9732a6a5e618b63282784062a4eeb69b81a6df0a234af6ec24e1f6577", func := "comptor/comptorlaw11.SuperReads", spec := "superReads", inPlace := ["internal/bytealg.MakeNoZero"], apart := false, narrowed := true }
def SuperReadsUptoSaid : Prop := superReadsUptoRow.holds Try.pinned (OpenSpec.upto superReadsSpec)

/-- 'comptorlaw11.SuperLost', WHERE WHAT IT READS IS OF BULK AT MOST 1048576: true; the input reads as it did. -/
def superLostUptoRow : OpenClaim := { program := "ytbfdnpahojoccaa", sum := "4c96b6c9732a6a5e618b63282784062a4eeb69b81a6df0a234af6ec24e1f6577", func := "comptor/comptorlaw11.SuperLost", spec := "superLost", inPlace := ["internal/bytealg.MakeNoZero"], apart := false, narrowed := true }
def SuperLostUptoSaid : Prop := superLostUptoRow.holds Try.pinned (OpenSpec.upto superLostSpec)

/-- 'comptorlaw11.SuperPacks', WHERE WHAT IT READS IS OF BULK AT MOST 1048576: true; the input reads as it did. -/
def superPacksUptoRow : OpenClaim := { program := "ytbfdnpahojoccaa", sum := "4c96b6c9732a6a5e618b63282784062a4eeb69b81a6df0a234af6ec24e1f6577", func := "comptor/comptorlaw11.SuperPacks", spec := "superPacks", inPlace := ["internal/bytealg.MakeNoZero"], apart := false, narrowed := true }
def SuperPacksUptoSaid : Prop := superPacksUptoRow.holds Try.pinned (OpenSpec.upto superPacksSpec)

/-- 'comptorlaw11.SuperKeeps', WHERE WHAT IT READS IS OF BULK AT MOST 1048576: true; the input reads as it did. -/
def superKeepsUptoRow : OpenClaim := { program := "ytbfdnpahojoccaa", sum := "4c96b6c9732a6a5e618b63282784062a4eeb69b81a6df0a234af6ec24e1f6577", func := "comptor/comptorlaw11.SuperKeeps", spec := "superKeeps", inPlace := ["internal/bytealg.MakeNoZero"], apart := false, narrowed := true }
def SuperKeepsUptoSaid : Prop := superKeepsUptoRow.holds Try.pinned (OpenSpec.upto superKeepsSpec)

/-- 'comptorlaw11.SuperPlays', WHERE WHAT IT READS IS OF BULK AT MOST 1048576: true; the input reads as it did. -/
def superPlaysUptoRow : OpenClaim := { program := "ytbfdnpahojoccaa", sum := "4c96b6c9732a6a5e618b63282784062a4eeb69b81a6df0a234af6ec24e1f6577", func := "comptor/comptorlaw11.SuperPlays", spec := "superPlays", inPlace := ["internal/bytealg.MakeNoZero"], apart := false, narrowed := true }
def SuperPlaysUptoSaid : Prop := superPlaysUptoRow.holds Try.pinned (OpenSpec.upto superPlaysSpec)

end Rows
end Go.Proofs.Ytbfdnpahojoccaa
