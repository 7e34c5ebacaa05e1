/-
  No cell of these rows narrows 'for every input' (looked for: loops, veiled, ifaces, maps, wideKeys, modest, calm, conditions, laid).
  DERIVED. THE GIVEN ROWS OF THIS SEAT. 5 by the template 'for every input the law returns true; each argument reads behind the call as it read before'; 0 by the template 'total and deterministic' (their statements: YthihdgohfehnkaaTotals.lean).
  GIVEN WITH THE SEED: the statements are not yours to turn. If you find one false, say at which input.
  Laid BY PROGRAM, IN A SANDBOX (cutbox-rows.mjs): the forced cells as the released guide's own fill.sh prints them over the translation aec68a8e05fee9b5… (all of the seat's roots in one cut). By AI agents, Wed Nov 11 2026. No macro, syntax, notation, axiom, sorry.
-/
import Derived.Test.YthihdgohfehnkaaChecked
import GoSem.Claim
import GoSem.ClaimJoined
import GoSem.ClaimMapViews
import Derived.JoinedTies
import Derived.KernelRfl
namespace Go.Proofs.Ythihdgohfehnkaa
/- THE CELL 'sum', in the pinned program and in every row, IS THE sha256 OF THE DUMP (.gsa) THAT YthihdgohfehnkaaProg.lean LOADS. Nothing in Lean hashes anything: it is a label: what it is worth is what the hold of that sum in a sandbox is worth. -/
noncomputable def Try.pinned : Pinned := { name := "ythihdgohfehnkaa", sum := "aec68a8e05fee9b578fe8a960da2b9a298aab30d7bae108959d6b63ac5ac7322", checked := Try.checked }
namespace Rows
def none {H : Type} : Left H := { results := [], args := [] }

/-- 'comptorlaw06.EventIDs': WHATEVER THE INPUT: true; the input reads as it did. -/
def eventIDsSpec : ChangeSpec := { name := "eventIDs", fn := fun _ => fun
  | [d] => { results := [.lit (.bool true)], args := [d] }
  | _ => none }
def eventIDsRow : OpenClaim := { program := "ythihdgohfehnkaa", sum := "aec68a8e05fee9b578fe8a960da2b9a298aab30d7bae108959d6b63ac5ac7322", func := "comptor/comptorlaw06.EventIDs", spec := "eventIDs", inPlace := ["internal/bytealg.MakeNoZero"], unfollowed := true, recurses := true, apart := false }
def EventIDsSaid : Prop := eventIDsRow.holds Try.pinned (OpenSpec.ofChange eventIDsSpec)

/-- ITS FALSE NEIGHBOUR: 'it returns false'. Refute it at one input. -/
def eventIDsWrong : ChangeSpec := { name := "eventIDs", fn := fun _ => fun
  | [d] => { results := [.lit (.bool false)], args := [d] }
  | _ => none }
def EventIDsWrongFalsely : Prop := eventIDsRow.holds Try.pinned (OpenSpec.ofChange eventIDsWrong)

/-- 'comptorlaw06.EventAccounts': WHATEVER THE INPUT: true; the input reads as it did. -/
def eventAccountsSpec : ChangeSpec := { name := "eventAccounts", fn := fun _ => fun
  | [d] => { results := [.lit (.bool true)], args := [d] }
  | _ => none }
def eventAccountsRow : OpenClaim := { program := "ythihdgohfehnkaa", sum := "aec68a8e05fee9b578fe8a960da2b9a298aab30d7bae108959d6b63ac5ac7322", func := "comptor/comptorlaw06.EventAccounts", spec := "eventAccounts", inPlace := ["internal/bytealg.MakeNoZero"], unfollowed := true, recurses := true, apart := false }
def EventAccountsSaid : Prop := eventAccountsRow.holds Try.pinned (OpenSpec.ofChange eventAccountsSpec)

/-- ITS FALSE NEIGHBOUR: 'it returns false'. Refute it at one input. -/
def eventAccountsWrong : ChangeSpec := { name := "eventAccounts", fn := fun _ => fun
  | [d] => { results := [.lit (.bool false)], args := [d] }
  | _ => none }
def EventAccountsWrongFalsely : Prop := eventAccountsRow.holds Try.pinned (OpenSpec.ofChange eventAccountsWrong)

/-- 'comptorlaw06.EventReads': WHATEVER THE INPUT: true; the input reads as it did. -/
def eventReadsSpec : ChangeSpec := { name := "eventReads", fn := fun _ => fun
  | [d] => { results := [.lit (.bool true)], args := [d] }
  | _ => none }
def eventReadsRow : OpenClaim := { program := "ythihdgohfehnkaa", sum := "aec68a8e05fee9b578fe8a960da2b9a298aab30d7bae108959d6b63ac5ac7322", func := "comptor/comptorlaw06.EventReads", spec := "eventReads", inPlace := ["internal/bytealg.MakeNoZero"], unfollowed := true, recurses := true, apart := false }
def EventReadsSaid : Prop := eventReadsRow.holds Try.pinned (OpenSpec.ofChange eventReadsSpec)

/-- ITS FALSE NEIGHBOUR: 'it returns false'. Refute it at one input. -/
def eventReadsWrong : ChangeSpec := { name := "eventReads", fn := fun _ => fun
  | [d] => { results := [.lit (.bool false)], args := [d] }
  | _ => none }
def EventReadsWrongFalsely : Prop := eventReadsRow.holds Try.pinned (OpenSpec.ofChange eventReadsWrong)

/-- 'comptorlaw06.EventTransfers': WHATEVER THE INPUT: true; the input reads as it did. -/
def eventTransfersSpec : ChangeSpec := { name := "eventTransfers", fn := fun _ => fun
  | [d] => { results := [.lit (.bool true)], args := [d] }
  | _ => none }
def eventTransfersRow : OpenClaim := { program := "ythihdgohfehnkaa", sum := "aec68a8e05fee9b578fe8a960da2b9a298aab30d7bae108959d6b63ac5ac7322", func := "comptor/comptorlaw06.EventTransfers", spec := "eventTransfers", inPlace := ["internal/bytealg.MakeNoZero"], unfollowed := true, recurses := true, apart := false }
def EventTransfersSaid : Prop := eventTransfersRow.holds Try.pinned (OpenSpec.ofChange eventTransfersSpec)

/-- ITS FALSE NEIGHBOUR: 'it returns false'. Refute it at one input. -/
def eventTransfersWrong : ChangeSpec := { name := "eventTransfers", fn := fun _ => fun
  | [d] => { results := [.lit (.bool false)], args := [d] }
  | _ => none }
def EventTransfersWrongFalsely : Prop := eventTransfersRow.holds Try.pinned (OpenSpec.ofChange eventTransfersWrong)

/-- 'comptorlaw06.EventWhole': WHATEVER THE INPUT: true; the input reads as it did. -/
def eventWholeSpec : ChangeSpec := { name := "eventWhole", fn := fun _ => fun
  | [d1, d2] => { results := [.lit (.bool true)], args := [d1, d2] }
  | _ => none }
def eventWholeRow : OpenClaim := { program := "ythihdgohfehnkaa", sum := "aec68a8e05fee9b578fe8a960da2b9a298aab30d7bae108959d6b63ac5ac7322", func := "comptor/comptorlaw06.EventWhole", spec := "eventWhole", inPlace := ["internal/bytealg.MakeNoZero"], unfollowed := true, recurses := true, apart := false }
def EventWholeSaid : Prop := eventWholeRow.holds Try.pinned (OpenSpec.ofChange eventWholeSpec)

/-- ITS FALSE NEIGHBOUR: 'it returns false'. Refute it at one input. -/
def eventWholeWrong : ChangeSpec := { name := "eventWhole", fn := fun _ => fun
  | [d1, d2] => { results := [.lit (.bool false)], args := [d1, d2] }
  | _ => none }
def EventWholeWrongFalsely : Prop := eventWholeRow.holds Try.pinned (OpenSpec.ofChange eventWholeWrong)

/- THE SECOND FORM. 'bulk': how many values and letters a reading holds, each counted each time it is reached (what is shared counts as often as it is met; a slice's spare places count too). A statement '..UptoSaid' is the law's where the arguments, and the package variables that the reading takes, are together of bulk at most 1048576: NARROWER than '..Said'. Prove '..Said' where nothing that the law and all that it calls make is longer than what came in: it says more and counts as full. Else prove '..UptoSaid'. A law counts once. -/
mutual
def uptoBulk {H : Type} : DataW H → Nat
  | .lit (.string bytes) => bytes.length + 1
  | .lit _ => 1
  | .nil => 1
  | .ptr d => uptoBulk d + 1
  | .slice elems spare => uptoBulkAll elems + uptoBulkAll spare + 1
  | .agg parts => uptoBulkAll parts + 1
  | .iface _ d => uptoBulk d + 1
  | .map entries => uptoBulkEntries entries + 1
  | .held _ => 1
def uptoBulkAll {H : Type} : List (DataW H) → Nat
  | [] => 0
  | d :: r => uptoBulk d + uptoBulkAll r
def uptoBulkEntries {H : Type} : List (Lit × DataW H) → Nat
  | [] => 0
  | x :: r => uptoBulkEntry x + uptoBulkEntries r
def uptoBulkEntry {H : Type} : Lit × DataW H → Nat
  | (.string bytes, d) => bytes.length + uptoBulk d + 1
  | (_, d) => uptoBulk d + 1
 end
def uptoSmall : (H : Type) → List (DataW H) → Bool := fun _ ds => decide (uptoBulkAll ds ≤ 1048576)
def OpenSpec.upto (s : _root_.Go.ChangeSpec) : _root_.Go.OpenSpec := { _root_.Go.OpenSpec.ofChange s with cond := some uptoSmall }

/-- 'comptorlaw06.EventIDs', WHERE WHAT IT READS IS OF BULK AT MOST 1048576: true; the input reads as it did. -/
def eventIDsUptoRow : OpenClaim := { program := "ythihdgohfehnkaa", sum := "aec68a8e05fee9b578fe8a960da2b9a298aab30d7bae108959d6b63ac5ac7322", func := "comptor/comptorlaw06.EventIDs", spec := "eventIDs", inPlace := ["internal/bytealg.MakeNoZero"], unfollowed := true, recurses := true, apart := false, narrowed := true }
def EventIDsUptoSaid : Prop := eventIDsUptoRow.holds Try.pinned (OpenSpec.upto eventIDsSpec)

/-- 'comptorlaw06.EventAccounts', WHERE WHAT IT READS IS OF BULK AT MOST 1048576: true; the input reads as it did. -/
def eventAccountsUptoRow : OpenClaim := { program := "ythihdgohfehnkaa", sum := "aec68a8e05fee9b578fe8a960da2b9a298aab30d7bae108959d6b63ac5ac7322", func := "comptor/comptorlaw06.EventAccounts", spec := "eventAccounts", inPlace := ["internal/bytealg.MakeNoZero"], unfollowed := true, recurses := true, apart := false, narrowed := true }
def EventAccountsUptoSaid : Prop := eventAccountsUptoRow.holds Try.pinned (OpenSpec.upto eventAccountsSpec)

/-- 'comptorlaw06.EventReads', WHERE WHAT IT READS IS OF BULK AT MOST 1048576: true; the input reads as it did. -/
def eventReadsUptoRow : OpenClaim := { program := "ythihdgohfehnkaa", sum := "aec68a8e05fee9b578fe8a960da2b9a298aab30d7bae108959d6b63ac5ac7322", func := "comptor/comptorlaw06.EventReads", spec := "eventReads", inPlace := ["internal/bytealg.MakeNoZero"], unfollowed := true, recurses := true, apart := false, narrowed := true }
def EventReadsUptoSaid : Prop := eventReadsUptoRow.holds Try.pinned (OpenSpec.upto eventReadsSpec)

/-- 'comptorlaw06.EventTransfers', WHERE WHAT IT READS IS OF BULK AT MOST 1048576: true; the input reads as it did. -/
def eventTransfersUptoRow : OpenClaim := { program := "ythihdgohfehnkaa", sum := "aec68a8e05fee9b578fe8a960da2b9a298aab30d7bae108959d6b63ac5ac7322", func := "comptor/comptorlaw06.EventTransfers", spec := "eventTransfers", inPlace := ["internal/bytealg.MakeNoZero"], unfollowed := true, recurses := true, apart := false, narrowed := true }
def EventTransfersUptoSaid : Prop := eventTransfersUptoRow.holds Try.pinned (OpenSpec.upto eventTransfersSpec)

/-- 'comptorlaw06.EventWhole', WHERE WHAT IT READS IS OF BULK AT MOST 1048576: true; the input reads as it did. -/
def eventWholeUptoRow : OpenClaim := { program := "ythihdgohfehnkaa", sum := "aec68a8e05fee9b578fe8a960da2b9a298aab30d7bae108959d6b63ac5ac7322", func := "comptor/comptorlaw06.EventWhole", spec := "eventWhole", inPlace := ["internal/bytealg.MakeNoZero"], unfollowed := true, recurses := true, apart := false, narrowed := true }
def EventWholeUptoSaid : Prop := eventWholeUptoRow.holds Try.pinned (OpenSpec.upto eventWholeSpec)

end Rows
end Go.Proofs.Ythihdgohfehnkaa
