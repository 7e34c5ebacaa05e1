/-
  No cell of these rows narrows 'for every input' (looked for: loops, veiled, ifaces, maps, wideKeys, modest, calm, conditions, laid).
  DERIVED. THE GIVEN ROWS OF THIS SEAT. 4 by the template 'for every input the law returns true; each argument reads behind the call as it read before'; 0 by the template 'total and deterministic' (their statements: YtnjboimjlbgdiaaTotals.lean).
  GIVEN WITH THE SEED: the statements are not yours to turn. If you find one false, say at which input.
  Laid BY PROGRAM, IN A SANDBOX (cutbox-rows.mjs): the forced cells as the released guide's own fill.sh prints them over the translation 6bd3e702cfc5bc3e… (all of the seat's roots in one cut). By AI agents, Wed Nov 11 2026. No macro, syntax, notation, axiom, sorry.
-/
import Derived.Test.YtnjboimjlbgdiaaChecked
import GoSem.Claim
import GoSem.ClaimJoined
import GoSem.ClaimMapViews
import Derived.JoinedTies
import Derived.KernelRfl
namespace Go.Proofs.Ytnjboimjlbgdiaa
/- THE CELL 'sum', in the pinned program and in every row, IS THE sha256 OF THE DUMP (.gsa) THAT YtnjboimjlbgdiaaProg.lean LOADS. Nothing in Lean hashes anything: it is a label: what it is worth is what the hold of that sum in a sandbox is worth. -/
noncomputable def Try.pinned : Pinned := { name := "ytnjboimjlbgdiaa", sum := "6bd3e702cfc5bc3eea929d93d4bc4555d05c5cd4546737f84ffa7b57667bf9bd", checked := Try.checked }
namespace Rows
def none {H : Type} : Left H := { results := [], args := [] }

/-- 'comptorlaw13.JournalNil': WHATEVER THE INPUT: true; the input reads as it did. -/
def journalNilSpec : ChangeSpec := { name := "journalNil", fn := fun _ => fun
  | [d1, d2] => { results := [.lit (.bool true)], args := [d1, d2] }
  | _ => none }
def journalNilRow : OpenClaim := { program := "ytnjboimjlbgdiaa", sum := "6bd3e702cfc5bc3eea929d93d4bc4555d05c5cd4546737f84ffa7b57667bf9bd", func := "comptor/comptorlaw13.JournalNil", spec := "journalNil", inPlace := ["internal/bytealg.MakeNoZero"], unfollowed := true, recurses := true, apart := false }
def JournalNilSaid : Prop := journalNilRow.holds Try.pinned (OpenSpec.ofChange journalNilSpec)

/-- ITS FALSE NEIGHBOUR: 'it returns false'. Refute it at one input. -/
def journalNilWrong : ChangeSpec := { name := "journalNil", fn := fun _ => fun
  | [d1, d2] => { results := [.lit (.bool false)], args := [d1, d2] }
  | _ => none }
def JournalNilWrongFalsely : Prop := journalNilRow.holds Try.pinned (OpenSpec.ofChange journalNilWrong)

/-- 'comptorlaw13.JournalKeeps': WHATEVER THE INPUT: true; the input reads as it did. -/
def journalKeepsSpec : ChangeSpec := { name := "journalKeeps", fn := fun _ => fun
  | [d] => { results := [.lit (.bool true)], args := [d] }
  | _ => none }
def journalKeepsRow : OpenClaim := { program := "ytnjboimjlbgdiaa", sum := "6bd3e702cfc5bc3eea929d93d4bc4555d05c5cd4546737f84ffa7b57667bf9bd", func := "comptor/comptorlaw13.JournalKeeps", spec := "journalKeeps", inPlace := ["internal/bytealg.MakeNoZero"], unfollowed := true, recurses := true, apart := false }
def JournalKeepsSaid : Prop := journalKeepsRow.holds Try.pinned (OpenSpec.ofChange journalKeepsSpec)

/-- ITS FALSE NEIGHBOUR: 'it returns false'. Refute it at one input. -/
def journalKeepsWrong : ChangeSpec := { name := "journalKeeps", fn := fun _ => fun
  | [d] => { results := [.lit (.bool false)], args := [d] }
  | _ => none }
def JournalKeepsWrongFalsely : Prop := journalKeepsRow.holds Try.pinned (OpenSpec.ofChange journalKeepsWrong)

/-- 'comptorlaw13.JournalClean': WHATEVER THE INPUT: true; the input reads as it did. -/
def journalCleanSpec : ChangeSpec := { name := "journalClean", fn := fun _ => fun
  | [d] => { results := [.lit (.bool true)], args := [d] }
  | _ => none }
def journalCleanRow : OpenClaim := { program := "ytnjboimjlbgdiaa", sum := "6bd3e702cfc5bc3eea929d93d4bc4555d05c5cd4546737f84ffa7b57667bf9bd", func := "comptor/comptorlaw13.JournalClean", spec := "journalClean", inPlace := ["internal/bytealg.MakeNoZero"], unfollowed := true, recurses := true, apart := false }
def JournalCleanSaid : Prop := journalCleanRow.holds Try.pinned (OpenSpec.ofChange journalCleanSpec)

/-- ITS FALSE NEIGHBOUR: 'it returns false'. Refute it at one input. -/
def journalCleanWrong : ChangeSpec := { name := "journalClean", fn := fun _ => fun
  | [d] => { results := [.lit (.bool false)], args := [d] }
  | _ => none }
def JournalCleanWrongFalsely : Prop := journalCleanRow.holds Try.pinned (OpenSpec.ofChange journalCleanWrong)

/-- 'comptorlaw13.JournalScrubs': WHATEVER THE INPUT: true; the input reads as it did. -/
def journalScrubsSpec : ChangeSpec := { name := "journalScrubs", fn := fun _ => fun
  | [d] => { results := [.lit (.bool true)], args := [d] }
  | _ => none }
def journalScrubsRow : OpenClaim := { program := "ytnjboimjlbgdiaa", sum := "6bd3e702cfc5bc3eea929d93d4bc4555d05c5cd4546737f84ffa7b57667bf9bd", func := "comptor/comptorlaw13.JournalScrubs", spec := "journalScrubs", inPlace := ["internal/bytealg.MakeNoZero"], unfollowed := true, recurses := true, apart := false }
def JournalScrubsSaid : Prop := journalScrubsRow.holds Try.pinned (OpenSpec.ofChange journalScrubsSpec)

/-- ITS FALSE NEIGHBOUR: 'it returns false'. Refute it at one input. -/
def journalScrubsWrong : ChangeSpec := { name := "journalScrubs", fn := fun _ => fun
  | [d] => { results := [.lit (.bool false)], args := [d] }
  | _ => none }
def JournalScrubsWrongFalsely : Prop := journalScrubsRow.holds Try.pinned (OpenSpec.ofChange journalScrubsWrong)

/- THE SECOND FORM. 'bulk': how many values and letters a reading holds, each counted each time it is reached (what is shared counts as often as it is met; a slice's spare places count too). A statement '..UptoSaid' is the law's where the arguments, and the package variables that the reading takes, are together of bulk at most 1048576: NARROWER than '..Said'. Prove '..Said' where nothing that the law and all that it calls make is longer than what came in: it says more and counts as full. Else prove '..UptoSaid'. A law counts once. -/
mutual
def uptoBulk {H : Type} : DataW H → Nat
  | .lit (.string bytes) => bytes.length + 1
  | .lit _ => 1
  | .nil => 1
  | .ptr d => uptoBulk d + 1
  | .slice elems spare => uptoBulkAll elems + uptoBulkAll spare + 1
  | .agg parts => uptoBulkAll parts + 1
  | .iface _ d => uptoBulk d + 1
  | .map entries => uptoBulkEntries entries + 1
  | .held _ => 1
def uptoBulkAll {H : Type} : List (DataW H) → Nat
  | [] => 0
  | d :: r => uptoBulk d + uptoBulkAll r
def uptoBulkEntries {H : Type} : List (Lit × DataW H) → Nat
  | [] => 0
  | x :: r => uptoBulkEntry x + uptoBulkEntries r
def uptoBulkEntry {H : Type} : Lit × DataW H → Nat
  | (.string bytes, d) => bytes.length + uptoBulk d + 1
  | (_, d) => uptoBulk d + 1
 end
def uptoSmall : (H : Type) → List (DataW H) → Bool := fun _ ds => decide (uptoBulkAll ds ≤ 1048576)
def OpenSpec.upto (s : _root_.Go.ChangeSpec) : _root_.Go.OpenSpec := { _root_.Go.OpenSpec.ofChange s with cond := some uptoSmall }

/-- 'comptorlaw13.JournalNil', WHERE WHAT IT READS IS OF BULK AT MOST 1048576: true; the input reads as it did. -/
def journalNilUptoRow : OpenClaim := { program := "ytnjboimjlbgdiaa", sum := "6bd3e702cfc5bc3eea929d93d4bc4555d05c5cd4546737f84ffa7b57667bf9bd", func := "comptor/comptorlaw13.JournalNil", spec := "journalNil", inPlace := ["internal/bytealg.MakeNoZero"], unfollowed := true, recurses := true, apart := false, narrowed := true }
def JournalNilUptoSaid : Prop := journalNilUptoRow.holds Try.pinned (OpenSpec.upto journalNilSpec)

/-- 'comptorlaw13.JournalKeeps', WHERE WHAT IT READS IS OF BULK AT MOST 1048576: true; the input reads as it did. -/
def journalKeepsUptoRow : OpenClaim := { program := "ytnjboimjlbgdiaa", sum := "6bd3e702cfc5bc3eea929d93d4bc4555d05c5cd4546737f84ffa7b57667bf9bd", func := "comptor/comptorlaw13.JournalKeeps", spec := "journalKeeps", inPlace := ["internal/bytealg.MakeNoZero"], unfollowed := true, recurses := true, apart := false, narrowed := true }
def JournalKeepsUptoSaid : Prop := journalKeepsUptoRow.holds Try.pinned (OpenSpec.upto journalKeepsSpec)

/-- 'comptorlaw13.JournalClean', WHERE WHAT IT READS IS OF BULK AT MOST 1048576: true; the input reads as it did. -/
def journalCleanUptoRow : OpenClaim := { program := "ytnjboimjlbgdiaa", sum := "6bd3e702cfc5bc3eea929d93d4bc4555d05c5cd4546737f84ffa7b57667bf9bd", func := "comptor/comptorlaw13.JournalClean", spec := "journalClean", inPlace := ["internal/bytealg.MakeNoZero"], unfollowed := true, recurses := true, apart := false, narrowed := true }
def JournalCleanUptoSaid : Prop := journalCleanUptoRow.holds Try.pinned (OpenSpec.upto journalCleanSpec)

/-- 'comptorlaw13.JournalScrubs', WHERE WHAT IT READS IS OF BULK AT MOST 1048576: true; the input reads as it did. -/
def journalScrubsUptoRow : OpenClaim := { program := "ytnjboimjlbgdiaa", sum := "6bd3e702cfc5bc3eea929d93d4bc4555d05c5cd4546737f84ffa7b57667bf9bd", func := "comptor/comptorlaw13.JournalScrubs", spec := "journalScrubs", inPlace := ["internal/bytealg.MakeNoZero"], unfollowed := true, recurses := true, apart := false, narrowed := true }
def JournalScrubsUptoSaid : Prop := journalScrubsUptoRow.holds Try.pinned (OpenSpec.upto journalScrubsSpec)

end Rows
end Go.Proofs.Ytnjboimjlbgdiaa
