/-
  No cell of these rows narrows 'for every input' (looked for: loops, veiled, ifaces, maps, wideKeys, modest, calm, conditions, laid).
  DERIVED. THE GIVEN ROWS OF THIS SEAT. 7 by the template 'for every input the law returns true; each argument reads behind the call as it read before'; 0 by the template 'total and deterministic' (their statements: YtggngdjncokanaaTotals.lean).
  GIVEN WITH THE SEED: the statements are not yours to turn. If you find one false, say at which input.
  Laid BY PROGRAM, IN A SANDBOX (cutbox-rows.mjs): the forced cells as the released guide's own fill.sh prints them over the translation 672adc25b90af14c… (all of the seat's roots in one cut). By AI agents, Wed Nov 11 2026. No macro, syntax, notation, axiom, sorry.
-/
import Derived.Test.YtggngdjncokanaaChecked
import GoSem.Claim
import GoSem.ClaimJoined
import GoSem.ClaimMapViews
import Derived.JoinedTies
import Derived.KernelRfl
namespace Go.Proofs.Ytggngdjncokanaa
/- THE CELL 'sum', in the pinned program and in every row, IS THE sha256 OF THE DUMP (.gsa) THAT YtggngdjncokanaaProg.lean LOADS. Nothing in Lean hashes anything: it is a label: what it is worth is what the hold of that sum in a sandbox is worth. -/
noncomputable def Try.pinned : Pinned := { name := "ytggngdjncokanaa", sum := "672adc25b90af14ce1c339c7fd2e56ba00f7e2936a4aa14765f61db35dd9f377", checked := Try.checked }
namespace Rows
def none {H : Type} : Left H := { results := [], args := [] }

/-- 'comptorlaw07.LedgerOne': WHATEVER THE INPUT: true; the input reads as it did. -/
def ledgerOneSpec : ChangeSpec := { name := "ledgerOne", fn := fun _ => fun
  | [d1, d2, d3] => { results := [.lit (.bool true)], args := [d1, d2, d3] }
  | _ => none }
def ledgerOneRow : OpenClaim := { program := "ytggngdjncokanaa", sum := "672adc25b90af14ce1c339c7fd2e56ba00f7e2936a4aa14765f61db35dd9f377", func := "comptor/comptorlaw07.LedgerOne", spec := "ledgerOne", inPlace := ["internal/bytealg.MakeNoZero"], unfollowed := true, recurses := true, apart := false }
def LedgerOneSaid : Prop := ledgerOneRow.holds Try.pinned (OpenSpec.ofChange ledgerOneSpec)

/-- ITS FALSE NEIGHBOUR: 'it returns false'. Refute it at one input. -/
def ledgerOneWrong : ChangeSpec := { name := "ledgerOne", fn := fun _ => fun
  | [d1, d2, d3] => { results := [.lit (.bool false)], args := [d1, d2, d3] }
  | _ => none }
def LedgerOneWrongFalsely : Prop := ledgerOneRow.holds Try.pinned (OpenSpec.ofChange ledgerOneWrong)

/-- 'comptorlaw07.LedgerReads': WHATEVER THE INPUT: true; the input reads as it did. -/
def ledgerReadsSpec : ChangeSpec := { name := "ledgerReads", fn := fun _ => fun
  | [d1, d2] => { results := [.lit (.bool true)], args := [d1, d2] }
  | _ => none }
def ledgerReadsRow : OpenClaim := { program := "ytggngdjncokanaa", sum := "672adc25b90af14ce1c339c7fd2e56ba00f7e2936a4aa14765f61db35dd9f377", func := "comptor/comptorlaw07.LedgerReads", spec := "ledgerReads", inPlace := ["internal/bytealg.MakeNoZero"], unfollowed := true, recurses := true, apart := false }
def LedgerReadsSaid : Prop := ledgerReadsRow.holds Try.pinned (OpenSpec.ofChange ledgerReadsSpec)

/-- ITS FALSE NEIGHBOUR: 'it returns false'. Refute it at one input. -/
def ledgerReadsWrong : ChangeSpec := { name := "ledgerReads", fn := fun _ => fun
  | [d1, d2] => { results := [.lit (.bool false)], args := [d1, d2] }
  | _ => none }
def LedgerReadsWrongFalsely : Prop := ledgerReadsRow.holds Try.pinned (OpenSpec.ofChange ledgerReadsWrong)

/-- 'comptorlaw07.LedgerSums': WHATEVER THE INPUT: true; the input reads as it did. -/
def ledgerSumsSpec : ChangeSpec := { name := "ledgerSums", fn := fun _ => fun
  | [d] => { results := [.lit (.bool true)], args := [d] }
  | _ => none }
def ledgerSumsRow : OpenClaim := { program := "ytggngdjncokanaa", sum := "672adc25b90af14ce1c339c7fd2e56ba00f7e2936a4aa14765f61db35dd9f377", func := "comptor/comptorlaw07.LedgerSums", spec := "ledgerSums", inPlace := ["internal/bytealg.MakeNoZero"], unfollowed := true, recurses := true, apart := false }
def LedgerSumsSaid : Prop := ledgerSumsRow.holds Try.pinned (OpenSpec.ofChange ledgerSumsSpec)

/-- ITS FALSE NEIGHBOUR: 'it returns false'. Refute it at one input. -/
def ledgerSumsWrong : ChangeSpec := { name := "ledgerSums", fn := fun _ => fun
  | [d] => { results := [.lit (.bool false)], args := [d] }
  | _ => none }
def LedgerSumsWrongFalsely : Prop := ledgerSumsRow.holds Try.pinned (OpenSpec.ofChange ledgerSumsWrong)

/-- 'comptorlaw07.LedgerPlays': WHATEVER THE INPUT: true; the input reads as it did. -/
def ledgerPlaysSpec : ChangeSpec := { name := "ledgerPlays", fn := fun _ => fun
  | [d] => { results := [.lit (.bool true)], args := [d] }
  | _ => none }
def ledgerPlaysRow : OpenClaim := { program := "ytggngdjncokanaa", sum := "672adc25b90af14ce1c339c7fd2e56ba00f7e2936a4aa14765f61db35dd9f377", func := "comptor/comptorlaw07.LedgerPlays", spec := "ledgerPlays", inPlace := ["internal/bytealg.MakeNoZero"], unfollowed := true, recurses := true, apart := false }
def LedgerPlaysSaid : Prop := ledgerPlaysRow.holds Try.pinned (OpenSpec.ofChange ledgerPlaysSpec)

/-- ITS FALSE NEIGHBOUR: 'it returns false'. Refute it at one input. -/
def ledgerPlaysWrong : ChangeSpec := { name := "ledgerPlays", fn := fun _ => fun
  | [d] => { results := [.lit (.bool false)], args := [d] }
  | _ => none }
def LedgerPlaysWrongFalsely : Prop := ledgerPlaysRow.holds Try.pinned (OpenSpec.ofChange ledgerPlaysWrong)

/-- 'comptorlaw07.LedgerAgain': WHATEVER THE INPUT: true; the input reads as it did. -/
def ledgerAgainSpec : ChangeSpec := { name := "ledgerAgain", fn := fun _ => fun
  | [d1, d2] => { results := [.lit (.bool true)], args := [d1, d2] }
  | _ => none }
def ledgerAgainRow : OpenClaim := { program := "ytggngdjncokanaa", sum := "672adc25b90af14ce1c339c7fd2e56ba00f7e2936a4aa14765f61db35dd9f377", func := "comptor/comptorlaw07.LedgerAgain", spec := "ledgerAgain", inPlace := ["internal/bytealg.MakeNoZero"], unfollowed := true, recurses := true, apart := false }
def LedgerAgainSaid : Prop := ledgerAgainRow.holds Try.pinned (OpenSpec.ofChange ledgerAgainSpec)

/-- ITS FALSE NEIGHBOUR: 'it returns false'. Refute it at one input. -/
def ledgerAgainWrong : ChangeSpec := { name := "ledgerAgain", fn := fun _ => fun
  | [d1, d2] => { results := [.lit (.bool false)], args := [d1, d2] }
  | _ => none }
def LedgerAgainWrongFalsely : Prop := ledgerAgainRow.holds Try.pinned (OpenSpec.ofChange ledgerAgainWrong)

/-- 'comptorlaw07.LedgerBack': WHATEVER THE INPUT: true; the input reads as it did. -/
def ledgerBackSpec : ChangeSpec := { name := "ledgerBack", fn := fun _ => fun
  | [d1, d2] => { results := [.lit (.bool true)], args := [d1, d2] }
  | _ => none }
def ledgerBackRow : OpenClaim := { program := "ytggngdjncokanaa", sum := "672adc25b90af14ce1c339c7fd2e56ba00f7e2936a4aa14765f61db35dd9f377", func := "comptor/comptorlaw07.LedgerBack", spec := "ledgerBack", inPlace := ["internal/bytealg.MakeNoZero"], unfollowed := true, recurses := true, apart := false }
def LedgerBackSaid : Prop := ledgerBackRow.holds Try.pinned (OpenSpec.ofChange ledgerBackSpec)

/-- ITS FALSE NEIGHBOUR: 'it returns false'. Refute it at one input. -/
def ledgerBackWrong : ChangeSpec := { name := "ledgerBack", fn := fun _ => fun
  | [d1, d2] => { results := [.lit (.bool false)], args := [d1, d2] }
  | _ => none }
def LedgerBackWrongFalsely : Prop := ledgerBackRow.holds Try.pinned (OpenSpec.ofChange ledgerBackWrong)

/-- 'comptorlaw07.LedgerUnpacks': WHATEVER THE INPUT: true; the input reads as it did. -/
def ledgerUnpacksSpec : ChangeSpec := { name := "ledgerUnpacks", fn := fun _ => fun
  | [d] => { results := [.lit (.bool true)], args := [d] }
  | _ => none }
def ledgerUnpacksRow : OpenClaim := { program := "ytggngdjncokanaa", sum := "672adc25b90af14ce1c339c7fd2e56ba00f7e2936a4aa14765f61db35dd9f377", func := "comptor/comptorlaw07.LedgerUnpacks", spec := "ledgerUnpacks", inPlace := ["internal/bytealg.MakeNoZero"], unfollowed := true, recurses := true, apart := false }
def LedgerUnpacksSaid : Prop := ledgerUnpacksRow.holds Try.pinned (OpenSpec.ofChange ledgerUnpacksSpec)

/-- ITS FALSE NEIGHBOUR: 'it returns false'. Refute it at one input. -/
def ledgerUnpacksWrong : ChangeSpec := { name := "ledgerUnpacks", fn := fun _ => fun
  | [d] => { results := [.lit (.bool false)], args := [d] }
  | _ => none }
def LedgerUnpacksWrongFalsely : Prop := ledgerUnpacksRow.holds Try.pinned (OpenSpec.ofChange ledgerUnpacksWrong)

/- THE SECOND FORM. 'bulk': how many values and letters a reading holds, each counted each time it is reached (what is shared counts as often as it is met; a slice's spare places count too). A statement '..UptoSaid' is the law's where the arguments, and the package variables that the reading takes, are together of bulk at most 1048576: NARROWER than '..Said'. Prove '..Said' where nothing that the law and all that it calls make is longer than what came in: it says more and counts as full. Else prove '..UptoSaid'. A law counts once. -/
mutual
def uptoBulk {H : Type} : DataW H → Nat
  | .lit (.string bytes) => bytes.length + 1
  | .lit _ => 1
  | .nil => 1
  | .ptr d => uptoBulk d + 1
  | .slice elems spare => uptoBulkAll elems + uptoBulkAll spare + 1
  | .agg parts => uptoBulkAll parts + 1
  | .iface _ d => uptoBulk d + 1
  | .map entries => uptoBulkEntries entries + 1
  | .held _ => 1
def uptoBulkAll {H : Type} : List (DataW H) → Nat
  | [] => 0
  | d :: r => uptoBulk d + uptoBulkAll r
def uptoBulkEntries {H : Type} : List (Lit × DataW H) → Nat
  | [] => 0
  | x :: r => uptoBulkEntry x + uptoBulkEntries r
def uptoBulkEntry {H : Type} : Lit × DataW H → Nat
  | (.string bytes, d) => bytes.length + uptoBulk d + 1
  | (_, d) => uptoBulk d + 1
 end
def uptoSmall : (H : Type) → List (DataW H) → Bool := fun _ ds => decide (uptoBulkAll ds ≤ 1048576)
def OpenSpec.upto (s : _root_.Go.ChangeSpec) : _root_.Go.OpenSpec := { _root_.Go.OpenSpec.ofChange s with cond := some uptoSmall }

/-- 'comptorlaw07.LedgerOne', WHERE WHAT IT READS IS OF BULK AT MOST 1048576: true; the input reads as it did. -/
def ledgerOneUptoRow : OpenClaim := { program := "ytggngdjncokanaa", sum := "672adc25b90af14ce1c339c7fd2e56ba00f7e2936a4aa14765f61db35dd9f377", func := "comptor/comptorlaw07.LedgerOne", spec := "ledgerOne", inPlace := ["internal/bytealg.MakeNoZero"], unfollowed := true, recurses := true, apart := false, narrowed := true }
def LedgerOneUptoSaid : Prop := ledgerOneUptoRow.holds Try.pinned (OpenSpec.upto ledgerOneSpec)

/-- 'comptorlaw07.LedgerReads', WHERE WHAT IT READS IS OF BULK AT MOST 1048576: true; the input reads as it did. -/
def ledgerReadsUptoRow : OpenClaim := { program := "ytggngdjncokanaa", sum := "672adc25b90af14ce1c339c7fd2e56ba00f7e2936a4aa14765f61db35dd9f377", func := "comptor/comptorlaw07.LedgerReads", spec := "ledgerReads", inPlace := ["internal/bytealg.MakeNoZero"], unfollowed := true, recurses := true, apart := false, narrowed := true }
def LedgerReadsUptoSaid : Prop := ledgerReadsUptoRow.holds Try.pinned (OpenSpec.upto ledgerReadsSpec)

/-- 'comptorlaw07.LedgerSums', WHERE WHAT IT READS IS OF BULK AT MOST 1048576: true; the input reads as it did. -/
def ledgerSumsUptoRow : OpenClaim := { program := "ytggngdjncokanaa", sum := "672adc25b90af14ce1c339c7fd2e56ba00f7e2936a4aa14765f61db35dd9f377", func := "comptor/comptorlaw07.LedgerSums", spec := "ledgerSums", inPlace := ["internal/bytealg.MakeNoZero"], unfollowed := true, recurses := true, apart := false, narrowed := true }
def LedgerSumsUptoSaid : Prop := ledgerSumsUptoRow.holds Try.pinned (OpenSpec.upto ledgerSumsSpec)

/-- 'comptorlaw07.LedgerPlays', WHERE WHAT IT READS IS OF BULK AT MOST 1048576: true; the input reads as it did. -/
def ledgerPlaysUptoRow : OpenClaim := { program := "ytggngdjncokanaa", sum := "672adc25b90af14ce1c339c7fd2e56ba00f7e2936a4aa14765f61db35dd9f377", func := "comptor/comptorlaw07.LedgerPlays", spec := "ledgerPlays", inPlace := ["internal/bytealg.MakeNoZero"], unfollowed := true, recurses := true, apart := false, narrowed := true }
def LedgerPlaysUptoSaid : Prop := ledgerPlaysUptoRow.holds Try.pinned (OpenSpec.upto ledgerPlaysSpec)

/-- 'comptorlaw07.LedgerAgain', WHERE WHAT IT READS IS OF BULK AT MOST 1048576: true; the input reads as it did. -/
def ledgerAgainUptoRow : OpenClaim := { program := "ytggngdjncokanaa", sum := "672adc25b90af14ce1c339c7fd2e56ba00f7e2936a4aa14765f61db35dd9f377", func := "comptor/comptorlaw07.LedgerAgain", spec := "ledgerAgain", inPlace := ["internal/bytealg.MakeNoZero"], unfollowed := true, recurses := true, apart := false, narrowed := true }
def LedgerAgainUptoSaid : Prop := ledgerAgainUptoRow.holds Try.pinned (OpenSpec.upto ledgerAgainSpec)

/-- 'comptorlaw07.LedgerBack', WHERE WHAT IT READS IS OF BULK AT MOST 1048576: true; the input reads as it did. -/
def ledgerBackUptoRow : OpenClaim := { program := "ytggngdjncokanaa", sum := "672adc25b90af14ce1c339c7fd2e56ba00f7e2936a4aa14765f61db35dd9f377", func := "comptor/comptorlaw07.LedgerBack", spec := "ledgerBack", inPlace := ["internal/bytealg.MakeNoZero"], unfollowed := true, recurses := true, apart := false, narrowed := true }
def LedgerBackUptoSaid : Prop := ledgerBackUptoRow.holds Try.pinned (OpenSpec.upto ledgerBackSpec)

/-- 'comptorlaw07.LedgerUnpacks', WHERE WHAT IT READS IS OF BULK AT MOST 1048576: true; the input reads as it did. -/
def ledgerUnpacksUptoRow : OpenClaim := { program := "ytggngdjncokanaa", sum := "672adc25b90af14ce1c339c7fd2e56ba00f7e2936a4aa14765f61db35dd9f377", func := "comptor/comptorlaw07.LedgerUnpacks", spec := "ledgerUnpacks", inPlace := ["internal/bytealg.MakeNoZero"], unfollowed := true, recurses := true, apart := false, narrowed := true }
def LedgerUnpacksUptoSaid : Prop := ledgerUnpacksUptoRow.holds Try.pinned (OpenSpec.upto ledgerUnpacksSpec)

end Rows
end Go.Proofs.Ytggngdjncokanaa
