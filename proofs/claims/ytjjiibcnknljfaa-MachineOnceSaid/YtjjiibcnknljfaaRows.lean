/-
  No cell of these rows narrows 'for every input' (looked for: loops, veiled, ifaces, maps, wideKeys, modest, calm, conditions, laid).
  DERIVED. THE GIVEN ROWS OF THIS SEAT. 3 by the template 'for every input the law returns true; each argument reads behind the call as it read before'; 0 by the template 'total and deterministic' (their statements: YtjjiibcnknljfaaTotals.lean).
  GIVEN WITH THE SEED: the statements are not yours to turn. If you find one false, say at which input.
  Laid BY PROGRAM, IN A SANDBOX (cutbox-rows.mjs): the forced cells as the released guide's own fill.sh prints them over the translation 0052793fd68d52b1… (all of the seat's roots in one cut). By AI agents, Wed Nov 11 2026. No macro, syntax, notation, axiom, sorry.
-/
import Derived.Test.YtjjiibcnknljfaaChecked
import GoSem.Claim
import GoSem.ClaimJoined
import GoSem.ClaimMapViews
import Derived.JoinedTies
import Derived.KernelRfl
namespace Go.Proofs.Ytjjiibcnknljfaa
/- THE CELL 'sum', in the pinned program and in every row, IS THE sha256 OF THE DUMP (.gsa) THAT YtjjiibcnknljfaaProg.lean LOADS. Nothing in Lean hashes anything: it is a label: what it is worth is what the hold of that sum in a sandbox is worth. -/
noncomputable def Try.pinned : Pinned := { name := "ytjjiibcnknljfaa", sum := "0052793fd68d52b11b11b6364b3bcbe1599f6820b621101d42e4cbdbba759587", checked := Try.checked }
namespace Rows
def none {H : Type} : Left H := { results := [], args := [] }

/-- 'comptorlaw10.MachineOnce': WHATEVER THE INPUT: true; the input reads as it did. -/
def machineOnceSpec : ChangeSpec := { name := "machineOnce", fn := fun _ => fun
  | [d1, d2] => { results := [.lit (.bool true)], args := [d1, d2] }
  | _ => none }
def machineOnceRow : OpenClaim := { program := "ytjjiibcnknljfaa", sum := "0052793fd68d52b11b11b6364b3bcbe1599f6820b621101d42e4cbdbba759587", func := "comptor/comptorlaw10.MachineOnce", spec := "machineOnce", inPlace := ["internal/bytealg.MakeNoZero"], unfollowed := true, recurses := true, apart := false }
def MachineOnceSaid : Prop := machineOnceRow.holds Try.pinned (OpenSpec.ofChange machineOnceSpec)

/-- ITS FALSE NEIGHBOUR: 'it returns false'. Refute it at one input. -/
def machineOnceWrong : ChangeSpec := { name := "machineOnce", fn := fun _ => fun
  | [d1, d2] => { results := [.lit (.bool false)], args := [d1, d2] }
  | _ => none }
def MachineOnceWrongFalsely : Prop := machineOnceRow.holds Try.pinned (OpenSpec.ofChange machineOnceWrong)

/-- 'comptorlaw10.MachineNil': WHATEVER THE INPUT: true; the input reads as it did. -/
def machineNilSpec : ChangeSpec := { name := "machineNil", fn := fun _ => fun
  | [d] => { results := [.lit (.bool true)], args := [d] }
  | _ => none }
def machineNilRow : OpenClaim := { program := "ytjjiibcnknljfaa", sum := "0052793fd68d52b11b11b6364b3bcbe1599f6820b621101d42e4cbdbba759587", func := "comptor/comptorlaw10.MachineNil", spec := "machineNil", inPlace := ["internal/bytealg.MakeNoZero"], unfollowed := true, recurses := true, apart := false }
def MachineNilSaid : Prop := machineNilRow.holds Try.pinned (OpenSpec.ofChange machineNilSpec)

/-- ITS FALSE NEIGHBOUR: 'it returns false'. Refute it at one input. -/
def machineNilWrong : ChangeSpec := { name := "machineNil", fn := fun _ => fun
  | [d] => { results := [.lit (.bool false)], args := [d] }
  | _ => none }
def MachineNilWrongFalsely : Prop := machineNilRow.holds Try.pinned (OpenSpec.ofChange machineNilWrong)

/-- 'comptorlaw10.MachineBack': WHATEVER THE INPUT: true; the input reads as it did. -/
def machineBackSpec : ChangeSpec := { name := "machineBack", fn := fun _ => fun
  | [d1, d2] => { results := [.lit (.bool true)], args := [d1, d2] }
  | _ => none }
def machineBackRow : OpenClaim := { program := "ytjjiibcnknljfaa", sum := "0052793fd68d52b11b11b6364b3bcbe1599f6820b621101d42e4cbdbba759587", func := "comptor/comptorlaw10.MachineBack", spec := "machineBack", inPlace := ["internal/bytealg.MakeNoZero"], unfollowed := true, recurses := true, apart := false }
def MachineBackSaid : Prop := machineBackRow.holds Try.pinned (OpenSpec.ofChange machineBackSpec)

/-- ITS FALSE NEIGHBOUR: 'it returns false'. Refute it at one input. -/
def machineBackWrong : ChangeSpec := { name := "machineBack", fn := fun _ => fun
  | [d1, d2] => { results := [.lit (.bool false)], args := [d1, d2] }
  | _ => none }
def MachineBackWrongFalsely : Prop := machineBackRow.holds Try.pinned (OpenSpec.ofChange machineBackWrong)

/- THE SECOND FORM. 'bulk': how many values and letters a reading holds, each counted each time it is reached (what is shared counts as often as it is met; a slice's spare places count too). A statement '..UptoSaid' is the law's where the arguments, and the package variables that the reading takes, are together of bulk at most 1048576: NARROWER than '..Said'. Prove '..Said' where nothing that the law and all that it calls make is longer than what came in: it says more and counts as full. Else prove '..UptoSaid'. A law counts once. -/
mutual
def uptoBulk {H : Type} : DataW H → Nat
  | .lit (.string bytes) => bytes.length + 1
  | .lit _ => 1
  | .nil => 1
  | .ptr d => uptoBulk d + 1
  | .slice elems spare => uptoBulkAll elems + uptoBulkAll spare + 1
  | .agg parts => uptoBulkAll parts + 1
  | .iface _ d => uptoBulk d + 1
  | .map entries => uptoBulkEntries entries + 1
  | .held _ => 1
def uptoBulkAll {H : Type} : List (DataW H) → Nat
  | [] => 0
  | d :: r => uptoBulk d + uptoBulkAll r
def uptoBulkEntries {H : Type} : List (Lit × DataW H) → Nat
  | [] => 0
  | x :: r => uptoBulkEntry x + uptoBulkEntries r
def uptoBulkEntry {H : Type} : Lit × DataW H → Nat
  | (.string bytes, d) => bytes.length + uptoBulk d + 1
  | (_, d) => uptoBulk d + 1
 end
def uptoSmall : (H : Type) → List (DataW H) → Bool := fun _ ds => decide (uptoBulkAll ds ≤ 1048576)
def OpenSpec.upto (s : _root_.Go.ChangeSpec) : _root_.Go.OpenSpec := { _root_.Go.OpenSpec.ofChange s with cond := some uptoSmall }

/-- 'comptorlaw10.MachineOnce', WHERE WHAT IT READS IS OF BULK AT MOST 1048576: true; the input reads as it did. -/
def machineOnceUptoRow : OpenClaim := { program := "ytjjiibcnknljfaa", sum := "0052793fd68d52b11b11b6364b3bcbe1599f6820b621101d42e4cbdbba759587", func := "comptor/comptorlaw10.MachineOnce", spec := "machineOnce", inPlace := ["internal/bytealg.MakeNoZero"], unfollowed := true, recurses := true, apart := false, narrowed := true }
def MachineOnceUptoSaid : Prop := machineOnceUptoRow.holds Try.pinned (OpenSpec.upto machineOnceSpec)

/-- 'comptorlaw10.MachineNil', WHERE WHAT IT READS IS OF BULK AT MOST 1048576: true; the input reads as it did. -/
def machineNilUptoRow : OpenClaim := { program := "ytjjiibcnknljfaa", sum := "0052793fd68d52b11b11b6364b3bcbe1599f6820b621101d42e4cbdbba759587", func := "comptor/comptorlaw10.MachineNil", spec := "machineNil", inPlace := ["internal/bytealg.MakeNoZero"], unfollowed := true, recurses := true, apart := false, narrowed := true }
def MachineNilUptoSaid : Prop := machineNilUptoRow.holds Try.pinned (OpenSpec.upto machineNilSpec)

/-- 'comptorlaw10.MachineBack', WHERE WHAT IT READS IS OF BULK AT MOST 1048576: true; the input reads as it did. -/
def machineBackUptoRow : OpenClaim := { program := "ytjjiibcnknljfaa", sum := "0052793fd68d52b11b11b6364b3bcbe1599f6820b621101d42e4cbdbba759587", func := "comptor/comptorlaw10.MachineBack", spec := "machineBack", inPlace := ["internal/bytealg.MakeNoZero"], unfollowed := true, recurses := true, apart := false, narrowed := true }
def MachineBackUptoSaid : Prop := machineBackUptoRow.holds Try.pinned (OpenSpec.upto machineBackSpec)

end Rows
end Go.Proofs.Ytjjiibcnknljfaa
