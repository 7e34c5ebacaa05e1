/-
  No cell of these rows narrows 'for every input' (looked for: loops, veiled, ifaces, maps, wideKeys, modest, calm, conditions, laid).
  DERIVED. THE GIVEN ROWS OF THIS SEAT. 3 by the template 'for every input the law returns true; each argument reads behind the call as it read before'; 0 by the template 'total and deterministic' (their statements: YtghnfocajnlfhaaTotals.lean).
  GIVEN WITH THE SEED: the statements are not yours to turn. If you find one false, say at which input.
  Laid BY PROGRAM, IN A SANDBOX (cutbox-rows.mjs): the forced cells as the released guide's own fill.sh prints them over the translation 173870c5efba2120… (all of the seat's roots in one cut). By AI agents, Wed Nov 11 2026. No macro, syntax, notation, axiom, sorry.
-/
import Derived.Test.YtghnfocajnlfhaaChecked
import GoSem.Claim
import GoSem.ClaimJoined
import GoSem.ClaimMapViews
import Derived.JoinedTies
import Derived.KernelRfl
namespace Go.Proofs.Ytghnfocajnlfhaa
/- THE CELL 'sum', in the pinned program and in every row, IS THE sha256 OF THE DUMP (.gsa) THAT YtghnfocajnlfhaaProg.lean LOADS. Nothing in Lean hashes anything: it is a label: what it is worth is what the hold of that sum in a sandbox is worth. -/
noncomputable def Try.pinned : Pinned := { name := "ytghnfocajnlfhaa", sum := "173870c5efba21206f335f4ce76eef1a587d995444a45fdecb71c94bc40d96e3", checked := Try.checked }
namespace Rows
def none {H : Type} : Left H := { results := [], args := [] }

/-- 'comptorlaw14.GridMisses': WHATEVER THE INPUT: true; the input reads as it did. -/
def gridMissesSpec : ChangeSpec := { name := "gridMisses", fn := fun _ => fun
  | [d1, d2, d3] => { results := [.lit (.bool true)], args := [d1, d2, d3] }
  | _ => none }
def gridMissesRow : OpenClaim := { program := "ytghnfocajnlfhaa", sum := "173870c5efba21206f335f4ce76eef1a587d995444a45fdecb71c94bc40d96e3", func := "comptor/comptorlaw14.GridMisses", spec := "gridMisses", inPlace := ["internal/bytealg.MakeNoZero", "internal/abi.NoEscape"], apart := false }
def GridMissesSaid : Prop := gridMissesRow.holds Try.pinned (OpenSpec.ofChange gridMissesSpec)

/-- ITS FALSE NEIGHBOUR: 'it returns false'. Refute it at one input. -/
def gridMissesWrong : ChangeSpec := { name := "gridMisses", fn := fun _ => fun
  | [d1, d2, d3] => { results := [.lit (.bool false)], args := [d1, d2, d3] }
  | _ => none }
def GridMissesWrongFalsely : Prop := gridMissesRow.holds Try.pinned (OpenSpec.ofChange gridMissesWrong)

/-- 'comptorlaw14.GridKeeps': WHATEVER THE INPUT: true; the input reads as it did. -/
def gridKeepsSpec : ChangeSpec := { name := "gridKeeps", fn := fun _ => fun
  | [d1, d2, d3, d4, d5] => { results := [.lit (.bool true)], args := [d1, d2, d3, d4, d5] }
  | _ => none }
def gridKeepsRow : OpenClaim := { program := "ytghnfocajnlfhaa", sum := "173870c5efba21206f335f4ce76eef1a587d995444a45fdecb71c94bc40d96e3", func := "comptor/comptorlaw14.GridKeeps", spec := "gridKeeps", inPlace := ["internal/bytealg.MakeNoZero", "internal/abi.NoEscape"], apart := false }
def GridKeepsSaid : Prop := gridKeepsRow.holds Try.pinned (OpenSpec.ofChange gridKeepsSpec)

/-- ITS FALSE NEIGHBOUR: 'it returns false'. Refute it at one input. -/
def gridKeepsWrong : ChangeSpec := { name := "gridKeeps", fn := fun _ => fun
  | [d1, d2, d3, d4, d5] => { results := [.lit (.bool false)], args := [d1, d2, d3, d4, d5] }
  | _ => none }
def GridKeepsWrongFalsely : Prop := gridKeepsRow.holds Try.pinned (OpenSpec.ofChange gridKeepsWrong)

/-- 'comptorlaw14.GridTears': WHATEVER THE INPUT: true; the input reads as it did. -/
def gridTearsSpec : ChangeSpec := { name := "gridTears", fn := fun _ => fun
  | [d1, d2, d3, d4, d5] => { results := [.lit (.bool true)], args := [d1, d2, d3, d4, d5] }
  | _ => none }
def gridTearsRow : OpenClaim := { program := "ytghnfocajnlfhaa", sum := "173870c5efba21206f335f4ce76eef1a587d995444a45fdecb71c94bc40d96e3", func := "comptor/comptorlaw14.GridTears", spec := "gridTears", inPlace := ["internal/bytealg.MakeNoZero", "internal/abi.NoEscape"], apart := false }
def GridTearsSaid : Prop := gridTearsRow.holds Try.pinned (OpenSpec.ofChange gridTearsSpec)

/-- ITS FALSE NEIGHBOUR: 'it returns false'. Refute it at one input. -/
def gridTearsWrong : ChangeSpec := { name := "gridTears", fn := fun _ => fun
  | [d1, d2, d3, d4, d5] => { results := [.lit (.bool false)], args := [d1, d2, d3, d4, d5] }
  | _ => none }
def GridTearsWrongFalsely : Prop := gridTearsRow.holds Try.pinned (OpenSpec.ofChange gridTearsWrong)

/- THE SECOND FORM. 'bulk': how many values and letters a reading holds, each counted each time it is reached (what is shared counts as often as it is met; a slice's spare places count too). A statement '..UptoSaid' is the law's where the arguments, and the package variables that the reading takes, are together of bulk at most 1048576: NARROWER than '..Said'. Prove '..Said' where nothing that the law and all that it calls make is longer than what came in: it says more and counts as full. Else prove '..UptoSaid'. A law counts once. -/
mutual
def uptoBulk {H : Type} : DataW H → Nat
  | .lit (.string bytes) => bytes.length + 1
  | .lit _ => 1
  | .nil => 1
  | .ptr d => uptoBulk d + 1
  | .slice elems spare => uptoBulkAll elems + uptoBulkAll spare + 1
  | .agg parts => uptoBulkAll parts + 1
  | .iface _ d => uptoBulk d + 1
  | .map entries => uptoBulkEntries entries + 1
  | .held _ => 1
def uptoBulkAll {H : Type} : List (DataW H) → Nat
  | [] => 0
  | d :: r => uptoBulk d + uptoBulkAll r
def uptoBulkEntries {H : Type} : List (Lit × DataW H) → Nat
  | [] => 0
  | x :: r => uptoBulkEntry x + uptoBulkEntries r
def uptoBulkEntry {H : Type} : Lit × DataW H → Nat
  | (.string bytes, d) => bytes.length + uptoBulk d + 1
  | (_, d) => uptoBulk d + 1
 end
def uptoSmall : (H : Type) → List (DataW H) → Bool := fun _ ds => decide (uptoBulkAll ds ≤ 1048576)
def OpenSpec.upto (s : _root_.Go.ChangeSpec) : _root_.Go.OpenSpec := { _root_.Go.OpenSpec.ofChange s with cond := some uptoSmall }

/-- 'comptorlaw14.GridMisses', WHERE WHAT IT READS IS OF BULK AT MOST 1048576: true; the input reads as it did. -/
def gridMissesUptoRow : OpenClaim := { program := "ytghnfocajnlfhaa", sum := "173870c5efba21206f335f4ce76eef1a587d995444a45fdecb71c94bc40d96e3", func := "comptor/comptorlaw14.GridMisses", spec := "gridMisses", inPlace := ["internal/bytealg.MakeNoZero", "internal/abi.NoEscape"], apart := false, narrowed := true }
def GridMissesUptoSaid : Prop := gridMissesUptoRow.holds Try.pinned (OpenSpec.upto gridMissesSpec)

/-- 'comptorlaw14.GridKeeps', WHERE WHAT IT READS IS OF BULK AT MOST 1048576: true; the input reads as it did. -/
def gridKeepsUptoRow : OpenClaim := { program := "ytghnfocajnlfhaa", sum := "173870c5efba21206f335f4ce76eef1a587d995444a45fdecb71c94bc40d96e3", func := "comptor/comptorlaw14.GridKeeps", spec := "gridKeeps", inPlace := ["internal/bytealg.MakeNoZero", "internal/abi.NoEscape"], apart := false, narrowed := true }
def GridKeepsUptoSaid : Prop := gridKeepsUptoRow.holds Try.pinned (OpenSpec.upto gridKeepsSpec)

/-- 'comptorlaw14.GridTears', WHERE WHAT IT READS IS OF BULK AT MOST 1048576: true; the input reads as it did. -/
def gridTearsUptoRow : OpenClaim := { program := "ytghnfocajnlfhaa", sum := "173870c5efba21206f335f4ce76eef1a587d995444a45fdecb71c94bc40d96e3", func := "comptor/comptorlaw14.GridTears", spec := "gridTears", inPlace := ["internal/bytealg.MakeNoZero", "internal/abi.NoEscape"], apart := false, narrowed := true }
def GridTearsUptoSaid : Prop := gridTearsUptoRow.holds Try.pinned (OpenSpec.upto gridTearsSpec)

end Rows
end Go.Proofs.Ytghnfocajnlfhaa
