/-
  No cell of these rows narrows 'for every input' (looked for: loops, veiled, ifaces, maps, wideKeys, modest, calm, conditions, laid).
  DERIVED. THE GIVEN ROWS OF THIS SEAT. 5 by the template 'for every input the law returns true; each argument reads behind the call as it read before'; 0 by the template 'total and deterministic' (their statements: YtnojcgaoepfcdaaTotals.lean).
  GIVEN WITH THE SEED: the statements are not yours to turn. If you find one false, say at which input.
  Laid BY PROGRAM, IN A SANDBOX (cutbox-rows.mjs): the forced cells as the released guide's own fill.sh prints them over the translation 9bda99c4917a7227… (all of the seat's roots in one cut). By AI agents, Wed Nov 11 2026. No macro, syntax, notation, axiom, sorry.
-/
import Derived.Test.YtnojcgaoepfcdaaChecked
import GoSem.Claim
import GoSem.ClaimJoined
import GoSem.ClaimMapViews
import Derived.JoinedTies
import Derived.KernelRfl
namespace Go.Proofs.Ytnojcgaoepfcdaa
/- THE CELL 'sum', in the pinned program and in every row, IS THE sha256 OF THE DUMP (.gsa) THAT YtnojcgaoepfcdaaProg.lean LOADS. Nothing in Lean hashes anything: it is a label: what it is worth is what the hold of that sum in a sandbox is worth. -/
noncomputable def Try.pinned : Pinned := { name := "ytnojcgaoepfcdaa", sum := "9bda99c4917a72273f57f8da768eff11569d3cd9a47e164dd811da34f530ce02", checked := Try.checked }
namespace Rows
def none {H : Type} : Left H := { results := [], args := [] }

/-- 'comptorlaw08.SessionVerdicts': WHATEVER THE INPUT: true; the input reads as it did. -/
def sessionVerdictsSpec : ChangeSpec := { name := "sessionVerdicts", fn := fun _ => fun
  | [d1, d2, d3, d4, d5, d6] => { results := [.lit (.bool true)], args := [d1, d2, d3, d4, d5, d6] }
  | _ => none }
def sessionVerdictsRow : OpenClaim := { program := "ytnojcgaoepfcdaa", sum := "9bda99c4917a72273f57f8da768eff11569d3cd9a47e164dd811da34f530ce02", func := "comptor/comptorlaw08.SessionVerdicts", spec := "sessionVerdicts", unfollowed := true, recurses := true, apart := false }
def SessionVerdictsSaid : Prop := sessionVerdictsRow.holds Try.pinned (OpenSpec.ofChange sessionVerdictsSpec)

/-- ITS FALSE NEIGHBOUR: 'it returns false'. Refute it at one input. -/
def sessionVerdictsWrong : ChangeSpec := { name := "sessionVerdicts", fn := fun _ => fun
  | [d1, d2, d3, d4, d5, d6] => { results := [.lit (.bool false)], args := [d1, d2, d3, d4, d5, d6] }
  | _ => none }
def SessionVerdictsWrongFalsely : Prop := sessionVerdictsRow.holds Try.pinned (OpenSpec.ofChange sessionVerdictsWrong)

/-- 'comptorlaw08.SessionFew': WHATEVER THE INPUT: true; the input reads as it did. -/
def sessionFewSpec : ChangeSpec := { name := "sessionFew", fn := fun _ => fun
  | [d1, d2, d3] => { results := [.lit (.bool true)], args := [d1, d2, d3] }
  | _ => none }
def sessionFewRow : OpenClaim := { program := "ytnojcgaoepfcdaa", sum := "9bda99c4917a72273f57f8da768eff11569d3cd9a47e164dd811da34f530ce02", func := "comptor/comptorlaw08.SessionFew", spec := "sessionFew", unfollowed := true, recurses := true, apart := false }
def SessionFewSaid : Prop := sessionFewRow.holds Try.pinned (OpenSpec.ofChange sessionFewSpec)

/-- ITS FALSE NEIGHBOUR: 'it returns false'. Refute it at one input. -/
def sessionFewWrong : ChangeSpec := { name := "sessionFew", fn := fun _ => fun
  | [d1, d2, d3] => { results := [.lit (.bool false)], args := [d1, d2, d3] }
  | _ => none }
def SessionFewWrongFalsely : Prop := sessionFewRow.holds Try.pinned (OpenSpec.ofChange sessionFewWrong)

/-- 'comptorlaw08.SessionPlays': WHATEVER THE INPUT: true; the input reads as it did. -/
def sessionPlaysSpec : ChangeSpec := { name := "sessionPlays", fn := fun _ => fun
  | [d] => { results := [.lit (.bool true)], args := [d] }
  | _ => none }
def sessionPlaysRow : OpenClaim := { program := "ytnojcgaoepfcdaa", sum := "9bda99c4917a72273f57f8da768eff11569d3cd9a47e164dd811da34f530ce02", func := "comptor/comptorlaw08.SessionPlays", spec := "sessionPlays", inPlace := ["internal/bytealg.MakeNoZero"], unfollowed := true, recurses := true, apart := false }
def SessionPlaysSaid : Prop := sessionPlaysRow.holds Try.pinned (OpenSpec.ofChange sessionPlaysSpec)

/-- ITS FALSE NEIGHBOUR: 'it returns false'. Refute it at one input. -/
def sessionPlaysWrong : ChangeSpec := { name := "sessionPlays", fn := fun _ => fun
  | [d] => { results := [.lit (.bool false)], args := [d] }
  | _ => none }
def SessionPlaysWrongFalsely : Prop := sessionPlaysRow.holds Try.pinned (OpenSpec.ofChange sessionPlaysWrong)

/-- 'comptorlaw08.SessionNil': WHATEVER THE INPUT: true; the input reads as it did. -/
def sessionNilSpec : ChangeSpec := { name := "sessionNil", fn := fun _ => fun
  | [d] => { results := [.lit (.bool true)], args := [d] }
  | _ => none }
def sessionNilRow : OpenClaim := { program := "ytnojcgaoepfcdaa", sum := "9bda99c4917a72273f57f8da768eff11569d3cd9a47e164dd811da34f530ce02", func := "comptor/comptorlaw08.SessionNil", spec := "sessionNil", inPlace := ["internal/bytealg.MakeNoZero"], unfollowed := true, recurses := true, apart := false }
def SessionNilSaid : Prop := sessionNilRow.holds Try.pinned (OpenSpec.ofChange sessionNilSpec)

/-- ITS FALSE NEIGHBOUR: 'it returns false'. Refute it at one input. -/
def sessionNilWrong : ChangeSpec := { name := "sessionNil", fn := fun _ => fun
  | [d] => { results := [.lit (.bool false)], args := [d] }
  | _ => none }
def SessionNilWrongFalsely : Prop := sessionNilRow.holds Try.pinned (OpenSpec.ofChange sessionNilWrong)

/-- 'comptorlaw08.SessionBack': WHATEVER THE INPUT: true; the input reads as it did. -/
def sessionBackSpec : ChangeSpec := { name := "sessionBack", fn := fun _ => fun
  | [d] => { results := [.lit (.bool true)], args := [d] }
  | _ => none }
def sessionBackRow : OpenClaim := { program := "ytnojcgaoepfcdaa", sum := "9bda99c4917a72273f57f8da768eff11569d3cd9a47e164dd811da34f530ce02", func := "comptor/comptorlaw08.SessionBack", spec := "sessionBack", inPlace := ["internal/bytealg.MakeNoZero"], unfollowed := true, recurses := true, apart := false }
def SessionBackSaid : Prop := sessionBackRow.holds Try.pinned (OpenSpec.ofChange sessionBackSpec)

/-- ITS FALSE NEIGHBOUR: 'it returns false'. Refute it at one input. -/
def sessionBackWrong : ChangeSpec := { name := "sessionBack", fn := fun _ => fun
  | [d] => { results := [.lit (.bool false)], args := [d] }
  | _ => none }
def SessionBackWrongFalsely : Prop := sessionBackRow.holds Try.pinned (OpenSpec.ofChange sessionBackWrong)

/- THE SECOND FORM. 'bulk': how many values and letters a reading holds, each counted each time it is reached (what is shared counts as often as it is met; a slice's spare places count too). A statement '..UptoSaid' is the law's where the arguments, and the package variables that the reading takes, are together of bulk at most 1048576: NARROWER than '..Said'. Prove '..Said' where nothing that the law and all that it calls make is longer than what came in: it says more and counts as full. Else prove '..UptoSaid'. A law counts once. -/
mutual
def uptoBulk {H : Type} : DataW H → Nat
  | .lit (.string bytes) => bytes.length + 1
  | .lit _ => 1
  | .nil => 1
  | .ptr d => uptoBulk d + 1
  | .slice elems spare => uptoBulkAll elems + uptoBulkAll spare + 1
  | .agg parts => uptoBulkAll parts + 1
  | .iface _ d => uptoBulk d + 1
  | .map entries => uptoBulkEntries entries + 1
  | .held _ => 1
def uptoBulkAll {H : Type} : List (DataW H) → Nat
  | [] => 0
  | d :: r => uptoBulk d + uptoBulkAll r
def uptoBulkEntries {H : Type} : List (Lit × DataW H) → Nat
  | [] => 0
  | x :: r => uptoBulkEntry x + uptoBulkEntries r
def uptoBulkEntry {H : Type} : Lit × DataW H → Nat
  | (.string bytes, d) => bytes.length + uptoBulk d + 1
  | (_, d) => uptoBulk d + 1
 end
def uptoSmall : (H : Type) → List (DataW H) → Bool := fun _ ds => decide (uptoBulkAll ds ≤ 1048576)
def OpenSpec.upto (s : _root_.Go.ChangeSpec) : _root_.Go.OpenSpec := { _root_.Go.OpenSpec.ofChange s with cond := some uptoSmall }

/-- 'comptorlaw08.SessionVerdicts', WHERE WHAT IT READS IS OF BULK AT MOST 1048576: true; the input reads as it did. -/
def sessionVerdictsUptoRow : OpenClaim := { program := "ytnojcgaoepfcdaa", sum := "9bda99c4917a72273f57f8da768eff11569d3cd9a47e164dd811da34f530ce02", func := "comptor/comptorlaw08.SessionVerdicts", spec := "sessionVerdicts", unfollowed := true, recurses := true, apart := false, narrowed := true }
def SessionVerdictsUptoSaid : Prop := sessionVerdictsUptoRow.holds Try.pinned (OpenSpec.upto sessionVerdictsSpec)

/-- 'comptorlaw08.SessionFew', WHERE WHAT IT READS IS OF BULK AT MOST 1048576: true; the input reads as it did. -/
def sessionFewUptoRow : OpenClaim := { program := "ytnojcgaoepfcdaa", sum := "9bda99c4917a72273f57f8da768eff11569d3cd9a47e164dd811da34f530ce02", func := "comptor/comptorlaw08.SessionFew", spec := "sessionFew", unfollowed := true, recurses := true, apart := false, narrowed := true }
def SessionFewUptoSaid : Prop := sessionFewUptoRow.holds Try.pinned (OpenSpec.upto sessionFewSpec)

/-- 'comptorlaw08.SessionPlays', WHERE WHAT IT READS IS OF BULK AT MOST 1048576: true; the input reads as it did. -/
def sessionPlaysUptoRow : OpenClaim := { program := "ytnojcgaoepfcdaa", sum := "9bda99c4917a72273f57f8da768eff11569d3cd9a47e164dd811da34f530ce02", func := "comptor/comptorlaw08.SessionPlays", spec := "sessionPlays", inPlace := ["internal/bytealg.MakeNoZero"], unfollowed := true, recurses := true, apart := false, narrowed := true }
def SessionPlaysUptoSaid : Prop := sessionPlaysUptoRow.holds Try.pinned (OpenSpec.upto sessionPlaysSpec)

/-- 'comptorlaw08.SessionNil', WHERE WHAT IT READS IS OF BULK AT MOST 1048576: true; the input reads as it did. -/
def sessionNilUptoRow : OpenClaim := { program := "ytnojcgaoepfcdaa", sum := "9bda99c4917a72273f57f8da768eff11569d3cd9a47e164dd811da34f530ce02", func := "comptor/comptorlaw08.SessionNil", spec := "sessionNil", inPlace := ["internal/bytealg.MakeNoZero"], unfollowed := true, recurses := true, apart := false, narrowed := true }
def SessionNilUptoSaid : Prop := sessionNilUptoRow.holds Try.pinned (OpenSpec.upto sessionNilSpec)

/-- 'comptorlaw08.SessionBack', WHERE WHAT IT READS IS OF BULK AT MOST 1048576: true; the input reads as it did. -/
def sessionBackUptoRow : OpenClaim := { program := "ytnojcgaoepfcdaa", sum := "9bda99c4917a72273f57f8da768eff11569d3cd9a47e164dd811da34f530ce02", func := "comptor/comptorlaw08.SessionBack", spec := "sessionBack", inPlace := ["internal/bytealg.MakeNoZero"], unfollowed := true, recurses := true, apart := false, narrowed := true }
def SessionBackUptoSaid : Prop := sessionBackUptoRow.holds Try.pinned (OpenSpec.upto sessionBackSpec)

end Rows
end Go.Proofs.Ytnojcgaoepfcdaa
