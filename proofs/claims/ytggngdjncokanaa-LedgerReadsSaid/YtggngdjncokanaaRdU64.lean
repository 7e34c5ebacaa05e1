/-
  Numbers that came in.
-/
import Derived.Test.YtggngdjncokanaaEvRd
set_option linter.unusedSimpArgs false
set_option linter.unusedVariables false
set_option linter.unusedSectionVars false
namespace Go.Proofs.Ytggngdjncokanaa
open Go.RowKit Go.Cmp Go.ChangeShapes Go.WideShapes Go.Deep
set_option maxRecDepth 100000
def U64Ok (x : Nat) : Prop := x < 256 ^ 8
def U64c (x : Nat) : List Value := [.int .u64 (x : Int)]
section
variable {H : Type} {enc : TypeId × Value → H} {w : World} {base : Nat} {spare : Nat → Bool} {held : Bool}
theorem u64_el {n : Nat} {cs : List Value} {y : DataW H × List MemPlace} (hl : cs.length = 1) (h : DataW.trod enc Try.prog w base spare held n 43 cs = some y) : ∃ X : Nat, U64Ok X ∧ cs = U64c X := by
  match cs, hl with
  | [c0], _ =>
    obtain ⟨k, h1, rfl⟩ := u64_of (c := c0) h (by simp)
    exact ⟨k, h1, rfl⟩
end
end Go.Proofs.Ytggngdjncokanaa
