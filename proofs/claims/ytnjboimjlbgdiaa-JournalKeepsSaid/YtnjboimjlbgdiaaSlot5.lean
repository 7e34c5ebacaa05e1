/-
  Slots: the program judges them.
-/
import Derived.Test.YtnjboimjlbgdiaaSlot5a
import Derived.Test.YtnjboimjlbgdiaaSlot5b
import Derived.Test.YtnjboimjlbgdiaaSlot5c
set_option linter.unusedSimpArgs false
set_option linter.unusedVariables false
set_option linter.unusedSectionVars false
set_option maxRecDepth 100000
namespace Go.Proofs.Ytnjboimjlbgdiaa
open Go.RowKit Go.Cmp
set_option maxRecDepth 100000

section
variable {S : List Nat} {w0 w : World} {M : List Ent}
theorem slotJudge_any (p h : List UInt8) (n : Int) (hl : p.length ≤ 1000000) (hl2 : h.length ≤ 1000000) (w : World) :
    Calls Try.prog 27 #[.string ⟨p.toArray⟩, .string ⟨h.toArray⟩, .int .i64 n] w fun x w' => x = .returned (.agg (judgeS p h n).cells.toArray) ∧ St [] w w' [] := by
  cases hh : (entP p).2.1
  · exact slotJudge_c p h n hh hl hl2 w
  · by_cases hn : (entP p).1.op = n
    · exact slotJudge_a p h n ⟨hh, hn⟩ hl hl2 w
    · exact slotJudge_b p h n ⟨hh, hn⟩ hl hl2 w
end
end Go.Proofs.Ytnjboimjlbgdiaa
