/-
  The statement on accounts: the walk.
-/
import Derived.Test.YtggngdjncokanaaPutAcc
import Derived.Test.YtggngdjncokanaaTraLaw
set_option linter.unusedSimpArgs false
set_option linter.unusedVariables false
set_option linter.unusedSectionVars false
namespace Go.Proofs.Ytggngdjncokanaa
open Go.RowKit Go.Cmp

def Acc.bare (x : Acc) : Acc := ⟨x.id, x.flags, 0, 0⟩
theorem gAcc_by (x : Acc) (h : x.Ok) (s : List UInt8) (hs : byAcc x = some s) : s.length = 9 ∧ gAcc s = x.bare := by
  unfold byAcc at hs
  split at hs
  · rename_i hf
    simp only [Option.some.injEq] at hs
    subst hs
    obtain ⟨a, b, c, d⟩ := x
    obtain ⟨h1, _⟩ := h
    simp only at hf h1
    refine ⟨by simp [leB_length], ?_⟩
    unfold gAcc Acc.bare
    have e1 : ((leB 8 a ++ [fb b]).getD 8 0).toNat = b := by
      rw [List.getD_eq_getElem?_getD, List.getElem?_append_right (by rw [leB_length]; exact Nat.le_refl _), leB_length]
      have := fb_wrap b
      simp [IntKind.wrap, IntKind.signed, IntKind.bits] at this
      simp
      omega
    rw [e1, List.take_left' (leB_length _ _), leN_leB, Nat.mod_eq_of_lt h1]
  · cases hs

end Go.Proofs.Ytggngdjncokanaa
