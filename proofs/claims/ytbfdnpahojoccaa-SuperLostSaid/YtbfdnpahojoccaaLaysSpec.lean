/-
  What is laid, in plain lists.
-/
import Derived.Test.YtbfdnpahojoccaaSlotSpec
set_option linter.unusedSimpArgs false
set_option linter.unusedVariables false
set_option linter.unusedSectionVars false
set_option maxRecDepth 100000
namespace Go.Cmp
open Go.RowKit
theorem nextG_seal (old s : List UInt8) (h : s.length ≤ 376) : sealS old s = (sealed (nextG old) s, 0) := by unfold sealS; rw [if_neg (by omega)]
theorem prepS_right {old : List UInt8} {e : En} (h : e.right = true) : prepS old e = (sealed (nextG old) (packE e).1, 0) := by
  have hl := packE_len e
  unfold prepS
  rw [packE_ok h]
  rw [packE_ok h] at hl
  rw [if_pos rfl, nextG_seal _ _ (by simp only at hl ⊢; omega)]
theorem prepS_bad {old : List UInt8} {e : En} (h : e.right = false) : prepS old e = ([], 4) := by unfold prepS; rw [packE_bad h, if_neg (by decide)]
theorem hdrS_right {old : List UInt8} {s : Stb} (h : s.right = true) : hdrS old s = (sealed (nextG old) (stubB s), 0) := by
  unfold hdrS
  rw [if_neg (by simp [h]), nextG_seal _ _ (by rw [stubB_len]; omega)]
theorem hdrS_bad {old : List UInt8} {s : Stb} (h : s.right = false) : hdrS old s = ([], 4) := by unfold hdrS; rw [if_pos h]
theorem openS_nil : openS [] = ([], false) := by unfold openS; rw [if_neg (by simp)]
theorem entP_nil : entP [] = (zeroE, false, false) := by unfold entP; rw [openS_nil]; rfl
theorem stbP_nil : stbP [] = (zeroB, false, false) := by unfold stbP; rw [openS_nil]; rfl
theorem voidS_eq (old : List UInt8) : voidS old = sealed (nextG old) [] := by unfold voidS; rw [nextG_seal _ _ (by simp)]
end Go.Cmp
