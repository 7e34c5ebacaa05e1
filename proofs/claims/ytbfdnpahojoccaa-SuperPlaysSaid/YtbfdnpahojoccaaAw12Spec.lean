/-
  The chapter's examples: the document's answers, in plain lists.
-/
import Derived.Test.YtbfdnpahojoccaaSlotP
import Derived.Test.YtbfdnpahojoccaaCrc
set_option linter.unusedSimpArgs false
set_option linter.unusedVariables false
set_option linter.unusedSectionVars false
set_option maxRecDepth 100000
namespace Go.Cmp
open Go.RowKit
theorem stepsN_add : ∀ (n m r : Nat), stepsN (n + m) r = stepsN m (stepsN n r)
  | 0, m, r => by rw [Nat.zero_add]; rfl
  | n + 1, m, r => by rw [Nat.add_right_comm]; exact stepsN_add n m (bitStep r)
theorem crcF_zeros : ∀ (n r : Nat), crcF r (List.replicate n 0) = stepsN (8 * n) r
  | 0, _ => rfl
  | n + 1, r => by
    rw [List.replicate_succ]
    show crcF (crcB r 0) (List.replicate n 0) = _
    rw [crcF_zeros n, show 8 * (n + 1) = 8 + 8 * n by omega, stepsN_add]
    show stepsN (8 * n) (stepsN 8 (r ^^^ 0)) = _
    rw [Nat.xor_zero]
theorem steps_0 : stepsN 256 4294967295 = 1970194773 := by kernel_rfl
theorem steps_1 : stepsN 256 1970194773 = 4231468184 := by kernel_rfl
theorem steps_2 : stepsN 256 4231468184 = 2920151892 := by kernel_rfl
theorem steps_3 : stepsN 256 2920151892 = 4158167844 := by kernel_rfl
theorem steps_4 : stepsN 256 4158167844 = 475290725 := by kernel_rfl
theorem steps_5 : stepsN 256 475290725 = 2345306063 := by kernel_rfl
theorem steps_6 : stepsN 256 2345306063 = 3070562025 := by kernel_rfl
theorem steps_7 : stepsN 256 3070562025 = 1200442991 := by kernel_rfl
theorem steps_8 : stepsN 256 1200442991 = 3226162417 := by kernel_rfl
theorem steps_9 : stepsN 256 3226162417 = 64332339 := by kernel_rfl
theorem steps_10 : stepsN 256 64332339 = 3784981021 := by kernel_rfl
theorem steps_11 : stepsN 216 3784981021 = 1664106139 := by kernel_rfl
theorem steps_all : stepsN 3032 4294967295 = 1664106139 := by
  rw [show 3032 = 256 + 2776 by omega, stepsN_add, steps_0]
  rw [show 2776 = 256 + 2520 by omega, stepsN_add, steps_1]
  rw [show 2520 = 256 + 2264 by omega, stepsN_add, steps_2]
  rw [show 2264 = 256 + 2008 by omega, stepsN_add, steps_3]
  rw [show 2008 = 256 + 1752 by omega, stepsN_add, steps_4]
  rw [show 1752 = 256 + 1496 by omega, stepsN_add, steps_5]
  rw [show 1496 = 256 + 1240 by omega, stepsN_add, steps_6]
  rw [show 1240 = 256 + 984 by omega, stepsN_add, steps_7]
  rw [show 984 = 256 + 728 by omega, stepsN_add, steps_8]
  rw [show 728 = 256 + 472 by omega, stepsN_add, steps_9]
  rw [show 472 = 256 + 216 by omega, stepsN_add, steps_10]
  exact steps_11
def nought : List UInt8 := List.replicate 384 0
theorem aheadB_nought : aheadB 0 [] = List.replicate 379 0 := by
  show [0, 0, 0] ++ List.replicate 376 0 = _
  rw [show ([0, 0, 0] : List UInt8) = List.replicate 3 0 from rfl, List.replicate_append_replicate]
theorem sumOf_zeros (n : Nat) : sumOf (List.replicate n 0) = 4294967295 - stepsN (8 * n) (4294967295 - 0) := by
  unfold sumOf addC
  rw [crcF_zeros]
theorem sumOf_nought : sumOf (List.replicate 379 0) = 2630861156 := by
  have h1 : ∀ k r, k = 3032 → r = 4294967295 → stepsN k r = 1664106139 := fun k r hk hr => by subst hk; subst hr; exact steps_all
  rw [sumOf_zeros, h1 (8 * 379) (4294967295 - 0) (by omega) (by omega)]
theorem openS_nought : openS nought = ([], false) := by
  have hd : (nought.drop 1).take 2 = [0, 0] := by unfold nought; rw [List.drop_replicate, List.take_replicate]; rfl
  have hnl : nought.length = 384 := List.length_replicate
  have hl2 : leN [0, 0] = 0 := rfl
  have ht : takeT nought 1 376 = ([], 3, 0) := by
    unfold takeT
    rw [hd, hl2, hnl]
    rfl
  have hn : nth nought 0 = 0 := rfl
  unfold openS
  rw [ht, hn, if_neg]
  rintro ⟨_, h, _⟩
  unfold sealed at h
  rw [aheadB_nought, sumOf_nought] at h
  have e1 : nth (List.replicate 379 0 ++ leB 4 2630861156 ++ [0]) 379 = nth (leB 4 2630861156 ++ [0]) 0 := by
    rw [List.append_assoc, nth_append, if_neg (by rw [List.length_replicate]; omega), List.length_replicate]
  have e2 : nth nought 379 = 0 := by unfold nth nought; rw [List.getD_eq_getElem?_getD, List.getElem?_replicate, if_pos (by omega)]; rfl
  rw [h, e2] at e1
  revert e1
  decide
def e0 : En := ⟨0, 3, 0, 0, 1, 0, 0, 1, []⟩
theorem e0_right : e0.right = true := by decide
theorem prep0 : prepS [] e0 = (sealed 1 (packE e0).1, 0) := by
  have h := packE_ok e0_right
  have hl := packE_len e0
  unfold prepS
  rw [if_pos (by rw [h])]
  unfold sealS
  rw [if_neg (by omega)]
  rfl
theorem void0 : voidS [] = sealed 1 [] := rfl
theorem jud1 : judgeS (sealed 1 []) (sealed 1 []) 1 = zeroI := by
  unfold judgeS
  rw [stbP_void]
  rfl
theorem stb_nought : stbP nought = (zeroB, false, false) := by unfold stbP; rw [openS_nought]; rfl
theorem ent_nought : entP nought = (zeroE, false, false) := by unfold entP; rw [openS_nought]; rfl
theorem jud2 : judgeS (sealed 1 (packE e0).1) nought 3 = ⟨1, stubE e0, e0⟩ := by
  unfold judgeS
  rw [stb_nought, entP_sealed e0_right (by decide)]
  rfl
theorem jud3 : judgeS (sealed 1 (packE e0).1) nought 11 = zeroI := by
  unfold judgeS
  rw [stb_nought, entP_sealed e0_right (by decide)]
  rfl
theorem jud4 : judgeS nought nought 3 = ⟨3, zeroB, zeroE⟩ := by
  unfold judgeS
  rw [stb_nought, ent_nought]
  rfl
end Go.Cmp
