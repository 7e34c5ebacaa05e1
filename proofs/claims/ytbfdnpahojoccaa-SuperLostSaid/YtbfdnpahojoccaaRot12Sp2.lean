/-
  A slot of which one sector was turned, in plain lists.
-/
import Derived.Test.YtbfdnpahojoccaaRot12Spec
import Derived.Test.YtbfdnpahojoccaaLaysSpec
set_option linter.unusedSimpArgs false
set_option linter.unusedVariables false
set_option linter.unusedSectionVars false
set_option maxRecDepth 100000
namespace Go.Cmp
open Go.RowKit
def rotP (p : List UInt8) (a : Nat) (m : UInt8) : List UInt8 := p.set a (nth p a ^^^ m)
theorem rotP_len (p : List UInt8) (a : Nat) (m : UInt8) : (rotP p a m).length = p.length := by unfold rotP; rw [List.length_set]
theorem openS_rot {p : List UInt8} {a : Nat} {m : UInt8} (ho : (openS p).2 = true) (ha : a < 384) (hm : m ≠ 0) : openS (rotP p a m) = ([], false) := openS_turned ho ha hm
theorem prep_len {old : List UInt8} {e : En} (h : e.right = true) : (prepS old e).1.length = 384 := by
  rw [prepS_right h]
  have := packE_len e
  exact sealed_len (by omega)
theorem right_body {e : En} (hr : e.right = true) : e.body.length ≤ 200 := by
  have h := en_right_eq e
  rw [hr] at h
  have h := h.symm
  simp only [Bool.and_eq_true, decide_eq_true_eq] at h
  omega
theorem stubE_facts {e : En} (hp : e.parent < 18446744073709551616) : (stubE e).parent < 18446744073709551616 ∧ (stubE e).sum < 18446744073709551616 := by
  unfold stubE
  split
  · exact ⟨by show (0 : Nat) < _; omega, by show (0 : Nat) < _; omega⟩
  · exact ⟨hp, markSum_lt e hp⟩
theorem hdr_len {old : List UInt8} {e : En} (h : e.right = true) : (hdrS old (stubE e)).1.length = 384 := by
  rw [hdrS_right (stubE_right h)]
  exact sealed_len (by rw [stubB_len]; omega)
theorem prep_open {old : List UInt8} {e : En} (h : e.right = true) : (openS (prepS old e).1).2 = true := by
  rw [prepS_right h]
  have := packE_len e
  rw [openS_sealed (by omega)]
theorem hdr_open {old : List UInt8} {e : En} (h : e.right = true) : (openS (hdrS old (stubE e)).1).2 = true := by
  rw [hdrS_right (stubE_right h), openS_sealed (by rw [stubB_len]; omega)]
theorem entP_bad {p : List UInt8} (h : openS p = ([], false)) : entP p = (zeroE, false, false) := by unfold entP; rw [h]; rfl
theorem stbP_bad {p : List UInt8} (h : openS p = ([], false)) : stbP p = (zeroB, false, false) := by unfold stbP; rw [h]; rfl
theorem prep_ent {old : List UInt8} {e : En} (h : e.right = true) (hp : e.parent < 18446744073709551616) : entP (prepS old e).1 = (e, true, true) := by
  rw [prepS_right h]
  exact entP_sealed h hp
theorem hdr_stb {old : List UInt8} {e : En} (h : e.right = true) (hp : e.parent < 18446744073709551616) : stbP (hdrS old (stubE e)).1 = (stubE e, true, true) := by
  rw [hdrS_right (stubE_right h)]
  exact stbP_sealed (stubE_right h) (stubE_facts hp).1 (stubE_facts hp).2
theorem judge_rot0 {o1 o2 : List UInt8} {e : En} (h : e.right = true) (hp : e.parent < 18446744073709551616) {a : Nat} {m : UInt8} (ha : a < 384) (hm : m ≠ 0) : judgeS (rotP (prepS o1 e).1 a m) (hdrS o2 (stubE e)).1 e.op = ⟨2, stubE e, zeroE⟩ := by
  unfold judgeS
  rw [hdr_stb h hp, entP_bad (openS_rot (prep_open h) ha hm), if_pos rfl]
  simp only
  rw [if_neg (by simp [stubE_op h]), if_neg (by simp)]
theorem judge_rot1 {o1 o2 : List UInt8} {e : En} (h : e.right = true) (hp : e.parent < 18446744073709551616) {a : Nat} {m : UInt8} (ha : a < 384) (hm : m ≠ 0) : judgeS (prepS o1 e).1 (rotP (hdrS o2 (stubE e)).1 a m) e.op = ⟨1, stubE e, e⟩ := by
  unfold judgeS
  rw [stbP_bad (openS_rot (hdr_open h) ha hm), prep_ent h hp, if_neg (by simp)]
  simp only
  rw [if_neg (by simp), if_pos (by simp)]
theorem judge_rot2 {o1 o2 : List UInt8} {e : En} (h : e.right = true) {a : Nat} {m : UInt8} (ha : a < 384) (hm : m ≠ 0) : judgeS (rotP (prepS o1 e).1 a m) (rotP (hdrS o2 (stubE e)).1 a m) e.op = ⟨3, zeroB, zeroE⟩ := by
  unfold judgeS
  rw [stbP_bad (openS_rot (hdr_open h) ha hm), entP_bad (openS_rot (prep_open h) ha hm), if_neg (by simp)]
  simp only
  rw [if_pos trivial]
end Go.Cmp
