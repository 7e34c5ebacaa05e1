/-
  A superblock is written on a disk of noughts; in plain lists.
-/
import Derived.Test.YtbfdnpahojoccaaSupWrite
import Derived.Test.YtbfdnpahojoccaaAw12Spec
set_option linter.unusedSimpArgs false
set_option linter.unusedVariables false
set_option linter.unusedSectionVars false
set_option maxRecDepth 100000
namespace Go.Cmp
open Go.RowKit
namespace Dsk
theorem write_eq {D : Dsk} (ho : D.off = false) (hw : D.way = []) {i : Nat} (hi : i < D.lasts.length) {X : List UInt8} (hX : X.length = 384) :
    D.write (i : Int) X = if D.fuse = 1 then (6, { D with steps := D.steps + 1, fuse := 0, off := true }) else (0, { D with steps := D.steps + 1, fuse := max 0 (D.fuse - 1), way := [⟨(i : Int), X⟩] }) := by
  have his : D.is (i : Int) = true := by unfold is; simp; omega
  have hc : ¬ (D.is (i : Int) = false ∨ (X.length : Int) ≠ 384) := by rw [his, hX]; simp
  unfold write step
  rw [if_neg hc, if_neg (by rw [ho]; simp)]
  by_cases hf : D.fuse = 1
  · rw [if_pos hf, if_pos hf, if_pos rfl]
  · rw [if_neg hf, if_neg hf, if_neg (by simp), hw]
    rfl
theorem flush_eq {D : Dsk} (ho : D.off = false) : D.flush = if D.fuse = 1 then (6, { D with steps := D.steps + 1, fuse := 0, off := true }) else (0, { ({ D with steps := D.steps + 1, fuse := max 0 (D.fuse - 1) } : Dsk).puts D.way with way := [] }) := by
  unfold flush step
  rw [if_neg (by rw [ho]; simp)]
  by_cases hf1 : D.fuse = 1
  · rw [if_pos hf1, if_pos hf1, if_pos rfl]
  · rw [if_neg hf1, if_neg hf1, if_neg (by simp)]
theorem copy_on {D : Dsk} (ho : D.off = false) (hw : D.way = []) (hf : D.fuse = 0) {i : Nat} (hi : i < D.lasts.length) {X : List UInt8} (hX : X.length = 384) :
    D.write (i : Int) X = (0, { D with way := [⟨(i : Int), X⟩], steps := D.steps + 1, fuse := 0 }) ∧
    ({ D with way := [⟨(i : Int), X⟩], steps := D.steps + 1, fuse := 0 } : Dsk).flush = (0, { D with lasts := D.lasts.set i X, mark := D.mark.set i false, way := [], steps := D.steps + 1 + 1, fuse := 0 }) := by
  have hm : max 0 (D.fuse - 1) = 0 := by omega
  constructor
  · rw [write_eq ho hw hi hX, if_neg (by omega), hm]
  · rw [flush_eq (show ({ D with way := [⟨(i : Int), X⟩], steps := D.steps + 1, fuse := 0 } : Dsk).off = false from ho), if_neg (by simp)]
    simp only [puts, List.foldl_cons, List.foldl_nil, put, Int.toNat_natCast]
    rfl
def fresh : Dsk := ⟨[nought, nought, nought, nought], [false, false, false, false], [], false, 0, 0⟩
theorem nextG_nought : nextG nought = 1 := by
  unfold nextG
  rw [if_neg (by unfold nought; simp)]
  have : nth nought (nought.length - 1) = 0 := by unfold nth nought; rw [List.length_replicate, List.getD_eq_getElem?_getD, List.getElem?_replicate, if_pos (by omega)]; rfl
  rw [this]
  rfl
/-- One copy that has none is written. -/
theorem writes_step {s : Sup} {k i : Nat} {D : Dsk} (ho : D.off = false) (hw : D.way = []) (hf : D.fuse = 0) (hi : i < D.lasts.length) (hn : nth D.lasts i = nought) :
    writesU s (k + 1) i D = writesU s k (i + 1) { D with lasts := D.lasts.set i (sealed 1 (supB s)), mark := D.mark.set i false, way := [], steps := D.steps + 1 + 1, fuse := 0 } := by
  have e1 := oneU_at ho hw hi
  rw [hn, hasU_bad openS_nought] at e1
  have hseal : sealS nought (supB s) = (sealed 1 (supB s), 0) := by unfold sealS; rw [if_neg (by rw [supB_len]; omega), nextG_nought]
  obtain ⟨w1, f1⟩ := copy_on ho hw hf hi (X := sealed 1 (supB s)) (sealed_len (by rw [supB_len]; omega))
  conv => lhs; unfold writesU
  rw [e1]
  simp only [ne_eq, not_true_eq_false, if_false, Bool.false_eq_true, false_and, hseal, w1, f1]
theorem fresh_writes (s : Sup) : writesU s 4 0 fresh = (0, ⟨[sealed 1 (supB s), sealed 1 (supB s), sealed 1 (supB s), sealed 1 (supB s)], [false, false, false, false], [], false, 0, 8⟩) := by
  rw [writes_step rfl rfl rfl (show (0 : Nat) < 4 by omega) rfl, writes_step rfl rfl rfl (show (1 : Nat) < 4 by omega) rfl, writes_step rfl rfl rfl (show (2 : Nat) < 4 by omega) rfl, writes_step rfl rfl rfl (show (3 : Nat) < 4 by omega) rfl]
  rfl
theorem fresh_write {s : Sup} (hr : s.right = true) : writeU s fresh = (0, ⟨[sealed 1 (supB s), sealed 1 (supB s), sealed 1 (supB s), sealed 1 (supB s)], [false, false, false, false], [], false, 0, 8⟩) := by
  unfold writeU
  rw [if_neg (by simp [hr])]
  exact fresh_writes s
theorem fresh_read : readU fresh = (zeroU, 0, 11) := by
  have h : ∀ i : Nat, i < 4 → hasU (fresh.read (i : Int)).1 = (zeroU, false) := fun i hi => by
    rw [read_lasts rfl rfl (by exact hi)]
    have : nth fresh.lasts i = nought := by
      match i, hi with
      | 0, _ => rfl
      | 1, _ => rfl
      | 2, _ => rfl
      | 3, _ => rfl
    rw [this, hasU_bad openS_nought]
  have e : copies fresh 4 = [(zeroU, false), (zeroU, false), (zeroU, false), (zeroU, false)] := by
    have h0 := h 0 (by omega)
    have h1 := h 1 (by omega)
    have h2 := h 2 (by omega)
    have h3 := h 3 (by omega)
    show [hasU (fresh.read ((0 : Nat) : Int)).1, hasU (fresh.read ((1 : Nat) : Int)).1, hasU (fresh.read ((2 : Nat) : Int)).1, hasU (fresh.read ((3 : Nat) : Int)).1] = [_, _, _, _]
    rw [h0, h1, h2, h3]
  unfold readU
  rw [if_neg (by decide), e]
  rfl
end Dsk
end Go.Cmp
