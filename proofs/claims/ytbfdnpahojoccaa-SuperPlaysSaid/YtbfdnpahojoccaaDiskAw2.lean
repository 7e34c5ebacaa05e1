/-
  The chapter's example.
-/
import Derived.Test.YtbfdnpahojoccaaDiskAw
import Derived.Test.YtbfdnpahojoccaaDiskP
set_option linter.unusedSimpArgs false
set_option linter.unusedVariables false
set_option linter.unusedSectionVars false
set_option maxRecDepth 100000
namespace Go.Proofs.Ytbfdnpahojoccaa
open Go.RowKit Go.Cmp

section
variable {S : List Nat} {w0 w : World} {M : List Ent} {g : Nat} {D : Dsk}

theorem step_idle (h : D.fuse = 0) : D.step = (true, { D with steps := D.steps + 1 }) := by
  unfold Dsk.step
  rw [if_neg (by omega), h]
  cases D
  simp only at h
  subst h
  rfl
theorem write_on {i : Int} {t : List UInt8} (hi : 0 ≤ i) (hi2 : i < D.lasts.length) (ht : t.length = 384) (ho : D.off = false) (hf : D.fuse = 0) :
    D.write i t = (0, { D with way := D.way ++ [⟨i, t⟩], steps := D.steps + 1 }) := by
  have hd : D.is i = true := by simp [Dsk.is, hi, hi2]
  unfold Dsk.write
  rw [if_neg (by rw [hd, ht]; simp), if_neg (by rw [ho]; simp), step_idle hf]
  rfl
theorem flush_on (ho : D.off = false) (hf : D.fuse = 0) : D.flush = (0, { ({ D with steps := D.steps + 1 } : Dsk).puts D.way with way := [] }) := by
  unfold Dsk.flush
  rw [if_neg (by rw [ho]; simp), step_idle hf]
  rfl
theorem cut_on (ho : D.off = false) : D.cut = (0, { D with off := true, fuse := 0 }) := by unfold Dsk.cut; rw [if_neg (by rw [ho]; simp)]
theorem start_off (ho : D.off = true) (picks : List Int) : D.start picks = (0, { D.settles picks 0 D.way with way := [], off := false }) := by unfold Dsk.start; rw [if_neg (by rw [ho]; simp)]
theorem read_on {i : Int} (hi : 0 ≤ i) (hi2 : i < D.lasts.length) (ho : D.off = false) : D.read i = ((Dsk.under i D.way).getD (nth D.lasts i.toNat), 0) := by
  have hd : D.is i = true := by simp [Dsk.is, hi, hi2]
  unfold Dsk.read
  rw [if_neg (by rw [hd]; simp), if_neg (by rw [ho]; simp)]

end
end Go.Proofs.Ytbfdnpahojoccaa
