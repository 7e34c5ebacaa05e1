/-
  The statement on what rots: the walk.
-/
import Derived.Test.YthddaflpoklglaaTearsLaw
import Derived.Test.YthddaflpoklglaaDisk6
namespace Go.Proofs.Ythddaflpoklglaa
open Go.RowKit Go.Cmp

section
variable {S : List Nat} {w0 w : World} {M : List Ent} {g : Nat} {D : Dsk}

theorem rot_bad {i at' mask : Int} (h : D.is i = false ∨ at' < 0 ∨ 384 ≤ at' ∨ mask < 1 ∨ 255 < mask) : D.rot i at' mask = (1, D) := by unfold Dsk.rot; rw [if_pos h]
theorem rot_busy {i at' mask : Int} (h : ¬ (D.is i = false ∨ at' < 0 ∨ 384 ≤ at' ∨ mask < 1 ∨ 255 < mask)) (h2 : D.way.any (fun x => x.sector == i) = true) : D.rot i at' mask = (10, D) := by unfold Dsk.rot; rw [if_neg h, if_pos h2]
theorem rot_twice {i at' mask : Int} (h : ¬ (D.is i = false ∨ at' < 0 ∨ 384 ≤ at' ∨ mask < 1 ∨ 255 < mask)) (h2 : D.way.any (fun x => x.sector == i) = false) (h3 : nth D.mark i.toNat = true) : D.rot i at' mask = (7, D) := by
  unfold Dsk.rot; rw [if_neg h, if_neg (by rw [h2]; exact Bool.false_ne_true), if_pos h3]
theorem rot_done {i at' mask : Int} (h : ¬ (D.is i = false ∨ at' < 0 ∨ 384 ≤ at' ∨ mask < 1 ∨ 255 < mask)) (h2 : D.way.any (fun x => x.sector == i) = false) (h3 : nth D.mark i.toNat = false) :
    D.rot i at' mask = (0, { D with lasts := D.lasts.set i.toNat (Dsk.turn (nth D.lasts i.toNat) at'.toNat mask), mark := D.mark.set i.toNat true }) := by
  unfold Dsk.rot; rw [if_neg h, if_neg (by rw [h2]; exact Bool.false_ne_true), if_neg (by rw [h3]; exact Bool.false_ne_true)]

/-- The disk ahead of the rot. -/
def rotted (z a b : List UInt8) (off : Bool) : Dsk := ⟨[a, a, z], [false, false, false], [⟨2, b⟩], off, 0, 4⟩

end
end Go.Proofs.Ythddaflpoklglaa
