/-
  What happens to a disk with superblocks: in plain lists.
-/
import Derived.Test.YtbfdnpahojoccaaSup13
import Derived.Test.YtbfdnpahojoccaaSupB
import Derived.Test.YtbfdnpahojoccaaSup11
import Derived.Test.YtbfdnpahojoccaaRef3C
import Derived.Test.YtbfdnpahojoccaaRef3D
import Derived.Test.YtbfdnpahojoccaaRef3E
import Derived.Test.YtbfdnpahojoccaaDiskB
set_option linter.unusedSimpArgs false
set_option linter.unusedVariables false
set_option linter.unusedSectionVars false
set_option maxRecDepth 100000
namespace Go.Cmp
open Go.RowKit
structure SAct where
  kind : Int
  s : Sup
  i : Int
  pos : Int
  n : Int
  picks : List Int
deriving Inhabited
def SAct.cells (x : SAct) (v : Value) : List Value := .int .i64 x.kind :: (x.s.cells ++ [.int .i64 x.i, .int .i64 x.pos, .int .i64 x.n, v])
def sactCells (x : SAct × Value) : List Value := x.1.cells x.2
structure SActOk (w : World) (X : SAct × Value) : Prop where
  u : X.1.s.U64
  n1 : -9223372036854775808 ≤ X.1.n
  n2 : X.1.n ≤ 9223372036854775807
  picks : ∀ p ∈ X.1.picks, p ≤ 9223372036854775807
  rd : Rd w 1 X.2 X.1.picks.length (X.1.picks.flatMap num)
theorem sact_one {x : SAct} {v : Value} (h : v.oneCell' = true) : ∀ u ∈ x.cells v, u.oneCell' = true := by
  intro u hu
  unfold SAct.cells at hu
  rcases List.mem_cons.1 hu with rfl | hu
  · rfl
  · rcases List.mem_append.1 hu with hu | hu
    · exact sup_one _ u hu
    · simp only [List.mem_cons, List.not_mem_nil, or_false] at hu
      rcases hu with rfl | rfl | rfl | rfl
      · rfl
      · rfl
      · rfl
      · exact h
/-- What is done, and the answer. -/
def deedS (D : Dsk) (x : SAct) : Int × Dsk :=
  if x.kind = 1 then writeU x.s D else if x.kind = 2 then D.setFuse x.n else if x.kind = 3 then D.cut else if x.kind = 4 then D.start x.picks
  else if x.kind = 5 then D.rot x.i x.pos x.n else if x.kind = 6 then writeU (nextU (readU D).1) D else (0, D)
structure LivedS (j : Nat) (D : Dsk) : Prop where
  ok : D.Ok
  ways : D.way.length ≤ 8 * j
  steps : D.steps ≤ 8 * j
  len : D.lasts.length = 5
theorem livedS_next {j : Nat} {D : Dsk} (h : LivedS j D) {D' : Dsk} (n : Dsk.Next D D') : LivedS (j + 1) D' := by
  have a := h.ways
  have b := h.steps
  have c := n.way
  have d := n.steps
  exact ⟨n.ok, by omega, by omega, n.len.trans h.len⟩
theorem livedS_write {j : Nat} {D : Dsk} (h : LivedS j D) (hj : j < 30) (s : Sup) : LivedS (j + 1) (writeU s D).2 := by
  have a := h.ways
  have b := h.steps
  obtain ⟨c, d, e, f⟩ := writeU_next s h.ok (by omega) (by omega)
  exact ⟨c, by omega, by omega, f.trans h.len⟩
theorem livedS_act {j : Nat} {D : Dsk} (h : LivedS j D) (hj : j < 30) (x : SAct) (hn : x.n ≤ 9223372036854775807) : LivedS (j + 1) (deedS D x).2 := by
  unfold deedS
  split
  · exact livedS_write h hj _
  · split
    · exact livedS_next h (Dsk.fuse_next h.ok _ hn)
    · split
      · exact livedS_next h (Dsk.cut_next h.ok)
      · split
        · exact livedS_next h (Dsk.start_next h.ok _)
        · split
          · exact livedS_next h (Dsk.rot_next h.ok _ _ _)
          · split
            · exact livedS_write h hj _
            · exact livedS_next h (.same h.ok)
end Go.Cmp
namespace Go.Proofs.Ytbfdnpahojoccaa
open Go.RowKit Go.Cmp
theorem livedS_start : LivedS 0 (newDsk 5) := ⟨newDsk_ok 5 (by omega), by simp [newDsk], by simp [newDsk], by simp [newDsk]⟩
end Go.Proofs.Ytbfdnpahojoccaa
