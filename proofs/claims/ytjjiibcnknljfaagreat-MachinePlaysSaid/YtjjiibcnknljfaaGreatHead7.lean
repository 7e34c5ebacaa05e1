/-
  Bytes are read as headers: the program's Unpack.
-/
import Derived.Test.YtjjiibcnknljfaaGreatHead6
import Derived.Test.YtjjiibcnknljfaaGreatNth
set_option linter.unusedSimpArgs false
set_option linter.unusedVariables false
set_option linter.unusedSectionVars false
set_option maxRecDepth 100000
namespace Go.Proofs.YtjjiibcnknljfaaGreat
open Go.RowKit Go.Cmp
set_option maxRecDepth 100000

section
variable {S : List Nat} {w0 w : World} {M : List Ent}
def hrow (K : List Value) (I : List Int) (q : Value) (i : Nat) : List Value := K ++ (I.take i ++ List.replicate (8 - i) 0).map (fun n => .int .i64 n) ++ [q]
theorem hrow_set {a b c q : Value} {i1 i2 i3 i4 i5 i6 i7 i8 : Int} {i : Nat} (hi : i < 8) : (hrow [a, b, c] [i1, i2, i3, i4, i5, i6, i7, i8] q i).set (3 + i) (.int .i64 (nth [i1, i2, i3, i4, i5, i6, i7, i8] i)) = hrow [a, b, c] [i1, i2, i3, i4, i5, i6, i7, i8] q (i + 1) ∧ 3 + i < (hrow [a, b, c] [i1, i2, i3, i4, i5, i6, i7, i8] q i).length := by
  match i, hi with
  | 0, _ => exact ⟨rfl, by simp [hrow]⟩
  | 1, _ => exact ⟨rfl, by simp [hrow]⟩
  | 2, _ => exact ⟨rfl, by simp [hrow]⟩
  | 3, _ => exact ⟨rfl, by simp [hrow]⟩
  | 4, _ => exact ⟨rfl, by simp [hrow]⟩
  | 5, _ => exact ⟨rfl, by simp [hrow]⟩
  | 6, _ => exact ⟨rfl, by simp [hrow]⟩
  | 7, _ => exact ⟨rfl, by simp [hrow]⟩
theorem num8_take (s : List UInt8) (n i : Nat) (h : i + 8 ≤ n) : num8 (s.take n) i = num8 s i := by
  unfold num8
  rw [List.drop_take, List.take_take, Nat.min_eq_left (by omega)]
theorem int8_at (s : List UInt8) (i : Nat) (hi : i < 8) : nth [int8 s 24, int8 s 32, int8 s 40, int8 s 48, int8 s 56, int8 s 64, int8 s 72, int8 s 80] i = int8 s (24 + 8 * i) := by
  match i, hi with
  | 0, _ => rfl
  | 1, _ => rfl
  | 2, _ => rfl
  | 3, _ => rfl
  | 4, _ => rfl
  | 5, _ => rfl
  | 6, _ => rfl
  | 7, _ => rfl
end
end Go.Proofs.YtjjiibcnknljfaaGreat
