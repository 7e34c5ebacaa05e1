/-
  The statement on transfers: the walk.
-/
import Derived.Test.YtggngdjncokanaaPutTra
set_option linter.unusedSimpArgs false
set_option linter.unusedVariables false
set_option linter.unusedSectionVars false
namespace Go.Proofs.Ytggngdjncokanaa
open Go.RowKit Go.Cmp

theorem gTra_by (x : Tra) (h : x.Ok) (s : List UInt8) (hs : byTra x = some s) : s.length = 32 ∧ gTra s = x := by
  simp only [byTra, Option.some.injEq] at hs
  subst hs
  obtain ⟨a, b, c, d⟩ := x
  obtain ⟨h1, h2, h3, h4⟩ := h
  have e8 : ∀ (n : Nat) (r : List UInt8), (leB 8 n ++ r).take 8 = leB 8 n := fun n r => List.take_left' (leB_length _ _)
  have d8 : ∀ (n : Nat) (r : List UInt8), (leB 8 n ++ r).drop 8 = r := fun n r => List.drop_left' (leB_length _ _)
  have t8 : ∀ n : Nat, (leB 8 n).take 8 = leB 8 n := fun n => List.take_of_length_le (by rw [leB_length]; exact Nat.le_refl _)
  have r8 : ∀ n : Nat, n < 256 ^ 8 → leN (leB 8 n) = n := fun n h => by rw [leN_leB, Nat.mod_eq_of_lt h]
  constructor
  · simp [leB_length]
  · unfold gTra
    simp only [List.append_assoc] at *
    have w16 : ∀ l : List UInt8, l.drop 16 = (l.drop 8).drop 8 := fun l => by rw [List.drop_drop]
    have w24 : ∀ l : List UInt8, l.drop 24 = ((l.drop 8).drop 8).drop 8 := fun l => by rw [List.drop_drop, List.drop_drop]
    rw [w16, w24]
    simp only [e8, d8, t8]
    rw [r8 _ h1, r8 _ h2, r8 _ h3, r8 _ h4]

theorem flatMap_take {α : Type} (val : α → List Value) (k : Nat) (hv : ∀ x, (val x).length = k) : ∀ (xs : List α) (m : Nat), (xs.flatMap val).take (m * k) = (xs.take m).flatMap val
  | [], m => by simp
  | x :: xs, 0 => by simp
  | x :: xs, m + 1 => by
    rw [List.take_succ_cons, List.flatMap_cons, List.flatMap_cons, ← flatMap_take val k hv xs m, Nat.succ_mul, Nat.add_comm, ← hv x, List.take_length_add_append]

end Go.Proofs.Ytggngdjncokanaa
