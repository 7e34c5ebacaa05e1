/-
  Where the first one stands, in plain lists.
-/
import Derived.Test.YtggngdjncokanaaDel
import Derived.Test.YtggngdjncokanaaCalm
set_option linter.unusedSimpArgs false
set_option linter.unusedVariables false
set_option linter.unusedSectionVars false
namespace Go.Cmp
open Go.RowKit

/-- Where the first one stands; -1: nowhere. -/
def idx {α : Type} (p : α → Bool) : List α → Int
  | [] => -1
  | x :: l => if p x = true then 0 else if idx p l < 0 then -1 else idx p l + 1
section
variable {α : Type} [Inhabited α] {p : α → Bool}
theorem nth_zero' (x : α) (l : List α) : nth (x :: l) 0 = x := rfl
theorem nth_succ' (x : α) (l : List α) (i : Nat) : nth (x :: l) (i + 1) = nth l i := rfl
theorem mem_nth' {l : List α} {x : α} (h : x ∈ l) : ∃ i, i < l.length ∧ nth l i = x := by
  obtain ⟨i, hi, e⟩ := List.getElem_of_mem h
  exact ⟨i, hi, (nth_eq (by rw [List.getElem?_eq_getElem hi, e]))⟩
omit [Inhabited α] in
theorem idx_none : ∀ {l : List α}, (∀ x ∈ l, p x = false) → idx p l = -1
  | [], _ => rfl
  | x :: l, h => by
    have h1 := idx_none (l := l) (fun y hy => h y (by simp [hy]))
    simp only [idx, h1]
    rw [if_neg (by rw [h x (by simp)]; simp), if_pos (by omega)]
theorem idx_first : ∀ {l : List α} {i : Nat}, i < l.length → p (nth l i) = true → (∀ j, j < i → p (nth l j) = false) → idx p l = i
  | [], _, h, _, _ => by simp at h
  | x :: l, 0, _, h, _ => by simp only [idx]; rw [if_pos (by simpa [nth_zero'] using h)]; rfl
  | x :: l, i + 1, hl, h, hn => by
    have h1 := idx_first (l := l) (i := i) (by simpa using hl) (by simpa [nth_succ'] using h) (fun j hj => by have := hn (j + 1) (by omega); simpa [nth_succ'] using this)
    have h2 := hn 0 (by omega)
    simp only [idx, h1]
    rw [if_neg (by rw [nth_zero'] at h2; rw [h2]; simp), if_neg (by omega)]
    push_cast
    rfl
omit [Inhabited α] in
theorem idx_range : ∀ (l : List α), -1 ≤ idx p l ∧ idx p l < l.length
  | [] => by simp [idx]
  | x :: l => by
    have := idx_range l
    simp only [idx, List.length_cons]
    split
    · omega
    · split <;> omega
theorem idx_hit : ∀ {l : List α}, 0 ≤ idx p l → p (nth l (idx p l).toNat) = true
  | [], h => by simp [idx] at h
  | x :: l, h => by
    have h1 := idx_hit (l := l)
    have h2 := idx_range (p := p) l
    simp only [idx] at h ⊢
    split
    · rename_i hx; simpa [nth_zero'] using hx
    · split
      · rename_i hx h3; rw [if_neg hx, if_pos h3] at h; omega
      · rw [show (idx p l + 1).toNat = (idx p l).toNat + 1 by omega, nth_succ']
        exact h1 (by omega)
omit [Inhabited α] in
theorem idx_neg {l : List α} (h : idx p l < 0) : ∀ x ∈ l, p x = false := by
  intro x hx
  induction l with
  | nil => cases hx
  | cons y l ih =>
    simp only [idx] at h
    split at h
    · omega
    · rename_i hy
      rcases List.mem_cons.1 hx with rfl | hx
      · simpa using hy
      · have := idx_range (p := p) l
        exact ih (by split at h <;> omega) hx
theorem take_nth {l : List α} {j : Nat} (h : j < l.length) : l.take (j + 1) = l.take j ++ [nth l j] := by
  rw [List.take_add_one, get_lt h]; rfl
end
end Go.Cmp
