/-
  The document's sessions: its functions that find, look, tell and note.
  The document's sessions: note.
  The document's sessions: one more; a call.
-/
import Derived.Test.YtjjiibcnknljfaaSesB
set_option linter.unusedSimpArgs false
set_option linter.unusedVariables false
set_option linter.unusedSectionVars false
set_option maxRecDepth 100000
namespace Go.Cmp
open Go.RowKit
/-- Where the eldest of the first j stands; -1: nowhere. -/
def eld (T : List Ses) : Nat → Int
  | 0 => -1
  | j + 1 => if eld T j < 0 ∨ (nth T j).op < (nth T (eld T j).toNat).op then j else eld T j
theorem eld_range (T : List Ses) : ∀ j, -1 ≤ eld T j ∧ eld T j < j
  | 0 => by simp [eld]
  | j + 1 => by
    have := eld_range T j
    simp only [eld]
    split <;> (push_cast; omega)
theorem eld_best (T : List Ses) : ∀ j, 0 < j → 0 ≤ eld T j ∧ nth T (eld T j).toNat = best T j
  | 0, h => by omega
  | j + 1, _ => by
    by_cases hj : j = 0
    · subst hj
      simp [eld, best]
    · obtain ⟨h1, h2⟩ := eld_best T j (by omega)
      simp only [eld, best, h2]
      by_cases h3 : (nth T j).op < (best T j).op
      · rw [if_pos (.inr h3), if_pos h3]
        exact ⟨by omega, by rw [Int.toNat_natCast]⟩
      · rw [if_neg (by intro h; rcases h with h | h; omega; exact h3 h), if_neg h3]
        exact ⟨h1, h2⟩
/-- The first j without the one at gn. -/
def skip (T : List Ses) (gn : Int) : Nat → List Ses
  | 0 => []
  | j + 1 => if (j : Int) = gn then skip T gn j else skip T gn j ++ [nth T j]
theorem skip_none (T : List Ses) {gn : Int} (hg : gn < 0) : ∀ j, j ≤ T.length → skip T gn j = T.take j
  | 0, _ => by simp [skip]
  | j + 1, h => by
    simp only [skip]
    rw [if_neg (by omega), skip_none T hg j (by omega), take_nth (by omega)]
theorem skip_at (T : List Ses) {p : Nat} (hp : p < T.length) : ∀ j, j ≤ T.length → skip T p j = (T.take j).eraseIdx p
  | 0, _ => by simp [skip]
  | j + 1, h => by
    simp only [skip]
    have hl : (T.take j).length = j := by rw [List.length_take]; omega
    rw [skip_at T hp j (by omega), take_nth (by omega)]
    by_cases h1 : j < p
    · rw [if_neg (by omega), List.eraseIdx_of_length_le (by omega), List.eraseIdx_of_length_le (by rw [List.length_append, List.length_singleton]; omega)]
    · by_cases h2 : j = p
      · subst h2
        rw [if_pos rfl, List.eraseIdx_of_length_le (by omega), List.eraseIdx_append_of_length_le (by omega), hl]
        simp
      · rw [if_neg (by omega), List.eraseIdx_append_of_lt_length (by omega)]
theorem skip_len (T : List Ses) (gn : Int) : ∀ j, (skip T gn j).length ≤ j
  | 0 => by simp [skip]
  | j + 1 => by
    have := skip_len T gn j
    simp only [skip]
    split
    · omega
    · rw [List.length_append, List.length_singleton]; omega
/-- Whose the one at gn is, once it was met. -/
def met (T : List Ses) (gn : Int) (j : Nat) : Int := if 0 ≤ gn ∧ gn < j then (nth T gn.toNat).client else 0
theorem met_hit (T : List Ses) (j : Nat) : met T j (j + 1) = (nth T j).client := by unfold met; rw [if_pos (by omega), Int.toNat_natCast]
theorem met_miss (T : List Ses) {gn : Int} {j : Nat} (h : (j : Int) ≠ gn) : met T gn (j + 1) = met T gn j := by
  unfold met
  by_cases h1 : 0 ≤ gn ∧ gn < j
  · rw [if_pos h1, if_pos (by omega)]
  · rw [if_neg h1, if_neg (by omega)]
end Go.Cmp
namespace Go.Proofs.Ytjjiibcnknljfaa
open Go.RowKit Go.Cmp

section
variable {S : List Nat} {w0 w : World} {M : List Ent} {g : Nat} {T : List Ses}

end
end Go.Proofs.Ytjjiibcnknljfaa
namespace Go.Proofs.Ytjjiibcnknljfaa
open Go.RowKit Go.Cmp

section
variable {S : List Nat} {w0 w : World} {M : List Ent} {g : Nat} {T : List Ses}

end
end Go.Proofs.Ytjjiibcnknljfaa
namespace Go.Proofs.Ytjjiibcnknljfaa
open Go.RowKit Go.Cmp

section
variable {S : List Nat} {w0 w : World} {M : List Ent} {g : Nat} {T : List Ses}

/-- What the document's Open leaves of the old ones. -/
theorem skip_all (hT : (T.map (·.client)).Nodup) (h3 : T.length ≤ 3) :
    skip T (if 3 ≤ T.length then eld T T.length else -1) T.length = (if 3 ≤ T.length then T.eraseIdx (whose (best T T.length).client T).toNat else T) ∧
    met T (if 3 ≤ T.length then eld T T.length else -1) T.length = (if 3 ≤ T.length then (best T T.length).client else 0) := by
  by_cases h : 3 ≤ T.length
  · rw [if_pos h, if_pos h, if_pos h]
    obtain ⟨h1, h2⟩ := eld_best T T.length (by omega)
    have h4 := (eld_range T T.length).2
    obtain ⟨p, hp⟩ := Int.eq_ofNat_of_zero_le h1
    rw [hp, Int.toNat_natCast] at h2
    rw [hp] at h4 ⊢
    have hpl : p < T.length := by omega
    have hw : whose (best T T.length).client T = p := by
      refine idx_first hpl (by rw [h2]; simp) (fun j hj => ?_)
      have hne : (nth T j).client ≠ (best T T.length).client := by
        intro he
        rw [← h2] at he
        have h5 : (T.map (·.client))[j]'(by simp; omega) = (T.map (·.client))[p]'(by simp; omega) := by
          have e1 : nth T j = T[j]'(by omega) := nth_eq (by rw [List.getElem?_eq_getElem])
          have e2 : nth T p = T[p]'(by omega) := nth_eq (by rw [List.getElem?_eq_getElem])
          rw [e1, e2] at he
          simpa using he
        have := (List.getElem_inj hT).1 h5
        omega
      simpa using hne
    refine ⟨?_, ?_⟩
    · rw [skip_at T hpl _ (Nat.le_refl _), List.take_length, hw, Int.toNat_natCast]
    · unfold met
      rw [if_pos (by omega), Int.toNat_natCast, h2]
  · rw [if_neg h, if_neg h, if_neg h]
    refine ⟨?_, ?_⟩
    · rw [skip_none T (by omega) _ (Nat.le_refl _), List.take_length]
    · unfold met
      rw [if_neg (by omega)]

end
end Go.Proofs.Ytjjiibcnknljfaa
