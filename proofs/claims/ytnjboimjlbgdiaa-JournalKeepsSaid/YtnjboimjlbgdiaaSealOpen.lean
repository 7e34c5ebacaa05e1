/-
  Sealed sectors in plain lists: when one can be opened.
-/
import Derived.Test.YtnjboimjlbgdiaaSeal2
import Derived.Test.YtnjboimjlbgdiaaCodecU
import Derived.Test.YtnjboimjlbgdiaaNth
set_option linter.unusedSimpArgs false
set_option linter.unusedVariables false
set_option linter.unusedSectionVars false
set_option maxRecDepth 100000
namespace Go.Cmp
open Go.RowKit

theorem takeT_facts {p : List UInt8} (h : (takeT p 1 376).2.2 = 0) : ∃ n, leN ((p.drop 1).take 2) = n ∧ n ≤ 376 ∧ 3 + n ≤ p.length ∧ (takeT p 1 376).1 = (p.drop 3).take n ∧ (takeT p 1 376).2.1 = 3 + (n : Int) := by
  unfold takeT at h ⊢
  split at h
  · simp at h
  · split at h
    · simp at h
    · split at h
      · simp at h
      · rename_i h1 h2 h3
        rw [if_neg h1, if_neg h2, if_neg h3]
        exact ⟨_, rfl, by omega, by omega, rfl, by simp only; omega⟩
theorem open_iff {p : List UInt8} (hp : p.length = 384) (h : (takeT p 1 376).2.2 = 0) : sealed (nth p 0) (takeT p 1 376).1 = p ↔
    (nth p 0 = nth p 383 ∧ leN ((p.drop 379).take 4) = sumOf (p.take 379) ∧ ∀ j, 3 + (takeT p 1 376).1.length ≤ j → j < 379 → nth p j = 0) := by
  obtain ⟨n, hn, hn1, hn2, ht, _⟩ := takeT_facts h
  have htl : ((p.drop 3).take n).length = n := by rw [List.length_take, List.length_drop]; omega
  rw [ht, htl]
  obtain ⟨t, htt⟩ : ∃ t, (p.drop 3).take n = t := ⟨_, rfl⟩
  rw [htt] at htl ⊢
  have hal := aheadB_len (g := nth p 0) (s := t) (by omega)
  constructor
  · intro e
    have s1 : p.take 379 = aheadB (nth p 0) t := by
      conv => lhs; rw [← e]
      unfold sealed
      rw [List.append_assoc, List.take_left' hal]
    have s2 : (p.drop 379).take 4 = leB 4 (sumOf (aheadB (nth p 0) t)) := by
      conv => lhs; rw [← e]
      unfold sealed
      rw [List.append_assoc, List.drop_left' hal, List.take_left' (leB_length _ _)]
    have s3 : nth p 383 = nth p 0 := by
      have e2 : p = (aheadB (nth p 0) t ++ leB 4 (sumOf (aheadB (nth p 0) t))) ++ [nth p 0] := e.symm
      conv => lhs; rw [e2]
      rw [nth_append, if_neg (by rw [List.length_append, hal, leB_length]; omega), List.length_append, hal, leB_length]
      rfl
    refine ⟨s3.symm, ?_, fun j h1 h2 => ?_⟩
    · rw [s2, s1, leN_leB, Nat.mod_eq_of_lt]
      exact sumOf_lt _
    · rw [← nth_take h2, s1]
      unfold aheadB
      have hl3 : ([nth p 0] ++ txt t).length = 3 + n := by rw [List.length_append, txt_length, htl, List.length_singleton]; omega
      rw [nth_append, if_neg (by rw [hl3]; omega)]
      unfold nth
      rw [List.getD_eq_getElem?_getD, List.getElem?_replicate]
      split <;> rfl
  · rintro ⟨h1, h2, h3⟩
    have q1 : p.take 379 = aheadB (nth p 0) t := by
      apply nth_ext (by rw [hal, List.length_take]; omega)
      intro j hj
      rw [List.length_take] at hj
      rw [nth_take (by omega)]
      unfold aheadB txt
      rw [nth_append]
      have hl3 : ([nth p 0] ++ (leB 2 t.length ++ t)).length = 3 + n := by simp only [List.length_append, List.length_singleton, leB_length, htl]; omega
      by_cases c1 : j < 3 + n
      · rw [if_pos (by rw [hl3]; exact c1), nth_append]
        by_cases c2 : j < 1
        · rw [if_pos (by simpa using c2)]
          obtain rfl : j = 0 := by omega
          rfl
        · rw [if_neg (by simpa using c2), nth_append, leB_length, List.length_singleton]
          by_cases c3 : j - 1 < 2
          · rw [if_pos c3]
            have e : leB 2 t.length = (p.drop 1).take 2 := by
              have hl2 : ((p.drop 1).take 2).length = 2 := by rw [List.length_take, List.length_drop]; omega
              have := leB_leN ((p.drop 1).take 2)
              rw [hl2, hn, ← htl] at this
              exact this
            rw [e, nth_take c3, nth_drop]
            congr 1
            omega
          · rw [if_neg c3, ← htt, nth_take (by omega), nth_drop]
            congr 1
            omega
      · rw [if_neg (by rw [hl3]; exact c1), h3 j (by omega) (by omega)]
        unfold nth
        rw [List.getD_eq_getElem?_getD, List.getElem?_replicate]
        split <;> rfl
    have q2 : (p.drop 379).take 4 = leB 4 (sumOf (aheadB (nth p 0) t)) := by
      have hl4 : ((p.drop 379).take 4).length = 4 := by rw [List.length_take, List.length_drop]; omega
      have := leB_leN ((p.drop 379).take 4)
      rw [hl4, h2, q1] at this
      exact this.symm
    have q3 : p.drop 383 = [nth p 0] := by
      rw [List.drop_eq_getElem_cons (show 383 < p.length by omega), List.drop_eq_nil_of_le (by omega), h1]
      congr 1
      exact (nth_eq (List.getElem?_eq_getElem (by omega))).symm
    unfold sealed
    rw [← q2, ← q1, ← q3, List.append_assoc]
    have a1 : (p.drop 379).take 4 ++ p.drop 383 = p.drop 379 := by
      have := List.take_append_drop 4 (p.drop 379)
      rwa [List.drop_drop] at this
    rw [a1, List.take_append_drop]
end Go.Cmp
