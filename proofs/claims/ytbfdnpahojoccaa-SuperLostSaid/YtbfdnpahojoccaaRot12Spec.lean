/-
  A sealed sector of which one byte was turned is none.
-/
import Derived.Test.YtbfdnpahojoccaaSlotSpec
set_option linter.unusedSimpArgs false
set_option linter.unusedVariables false
set_option linter.unusedSectionVars false
set_option maxRecDepth 100000
namespace Go.Cmp
open Go.RowKit
theorem nth_set_ne {p : List UInt8} {i j : Nat} {x : UInt8} (h : i ≠ j) : nth (p.set i x) j = nth p j := by
  unfold nth
  rw [List.getD_eq_getElem?_getD, List.getD_eq_getElem?_getD, List.getElem?_set_ne h]
theorem nth_set_eq {p : List UInt8} {i : Nat} {x : UInt8} (h : i < p.length) : nth (p.set i x) i = x := by
  unfold nth
  rw [List.getD_eq_getElem?_getD, List.getElem?_set_self h]
  rfl
theorem xor_ne {a m : UInt8} (h : m ≠ 0) : a ^^^ m ≠ a := fun e => h (by
  have := congrArg (fun z => a ^^^ z) e
  simpa [← UInt8.xor_assoc] using this)
theorem leN_inj {a b : List UInt8} (hl : a.length = b.length) (h : leN a = leN b) : a = b := by
  rw [← leB_leN a, ← leB_leN b, hl, h]
theorem open_facts {p : List UInt8} (h : (openS p).2 = true) : p.length = 384 ∧ nth p 0 = nth p 383 ∧ leN ((p.drop 379).take 4) = sumOf (p.take 379) := by
  unfold openS at h
  split at h
  · rename_i hc
    obtain ⟨h1, h2, h3⟩ := hc
    obtain ⟨a, b, _⟩ := (open_iff h1 h3).1 h2
    exact ⟨h1, a, b⟩
  · simp at h
theorem open_bad {p : List UInt8} (h : (openS p).2 ≠ true) : openS p = ([], false) := by
  unfold openS at h ⊢
  split
  · rename_i hc
    rw [if_pos hc] at h
    exact absurd rfl h
  · rfl
theorem openS_turned {p : List UInt8} {at' : Nat} {m : UInt8} (ho : (openS p).2 = true) (ha : at' < 384) (hm : m ≠ 0) : openS (p.set at' (nth p at' ^^^ m)) = ([], false) := by
  obtain ⟨hl, h0, hs⟩ := open_facts ho
  refine open_bad fun h => ?_
  obtain ⟨_, h0', hs'⟩ := open_facts h
  have hx := xor_ne (a := nth p at') hm
  by_cases c0 : at' = 0
  · subst c0
    rw [nth_set_eq (by omega), nth_set_ne (by omega), ← h0] at h0'
    exact hx h0'
  by_cases c1 : at' = 383
  · subst c1
    rw [nth_set_eq (by omega), nth_set_ne (by omega), h0] at h0'
    exact hx h0'.symm
  by_cases c2 : at' < 379
  · rw [List.take_set, List.drop_set, if_pos (by omega), hs] at hs'
    have hl3 : (p.take 379).length = 379 := by rw [List.length_take]; omega
    have hn : nth (p.take 379) at' = nth p at' := nth_take c2
    have cut : ∀ x : UInt8, (p.take 379).set at' x = (p.take 379).take at' ++ [x] ++ (p.take 379).drop (at' + 1) := fun x => by
      rw [List.set_eq_take_append_cons_drop, if_pos (by omega)]
      simp
    have self : (p.take 379).set at' (nth p at') = p.take 379 := by
      apply List.ext_getElem?
      intro j
      by_cases hj : at' = j
      · subst hj
        rw [List.getElem?_set_self (by omega), ← hn]
        exact (get_lt (by omega)).symm
      · rw [List.getElem?_set_ne hj]
    have h4 := sumOf_turned ((p.take 379).take at') ((p.take 379).drop (at' + 1)) _ _ (Ne.symm hx)
    rw [← cut, ← cut, self] at h4
    exact h4 hs'
  · rw [List.take_set_of_le (by omega), ← hs] at hs'
    have := leN_inj (by simp) hs'
    have h2 : nth (((p.set at' (nth p at' ^^^ m)).drop 379).take 4) (at' - 379) = nth ((p.drop 379).take 4) (at' - 379) := by rw [this]
    rw [nth_take (by omega), nth_take (by omega), nth_drop, nth_drop, show 379 + (at' - 379) = at' by omega, nth_set_eq (by omega)] at h2
    exact hx h2
end Go.Cmp
