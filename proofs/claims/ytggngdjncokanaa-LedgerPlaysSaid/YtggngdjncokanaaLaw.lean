/-
  What is laid is read as it was: plain lists.
-/
import Derived.Test.YtggngdjncokanaaAwake
set_option linter.unusedSimpArgs false
set_option linter.unusedVariables false
set_option linter.unusedSectionVars false
namespace Go.Proofs.Ytggngdjncokanaa
open Go.RowKit Go.Cmp
set_option maxRecDepth 100000

theorem putS_cases {α : Type} (f : α → Option (List UInt8)) (xs : List α) :
    (∃ s, putS f xs = (s, 0) ∧ cat f xs = some s ∧ 1 ≤ xs.length ∧ xs.length ≤ 4) ∨ putS f xs = ([], 1) := by
  unfold putS
  split
  · exact .inr rfl
  · rename_i h
    cases hc : cat f xs with
    | none => exact .inr rfl
    | some s => exact .inl ⟨s, rfl, rfl, by omega, by omega⟩

theorem cat_read {α : Type} (f : α → Option (List UInt8)) (g : List UInt8 → α) (nrm : α → α) (size : Nat) : ∀ (xs : List α) (acc : List UInt8),
    (∀ x ∈ xs, ∀ s, f x = some s → s.length = size ∧ g s = nrm x) → cat f xs = some acc → acc.length = xs.length * size ∧ (List.range xs.length).map (fun i => g (chunk acc size i)) = xs.map nrm
  | [], acc, _, h => by simp only [cat, Option.some.injEq] at h; subst h; simp
  | x :: xs, acc, hf, h => by
    simp only [cat] at h
    cases hx : f x with
    | none => rw [hx] at h; cases h
    | some a =>
      rw [hx] at h
      cases hc : cat f xs with
      | none => rw [hc] at h; cases h
      | some b =>
        rw [hc] at h
        simp only [Option.some.injEq] at h
        subst h
        obtain ⟨h1, h2⟩ := hf x (by simp) a hx
        obtain ⟨h3, h4⟩ := cat_read f g nrm size xs b (fun y hy => hf y (by simp [hy])) hc
        constructor
        · rw [List.length_append, h1, h3, List.length_cons, Nat.add_mul]; omega
        · rw [List.length_cons, List.range_succ_eq_map, List.map_cons, List.map_map, List.map_cons]
          congr 1
          · rw [← h2]
            congr 1
            unfold chunk
            rw [Nat.zero_mul, List.drop_zero, List.take_left' h1]
          · rw [← h4]
            apply List.map_congr_left
            intro i _
            simp only [Function.comp]
            congr 1
            unfold chunk
            rw [Nat.succ_mul, Nat.add_comm, ← h1, List.drop_append, List.drop_eq_nil_of_le (by omega), List.nil_append]
            congr 2
            omega

theorem takeS_cat {α : Type} (f : α → Option (List UInt8)) (g : List UInt8 → α) (nrm : α → α) (size : Nat) (hz : 0 < size) (xs : List α) (acc : List UInt8)
    (hf : ∀ x ∈ xs, ∀ s, f x = some s → s.length = size ∧ g s = nrm x) (hc : cat f xs = some acc) (h1 : 1 ≤ xs.length) (h4 : xs.length ≤ 4) : takeS g size acc = (xs.map nrm, true) := by
  obtain ⟨hl, hr⟩ := cat_read f g nrm size xs acc hf hc
  have hd : acc.length / size = xs.length := by rw [hl]; exact Nat.mul_div_cancel _ hz
  have hm : acc.length % size = 0 := by rw [hl]; exact Nat.mul_mod_left _ _
  have h0 : acc.length ≠ 0 := by
    rw [hl]
    exact Nat.mul_ne_zero (by omega) (by omega)
  unfold takeS
  rw [if_neg (by rw [hd]; omega), hd, hr]

theorem gID_by (x : Nat) (h : x < 256 ^ 8) (s : List UInt8) (hs : byID x = some s) : s.length = 8 ∧ gID s = x := by
  simp only [byID, Option.some.injEq] at hs
  subst hs
  refine ⟨leB_length _ _, ?_⟩
  unfold gID
  rw [List.take_of_length_le (by rw [leB_length]; exact Nat.le_refl _), leN_leB, Nat.mod_eq_of_lt h]

/-- Numbers that came in. -/
theorem rd_ints {w : World} {a : Option Addr} {len cap : Nat} {zs : List Int}
    (h : (a = none ∧ len = 0 ∧ cap = 0 ∧ zs = []) ∨ ∃ x, a = some x ∧ len ≤ cap ∧ cap ≤ maxLen ∧ zs.length = cap ∧ (∀ i, i < zs.length → w.cell? (x.add i) = some (.int .u64 (zs.getD i 0))) ∧ ∀ n ∈ zs, (Lit.int .u64 n).wf = true) :
    ∃ xs : List Nat, xs.length = len ∧ (∀ x ∈ xs, x < 256 ^ 8) ∧ Rd w 1 (.slice a len cap) len (U xs) := by
  rcases h with ⟨rfl, rfl, rfl, rfl⟩ | ⟨x, rfl, h1, h2, h3, h4, h5⟩
  · exact ⟨[], rfl, by simp, Rd.nil _ _⟩
  · have hw : ∀ n ∈ zs, 0 ≤ n ∧ n < 18446744073709551616 := by
      intro n hn
      have := h5 n hn
      have e1 : IntKind.u64.min = 0 := rfl
      have e2 : IntKind.u64.max = 18446744073709551615 := rfl
      simp [Lit.wf, e1, e2] at this
      omega
    refine ⟨(zs.take len).map Int.toNat, by simp; omega, ?_, ?_, some x, cap, rfl, h1, h2, by simp, ?_⟩
    · intro n hn
      simp only [List.mem_map] at hn
      obtain ⟨z, hz, rfl⟩ := hn
      have := hw z (List.mem_of_mem_take hz)
      rw [pow8]
      omega
    · rw [U_length]; simp; omega
    · intro b hb i y hy
      cases hb
      have hi : i < len := by
        have := (List.getElem?_eq_some_iff.1 hy).1
        rw [U_length] at this
        simp at this
        omega
      have hiz : i < zs.length := by omega
      rw [h4 i hiz]
      have hg := hw zs[i] (List.getElem_mem hiz)
      simp [U, hi, hiz] at hy
      rw [← hy, List.getD_eq_getElem?_getD, List.getElem?_eq_getElem hiz]
      simp
      omega

end Go.Proofs.Ytggngdjncokanaa
