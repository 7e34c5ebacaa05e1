/-
  The program's ledger: records of bytes.
-/
import Derived.Test.YtjjiibcnknljfaaLedC
set_option linter.unusedSimpArgs false
set_option linter.unusedVariables false
set_option linter.unusedSectionVars false
set_option maxRecDepth 100000
namespace Go.Proofs.Ytjjiibcnknljfaa
open Go.RowKit Go.Cmp

/-- n pieces of a size. -/
def cutN (size : Nat) : Nat → List UInt8 → List (List UInt8)
  | 0, _ => []
  | n + 1, l => l.take size :: cutN size n (l.drop size)
theorem cutN_len (size : Nat) : ∀ (n : Nat) (l : List UInt8), (cutN size n l).length = n
  | 0, _ => rfl
  | n + 1, l => by simp only [cutN, List.length_cons, cutN_len size n]
theorem cutN_snoc (size : Nat) : ∀ (n : Nat) (l : List UInt8), cutN size (n + 1) l = cutN size n l ++ [(l.drop (size * n)).take size]
  | 0, l => by simp [cutN]
  | n + 1, l => by
    rw [cutN, cutN_snoc size n (l.drop size), cutN, List.drop_drop, Nat.mul_succ, Nat.add_comm size]
    rfl
theorem cutN_each (size : Nat) : ∀ (n : Nat) (l : List UInt8), size * n ≤ l.length → ∀ c ∈ cutN size n l, c.length = size
  | 0, _, _, c, h => by cases h
  | n + 1, l, hl, c, h => by
    rw [Nat.mul_succ] at hl
    rcases List.mem_cons.1 h with rfl | h
    · rw [List.length_take]; omega
    · exact cutN_each size n (l.drop size) (by rw [List.length_drop]; omega) c h
theorem cutN_join (size : Nat) : ∀ (n : Nat) (l : List UInt8), (cutN size n l).flatMap id = l.take (size * n)
  | 0, l => by simp [cutN]
  | n + 1, l => by
    rw [cutN, List.flatMap_cons, cutN_join size n, Nat.mul_succ, Nat.add_comm, List.take_add]
    rfl
theorem cutN_of {α : Type} {f : α → List UInt8} {size : Nat} (hf : ∀ x, (f x).length = size) : ∀ (A : List α) (r : List UInt8), cutN size A.length (A.flatMap f ++ r) = A.map f
  | [], _ => rfl
  | x :: A, r => by
    rw [List.length_cons, cutN, List.flatMap_cons, List.append_assoc, List.take_left' (hf x), List.drop_left' (hf x), cutN_of hf A]
    rfl
/-- A byte, so many records of a size behind it, and what is left. -/
def recS (s : List UInt8) (size most : Nat) : Option (List (List UInt8) × List UInt8) :=
  if s = [] ∨ most < (nth s 0).toNat ∨ s.length - 1 < size * (nth s 0).toNat then none
  else some (cutN size (nth s 0).toNat (s.drop 1), s.drop (1 + size * (nth s 0).toNat))
def strc (c : List UInt8) : List Value := [.string ⟨c.toArray⟩]

section
set_option maxRecDepth 100000
theorem wrap_byte (b : UInt8) : IntKind.i64.wrap (b.toNat : Int) = (b.toNat : Int) := by
  have := b.toNat_lt
  simp only [IntKind.wrap, IntKind.bits, IntKind.signed]
  simp
  omega
set_option maxHeartbeats 4000000 in
theorem records_any (s : List UInt8) (size most : Nat) (hz : 0 < size) (hz2 : size ≤ 1000) (hm : most ≤ 100) (hs : s.length ≤ 1000000) (w : World) :
    Calls Try.prog 56 #[.string ⟨s.toArray⟩, .int .i64 size, .int .i64 most] w fun e w' => match recS s size most with
      | none => e = .returned (.tuple #[.slice none 0 0, .string ⟨[].toArray⟩, .bool false]) ∧ St [] w w' []
      | some (l, r) => ∃ v, e = .returned (.tuple #[v, .string ⟨r.toArray⟩, .bool true]) ∧ St [] w w' [.vec v 9 1 l.length (l.flatMap strc)] := by
  have hS := St.init w
  by_cases h0 : s = []
  · have e : recS s size most = none := by unfold recS; rw [if_pos (Or.inl h0)]
    rw [e]
    simp only
    subst h0
    (go_enter Try.func56, Try.ntmps56)
    go_wp2_with (fail)
    refine region_calm (by kernel_rfl) (by kernel_rfl) hS ?_
    (refine Calm.pure rfl (h := ?_); simp only [Act.put, List.setIfInBounds_toArray, List.set_cons_zero, List.set_cons_succ])
    (refine Calm.pure rfl (h := ?_); simp only [Act.put, List.setIfInBounds_toArray, List.set_cons_zero, List.set_cons_succ])
    (refine Calm.pure rfl (h := ?_); simp only [Act.put, List.setIfInBounds_toArray, List.set_cons_zero, List.set_cons_succ])
    (refine Calm.skip rfl ?_; simp only [Act.put, List.setIfInBounds_toArray, List.set_cons_zero, List.set_cons_succ])
    (refine Calm.skip rfl ?_; simp only [Act.put, List.setIfInBounds_toArray, List.set_cons_zero, List.set_cons_succ])
    (refine Calm.skip rfl ?_; simp only [Act.put, List.setIfInBounds_toArray, List.set_cons_zero, List.set_cons_succ])
    (refine Calm.skip rfl ?_; simp only [Act.put, List.setIfInBounds_toArray, List.set_cons_zero, List.set_cons_succ])
    (refine Calm.skip rfl ?_; simp only [Act.put, List.setIfInBounds_toArray, List.set_cons_zero, List.set_cons_succ])
    (refine Calm.pure rfl (h := ?_); simp only [Act.put, List.setIfInBounds_toArray, List.set_cons_zero, List.set_cons_succ])
    (refine Calm.pure rfl (h := ?_); simp only [Act.put, List.setIfInBounds_toArray, List.set_cons_zero, List.set_cons_succ])
    (refine Calm.skip rfl ?_; simp only [Act.put, List.setIfInBounds_toArray, List.set_cons_zero, List.set_cons_succ])
    (refine Calm.skip rfl ?_; simp only [Act.put, List.setIfInBounds_toArray, List.set_cons_zero, List.set_cons_succ])
    (refine Calm.skip rfl ?_; simp only [Act.put, List.setIfInBounds_toArray, List.set_cons_zero, List.set_cons_succ])
    (refine Calm.skip rfl ?_; simp only [Act.put, List.setIfInBounds_toArray, List.set_cons_zero, List.set_cons_succ])
    (refine Calm.skip rfl ?_; simp only [Act.put, List.setIfInBounds_toArray, List.set_cons_zero, List.set_cons_succ])
    (refine Calm.skip rfl ?_; simp only [Act.put, List.setIfInBounds_toArray, List.set_cons_zero, List.set_cons_succ])
    (refine Calm.skip rfl ?_; simp only [Act.put, List.setIfInBounds_toArray, List.set_cons_zero, List.set_cons_succ])
    (refine Calm.skip rfl ?_; simp only [Act.put, List.setIfInBounds_toArray, List.set_cons_zero, List.set_cons_succ])
    (refine Calm.skip rfl ?_; simp only [Act.put, List.setIfInBounds_toArray, List.set_cons_zero, List.set_cons_succ])
    (refine Calm.pure rfl (h := ?_); simp only [Act.put, List.setIfInBounds_toArray, List.set_cons_zero, List.set_cons_succ])
    (refine Calm.nil ?_; clear hS; intro w8 hS)
    go_wp2_with (first | refine au1 (n := ?_) | (refine au2 (n := ?_); clear hS; intro w' hS) | (refine au3 (n := ?_); clear hS; intro gb w1 hS) | (refine au4 (n := ?_); clear hS; intro v1 w' hS) | ((with_reducible refine wl_guard ?_); refine stop_mem rfl rfl ?_))
    go_ret3
    exact ⟨rfl, hS⟩
  have h0' : 0 < s.length := List.length_pos_iff.2 h0
  have hne : ¬ (⟨s.toArray⟩ : ByteArray) = ⟨#[]⟩ := by intro e; apply h0; simpa using e
  have hn := (nth s 0).toNat_lt
  have hw := wrap_byte (nth s 0)
  obtain ⟨n, hnn⟩ : ∃ n, (nth s 0).toNat = n := ⟨_, rfl⟩
  have hr : recS s size most = if most < n ∨ s.length - 1 < size * n then none else some (cutN size n (s.drop 1), s.drop (1 + size * n)) := by
    unfold recS
    rw [hnn]
    by_cases h : most < n ∨ s.length - 1 < size * n
    · rw [if_pos h, if_pos (Or.inr h)]
    · rw [if_neg h, if_neg (by rintro (h1 | h1); exact h0 h1; exact h h1)]
  rw [hr]
  rw [hnn] at hn hw
  clear hr
  by_cases h1 : most < n
  · rw [if_pos (Or.inl h1)]
    simp only
    have h1' : (most : Int) < n := by omega
    (go_enter Try.func56, Try.ntmps56)
    go_wp2_with (fail)
    refine region_calm (by kernel_rfl) (by kernel_rfl) hS ?_
    (refine Calm.pure rfl (h := ?_); simp only [Act.put, List.setIfInBounds_toArray, List.set_cons_zero, List.set_cons_succ])
    (refine Calm.run (v := .bool false) rfl (fun W hW => by (go_simp; try simp [hne])) ?_; simp only [Act.put, List.setIfInBounds_toArray, List.set_cons_zero, List.set_cons_succ])
    (refine Calm.pure rfl (h := ?_); simp only [Act.put, List.setIfInBounds_toArray, List.set_cons_zero, List.set_cons_succ])
    (refine Calm.pure rfl (h := ?_); simp only [Act.put, List.setIfInBounds_toArray, List.set_cons_zero, List.set_cons_succ])
    refine Calm.run (v := .int .u8 (n : Int)) rfl (fun W hW => by rw [← hnn]; exact a_strIndex (l := s) (j := 0) rfl rfl rfl rfl (by omega) (by omega)) ?_
    simp only [Act.put, List.setIfInBounds_toArray, List.set_cons_zero, List.set_cons_succ]
    (refine Calm.pure rfl (h := ?_); simp only [Act.put, List.setIfInBounds_toArray, List.set_cons_zero, List.set_cons_succ])
    (refine Calm.pure rfl (h := ?_); simp only [Act.put, List.setIfInBounds_toArray, List.set_cons_zero, List.set_cons_succ])
    (refine Calm.pure rfl (h := ?_); simp only [Act.put, List.setIfInBounds_toArray, List.set_cons_zero, List.set_cons_succ])
    (refine Calm.pure rfl (h := ?_); simp only [Act.put, List.setIfInBounds_toArray, List.set_cons_zero, List.set_cons_succ])
    (refine Calm.pure rfl (h := ?_); simp only [Act.put, List.setIfInBounds_toArray, List.set_cons_zero, List.set_cons_succ])
    (refine Calm.skip rfl ?_; simp only [Act.put, List.setIfInBounds_toArray, List.set_cons_zero, List.set_cons_succ])
    (refine Calm.skip rfl ?_; simp only [Act.put, List.setIfInBounds_toArray, List.set_cons_zero, List.set_cons_succ])
    (refine Calm.skip rfl ?_; simp only [Act.put, List.setIfInBounds_toArray, List.set_cons_zero, List.set_cons_succ])
    (refine Calm.skip rfl ?_; simp only [Act.put, List.setIfInBounds_toArray, List.set_cons_zero, List.set_cons_succ])
    (refine Calm.skip rfl ?_; simp only [Act.put, List.setIfInBounds_toArray, List.set_cons_zero, List.set_cons_succ])
    (refine Calm.skip rfl ?_; simp only [Act.put, List.setIfInBounds_toArray, List.set_cons_zero, List.set_cons_succ])
    (refine Calm.skip rfl ?_; simp only [Act.put, List.setIfInBounds_toArray, List.set_cons_zero, List.set_cons_succ])
    (refine Calm.skip rfl ?_; simp only [Act.put, List.setIfInBounds_toArray, List.set_cons_zero, List.set_cons_succ])
    (refine Calm.skip rfl ?_; simp only [Act.put, List.setIfInBounds_toArray, List.set_cons_zero, List.set_cons_succ])
    (refine Calm.pure rfl (h := ?_); simp only [Act.put, List.setIfInBounds_toArray, List.set_cons_zero, List.set_cons_succ])
    (refine Calm.nil ?_; clear hS; intro w8 hS)
    go_wp2_with (first | refine au1 (n := ?_) | (refine au2 (n := ?_); clear hS; intro w' hS) | (refine au3 (n := ?_); clear hS; intro gb w1 hS) | (refine au4 (n := ?_); clear hS; intro v1 w' hS) | ((with_reducible refine wl_guard ?_); refine stop_mem rfl rfl ?_))
    go_ret3
    exact ⟨rfl, hS⟩
  have h1' : ¬ (most : Int) < n := by omega
  obtain ⟨q, hqe⟩ : ∃ q, (s.length - 1) / size = q := ⟨_, rfl⟩
  have hq : q < n ↔ s.length - 1 < size * n := by rw [← hqe, Nat.div_lt_iff_lt_mul hz, Nat.mul_comm]
  have hdv2 : ((s.length - 1 : Nat) : Int) / (size : Int) = (q : Int) := by rw [← hqe]; rfl
  have hdv : Int.tdiv ((s.length : Int) - 1) size = (q : Int) := by
    rw [show ((s.length : Int) - 1) = ((s.length - 1 : Nat) : Int) by omega, ← Int.ofNat_tdiv, hqe]
  have hql : q ≤ s.length - 1 := by rw [← hqe]; exact Nat.div_le_self _ _
  have hwq : IntKind.i64.wrap (q : Int) = (q : Int) := by
    simp only [IntKind.wrap, IntKind.bits, IntKind.signed]
    simp
    omega
  have hzn : ¬ size = 0 := by omega
  have hz0 : ¬ (size : Int) = 0 := by omega
  have hsub : IntKind.i64.wrap ((s.length : Int) - 1) = (s.length : Int) - 1 := by
    simp only [IntKind.wrap, IntKind.bits, IntKind.signed]
    simp
    omega
  by_cases h2 : s.length - 1 < size * n
  · rw [if_pos (Or.inr h2)]
    simp only
    have h2' : (q : Int) < n := by have := hq.2 h2; omega
    (go_enter Try.func56, Try.ntmps56)
    go_wp2_with (fail)
    refine region_calm (by kernel_rfl) (by kernel_rfl) hS ?_
    (refine Calm.pure rfl (h := ?_); simp only [Act.put, List.setIfInBounds_toArray, List.set_cons_zero, List.set_cons_succ])
    (refine Calm.run (v := .bool false) rfl (fun W hW => by (go_simp; try simp [hne])) ?_; simp only [Act.put, List.setIfInBounds_toArray, List.set_cons_zero, List.set_cons_succ])
    (refine Calm.pure rfl (h := ?_); simp only [Act.put, List.setIfInBounds_toArray, List.set_cons_zero, List.set_cons_succ])
    (refine Calm.pure rfl (h := ?_); simp only [Act.put, List.setIfInBounds_toArray, List.set_cons_zero, List.set_cons_succ])
    refine Calm.run (v := .int .u8 (n : Int)) rfl (fun W hW => by rw [← hnn]; exact a_strIndex (l := s) (j := 0) rfl rfl rfl rfl (by omega) (by omega)) ?_
    simp only [Act.put, List.setIfInBounds_toArray, List.set_cons_zero, List.set_cons_succ]
    (refine Calm.pure rfl (h := ?_); simp only [Act.put, List.setIfInBounds_toArray, List.set_cons_zero, List.set_cons_succ])
    (refine Calm.pure rfl (h := ?_); simp only [Act.put, List.setIfInBounds_toArray, List.set_cons_zero, List.set_cons_succ])
    (refine Calm.pure rfl (h := ?_); simp only [Act.put, List.setIfInBounds_toArray, List.set_cons_zero, List.set_cons_succ])
    (refine Calm.pure rfl (h := ?_); simp only [Act.put, List.setIfInBounds_toArray, List.set_cons_zero, List.set_cons_succ])
    (refine Calm.pure rfl (h := ?_); simp only [Act.put, List.setIfInBounds_toArray, List.set_cons_zero, List.set_cons_succ])
    (refine Calm.pure rfl (h := ?_); simp only [Act.put, List.setIfInBounds_toArray, List.set_cons_zero, List.set_cons_succ])
    (refine Calm.pure rfl (h := ?_); simp only [Act.put, List.setIfInBounds_toArray, List.set_cons_zero, List.set_cons_succ])
    (refine Calm.pure rfl (h := ?_); simp only [Act.put, List.setIfInBounds_toArray, List.set_cons_zero, List.set_cons_succ])
    (refine Calm.pure rfl (h := ?_); simp only [Act.put, List.setIfInBounds_toArray, List.set_cons_zero, List.set_cons_succ])
    refine Calm.run (v := .int .i64 (q : Int)) rfl (fun W hW => by (go_simp; try simp [hdv, hz0, hzn, hdv2, hwq])) ?_
    simp only [Act.put, List.setIfInBounds_toArray, List.set_cons_zero, List.set_cons_succ]
    (refine Calm.pure rfl (h := ?_); simp only [Act.put, List.setIfInBounds_toArray, List.set_cons_zero, List.set_cons_succ])
    refine Calm.run (v := .int .u8 (n : Int)) rfl (fun W hW => by rw [← hnn]; exact a_strIndex (l := s) (j := 0) rfl rfl rfl rfl (by omega) (by omega)) ?_
    simp only [Act.put, List.setIfInBounds_toArray, List.set_cons_zero, List.set_cons_succ]
    (refine Calm.pure rfl (h := ?_); simp only [Act.put, List.setIfInBounds_toArray, List.set_cons_zero, List.set_cons_succ])
    (refine Calm.pure rfl (h := ?_); simp only [Act.put, List.setIfInBounds_toArray, List.set_cons_zero, List.set_cons_succ])
    (refine Calm.pure rfl (h := ?_); simp only [Act.put, List.setIfInBounds_toArray, List.set_cons_zero, List.set_cons_succ])
    (refine Calm.nil ?_; clear hS; intro w8 hS)
    go_wp2_with (first | refine au1 (n := ?_) | (refine au2 (n := ?_); clear hS; intro w' hS) | (refine au3 (n := ?_); clear hS; intro gb w1 hS) | (refine au4 (n := ?_); clear hS; intro v1 w' hS) | ((with_reducible refine wl_guard ?_); refine stop_mem rfl rfl ?_))
    go_ret3
    exact ⟨rfl, hS⟩
  have h2' : ¬ (q : Int) < n := by have := fun h => h2 (hq.1 h); omega
  rw [if_neg (by rintro (h | h); exact h1 h; exact h2 h)]
  simp only
  have HLEN : ∀ j, j < n → size ≤ ((s.drop 1).drop (size * j)).length := by
    intro j hj
    have : size * (j + 1) ≤ size * n := Nat.mul_le_mul_left _ hj
    rw [Nat.mul_succ] at this
    rw [List.length_drop, List.length_drop]
    omega
  have HL := Lib.hid HLEN
  have hr0 : (s.drop (1 + size * n)) = (s.drop 1).drop (size * n) := by rw [List.drop_drop]
  have HR0 := Lib.hid hr0
  obtain ⟨s1, hs1⟩ : ∃ s1, s.drop 1 = s1 := ⟨_, rfl⟩
  have hs1' : s.tail = s1 := by rw [← hs1]; simp
  rw [hs1] at HL HR0 ⊢
  rw [HR0.out]
  clear hr0 HLEN hs1
  (go_enter Try.func56, Try.ntmps56)
  go_wp2_with (fail)
  refine region_calm (by kernel_rfl) (by kernel_rfl) hS ?_
  (refine Calm.pure rfl (h := ?_); simp only [Act.put, List.setIfInBounds_toArray, List.set_cons_zero, List.set_cons_succ])
  (refine Calm.run (v := .bool false) rfl (fun W hW => by (go_simp; try simp [hne])) ?_; simp only [Act.put, List.setIfInBounds_toArray, List.set_cons_zero, List.set_cons_succ])
  (refine Calm.pure rfl (h := ?_); simp only [Act.put, List.setIfInBounds_toArray, List.set_cons_zero, List.set_cons_succ])
  (refine Calm.pure rfl (h := ?_); simp only [Act.put, List.setIfInBounds_toArray, List.set_cons_zero, List.set_cons_succ])
  refine Calm.run (v := .int .u8 (n : Int)) rfl (fun W hW => by rw [← hnn]; exact a_strIndex (l := s) (j := 0) rfl rfl rfl rfl (by omega) (by omega)) ?_
  simp only [Act.put, List.setIfInBounds_toArray, List.set_cons_zero, List.set_cons_succ]
  (refine Calm.pure rfl (h := ?_); simp only [Act.put, List.setIfInBounds_toArray, List.set_cons_zero, List.set_cons_succ])
  (refine Calm.pure rfl (h := ?_); simp only [Act.put, List.setIfInBounds_toArray, List.set_cons_zero, List.set_cons_succ])
  (refine Calm.pure rfl (h := ?_); simp only [Act.put, List.setIfInBounds_toArray, List.set_cons_zero, List.set_cons_succ])
  (refine Calm.pure rfl (h := ?_); simp only [Act.put, List.setIfInBounds_toArray, List.set_cons_zero, List.set_cons_succ])
  (refine Calm.pure rfl (h := ?_); simp only [Act.put, List.setIfInBounds_toArray, List.set_cons_zero, List.set_cons_succ])
  (refine Calm.pure rfl (h := ?_); simp only [Act.put, List.setIfInBounds_toArray, List.set_cons_zero, List.set_cons_succ])
  (refine Calm.pure rfl (h := ?_); simp only [Act.put, List.setIfInBounds_toArray, List.set_cons_zero, List.set_cons_succ])
  (refine Calm.pure rfl (h := ?_); simp only [Act.put, List.setIfInBounds_toArray, List.set_cons_zero, List.set_cons_succ])
  (refine Calm.pure rfl (h := ?_); simp only [Act.put, List.setIfInBounds_toArray, List.set_cons_zero, List.set_cons_succ])
  refine Calm.run (v := .int .i64 (q : Int)) rfl (fun W hW => by (go_simp; try simp [hdv, hz0, hzn, hdv2, hwq])) ?_
  simp only [Act.put, List.setIfInBounds_toArray, List.set_cons_zero, List.set_cons_succ]
  (refine Calm.pure rfl (h := ?_); simp only [Act.put, List.setIfInBounds_toArray, List.set_cons_zero, List.set_cons_succ])
  refine Calm.run (v := .int .u8 (n : Int)) rfl (fun W hW => by rw [← hnn]; exact a_strIndex (l := s) (j := 0) rfl rfl rfl rfl (by omega) (by omega)) ?_
  simp only [Act.put, List.setIfInBounds_toArray, List.set_cons_zero, List.set_cons_succ]
  (refine Calm.pure rfl (h := ?_); simp only [Act.put, List.setIfInBounds_toArray, List.set_cons_zero, List.set_cons_succ])
  (refine Calm.pure rfl (h := ?_); simp only [Act.put, List.setIfInBounds_toArray, List.set_cons_zero, List.set_cons_succ])
  (refine Calm.pure rfl (h := ?_); simp only [Act.put, List.setIfInBounds_toArray, List.set_cons_zero, List.set_cons_succ])
  (refine Calm.nil ?_; clear hS; intro w8 hS)
  have hone : (1 : Int) ≤ s.length := by omega
  have HN1 := Lib.hid hn
  go_wp2_with (first | ((with_reducible refine g_indexV ?_); refine wl_run rfl (v := .int .u8 (n : Int)) (by rw [← hnn]; exact a_strIndex (l := s) (j := 0) rfl rfl rfl rfl (by omega) (by omega)) ?_) | (first | refine au1 (n := ?_) | (refine au2 (n := ?_); clear hS; intro w' hS) | (refine au3 (n := ?_); clear hS; intro gb w1 hS) | (refine au4 (n := ?_); clear hS; intro v1 w' hS) | ((with_reducible refine wl_guard ?_); refine stop_mem rfl rfl ?_)))
  clear hq hdv hdv2 hql hwq hqe h2 h2' h1 h1' hsub hone
  try rw [hs1']
  replace hS := hS.addNil 9 1
  go_loopw [9, 10, 35] (fun v r k wr => ∃ j : Nat, j ≤ n ∧ r = .string ⟨(s1.drop (size * j)).toArray⟩ ∧ k = .int .u8 j ∧ St [] w wr [.vec v 9 1 (cutN size j s1).length ((cutN size j s1).flatMap strc)]) (fun _ _ k _ => n - (intOf k).toNat)
  case atStart => exact ⟨0, by omega, by simp, rfl, hS⟩
  case round =>
    clear hS
    obtain ⟨j, hj, rfl, rfl, hS⟩ := hrel
    by_cases hlt : j < n
    · have hlt1 : (j : Int) < n := by omega
      have hr := HL.out j hlt
      have hsn := cutN_snoc size j s1
      have hdd : (s1.drop (size * j)).drop size = s1.drop (size * (j + 1)) := by rw [List.drop_drop, Nat.mul_succ]
      have hwj : IntKind.u8.wrap ((j : Int) + 1) = (j : Int) + 1 := u8_of (j + 1) (by omega)
      have hcl := cutN_len size j s1
      obtain ⟨r, hre⟩ : ∃ r, s1.drop (size * j) = r := ⟨_, rfl⟩
      rw [hre] at hr hsn hdd ⊢
      obtain ⟨cs, hcs⟩ : ∃ cs, cutN size j s1 = cs := ⟨_, rfl⟩
      rw [hcs] at hsn hcl hS
      have HSN := Lib.hid hsn
      have HDD := Lib.hid hdd
      clear hre hcs hsn hdd
      have hr1 : (size : Int) ≤ r.length := by omega
      go_wp2_with (first | ((with_reducible refine g_append ?_); refine wl_of rfl ?_; refine k_app (z := (r.take size)) hS rfl rfl rfl rfl (h1 := by simp [strc, Value.oneCell']) (h := ?_); clear hS; intro v2 w' hS hv2) | (first | refine au1 (n := ?_) | (refine au2 (n := ?_); clear hS; intro w' hS) | (refine au3 (n := ?_); clear hS; intro gb w1 hS) | (refine au4 (n := ?_); clear hS; intro v1 w' hS) | ((with_reducible refine wl_guard ?_); refine stop_mem rfl rfl ?_)))
      exact ⟨⟨j + 1, by omega, by rw [HDD.out], by go_num, by rw [HSN.out]; exact hS.pick⟩, by simp [intOf]; omega⟩
    · obtain rfl : j = n := by omega
      go_wp2_with (first | refine au1 (n := ?_) | (refine au2 (n := ?_); clear hS; intro w' hS) | (refine au3 (n := ?_); clear hS; intro gb w1 hS) | (refine au4 (n := ?_); clear hS; intro v1 w' hS) | ((with_reducible refine wl_guard ?_); refine stop_mem rfl rfl ?_))
      go_ret3
      exact ⟨u9, rfl, hS⟩
end
end Go.Proofs.Ytjjiibcnknljfaa
