/-
  Sums of bytes in plain numbers: a register's steps.
-/
import Derived.Test.YtkcgacadkpbpoaaGen
set_option linter.unusedSimpArgs false
set_option linter.unusedVariables false
set_option linter.unusedSectionVars false
namespace Go.Cmp
open Go.RowKit

def bitStep (r : Nat) : Nat := if r % 2 = 1 then (r / 2) ^^^ 2197175160 else r / 2
def stepsN : Nat → Nat → Nat
  | 0, r => r
  | n + 1, r => stepsN n (bitStep r)
def crcB (r : Nat) (c : UInt8) : Nat := stepsN 8 (r ^^^ c.toNat)
def crcF (r : Nat) (s : List UInt8) : Nat := s.foldl crcB r
def addC (sum : Nat) (s : List UInt8) : Nat := 4294967295 - crcF (4294967295 - sum) s
/-- The sum of a text. -/
def sumOf (s : List UInt8) : Nat := addC 0 s

theorem xor_cancel {a b c : Nat} (h : a ^^^ b = a ^^^ c) : b = c := by
  have := congrArg (fun z => a ^^^ z) h
  simpa [← Nat.xor_assoc] using this
theorem bitStep_alt (r : Nat) : bitStep r = (r / 2) ^^^ (if r % 2 = 1 then 2197175160 else 0) := by
  unfold bitStep
  split <;> simp
theorem bitStep_lt {r : Nat} (h : r < 4294967296) : bitStep r < 4294967296 := by
  unfold bitStep
  split
  · exact Nat.xor_lt_two_pow (n := 32) (by omega) (by omega)
  · omega
theorem stepsN_lt : ∀ (n : Nat) {r : Nat}, r < 4294967296 → stepsN n r < 4294967296
  | 0, _, h => h
  | n + 1, _, h => stepsN_lt n (bitStep_lt h)
theorem crcB_lt {r : Nat} (h : r < 4294967296) (c : UInt8) : crcB r c < 4294967296 :=
  stepsN_lt 8 (Nat.xor_lt_two_pow (n := 32) h (by have := c.toNat_lt; omega))
theorem crcF_lt : ∀ (s : List UInt8) {r : Nat}, r < 4294967296 → crcF r s < 4294967296
  | [], _, h => h
  | c :: s, _, h => crcF_lt s (crcB_lt h c)
theorem crcF_snoc (r : Nat) (s : List UInt8) (c : UInt8) : crcF r (s ++ [c]) = crcB (crcF r s) c := by unfold crcF; rw [List.foldl_append]; rfl
theorem addC_lt (sum : Nat) (s : List UInt8) : addC sum s < 4294967296 := by unfold addC; omega
theorem sumOf_lt (s : List UInt8) : sumOf s < 4294967296 := addC_lt 0 s
theorem bitStep_xor (x y : Nat) : bitStep (x ^^^ y) = bitStep x ^^^ bitStep y := by
  rw [bitStep_alt, bitStep_alt, bitStep_alt]
  have h1 : (x ^^^ y) / 2 = x / 2 ^^^ y / 2 := Nat.xor_div_two
  have h2 := @Nat.xor_mod_two_eq_one x y
  rw [h1]
  by_cases hx : x % 2 = 1 <;> by_cases hy : y % 2 = 1
  · have h3 : ¬ (x ^^^ y) % 2 = 1 := by rw [h2]; simp [hx, hy]
    rw [if_neg h3, if_pos hx, if_pos hy, Nat.xor_zero]
    rw [Nat.xor_assoc, Nat.xor_comm 2197175160, Nat.xor_assoc, Nat.xor_self, Nat.xor_zero]
  · have h3 : (x ^^^ y) % 2 = 1 := by rw [h2]; simp [hx, hy]
    rw [if_pos h3, if_pos hx, if_neg hy, Nat.xor_zero, Nat.xor_assoc, Nat.xor_assoc, Nat.xor_comm (y / 2)]
  · have h3 : (x ^^^ y) % 2 = 1 := by rw [h2]; simp [hx, hy]
    rw [if_pos h3, if_neg hx, if_pos hy, Nat.xor_zero, Nat.xor_assoc]
  · have h3 : ¬ (x ^^^ y) % 2 = 1 := by rw [h2]; simp [hx, hy]
    rw [if_neg h3, if_neg hx, if_neg hy, Nat.xor_zero, Nat.xor_zero, Nat.xor_zero]
theorem stepsN_xor : ∀ (n x y : Nat), stepsN n (x ^^^ y) = stepsN n x ^^^ stepsN n y
  | 0, _, _ => rfl
  | n + 1, x, y => by simp only [stepsN, bitStep_xor, stepsN_xor n]
theorem stepsN_cut : ∀ (n x : Nat), stepsN n x = (x / 2 ^ n) ^^^ stepsN n (x % 2 ^ n)
  | 0, x => by simp [stepsN, Nat.mod_one]
  | n + 1, x => by
    have h1 : (x % 2 ^ (n + 1)) / 2 = (x / 2) % 2 ^ n := by rw [Nat.pow_succ, Nat.mul_comm, Nat.mod_mul_right_div_self]
    have h2 : (x % 2 ^ (n + 1)) % 2 = x % 2 := by rw [Nat.pow_succ, Nat.mul_comm]; exact Nat.mod_mul_right_mod x 2 (2 ^ n)
    have h3 : x / 2 ^ (n + 1) = x / 2 / 2 ^ n := by rw [Nat.div_div_eq_div_mul, Nat.pow_succ, Nat.mul_comm]
    simp only [stepsN]
    rw [bitStep_alt x, bitStep_alt (x % 2 ^ (n + 1)), h1, h2, h3, stepsN_xor, stepsN_xor, stepsN_cut n (x / 2), Nat.xor_assoc]
theorem crcB_table (r : Nat) (c : UInt8) : crcB r c = (r / 256) ^^^ stepsN 8 ((r % 256) ^^^ c.toNat) := by
  unfold crcB
  have hc := c.toNat_lt
  rw [stepsN_cut 8]
  have h1 : (r ^^^ c.toNat) / 2 ^ 8 = r / 256 := by
    rw [Nat.xor_div_two_pow, Nat.div_eq_of_lt (show c.toNat < 2 ^ 8 by omega), Nat.xor_zero]
  have h2 : (r ^^^ c.toNat) % 2 ^ 8 = (r % 256) ^^^ c.toNat := by
    rw [Nat.xor_mod_two_pow, Nat.mod_eq_of_lt (show c.toNat < 2 ^ 8 by omega)]
  rw [h1, h2]
theorem bitStep_inj {x y : Nat} (hx : x < 4294967296) (hy : y < 4294967296) (h : bitStep x = bitStep y) : x = y := by
  have big : ∀ z, z < 2147483648 → 2147483648 ≤ z ^^^ 2197175160 := by
    intro z hz
    have e : (z ^^^ 2197175160) / 2 ^ 31 = 1 := by rw [Nat.xor_div_two_pow, Nat.div_eq_of_lt (show z < 2 ^ 31 by omega)]; rfl
    omega
  unfold bitStep at h
  split at h <;> split at h
  · have := xor_cancel (a := 2197175160) (by rw [Nat.xor_comm, h, Nat.xor_comm] : 2197175160 ^^^ x / 2 = 2197175160 ^^^ y / 2)
    omega
  · have := big (x / 2) (by omega); omega
  · have := big (y / 2) (by omega); omega
  · omega
theorem stepsN_inj : ∀ (n : Nat) {x y : Nat}, x < 4294967296 → y < 4294967296 → stepsN n x = stepsN n y → x = y
  | 0, _, _, _, _, h => h
  | n + 1, _, _, hx, hy, h => bitStep_inj hx hy (stepsN_inj n (bitStep_lt hx) (bitStep_lt hy) h)
theorem crcB_inj {x y : Nat} {c d : UInt8} (hx : x < 4294967296) (hy : y < 4294967296) (h : crcB x c = crcB y d) : x ^^^ c.toNat = y ^^^ d.toNat :=
  stepsN_inj 8 (Nat.xor_lt_two_pow (n := 32) hx (by have := c.toNat_lt; omega)) (Nat.xor_lt_two_pow (n := 32) hy (by have := d.toNat_lt; omega)) h
theorem crcF_inj : ∀ (s : List UInt8) {x y : Nat}, x < 4294967296 → y < 4294967296 → crcF x s = crcF y s → x = y
  | [], _, _, _, _, h => h
  | c :: s, x, y, hx, hy, h => by
    have h1 := crcB_inj hx hy (crcF_inj s (crcB_lt hx c) (crcB_lt hy c) h)
    have := congrArg (fun z => z ^^^ c.toNat) h1
    simpa [Nat.xor_assoc] using this
/-- Two texts that differ in one byte have different sums. -/
theorem sumOf_turned (a b : List UInt8) (c d : UInt8) (h : c ≠ d) : sumOf (a ++ [c] ++ b) ≠ sumOf (a ++ [d] ++ b) := by
  intro e
  have ha : crcF 4294967295 a < 4294967296 := crcF_lt a (by omega)
  have e2 : crcF 4294967295 (a ++ [c] ++ b) = crcF 4294967295 (a ++ [d] ++ b) := by
    have l1 : crcF 4294967295 (a ++ [c] ++ b) < 4294967296 := crcF_lt _ (by omega)
    have l2 : crcF 4294967295 (a ++ [d] ++ b) < 4294967296 := crcF_lt _ (by omega)
    unfold sumOf addC at e
    simp only [Nat.sub_zero] at e
    omega
  have app : ∀ r (s t : List UInt8), crcF r (s ++ t) = crcF (crcF r s) t := fun r s t => by unfold crcF; rw [List.foldl_append]
  rw [app _ (a ++ [c]), app _ (a ++ [d]), crcF_snoc, crcF_snoc] at e2
  have h1 := crcB_inj ha ha (crcF_inj b (crcB_lt ha c) (crcB_lt ha d) e2)
  have h2 := xor_cancel h1
  exact h (UInt8.toNat_inj.1 h2)
end Go.Cmp
