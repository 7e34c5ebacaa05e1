/-
  Plain facts on bytes and numbers; no program in sight.
-/
import Derived.WalkKit
import Derived.Laws.Bits64b
set_option linter.unusedSimpArgs false
set_option linter.unusedVariables false
set_option linter.unusedSectionVars false
namespace Go.Cmp
open Go.RowKit

/-- The number of bytes, the lowest first. -/
def leN : List UInt8 → Nat
  | [] => 0
  | x :: r => x.toNat + 256 * leN r
/-- A number's k bytes, the lowest first. -/
def leB : Nat → Nat → List UInt8
  | 0, _ => []
  | k + 1, n => UInt8.ofNat (n % 256) :: leB k (n / 256)

theorem leB_length (k n : Nat) : (leB k n).length = k := by
  induction k generalizing n with
  | zero => rfl
  | succ k ih => simp [leB, ih]
theorem leN_lt (l : List UInt8) : leN l < 256 ^ l.length := by
  induction l with
  | nil => simp [leN]
  | cons x l ih =>
    have := x.toNat_lt
    simp only [leN, List.length_cons, Nat.pow_succ]
    omega
theorem leN_leB (k n : Nat) : leN (leB k n) = n % 256 ^ k := by
  induction k generalizing n with
  | zero => simp [leB, leN, Nat.mod_one]
  | succ k ih =>
    simp only [leB, leN, ih]
    rw [Nat.pow_succ, Nat.mul_comm (256 ^ k) 256, Nat.mod_mul]
    have : (UInt8.ofNat (n % 256)).toNat = n % 256 := by simp [UInt8.toNat_ofNat']
    rw [this]
theorem leB_leN (l : List UInt8) : leB l.length (leN l) = l := by
  induction l with
  | nil => rfl
  | cons x l ih =>
    have hx := x.toNat_lt
    simp only [List.length_cons, leB, leN]
    have h1 : (x.toNat + 256 * leN l) % 256 = x.toNat := by omega
    have h2 : (x.toNat + 256 * leN l) / 256 = leN l := by omega
    rw [h1, h2, ih]
    simp
theorem leN_append (a b : List UInt8) : leN (a ++ b) = leN a + 256 ^ a.length * leN b := by
  induction a with
  | nil => simp [leN]
  | cons x a ih =>
    simp only [List.cons_append, leN, ih, List.length_cons, Nat.pow_succ]
    rw [Nat.mul_add, Nat.mul_assoc, Nat.mul_left_comm, Nat.mul_comm (256 ^ a.length) (256 * _), Nat.mul_assoc, Nat.mul_comm (leN b)]
    omega
theorem leN_zeros (k : Nat) : leN (List.replicate k 0) = 0 := by
  induction k with
  | zero => rfl
  | succ k ih => simp [List.replicate_succ, leN, ih]
theorem leN_snoc (l : List UInt8) (x : UInt8) : leN (l ++ [x]) = leN l + 256 ^ l.length * x.toNat := by
  rw [leN_append]; simp [leN]
theorem leB_snoc (k n : Nat) : leB (k + 1) n = leB k n ++ [UInt8.ofNat (n / 256 ^ k % 256)] := by
  induction k generalizing n with
  | zero => simp [leB]
  | succ k ih =>
    rw [leB, ih]
    conv => rhs; rw [leB]
    rw [List.cons_append, Nat.div_div_eq_div_mul, ← Nat.pow_succ']
theorem leB_mod (k n : Nat) : leB k (n % 256 ^ k) = leB k n := by
  have h := leB_leN (leB k n)
  rw [leB_length, leN_leB] at h
  exact h
theorem leB_inj {k n m : Nat} (hn : n < 256 ^ k) (hm : m < 256 ^ k) (h : leB k n = leB k m) : n = m := by
  have := congrArg leN h
  rwa [leN_leB, leN_leB, Nat.mod_eq_of_lt hn, Nat.mod_eq_of_lt hm] at this
theorem leB_take (j k n : Nat) (h : j ≤ k) : (leB k n).take j = leB j n := by
  induction j generalizing k n with
  | zero => simp [leB]
  | succ j ih =>
    cases k with
    | zero => omega
    | succ k => simp only [leB, List.take_succ_cons, ih k _ (by omega)]

theorem pow256_le (j : Nat) (h : j ≤ 8) : 256 ^ j ≤ 18446744073709551616 := by
  have : (18446744073709551616 : Nat) = 256 ^ 8 := by decide
  rw [this]
  exact Nat.pow_le_pow_right (by omega) h
theorem two8 (j : Nat) : (2 : Nat) ^ (8 * j) = 256 ^ j := by rw [Nat.pow_mul]

/-- One more byte, by '|'. -/
theorem or_step (a : Nat) (c : UInt8) (j : Nat) (ha : a < 256 ^ j) (hj : j < 8) :
    bits BinOp.or .u64 (a : Int) (IntKind.u64.wrap (IntKind.u64.wrap (c.toNat : Int) * 2 ^ (8 * j))) = ((a + 256 ^ j * c.toNat : Nat) : Int) := by
  have hc := c.toNat_lt
  have h1 : IntKind.u64.wrap (c.toNat : Int) = (c.toNat : Int) := by simp [IntKind.wrap, IntKind.bits, IntKind.signed]; omega
  have hp : (256 : Nat) ^ (j + 1) ≤ 18446744073709551616 := pow256_le (j + 1) (by omega)
  have hb : 256 ^ j * c.toNat < 18446744073709551616 := by
    have : 256 ^ j * c.toNat < 256 ^ j * 256 := Nat.mul_lt_mul_of_pos_left hc (Nat.pow_pos (by omega))
    rw [Nat.pow_succ] at hp
    omega
  have h2 : IntKind.u64.wrap (IntKind.u64.wrap (c.toNat : Int) * 2 ^ (8 * j)) = ((256 ^ j * c.toNat : Nat) : Int) := by
    rw [h1]
    have : (c.toNat : Int) * 2 ^ (8 * j) = ((256 ^ j * c.toNat : Nat) : Int) := by
      rw [← two8]
      push_cast
      rw [Int.mul_comm]
    rw [this]
    generalize 256 ^ j * c.toNat = y at hb
    simp only [IntKind.wrap, IntKind.bits, IntKind.signed]
    simp
    omega
  rw [h2, bits_or_u64_nat _ _ (by have := pow256_le j (by omega); omega) hb, ← two8]
  have := Nat.two_pow_add_eq_or_of_lt (i := 8 * j) (b := a) (by rw [two8]; exact ha) c.toNat
  rw [Nat.or_comm, ← this, Nat.add_comm]

/-- A byte of a number, by '>>'. -/
theorem byte_shr (n j : Nat) : (IntKind.u8.wrap ((n : Int) / 2 ^ (8 * j))) = ((UInt8.ofNat (n / 256 ^ j % 256)).toNat : Int) := by
  have : (n : Int) / 2 ^ (8 * j) = ((n / 256 ^ j : Nat) : Int) := by rw [← two8]; push_cast; rfl
  rw [this]
  generalize n / 256 ^ j = y
  simp only [IntKind.wrap, IntKind.bits, IntKind.signed, UInt8.toNat_ofNat']
  simp
theorem byte_div (n j : Nat) : ((n : Int) / 2 ^ (8 * j)) % 256 = ((UInt8.ofNat (n / 256 ^ j % 256)).toNat : Int) := by
  have : (n : Int) / 2 ^ (8 * j) = ((n / 256 ^ j : Nat) : Int) := by rw [← two8]; push_cast; rfl
  rw [this]
  generalize n / 256 ^ j = y
  simp only [UInt8.toNat_ofNat']
  omega

/-- A list of numbers as cells. -/
def U (l : List Nat) : List Value := l.map fun (n : Nat) => Value.int .u64 (n : Int)
theorem U_length (l : List Nat) : (U l).length = l.length := by simp [U]
theorem U_get {l : List Nat} {i : Nat} (h : i < l.length) : (U l)[i]? = some (Value.int .u64 (l[i] : Int)) := by simp [U, h]
theorem U_one (l : List Nat) : ∀ u ∈ U l, u.oneCell' = true := by
  intro u hu
  simp only [U, List.mem_map] at hu
  obtain ⟨x, _, rfl⟩ := hu
  rfl
theorem U_append (l m : List Nat) : U (l ++ m) = U l ++ U m := by simp [U]
theorem pow8 : (256 : Nat) ^ 8 = 18446744073709551616 := by decide
theorem flatMap_take_succ {α β : Type} (f : α → List β) (l : List α) (j : Nat) (h : j < l.length) : (l.take (j + 1)).flatMap f = (l.take j).flatMap f ++ f l[j] := by
  rw [List.take_succ_eq_append_getElem h, List.flatMap_append]; simp
theorem flatMap_leB_length (l : List Nat) : (l.flatMap (leB 8)).length = 8 * l.length := by
  induction l with
  | nil => rfl
  | cons x l ih => simp only [List.flatMap_cons, List.length_append, leB_length, ih, List.length_cons]; omega
end Go.Cmp
