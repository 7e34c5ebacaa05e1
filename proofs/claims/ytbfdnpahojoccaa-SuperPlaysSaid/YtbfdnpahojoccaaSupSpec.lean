/-
  Superblocks in plain lists.
-/
import Derived.Test.YtbfdnpahojoccaaEntA
set_option linter.unusedSimpArgs false
set_option linter.unusedVariables false
set_option linter.unusedSectionVars false
set_option maxRecDepth 100000
namespace Go.Cmp
open Go.RowKit
structure Sup where
  seq : Int
  who : Int
  count : Int
  view : Int
  log : Int
  cop : Int
  cview : Int
  csum : Nat
  area : Int
  size : Int
  s0 : Nat
  s1 : Nat
  s2 : Nat
  s3 : Nat
  s4 : Nat
  s5 : Nat
  parent : Nat
deriving Inhabited, DecidableEq
def Sup.cells (s : Sup) : List Value := [.int .i64 s.seq, .int .i64 s.who, .int .i64 s.count, .int .i64 s.view, .int .i64 s.log, .int .i64 s.cop, .int .i64 s.cview, .int .u64 s.csum, .int .i64 s.area, .int .i64 s.size, .int .u64 s.s0, .int .u64 s.s1, .int .u64 s.s2, .int .u64 s.s3, .int .u64 s.s4, .int .u64 s.s5, .int .u64 s.parent]
def zeroU : Sup := ⟨0, 0, 0, 0, 0, 0, 0, 0, 0, 0, 0, 0, 0, 0, 0, 0, 0⟩
def Sup.nums (s : Sup) : List Nat := [s.seq.toNat, s.who.toNat, s.count.toNat, s.view.toNat, s.log.toNat, s.cop.toNat, s.cview.toNat, s.csum, s.area.toNat, s.size.toNat, s.s0, s.s1, s.s2, s.s3, s.s4, s.s5, s.parent]
def supB (s : Sup) : List UInt8 := s.nums.flatMap (leB 8)
/-- Its unsigned numbers fit into eight bytes. -/
structure Sup.U64 (s : Sup) : Prop where
  csum : s.csum < 18446744073709551616
  s0 : s.s0 < 18446744073709551616
  s1 : s.s1 < 18446744073709551616
  s2 : s.s2 < 18446744073709551616
  s3 : s.s3 < 18446744073709551616
  s4 : s.s4 < 18446744073709551616
  s5 : s.s5 < 18446744073709551616
  parent : s.parent < 18446744073709551616
def Sup.right (s : Sup) : Bool := decide (1 ≤ s.seq) && decide (s.seq ≤ 72057594037927935) && (decide (s.count = 3) || decide (s.count = 5)) && decide (1 ≤ s.who) && decide (s.who ≤ s.count) && decide (0 ≤ s.view) && decide (s.view ≤ 72057594037927935) && decide (0 ≤ s.log) && decide (s.log ≤ s.view) && decide (0 ≤ s.cop) && decide (s.cop ≤ 72057594037927935) && decide (0 ≤ s.cview) && decide (s.cview ≤ 72057594037927935) && decide (0 ≤ s.area) && decide (s.area ≤ 1) && decide (0 ≤ s.size) && decide (s.size ≤ 1920)
/-- What is so of one that may be. -/
structure Sup.R (s : Sup) : Prop where
  seq : 1 ≤ s.seq ∧ s.seq ≤ 72057594037927935
  count : s.count = 3 ∨ s.count = 5
  who : 1 ≤ s.who ∧ s.who ≤ s.count
  view : 0 ≤ s.view ∧ s.view ≤ 72057594037927935
  log : 0 ≤ s.log ∧ s.log ≤ s.view
  cop : 0 ≤ s.cop ∧ s.cop ≤ 72057594037927935
  cview : 0 ≤ s.cview ∧ s.cview ≤ 72057594037927935
  area : 0 ≤ s.area ∧ s.area ≤ 1
  size : 0 ≤ s.size ∧ s.size ≤ 1920
theorem sup_right {s : Sup} : s.right = true ↔ s.R := by
  unfold Sup.right
  simp only [Bool.and_eq_true, Bool.or_eq_true, decide_eq_true_eq]
  constructor
  · rintro ⟨⟨⟨⟨⟨⟨⟨⟨⟨⟨⟨⟨⟨⟨⟨⟨a, b⟩, c⟩, d⟩, e⟩, f⟩, g⟩, h⟩, i⟩, j⟩, k⟩, l⟩, m⟩, n⟩, o⟩, p⟩, q⟩
    exact ⟨⟨a, b⟩, c, ⟨d, e⟩, ⟨f, g⟩, ⟨h, i⟩, ⟨j, k⟩, ⟨l, m⟩, ⟨n, o⟩, ⟨p, q⟩⟩
  · rintro ⟨⟨a, b⟩, c, ⟨d, e⟩, ⟨f, g⟩, ⟨h, i⟩, ⟨j, k⟩, ⟨l, m⟩, ⟨n, o⟩, ⟨p, q⟩⟩
    exact ⟨⟨⟨⟨⟨⟨⟨⟨⟨⟨⟨⟨⟨⟨⟨⟨a, b⟩, c⟩, d⟩, e⟩, f⟩, g⟩, h⟩, i⟩, j⟩, k⟩, l⟩, m⟩, n⟩, o⟩, p⟩, q⟩
def packU (s : Sup) : List UInt8 × Int := if s.right = false then ([], 4) else (supB s, 0)
def supO (b : List UInt8) : Sup := ⟨int8 b 0, int8 b 8, int8 b 16, int8 b 24, int8 b 32, int8 b 40, int8 b 48, num8 b 56, int8 b 64, int8 b 72, num8 b 80, num8 b 88, num8 b 96, num8 b 104, num8 b 112, num8 b 120, num8 b 128⟩
def unpU (b : List UInt8) : Sup × Int := if b.length ≠ 136 then (zeroU, 4) else if (supO b).right = false then (zeroU, 4) else (supO b, 0)
/-! ### Numbers in a row -/
theorem flat8_length : ∀ (L : List Nat), (L.flatMap (leB 8)).length = 8 * L.length
  | [] => rfl
  | n :: L => by rw [List.flatMap_cons, List.length_append, leB_length, flat8_length L, List.length_cons]; omega
theorem num8_nth : ∀ (L : List Nat) (k : Nat) (n : Nat), L[k]? = some n → n < 18446744073709551616 → num8 (L.flatMap (leB 8)) (8 * k) = n
  | [], k, n, h, _ => by simp at h
  | m :: L, 0, n, h, hn => by
    simp only [List.getElem?_cons_zero, Option.some.injEq] at h
    subst h
    have := num8_at (A := []) (B := L.flatMap (leB 8)) (n := m) (i := 0) rfl hn
    simpa using this
  | m :: L, k + 1, n, h, hn => by
    simp only [List.getElem?_cons_succ] at h
    have ih := num8_nth L k n h hn
    unfold num8 at ih ⊢
    rw [List.flatMap_cons, show 8 * (k + 1) = (leB 8 m).length + 8 * k by rw [leB_length]; omega, List.drop_append, List.drop_eq_nil_of_le (by omega), List.nil_append, Nat.add_sub_cancel_left]
    exact ih
theorem int8_nth (L : List Nat) (k : Nat) (n : Int) (h : L[k]? = some n.toNat) (h0 : 0 ≤ n) (hn : n ≤ 72057594037927935) : int8 (L.flatMap (leB 8)) (8 * k) = n := by
  unfold int8
  rw [num8_nth L k _ h (by omega), Int.toNat_of_nonneg h0, IntKind.wrap_i64]
  omega
theorem supO_B {s : Sup} (hr : s.right = true) (hu : s.U64) : supO (supB s) = s := by
  have r := sup_right.1 hr
  obtain ⟨q1, q2, q3, q4, q5, q6, q7, q8, q9⟩ := r
  unfold supO supB
  rw [show (0 : Nat) = 8 * 0 from rfl, show (8 : Nat) = 8 * 1 from rfl]
  have i := fun k n (h : s.nums[k]? = some n.toNat) => int8_nth s.nums k n h
  have u := fun k n (h : s.nums[k]? = some n) => num8_nth s.nums k n h
  have e0 := i 0 s.seq rfl (by omega) (by omega)
  have e1 := i 1 s.who rfl (by omega) (by omega)
  have e2 := i 2 s.count rfl (by omega) (by omega)
  have e3 := i 3 s.view rfl (by omega) (by omega)
  have e4 := i 4 s.log rfl (by omega) (by omega)
  have e5 := i 5 s.cop rfl (by omega) (by omega)
  have e6 := i 6 s.cview rfl (by omega) (by omega)
  have e7 := u 7 s.csum rfl hu.csum
  have e8 := i 8 s.area rfl (by omega) (by omega)
  have e9 := i 9 s.size rfl (by omega) (by omega)
  have e10 := u 10 s.s0 rfl hu.s0
  have e11 := u 11 s.s1 rfl hu.s1
  have e12 := u 12 s.s2 rfl hu.s2
  have e13 := u 13 s.s3 rfl hu.s3
  have e14 := u 14 s.s4 rfl hu.s4
  have e15 := u 15 s.s5 rfl hu.s5
  have e16 := u 16 s.parent rfl hu.parent
  generalize s.nums.flatMap (leB 8) = B at *
  simp only [Nat.reduceMul, Nat.mul_zero, Nat.mul_one] at *
  rw [e0, e1, e2, e3, e4, e5, e6, e7, e8, e9, e10, e11, e12, e13, e14, e15, e16]
theorem int8_nat2 {b : List UInt8} {i : Nat} (h0 : 0 ≤ int8 b i) : (int8 b i).toNat = num8 b i := by
  have h := num8_lt b i
  unfold int8 at *
  rw [IntKind.wrap_i64] at *
  omega
theorem leB_num82 {s : List UInt8} {i : Nat} (h : i + 8 ≤ s.length) : leB 8 (num8 s i) = (s.drop i).take 8 := by
  unfold num8
  have hl : ((s.drop i).take 8).length = 8 := by rw [List.length_take, List.length_drop]; omega
  have := leB_leN ((s.drop i).take 8)
  rw [hl] at this
  exact this
theorem flat_congr {α β : Type} {f g : α → List β} : ∀ {l : List α}, (∀ x ∈ l, f x = g x) → l.flatMap f = l.flatMap g
  | [], _ => rfl
  | x :: l, h => by rw [List.flatMap_cons, List.flatMap_cons, h x (by simp), flat_congr (l := l) (fun y hy => h y (by simp [hy]))]
theorem cut8 : ∀ (n : Nat) (b : List UInt8), b.length = 8 * n → (List.range n).flatMap (fun k => leB 8 (num8 b (8 * k))) = b
  | 0, b, h => by
    have : b = [] := List.eq_nil_of_length_eq_zero (by omega)
    subst this; rfl
  | n + 1, b, h => by
    rw [List.range_succ, List.flatMap_append]
    have ih := cut8 n (b.take (8 * n)) (by rw [List.length_take]; omega)
    have e : (List.range n).flatMap (fun k => leB 8 (num8 b (8 * k))) = (List.range n).flatMap (fun k => leB 8 (num8 (b.take (8 * n)) (8 * k))) := by
      refine flat_congr fun k hk => ?_
      have hk := List.mem_range.1 hk
      rw [leB_num82 (by omega), leB_num82 (by rw [List.length_take]; omega), List.drop_take, List.take_take, show min 8 (8 * n - 8 * k) = 8 by omega]
    rw [e, ih]
    simp only [List.flatMap_cons, List.flatMap_nil, List.append_nil]
    rw [leB_num82 (by omega), show (b.drop (8 * n)).take 8 = b.drop (8 * n) from List.take_of_length_le (by rw [List.length_drop]; omega)]
    exact List.take_append_drop _ _
theorem supB_O {b : List UInt8} (hl : b.length = 136) (hr : (supO b).right = true) : supB (supO b) = b := by
  obtain ⟨q1, q2, q3, q4, q5, q6, q7, q8, q9⟩ := sup_right.1 hr
  have h := cut8 17 b (by omega)
  rw [← h]
  rw [h]
  have e : (supO b).nums = (List.range 17).map (fun k => num8 b (8 * k)) := by
    show [_, _, _, _, _, _, _, _, _, _, _, _, _, _, _, _, _] = [_, _, _, _, _, _, _, _, _, _, _, _, _, _, _, _, _]
    simp only [supO] at *
    rw [int8_nat2 (by omega), int8_nat2 (by omega), int8_nat2 (by omega), int8_nat2 (by omega), int8_nat2 (by omega), int8_nat2 (by omega), int8_nat2 (by omega), int8_nat2 (by omega), int8_nat2 (by omega)]
  unfold supB
  rw [e, List.flatMap_map]
  exact h
theorem supO_U (b : List UInt8) : (supO b).U64 := ⟨num8_lt _ _, num8_lt _ _, num8_lt _ _, num8_lt _ _, num8_lt _ _, num8_lt _ _, num8_lt _ _, num8_lt _ _⟩
theorem supB_len (s : Sup) : (supB s).length = 136 := by
  unfold supB
  rw [flat8_length]
  rfl
theorem unpU_B {s : Sup} (hr : s.right = true) (hu : s.U64) : unpU (supB s) = (s, 0) := by
  unfold unpU
  rw [if_neg (by rw [supB_len]; simp), supO_B hr hu, if_neg (by simp [hr])]
end Go.Cmp
