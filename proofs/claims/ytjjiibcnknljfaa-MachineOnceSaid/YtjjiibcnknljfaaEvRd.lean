/-
  The statement on transfers: the walk.
  The statement on accounts: the walk.
  Transfers that came in.
  Accounts that came in.
-/
import Derived.Test.YtjjiibcnknljfaaEvRef
import Derived.Deep.Slices
import Derived.Deep.Fields
import Derived.ChangeSame
set_option linter.unusedSimpArgs false
set_option linter.unusedVariables false
set_option linter.unusedSectionVars false
set_option maxRecDepth 100000
namespace Go.Proofs.Ytjjiibcnknljfaa
open Go.RowKit Go.Cmp

theorem gTra_by (x : Tra) (h : x.Ok) (s : List UInt8) (hs : byTra x = some s) : s.length = 32 ∧ gTra s = x := by
  simp only [byTra, Option.some.injEq] at hs
  subst hs
  obtain ⟨a, b, c, d⟩ := x
  obtain ⟨h1, h2, h3, h4⟩ := h
  have e8 : ∀ (n : Nat) (r : List UInt8), (leB 8 n ++ r).take 8 = leB 8 n := fun n r => List.take_left' (leB_length _ _)
  have d8 : ∀ (n : Nat) (r : List UInt8), (leB 8 n ++ r).drop 8 = r := fun n r => List.drop_left' (leB_length _ _)
  have t8 : ∀ n : Nat, (leB 8 n).take 8 = leB 8 n := fun n => List.take_of_length_le (by rw [leB_length]; exact Nat.le_refl _)
  have r8 : ∀ n : Nat, n < 256 ^ 8 → leN (leB 8 n) = n := fun n h => by rw [leN_leB, Nat.mod_eq_of_lt h]
  constructor
  · simp [leB_length]
  · unfold gTra
    simp only [List.append_assoc] at *
    have w16 : ∀ l : List UInt8, l.drop 16 = (l.drop 8).drop 8 := fun l => by rw [List.drop_drop]
    have w24 : ∀ l : List UInt8, l.drop 24 = ((l.drop 8).drop 8).drop 8 := fun l => by rw [List.drop_drop, List.drop_drop]
    rw [w16, w24]
    simp only [e8, d8, t8]
    rw [r8 _ h1, r8 _ h2, r8 _ h3, r8 _ h4]

theorem flatMap_take {α : Type} (val : α → List Value) (k : Nat) (hv : ∀ x, (val x).length = k) : ∀ (xs : List α) (m : Nat), (xs.flatMap val).take (m * k) = (xs.take m).flatMap val
  | [], m => by simp
  | x :: xs, 0 => by simp
  | x :: xs, m + 1 => by
    rw [List.take_succ_cons, List.flatMap_cons, List.flatMap_cons, ← flatMap_take val k hv xs m, Nat.succ_mul, Nat.add_comm, ← hv x, List.take_length_add_append]

end Go.Proofs.Ytjjiibcnknljfaa
namespace Go.Proofs.Ytjjiibcnknljfaa
open Go.RowKit Go.Cmp

def Acc.bare (x : Acc) : Acc := ⟨x.id, x.flags, 0, 0⟩
theorem gAcc_by (x : Acc) (h : x.Ok) (s : List UInt8) (hs : byAcc x = some s) : s.length = 9 ∧ gAcc s = x.bare := by
  unfold byAcc at hs
  split at hs
  · rename_i hf
    simp only [Option.some.injEq] at hs
    subst hs
    obtain ⟨a, b, c, d⟩ := x
    obtain ⟨h1, _⟩ := h
    simp only at hf h1
    refine ⟨by simp [leB_length], ?_⟩
    unfold gAcc Acc.bare
    have e1 : ((leB 8 a ++ [fb b]).getD 8 0).toNat = b := by
      rw [List.getD_eq_getElem?_getD, List.getElem?_append_right (by rw [leB_length]; exact Nat.le_refl _), leB_length]
      have := fb_wrap b
      simp [IntKind.wrap, IntKind.signed, IntKind.bits] at this
      simp
      omega
    rw [e1, List.take_left' (leB_length _ _), leN_leB, Nat.mod_eq_of_lt h1]
  · cases hs

end Go.Proofs.Ytjjiibcnknljfaa
namespace Go.Proofs.Ytjjiibcnknljfaa
open Go.RowKit Go.Cmp Go.ChangeShapes Go.WideShapes Go.Deep
set_option maxRecDepth 100000

section
variable {H : Type} {enc : TypeId × Value → H} {w : World} {base : Nat} {spare : Nat → Bool} {held : Bool}

theorem u64_of {n : Nat} {c : Value} {y : Option (DataW H × List MemPlace)} (h : DataW.trod enc Try.prog w base spare held n 33 [c] = y) (hy : y.isSome = true) : ∃ k : Nat, k < 256 ^ 8 ∧ c = .int .u64 (k : Int) := by
  obtain ⟨z, rfl⟩ := Option.isSome_iff_exists.1 hy
  obtain ⟨v, hv, _, hw⟩ := DataW.trod_int Try.underlying33 h
  have e1 : IntKind.u64.min = 0 := rfl
  have e2 : IntKind.u64.max = 18446744073709551615 := rfl
  simp [Lit.wf, e1, e2] at hw
  refine ⟨v.toNat, by rw [pow8]; omega, ?_⟩
  simp only [List.cons.injEq, and_true] at hv
  rw [hv]
  congr 1
  omega

theorem tra_of {n : Nat} {cs : List Value} {y : DataW H × List MemPlace} (hl : cs.length = 4) (h : DataW.trod enc Try.prog w base spare held n 99 cs = some y) : ∃ X : Tra, X.Ok ∧ cs = X.cells := by
  obtain ⟨ys, n', _, _, _, hyl, hf⟩ := DataW.trod_struct (P := Try.prog) (t := 99) rfl h
  have hc : Try.prog.cellsOf 33 = 1 := by kernel_rfl
  match cs, hl with
  | [c0, c1, c2, c3], _ =>
    have h0 : DataW.trod enc Try.prog w base spare held n' 33 (([c0, c1, c2, c3].drop 0).take (Try.prog.cellsOf 33)) = ys[0]? := hf 0 _ rfl
    have h1 : DataW.trod enc Try.prog w base spare held n' 33 (([c0, c1, c2, c3].drop 1).take (Try.prog.cellsOf 33)) = ys[1]? := hf 1 _ rfl
    have h2 : DataW.trod enc Try.prog w base spare held n' 33 (([c0, c1, c2, c3].drop 2).take (Try.prog.cellsOf 33)) = ys[2]? := hf 2 _ rfl
    have h3 : DataW.trod enc Try.prog w base spare held n' 33 (([c0, c1, c2, c3].drop 3).take (Try.prog.cellsOf 33)) = ys[3]? := hf 3 _ rfl
    have hyl4 : ys.length = 4 := hyl
    rw [hc] at h0 h1 h2 h3
    obtain ⟨k0, b0, rfl⟩ := u64_of h0 (by simp; omega)
    obtain ⟨k1, b1, rfl⟩ := u64_of h1 (by simp; omega)
    obtain ⟨k2, b2, rfl⟩ := u64_of h2 (by simp; omega)
    obtain ⟨k3, b3, rfl⟩ := u64_of h3 (by simp; omega)
    exact ⟨⟨k0, k1, k2, k3⟩, ⟨b0, b1, b2, b3⟩, rfl⟩

theorem rows_of {α : Type} (ok : α → Prop) (val : α → List Value) (k : Nat) (hv : ∀ x, (val x).length = k) (a : Addr) (len : Nat)
    (h : ∀ i, i < len → ∃ x, ok x ∧ ∀ j, j < k → w.cell? ((a.add (i * k)).add j) = (val x)[j]?) :
    ∃ xs : List α, xs.length = len ∧ (∀ x ∈ xs, ok x) ∧ ∀ (i : Nat) y, (xs.flatMap val)[i]? = some y → w.cell? (a.add i) = some y := by
  induction len with
  | zero => exact ⟨[], rfl, by simp, by simp⟩
  | succ len ih =>
    obtain ⟨xs, h1, h2, h3⟩ := ih (fun i hi => h i (by omega))
    obtain ⟨x, h4, h5⟩ := h len (by omega)
    have hfl : (xs.flatMap val).length = len * k := by
      rw [← h1]
      clear h1 h2 h3
      induction xs with
      | nil => simp
      | cons a r ih => rw [List.flatMap_cons, List.length_append, ih, hv, List.length_cons, Nat.add_mul]; omega
    refine ⟨xs ++ [x], by simp [h1], ?_, ?_⟩
    · intro y hy
      rcases List.mem_append.1 hy with hy | hy
      · exact h2 y hy
      · simp only [List.mem_singleton] at hy
        subst hy
        exact h4
    · intro i y hy
      rw [List.flatMap_append] at hy
      by_cases hi : i < len * k
      · rw [List.getElem?_append_left (by omega)] at hy
        exact h3 i y hy
      · rw [List.getElem?_append_right (by omega), hfl] at hy
        simp only [List.flatMap_cons, List.flatMap_nil, List.append_nil] at hy
        have hj : i - len * k < k := by
          have := (List.getElem?_eq_some_iff.1 hy).1
          rw [hv] at this
          exact this
        have h6 := h5 (i - len * k) hj
        rw [Go.Cmp.add_add, show len * k + (i - len * k) = i by omega, hy] at h6
        exact h6

theorem rd_tras {a0 : Option Addr} {len cap : Nat} {d : DataW H} {p : List MemPlace} (h : DataW.Trod enc Try.prog w base spare held 41 (.slice a0 len cap) d p) :
    ∃ xs : List Tra, xs.length = len ∧ (∀ x ∈ xs, x.Ok) ∧ Rd w 4 (.slice a0 len cap) len (xs.flatMap Tra.cells) := by
  obtain ⟨fuel, hf⟩ := h
  have hC : Try.prog.cellsOf 99 = 4 := by kernel_rfl
  rcases open_slice (P := Try.prog) (e := 99) rfl hf with ⟨hcs, _⟩ | ⟨a, l, c, m, n, D, Pl, hcs, _, hl, hm, hmm, _, hi⟩
  · simp [Value.cells] at hcs
    obtain ⟨rfl, rfl, rfl⟩ := hcs
    exact ⟨[], rfl, by simp, Rd.nil _ _⟩
  · simp [Value.cells] at hcs
    obtain ⟨rfl, rfl, rfl⟩ := hcs
    have hlm : len ≤ m := by rw [hmm]; split <;> omega
    obtain ⟨xs, h1, h2, h3⟩ := rows_of Tra.Ok Tra.cells 4 (fun _ => rfl) (w := w) a len (fun i hlt => by
      obtain ⟨cs', hc, ht'⟩ := hi i (by omega)
      rw [hC] at hc
      obtain ⟨_, hcl, hat⟩ := World.cells?_some hc
      obtain ⟨X, hX, rfl⟩ := tra_of hcl ht'
      exact ⟨X, hX, hat⟩)
    have hfl : (xs.flatMap Tra.cells).length = len * 4 := by
      rw [← h1]
      clear h1 h2 h3
      induction xs with
      | nil => simp
      | cons a r ih => rw [List.flatMap_cons, List.length_append, ih, List.length_cons, Nat.add_mul]; simp [Tra.cells]; omega
    exact ⟨xs, h1, h2, hfl, some a, cap, rfl, hl, hm, by simp, fun b hb i y hy => by cases hb; exact h3 i y hy⟩
end
end Go.Proofs.Ytjjiibcnknljfaa
namespace Go.Proofs.Ytjjiibcnknljfaa
open Go.RowKit Go.Cmp Go.ChangeShapes Go.WideShapes Go.Deep
set_option maxRecDepth 100000

section
variable {H : Type} {enc : TypeId × Value → H} {w : World} {base : Nat} {spare : Nat → Bool} {held : Bool}

theorem i64_of {n : Nat} {c : Value} {y : Option (DataW H × List MemPlace)} (h : DataW.trod enc Try.prog w base spare held n 3 [c] = y) (hy : y.isSome = true) : ∃ k : Int, (-9223372036854775808 ≤ k ∧ k ≤ 9223372036854775807) ∧ c = .int .i64 k := by
  obtain ⟨z, rfl⟩ := Option.isSome_iff_exists.1 hy
  obtain ⟨v, hv, _, hw⟩ := DataW.trod_int Try.underlying3 h
  have e1 : IntKind.i64.min = -9223372036854775808 := rfl
  have e2 : IntKind.i64.max = 9223372036854775807 := rfl
  simp [Lit.wf, e1, e2] at hw
  refine ⟨v, by omega, ?_⟩
  simpa using hv

theorem acc_of {n : Nat} {cs : List Value} {y : DataW H × List MemPlace} (hl : cs.length = 4) (h : DataW.trod enc Try.prog w base spare held n 102 cs = some y) : ∃ X : Acc, X.Ok ∧ cs = X.cells := by
  obtain ⟨ys, n', _, _, _, hyl, hf⟩ := DataW.trod_struct (P := Try.prog) (t := 102) rfl h
  have hc : Try.prog.cellsOf 33 = 1 := by kernel_rfl
  have hci : Try.prog.cellsOf 3 = 1 := by kernel_rfl
  match cs, hl with
  | [c0, c1, c2, c3], _ =>
    have h0 : DataW.trod enc Try.prog w base spare held n' 33 (([c0, c1, c2, c3].drop 0).take (Try.prog.cellsOf 33)) = ys[0]? := hf 0 _ rfl
    have h1 : DataW.trod enc Try.prog w base spare held n' 3 (([c0, c1, c2, c3].drop 1).take (Try.prog.cellsOf 3)) = ys[1]? := hf 1 _ rfl
    have h2 : DataW.trod enc Try.prog w base spare held n' 33 (([c0, c1, c2, c3].drop 2).take (Try.prog.cellsOf 33)) = ys[2]? := hf 2 _ rfl
    have h3 : DataW.trod enc Try.prog w base spare held n' 33 (([c0, c1, c2, c3].drop 3).take (Try.prog.cellsOf 33)) = ys[3]? := hf 3 _ rfl
    have hyl4 : ys.length = 4 := hyl
    rw [hc] at h0 h2 h3
    rw [hci] at h1
    obtain ⟨k0, b0, rfl⟩ := u64_of h0 (by simp; omega)
    obtain ⟨k1, b1, rfl⟩ := i64_of h1 (by simp; omega)
    obtain ⟨k2, b2, rfl⟩ := u64_of h2 (by simp; omega)
    obtain ⟨k3, b3, rfl⟩ := u64_of h3 (by simp; omega)
    exact ⟨⟨k0, k1, k2, k3⟩, ⟨b0, b2, b3, b1.1, b1.2⟩, rfl⟩

theorem rd_accs {a0 : Option Addr} {len cap : Nat} {d : DataW H} {p : List MemPlace} (h : DataW.Trod enc Try.prog w base spare held 43 (.slice a0 len cap) d p) :
    ∃ xs : List Acc, xs.length = len ∧ (∀ x ∈ xs, x.Ok) ∧ Rd w 4 (.slice a0 len cap) len (xs.flatMap Acc.cells) := by
  obtain ⟨fuel, hf⟩ := h
  have hC : Try.prog.cellsOf 102 = 4 := by kernel_rfl
  rcases open_slice (P := Try.prog) (e := 102) rfl hf with ⟨hcs, _⟩ | ⟨a, l, c, m, n, D, Pl, hcs, _, hl, hm, hmm, _, hi⟩
  · simp [Value.cells] at hcs
    obtain ⟨rfl, rfl, rfl⟩ := hcs
    exact ⟨[], rfl, by simp, Rd.nil _ _⟩
  · simp [Value.cells] at hcs
    obtain ⟨rfl, rfl, rfl⟩ := hcs
    have hlm : len ≤ m := by rw [hmm]; split <;> omega
    obtain ⟨xs, h1, h2, h3⟩ := rows_of Acc.Ok Acc.cells 4 (fun _ => rfl) (w := w) a len (fun i hlt => by
      obtain ⟨cs', hc, ht'⟩ := hi i (by omega)
      rw [hC] at hc
      obtain ⟨_, hcl, hat⟩ := World.cells?_some hc
      obtain ⟨X, hX, rfl⟩ := acc_of hcl ht'
      exact ⟨X, hX, hat⟩)
    have hfl : (xs.flatMap Acc.cells).length = len * 4 := by
      rw [← h1]
      clear h1 h2 h3
      induction xs with
      | nil => simp
      | cons a r ih => rw [List.flatMap_cons, List.length_append, ih, List.length_cons, Nat.add_mul]; simp [Acc.cells]; omega
    exact ⟨xs, h1, h2, hfl, some a, cap, rfl, hl, hm, by simp, fun b hb i y hy => by cases hb; exact h3 i y hy⟩
end
end Go.Proofs.Ytjjiibcnknljfaa
