/-
  A header's bytes: the program's.
-/
import Derived.Test.YtghnfocajnlfhaaHeadA
import Derived.Test.YtghnfocajnlfhaaCodec
set_option linter.unusedSimpArgs false
set_option linter.unusedVariables false
set_option linter.unusedSectionVars false
set_option maxRecDepth 100000
namespace Go.Proofs.Ytghnfocajnlfhaa
open Go.RowKit Go.Cmp
set_option maxRecDepth 100000

section
variable {S : List Nat} {w0 w : World} {M : List Ent}
/-- 'num.Put' behind nothing. -/
theorem put_nil (hS : St S w0 w M) (x : Int) (k : Nat) (hk1 : 1 ≤ k) (hk : k ≤ 8) (h0 : 0 ≤ x) (hx : x < 256 ^ k) :
    Calls Try.prog 46 #[.slice none 0 0, .int .u64 x, .int .i64 k] w fun e w' => ∃ v', e = .returned (.tuple #[v', .int .i64 0]) ∧ St S w0 w' (.vec v' 5 1 (leB k x.toNat).length ((leB k x.toNat).flatMap byt) :: M) := by
  have h := num_put (l := []) hS x k hk1 hk h0 hx (by simp) (Rd.nil _ _)
  simpa using h
/-- 'num.Put' behind bytes of one's own. -/
theorem put_on {v : Value} {l : List UInt8} (hS : St S w0 w (.vec v 5 1 l.length (l.flatMap byt) :: M)) (x : Int) (k : Nat) (hk1 : 1 ≤ k) (hk : k ≤ 8) (h0 : 0 ≤ x) (hx : x < 256 ^ k) (hl : l.length ≤ 100000000) :
    Calls Try.prog 46 #[v, .int .u64 x, .int .i64 k] w fun e w' => ∃ v', e = .returned (.tuple #[v', .int .i64 0]) ∧ St S w0 w' (.vec v' 5 1 (l ++ leB k x.toNat).length ((l ++ leB k x.toNat).flatMap byt) :: M) := by
  have h := num_put (v := v) (l := l) hS x k hk1 hk h0 hx (by omega) (hS.rdx (by (repeat (first | exact Ix.here | apply Ix.there))))
  refine h.mono ?_
  rintro e w' ⟨v', rfl, hS⟩
  exact ⟨v', rfl, hS.pick⟩
theorem numsB_len (L : List Int) : (L.flatMap (fun n => leB 8 n.toNat)).length = 8 * L.length := by
  induction L with
  | nil => rfl
  | cons x L ih => simp only [List.flatMap_cons, List.length_append, leB_length, ih, List.length_cons]; omega
theorem right_split {h : Hd} (hr : h.right = true) : (∀ i, i < 3 → small (nth h.smalls i)) ∧ ∀ i, i < 8 → fits (nth h.nums i) := by
  unfold Hd.right at hr
  simp only [Bool.and_eq_true, List.all_eq_true, decide_eq_true_eq] at hr
  exact ⟨fun i hi => hr.1 _ (nth_mem (by simpa [Hd.smalls] using hi)), fun i hi => hr.2 _ (nth_mem (by simpa [Hd.nums] using hi))⟩
end
end Go.Proofs.Ytghnfocajnlfhaa
