/-
  Headers in plain lists.
  A header's numbers: where they stand.
  May a header be: the program's answer.
-/
import Derived.Test.YtghnfocajnlfhaaCrc
import Derived.Test.YtghnfocajnlfhaaAppZ
import Derived.Test.YtghnfocajnlfhaaCodec
set_option linter.unusedSimpArgs false
set_option linter.unusedVariables false
set_option linter.unusedSectionVars false
set_option maxRecDepth 100000
namespace Go.Cmp
open Go.RowKit

structure Hd where
  kind : Int
  frm : Int
  oper : Int
  view : Int
  op : Int
  commit : Int
  client : Int
  session : Int
  request : Int
  a : Int
  b : Int
  parent : Nat
deriving Inhabited, DecidableEq
def Hd.cells (h : Hd) : List Value := [.int .i64 h.kind, .int .i64 h.frm, .int .i64 h.oper, .int .i64 h.view, .int .i64 h.op, .int .i64 h.commit, .int .i64 h.client, .int .i64 h.session, .int .i64 h.request, .int .i64 h.a, .int .i64 h.b, .int .u64 h.parent]
def small (n : Int) : Prop := 0 ≤ n ∧ n ≤ 255
def fits (n : Int) : Prop := 0 ≤ n ∧ n ≤ 72057594037927935
instance (n : Int) : Decidable (small n) := by unfold small; infer_instance
instance (n : Int) : Decidable (fits n) := by unfold fits; infer_instance
def Hd.nums (h : Hd) : List Int := [h.view, h.op, h.commit, h.client, h.session, h.request, h.a, h.b]
def Hd.smalls (h : Hd) : List Int := [h.kind, h.frm, h.oper]
def Hd.right (h : Hd) : Bool := h.smalls.all (fun n => decide (small n)) && h.nums.all (fun n => decide (fits n))
/-- A header's bytes from 4 to 127. -/
def headB (h : Hd) (body : List UInt8) : List UInt8 :=
  leB 4 (sumOf body) ++ [UInt8.ofNat h.kind.toNat, UInt8.ofNat h.frm.toNat, UInt8.ofNat h.oper.toNat, 0] ++ leB 4 body.length ++ leB 8 h.parent ++ h.nums.flatMap (fun n => leB 8 n.toNat) ++ List.replicate 40 0
def packH (h : Hd) (body : List UInt8) : List UInt8 × Int :=
  if h.right = false then ([], 4) else if 3968 < body.length then ([], 5) else (leB 4 (sumOf (headB h body)) ++ headB h body ++ body, 0)
theorem headB_len (h : Hd) (body : List UInt8) : (headB h body).length = 124 := by
  unfold headB Hd.nums
  simp [leB_length]
end Go.Cmp
namespace Go.Proofs.Ytghnfocajnlfhaa
open Go.RowKit Go.Cmp
set_option maxRecDepth 100000

section
variable {S : List Nat} {w0 w : World} {M : List Ent} {g : Nat} {cs : List Value}
def ptrs (g : Nat) (l : List Nat) : List Value := l.map fun i => .pointer (some ⟨g, i, none⟩)
theorem ptrs_one (g : Nat) (l : List Nat) : ∀ u ∈ ptrs g l, u.oneCell' = true := by
  intro u hu
  obtain ⟨i, _, rfl⟩ := List.mem_map.1 hu
  rfl
end
end Go.Proofs.Ytghnfocajnlfhaa
namespace Go.Proofs.Ytghnfocajnlfhaa
open Go.RowKit Go.Cmp
set_option maxRecDepth 100000

section
theorem a_idxA {P : Program} {o : Oper} {a : Act} {w : World} {t : TypeId} {x i : Operand} (ho : o.op = .index t x i) {cs : List Value} (hx : a.eval x = .agg cs.toArray) {j : Int} {ik : IntKind} (hi : a.eval i = .int ik j) {n : Nat} {e : TypeId}
    (ht : P.underlying t = some (.array n e)) {u : TypeId} (he : P.underlying e = some (.pointer u)) (hk : (P.info? e).map (·.size) = some 1) (h0 : 0 ≤ j) (hj : j < n) {v : Value} (hv : cs[j.toNat]? = some v) : (execOp a.eval o).run P w = .ok (.value v) w := by
  obtain ⟨ti, he', hk⟩ := Option.map_eq_some_iff.1 hk
  have hb : (0 ≤ j ∧ j < (n : Int)) := ⟨h0, hj⟩
  simp [execOp, ho, hx, hi, Instr.index, asIntOf, run_underlying ht, run_underlying he, part, isAgg, sizeOf, typeInfo, he', hk, hb, hv]
theorem sm_at (h : Hd) (gb k : Nat) (hk : k < 3) : h.cells[k]? = some (.int .i64 (nth h.smalls k)) ∧ (ptrs gb [0, 1, 2])[k]? = some (.pointer (some ⟨gb, k, none⟩)) := by
  match k, hk with
  | 0, _ => exact ⟨rfl, rfl⟩
  | 1, _ => exact ⟨rfl, rfl⟩
  | 2, _ => exact ⟨rfl, rfl⟩
theorem nu_at (h : Hd) (gb k : Nat) (hk : k < 8) : h.cells[3 + k]? = some (.int .i64 (nth h.nums k)) ∧ (ptrs gb [3, 4, 5, 6, 7, 8, 9, 10])[k]? = some (.pointer (some ⟨gb, 3 + k, none⟩)) := by
  match k, hk with
  | 0, _ => exact ⟨rfl, rfl⟩
  | 1, _ => exact ⟨rfl, rfl⟩
  | 2, _ => exact ⟨rfl, rfl⟩
  | 3, _ => exact ⟨rfl, rfl⟩
  | 4, _ => exact ⟨rfl, rfl⟩
  | 5, _ => exact ⟨rfl, rfl⟩
  | 6, _ => exact ⟨rfl, rfl⟩
  | 7, _ => exact ⟨rfl, rfl⟩
theorem all_nth {L : List Int} {p : Int → Bool} {n : Nat} (hn : L.length = n) (h : ∀ i, i < n → p (nth L i) = true) : L.all p = true := by
  subst hn
  rw [List.all_eq_true]
  intro x hx
  obtain ⟨i, hi, rfl⟩ := List.mem_iff_getElem.1 hx
  have := h i hi
  simpa [nth, hi] using this
theorem not_all_nth {L : List Int} {p : Int → Bool} {i : Nat} (hi : i < L.length) (h : p (nth L i) = false) : L.all p = false := by
  rw [Bool.eq_false_iff]
  intro hx
  rw [List.all_eq_true] at hx
  have := hx (nth L i) (by simp [nth, hi])
  rw [h] at this
  exact absurd this (by decide)
end
end Go.Proofs.Ytghnfocajnlfhaa
