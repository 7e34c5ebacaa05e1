/-
  Headers in plain lists.
-/
import Derived.Test.YtkcgacadkpbpoaaSeal5
set_option linter.unusedSimpArgs false
set_option linter.unusedVariables false
set_option linter.unusedSectionVars false
namespace Go.Cmp
open Go.RowKit

structure Hd where
  kind : Int
  frm : Int
  oper : Int
  view : Int
  op : Int
  commit : Int
  client : Int
  session : Int
  request : Int
  a : Int
  b : Int
  parent : Nat
deriving Inhabited, DecidableEq
def Hd.cells (h : Hd) : List Value := [.int .i64 h.kind, .int .i64 h.frm, .int .i64 h.oper, .int .i64 h.view, .int .i64 h.op, .int .i64 h.commit, .int .i64 h.client, .int .i64 h.session, .int .i64 h.request, .int .i64 h.a, .int .i64 h.b, .int .u64 h.parent]
def small (n : Int) : Prop := 0 ≤ n ∧ n ≤ 255
def fits (n : Int) : Prop := 0 ≤ n ∧ n ≤ 72057594037927935
instance (n : Int) : Decidable (small n) := by unfold small; infer_instance
instance (n : Int) : Decidable (fits n) := by unfold fits; infer_instance
def Hd.nums (h : Hd) : List Int := [h.view, h.op, h.commit, h.client, h.session, h.request, h.a, h.b]
def Hd.smalls (h : Hd) : List Int := [h.kind, h.frm, h.oper]
def Hd.right (h : Hd) : Bool := h.smalls.all (fun n => decide (small n)) && h.nums.all (fun n => decide (fits n))
/-- A header's bytes from 4 to 127. -/
def headB (h : Hd) (body : List UInt8) : List UInt8 :=
  leB 4 (sumOf body) ++ [UInt8.ofNat h.kind.toNat, UInt8.ofNat h.frm.toNat, UInt8.ofNat h.oper.toNat, 0] ++ leB 4 body.length ++ leB 8 h.parent ++ h.nums.flatMap (fun n => leB 8 n.toNat) ++ List.replicate 40 0
def packH (h : Hd) (body : List UInt8) : List UInt8 × Int :=
  if h.right = false then ([], 4) else if 3968 < body.length then ([], 5) else (leB 4 (sumOf (headB h body)) ++ headB h body ++ body, 0)
theorem headB_len (h : Hd) (body : List UInt8) : (headB h body).length = 124 := by
  unfold headB Hd.nums
  simp [leB_length]
end Go.Cmp
