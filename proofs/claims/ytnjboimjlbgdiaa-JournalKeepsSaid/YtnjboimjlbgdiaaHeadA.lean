/-
  Headers in plain lists.
  A header's numbers: where they stand.
  May a header be: the program's answer.
-/
import Derived.Test.YtnjboimjlbgdiaaCrc
import Derived.Test.YtnjboimjlbgdiaaAppZ
import Derived.Test.YtnjboimjlbgdiaaCodec
set_option linter.unusedSimpArgs false
set_option linter.unusedVariables false
set_option linter.unusedSectionVars false
set_option maxRecDepth 100000
namespace Go.Cmp
open Go.RowKit

structure Hd where
  kind : Int
  frm : Int
  oper : Int
  view : Int
  op : Int
  commit : Int
  client : Int
  session : Int
  request : Int
  a : Int
  b : Int
  parent : Nat
deriving Inhabited, DecidableEq
def Hd.cells (h : Hd) : List Value := [.int .i64 h.kind, .int .i64 h.frm, .int .i64 h.oper, .int .i64 h.view, .int .i64 h.op, .int .i64 h.commit, .int .i64 h.client, .int .i64 h.session, .int .i64 h.request, .int .i64 h.a, .int .i64 h.b, .int .u64 h.parent]
def small (n : Int) : Prop := 0 ≤ n ∧ n ≤ 255
def fits (n : Int) : Prop := 0 ≤ n ∧ n ≤ 72057594037927935
instance (n : Int) : Decidable (small n) := by unfold small; infer_instance
instance (n : Int) : Decidable (fits n) := by unfold fits; infer_instance
def Hd.nums (h : Hd) : List Int := [h.view, h.op, h.commit, h.client, h.session, h.request, h.a, h.b]
def Hd.smalls (h : Hd) : List Int := [h.kind, h.frm, h.oper]
def Hd.right (h : Hd) : Bool := h.smalls.all (fun n => decide (small n)) && h.nums.all (fun n => decide (fits n))
/-- A header's bytes from 4 to 127. -/
def headB (h : Hd) (body : List UInt8) : List UInt8 :=
  leB 4 (sumOf body) ++ [UInt8.ofNat h.kind.toNat, UInt8.ofNat h.frm.toNat, UInt8.ofNat h.oper.toNat, 0] ++ leB 4 body.length ++ leB 8 h.parent ++ h.nums.flatMap (fun n => leB 8 n.toNat) ++ List.replicate 40 0
def packH (h : Hd) (body : List UInt8) : List UInt8 × Int :=
  if h.right = false then ([], 4) else if 3968 < body.length then ([], 5) else (leB 4 (sumOf (headB h body)) ++ headB h body ++ body, 0)
theorem headB_len (h : Hd) (body : List UInt8) : (headB h body).length = 124 := by
  unfold headB Hd.nums
  simp [leB_length]
end Go.Cmp
namespace Go.Proofs.Ytnjboimjlbgdiaa
open Go.RowKit Go.Cmp
set_option maxRecDepth 100000

section
variable {S : List Nat} {w0 w : World} {M : List Ent} {g : Nat} {cs : List Value}
def ptrs (g : Nat) (l : List Nat) : List Value := l.map fun i => .pointer (some ⟨g, i, none⟩)
theorem ptrs_one (g : Nat) (l : List Nat) : ∀ u ∈ ptrs g l, u.oneCell' = true := by
  intro u hu
  obtain ⟨i, _, rfl⟩ := List.mem_map.1 hu
  rfl
set_option maxHeartbeats 2000000 in
theorem headSmall_any (hS : St S w0 w M) :
    Calls Try.prog 61 #[.pointer (some ⟨g, 0, none⟩)] w fun e w' => e = .returned (.agg (ptrs g [0, 1, 2]).toArray) ∧ St S w0 w' M := by
  (go_enter Try.func61, Try.ntmps61)
  go_wp2_with (first | refine au1 (n := ?_) | (refine au2 (n := ?_); clear hS; intro w' hS) | (refine au3 (n := ?_); clear hS; intro gb w1 hS) | (refine au4 (n := ?_); clear hS; intro v1 w' hS) | ((with_reducible refine wl_guard ?_); refine stop_mem rfl rfl ?_))
  refine region_end0 10 hS (by kernel_rfl) ?_
  clear hS
  intro wx hR hB hS
  (refine we_take 0 rfl rfl (by kernel_rfl) (by kernel_rfl) (by kernel_rfl) (fun _ _ _ h => h) (by kernel_rfl) rfl (fun W hW => (by (go_simp; try with_reducible rfl))) hS.base ?_; simp only [Act.put, List.setIfInBounds_toArray, List.set_cons_zero, List.set_cons_succ])
  (refine we_take 1 rfl rfl (by kernel_rfl) (by kernel_rfl) (by kernel_rfl) (fun _ _ _ h => h) (by kernel_rfl) rfl (fun W hW => (by (go_simp; try with_reducible rfl))) hS.base ?_; simp only [Act.put, List.setIfInBounds_toArray, List.set_cons_zero, List.set_cons_succ])
  (refine we_take 2 rfl rfl (by kernel_rfl) (by kernel_rfl) (by kernel_rfl) (fun _ _ _ h => h) (by kernel_rfl) rfl (fun W hW => (by (go_simp; try with_reducible rfl))) hS.base ?_; simp only [Act.put, List.setIfInBounds_toArray, List.set_cons_zero, List.set_cons_succ])
  (refine we_take 3 rfl rfl (by kernel_rfl) (by kernel_rfl) (by kernel_rfl) (fun _ _ _ h => h) (by kernel_rfl) rfl (fun W hW => (by (go_simp; try with_reducible rfl))) hS.base ?_; simp only [Act.put, List.setIfInBounds_toArray, List.set_cons_zero, List.set_cons_succ])
  (refine we_take 4 rfl rfl (by kernel_rfl) (by kernel_rfl) (by kernel_rfl) (fun _ _ _ h => h) (by kernel_rfl) rfl (fun W hW => (by (go_simp; try with_reducible rfl))) hS.base ?_; simp only [Act.put, List.setIfInBounds_toArray, List.set_cons_zero, List.set_cons_succ])
  (refine we_take 5 rfl rfl (by kernel_rfl) (by kernel_rfl) (by kernel_rfl) (fun _ _ _ h => h) (by kernel_rfl) rfl (fun W hW => (by (go_simp; try with_reducible rfl))) hS.base ?_; simp only [Act.put, List.setIfInBounds_toArray, List.set_cons_zero, List.set_cons_succ])
  (refine we_take 6 rfl rfl (by kernel_rfl) (by kernel_rfl) (by kernel_rfl) (fun _ _ _ h => h) (by kernel_rfl) rfl (fun W hW => (by (go_simp; try with_reducible rfl))) hS.base ?_; simp only [Act.put, List.setIfInBounds_toArray, List.set_cons_zero, List.set_cons_succ])
  (refine we_take 7 rfl rfl (by kernel_rfl) (by kernel_rfl) (by kernel_rfl) (fun _ _ _ h => h) (by kernel_rfl) rfl (fun W hW => (by (go_simp; try with_reducible rfl))) hS.base ?_; simp only [Act.put, List.setIfInBounds_toArray, List.set_cons_zero, List.set_cons_succ])
  (refine we_take 8 rfl rfl (by kernel_rfl) (by kernel_rfl) (by kernel_rfl) (fun _ _ _ h => h) (by kernel_rfl) rfl (fun W hW => (by (go_simp; try with_reducible rfl))) hS.base ?_; simp only [Act.put, List.setIfInBounds_toArray, List.set_cons_zero, List.set_cons_succ])
  (refine we_take 9 rfl rfl (by kernel_rfl) (by kernel_rfl) (by kernel_rfl) (fun _ _ _ h => h) (by kernel_rfl) rfl (fun W hW => (by (go_simp; try with_reducible rfl))) hS.base ?_; simp only [Act.put, List.setIfInBounds_toArray, List.set_cons_zero, List.set_cons_succ])
  (refine we_all (rs := [10]) (by kernel_rfl) (by simp) ?_; intro i hi; have hi := List.mem_singleton.1 hi; subst hi)
  replace hS := hB _ _ hS
  simp only [List.cons_append, List.nil_append] at hS
  refine won_of rfl rfl rfl (a_storeA (vs := ptrs g [0, 1, 2]) (cs' := ptrs g [0, 1, 2]) hS rfl rfl rfl (by rfl) (ptrs_one g _) Sw.here (by simp [ptrs]) (by rfl) ?_)
  clear hS
  intro w6 hS
  (refine ⟨fun h => absurd rfl h, ?_⟩; refine we_done (by kernel_rfl) ?_ _)
  go_wp2_with (fail)
  exact end_cell hS rfl rfl 0 rfl rfl rfl rfl rfl ⟨rfl, hS.tail⟩
set_option maxHeartbeats 4000000 in
theorem headNumbers_any (hS : St S w0 w M) :
    Calls Try.prog 62 #[.pointer (some ⟨g, 0, none⟩)] w fun e w' => e = .returned (.agg (ptrs g [3, 4, 5, 6, 7, 8, 9, 10]).toArray) ∧ St S w0 w' M := by
  (go_enter Try.func62, Try.ntmps62)
  go_wp2_with (first | refine au1 (n := ?_) | (refine au2 (n := ?_); clear hS; intro w' hS) | (refine au3 (n := ?_); clear hS; intro gb w1 hS) | (refine au4 (n := ?_); clear hS; intro v1 w' hS) | ((with_reducible refine wl_guard ?_); refine stop_mem rfl rfl ?_))
  refine region_end0 25 hS (by kernel_rfl) ?_
  clear hS
  intro wx hR hB hS
  (refine we_take 0 rfl rfl (by kernel_rfl) (by kernel_rfl) (by kernel_rfl) (fun _ _ _ h => h) (by kernel_rfl) rfl (fun W hW => (by (go_simp; try with_reducible rfl))) hS.base ?_; simp only [Act.put, List.setIfInBounds_toArray, List.set_cons_zero, List.set_cons_succ])
  (refine we_take 1 rfl rfl (by kernel_rfl) (by kernel_rfl) (by kernel_rfl) (fun _ _ _ h => h) (by kernel_rfl) rfl (fun W hW => (by (go_simp; try with_reducible rfl))) hS.base ?_; simp only [Act.put, List.setIfInBounds_toArray, List.set_cons_zero, List.set_cons_succ])
  (refine we_take 2 rfl rfl (by kernel_rfl) (by kernel_rfl) (by kernel_rfl) (fun _ _ _ h => h) (by kernel_rfl) rfl (fun W hW => (by (go_simp; try with_reducible rfl))) hS.base ?_; simp only [Act.put, List.setIfInBounds_toArray, List.set_cons_zero, List.set_cons_succ])
  (refine we_take 3 rfl rfl (by kernel_rfl) (by kernel_rfl) (by kernel_rfl) (fun _ _ _ h => h) (by kernel_rfl) rfl (fun W hW => (by (go_simp; try with_reducible rfl))) hS.base ?_; simp only [Act.put, List.setIfInBounds_toArray, List.set_cons_zero, List.set_cons_succ])
  (refine we_take 4 rfl rfl (by kernel_rfl) (by kernel_rfl) (by kernel_rfl) (fun _ _ _ h => h) (by kernel_rfl) rfl (fun W hW => (by (go_simp; try with_reducible rfl))) hS.base ?_; simp only [Act.put, List.setIfInBounds_toArray, List.set_cons_zero, List.set_cons_succ])
  (refine we_take 5 rfl rfl (by kernel_rfl) (by kernel_rfl) (by kernel_rfl) (fun _ _ _ h => h) (by kernel_rfl) rfl (fun W hW => (by (go_simp; try with_reducible rfl))) hS.base ?_; simp only [Act.put, List.setIfInBounds_toArray, List.set_cons_zero, List.set_cons_succ])
  (refine we_take 6 rfl rfl (by kernel_rfl) (by kernel_rfl) (by kernel_rfl) (fun _ _ _ h => h) (by kernel_rfl) rfl (fun W hW => (by (go_simp; try with_reducible rfl))) hS.base ?_; simp only [Act.put, List.setIfInBounds_toArray, List.set_cons_zero, List.set_cons_succ])
  (refine we_take 7 rfl rfl (by kernel_rfl) (by kernel_rfl) (by kernel_rfl) (fun _ _ _ h => h) (by kernel_rfl) rfl (fun W hW => (by (go_simp; try with_reducible rfl))) hS.base ?_; simp only [Act.put, List.setIfInBounds_toArray, List.set_cons_zero, List.set_cons_succ])
  (refine we_take 8 rfl rfl (by kernel_rfl) (by kernel_rfl) (by kernel_rfl) (fun _ _ _ h => h) (by kernel_rfl) rfl (fun W hW => (by (go_simp; try with_reducible rfl))) hS.base ?_; simp only [Act.put, List.setIfInBounds_toArray, List.set_cons_zero, List.set_cons_succ])
  (refine we_take 9 rfl rfl (by kernel_rfl) (by kernel_rfl) (by kernel_rfl) (fun _ _ _ h => h) (by kernel_rfl) rfl (fun W hW => (by (go_simp; try with_reducible rfl))) hS.base ?_; simp only [Act.put, List.setIfInBounds_toArray, List.set_cons_zero, List.set_cons_succ])
  (refine we_take 10 rfl rfl (by kernel_rfl) (by kernel_rfl) (by kernel_rfl) (fun _ _ _ h => h) (by kernel_rfl) rfl (fun W hW => (by (go_simp; try with_reducible rfl))) hS.base ?_; simp only [Act.put, List.setIfInBounds_toArray, List.set_cons_zero, List.set_cons_succ])
  (refine we_take 11 rfl rfl (by kernel_rfl) (by kernel_rfl) (by kernel_rfl) (fun _ _ _ h => h) (by kernel_rfl) rfl (fun W hW => (by (go_simp; try with_reducible rfl))) hS.base ?_; simp only [Act.put, List.setIfInBounds_toArray, List.set_cons_zero, List.set_cons_succ])
  (refine we_take 12 rfl rfl (by kernel_rfl) (by kernel_rfl) (by kernel_rfl) (fun _ _ _ h => h) (by kernel_rfl) rfl (fun W hW => (by (go_simp; try with_reducible rfl))) hS.base ?_; simp only [Act.put, List.setIfInBounds_toArray, List.set_cons_zero, List.set_cons_succ])
  (refine we_take 13 rfl rfl (by kernel_rfl) (by kernel_rfl) (by kernel_rfl) (fun _ _ _ h => h) (by kernel_rfl) rfl (fun W hW => (by (go_simp; try with_reducible rfl))) hS.base ?_; simp only [Act.put, List.setIfInBounds_toArray, List.set_cons_zero, List.set_cons_succ])
  (refine we_take 14 rfl rfl (by kernel_rfl) (by kernel_rfl) (by kernel_rfl) (fun _ _ _ h => h) (by kernel_rfl) rfl (fun W hW => (by (go_simp; try with_reducible rfl))) hS.base ?_; simp only [Act.put, List.setIfInBounds_toArray, List.set_cons_zero, List.set_cons_succ])
  (refine we_take 15 rfl rfl (by kernel_rfl) (by kernel_rfl) (by kernel_rfl) (fun _ _ _ h => h) (by kernel_rfl) rfl (fun W hW => (by (go_simp; try with_reducible rfl))) hS.base ?_; simp only [Act.put, List.setIfInBounds_toArray, List.set_cons_zero, List.set_cons_succ])
  (refine we_take 16 rfl rfl (by kernel_rfl) (by kernel_rfl) (by kernel_rfl) (fun _ _ _ h => h) (by kernel_rfl) rfl (fun W hW => (by (go_simp; try with_reducible rfl))) hS.base ?_; simp only [Act.put, List.setIfInBounds_toArray, List.set_cons_zero, List.set_cons_succ])
  (refine we_take 17 rfl rfl (by kernel_rfl) (by kernel_rfl) (by kernel_rfl) (fun _ _ _ h => h) (by kernel_rfl) rfl (fun W hW => (by (go_simp; try with_reducible rfl))) hS.base ?_; simp only [Act.put, List.setIfInBounds_toArray, List.set_cons_zero, List.set_cons_succ])
  (refine we_take 18 rfl rfl (by kernel_rfl) (by kernel_rfl) (by kernel_rfl) (fun _ _ _ h => h) (by kernel_rfl) rfl (fun W hW => (by (go_simp; try with_reducible rfl))) hS.base ?_; simp only [Act.put, List.setIfInBounds_toArray, List.set_cons_zero, List.set_cons_succ])
  (refine we_take 19 rfl rfl (by kernel_rfl) (by kernel_rfl) (by kernel_rfl) (fun _ _ _ h => h) (by kernel_rfl) rfl (fun W hW => (by (go_simp; try with_reducible rfl))) hS.base ?_; simp only [Act.put, List.setIfInBounds_toArray, List.set_cons_zero, List.set_cons_succ])
  (refine we_take 20 rfl rfl (by kernel_rfl) (by kernel_rfl) (by kernel_rfl) (fun _ _ _ h => h) (by kernel_rfl) rfl (fun W hW => (by (go_simp; try with_reducible rfl))) hS.base ?_; simp only [Act.put, List.setIfInBounds_toArray, List.set_cons_zero, List.set_cons_succ])
  (refine we_take 21 rfl rfl (by kernel_rfl) (by kernel_rfl) (by kernel_rfl) (fun _ _ _ h => h) (by kernel_rfl) rfl (fun W hW => (by (go_simp; try with_reducible rfl))) hS.base ?_; simp only [Act.put, List.setIfInBounds_toArray, List.set_cons_zero, List.set_cons_succ])
  (refine we_take 22 rfl rfl (by kernel_rfl) (by kernel_rfl) (by kernel_rfl) (fun _ _ _ h => h) (by kernel_rfl) rfl (fun W hW => (by (go_simp; try with_reducible rfl))) hS.base ?_; simp only [Act.put, List.setIfInBounds_toArray, List.set_cons_zero, List.set_cons_succ])
  (refine we_take 23 rfl rfl (by kernel_rfl) (by kernel_rfl) (by kernel_rfl) (fun _ _ _ h => h) (by kernel_rfl) rfl (fun W hW => (by (go_simp; try with_reducible rfl))) hS.base ?_; simp only [Act.put, List.setIfInBounds_toArray, List.set_cons_zero, List.set_cons_succ])
  (refine we_take 24 rfl rfl (by kernel_rfl) (by kernel_rfl) (by kernel_rfl) (fun _ _ _ h => h) (by kernel_rfl) rfl (fun W hW => (by (go_simp; try with_reducible rfl))) hS.base ?_; simp only [Act.put, List.setIfInBounds_toArray, List.set_cons_zero, List.set_cons_succ])
  (refine we_all (rs := [25]) (by kernel_rfl) (by simp) ?_; intro i hi; have hi := List.mem_singleton.1 hi; subst hi)
  replace hS := hB _ _ hS
  simp only [List.cons_append, List.nil_append] at hS
  refine won_of rfl rfl rfl (a_storeA (vs := ptrs g [3, 4, 5, 6, 7, 8, 9, 10]) (cs' := ptrs g [3, 4, 5, 6, 7, 8, 9, 10]) hS rfl rfl rfl (by rfl) (ptrs_one g _) Sw.here (by simp [ptrs]) (by rfl) ?_)
  clear hS
  intro w6 hS
  (refine ⟨fun h => absurd rfl h, ?_⟩; refine we_done (by kernel_rfl) ?_ _)
  go_wp2_with (fail)
  exact end_cell hS rfl rfl 0 rfl rfl rfl rfl rfl ⟨rfl, hS.tail⟩
end
end Go.Proofs.Ytnjboimjlbgdiaa
namespace Go.Proofs.Ytnjboimjlbgdiaa
open Go.RowKit Go.Cmp
set_option maxRecDepth 100000

section
theorem a_idxA {P : Program} {o : Oper} {a : Act} {w : World} {t : TypeId} {x i : Operand} (ho : o.op = .index t x i) {cs : List Value} (hx : a.eval x = .agg cs.toArray) {j : Int} {ik : IntKind} (hi : a.eval i = .int ik j) {n : Nat} {e : TypeId}
    (ht : P.underlying t = some (.array n e)) {u : TypeId} (he : P.underlying e = some (.pointer u)) (hk : (P.info? e).map (·.size) = some 1) (h0 : 0 ≤ j) (hj : j < n) {v : Value} (hv : cs[j.toNat]? = some v) : (execOp a.eval o).run P w = .ok (.value v) w := by
  obtain ⟨ti, he', hk⟩ := Option.map_eq_some_iff.1 hk
  have hb : (0 ≤ j ∧ j < (n : Int)) := ⟨h0, hj⟩
  simp [execOp, ho, hx, hi, Instr.index, asIntOf, run_underlying ht, run_underlying he, part, isAgg, sizeOf, typeInfo, he', hk, hb, hv]
theorem sm_at (h : Hd) (gb k : Nat) (hk : k < 3) : h.cells[k]? = some (.int .i64 (nth h.smalls k)) ∧ (ptrs gb [0, 1, 2])[k]? = some (.pointer (some ⟨gb, k, none⟩)) := by
  match k, hk with
  | 0, _ => exact ⟨rfl, rfl⟩
  | 1, _ => exact ⟨rfl, rfl⟩
  | 2, _ => exact ⟨rfl, rfl⟩
theorem nu_at (h : Hd) (gb k : Nat) (hk : k < 8) : h.cells[3 + k]? = some (.int .i64 (nth h.nums k)) ∧ (ptrs gb [3, 4, 5, 6, 7, 8, 9, 10])[k]? = some (.pointer (some ⟨gb, 3 + k, none⟩)) := by
  match k, hk with
  | 0, _ => exact ⟨rfl, rfl⟩
  | 1, _ => exact ⟨rfl, rfl⟩
  | 2, _ => exact ⟨rfl, rfl⟩
  | 3, _ => exact ⟨rfl, rfl⟩
  | 4, _ => exact ⟨rfl, rfl⟩
  | 5, _ => exact ⟨rfl, rfl⟩
  | 6, _ => exact ⟨rfl, rfl⟩
  | 7, _ => exact ⟨rfl, rfl⟩
theorem all_nth {L : List Int} {p : Int → Bool} {n : Nat} (hn : L.length = n) (h : ∀ i, i < n → p (nth L i) = true) : L.all p = true := by
  subst hn
  rw [List.all_eq_true]
  intro x hx
  obtain ⟨i, hi, rfl⟩ := List.mem_iff_getElem.1 hx
  have := h i hi
  simpa [nth, hi] using this
theorem not_all_nth {L : List Int} {p : Int → Bool} {i : Nat} (hi : i < L.length) (h : p (nth L i) = false) : L.all p = false := by
  rw [Bool.eq_false_iff]
  intro hx
  rw [List.all_eq_true] at hx
  have := hx (nth L i) (by simp [nth, hi])
  rw [h] at this
  exact absurd this (by decide)
set_option maxHeartbeats 4000000 in
theorem headRight_any (h : Hd) (w : World) :
    Calls Try.prog 42 #[.agg h.cells.toArray] w fun e w' => e = .returned (.bool h.right) ∧ St [] w w' [] := by
  have hS := St.init w
  have HSM := Lib.hid (fun gb k => sm_at h gb k)
  have HNU := Lib.hid (fun gb k => nu_at h gb k)
  obtain ⟨cells, hc⟩ : ∃ cs, h.cells = cs := ⟨_, rfl⟩
  have hcl : cells.length = 12 := by rw [← hc]; rfl
  obtain ⟨ans, ha⟩ : ∃ b, h.right = b := ⟨_, rfl⟩
  have HA := Lib.hid ha
  rw [hc] at HSM HNU ⊢
  rw [ha]
  clear ha
  have HC := Lib.hid hc
  clear hc
  obtain ⟨k1, k2, k3, n1, n2, n3, n4, n5, n6, n7, n8, par, rfl⟩ : ∃ a b c d e f g h i j k l, cells = [a, b, c, d, e, f, g, h, i, j, k, l] := by
    match cells, hcl with
    | [a, b, c, d, e, f, g, h, i, j, k, l], _ => exact ⟨a, b, c, d, e, f, g, h, i, j, k, l, rfl⟩
  clear hcl
  (go_enter Try.func42, Try.ntmps42)
  go_wp2_with (first | (go_at_call 61; refine (headSmall_any (g := gb) hS).mono ?_; clear hS; rintro e w' ⟨rfl, hS⟩) | (first | refine au1 (n := ?_) | (refine au2 (n := ?_); clear hS; intro w' hS) | (refine au3 (n := ?_); clear hS; intro gb w1 hS) | (refine au4 (n := ?_); clear hS; intro v1 w' hS) | ((with_reducible refine wl_guard ?_); refine stop_mem rfl rfl ?_)))
  go_loopw [8] (fun k wz => ∃ (k' : Nat), k' ≤ 3 ∧ Hid (∀ i, i < k' → decide (small (nth h.smalls i)) = true) ∧ k = .int .i64 k' ∧ wz = w') (fun k _ => 3 - (intOf k).toNat)
  case atStart => exact ⟨0, by omega, Lib.hid (fun i hi => absurd hi (by omega)), rfl, rfl⟩
  case round =>
    obtain ⟨k, hk, HK, rfl, rfl⟩ := hrel
    by_cases hlt : k < 3
    · have hlt1 : (k : Int) < 3 := by omega
      obtain ⟨e1, e2⟩ := HSM.out gb k hlt
      have HE1 := Lib.hid e1
      have HE2 := Lib.hid e2
      obtain ⟨x, hx⟩ : ∃ x, nth h.smalls k = x := ⟨_, rfl⟩
      rw [hx] at HE1
      have HX := Lib.hid hx
      clear e1 e2 hx
      have hans : ¬ small x → ans = false := fun hb => by
        rw [← HA.out, Hd.right, not_all_nth (i := k) (by simp [Hd.smalls]; omega) (by rw [HX.out]; simpa using hb)]
        rfl
      have HANS := Lib.hid hans
      clear hans
      by_cases c1 : x < 0
      · go_wp2_with (first | ((with_reducible refine g_indexV ?_); refine wl_run rfl (a_idxA rfl rfl rfl rfl rfl rfl (by omega) (by omega) (by simpa using HE2.out)) ?_) | ((with_reducible refine g_load ?_); refine wl_run rfl (a_load1 hS rfl rfl rfl rfl Ix.here HE1.out) ?_) | fail)
        go_ret
        exact ⟨by rw [HANS.out (by unfold small; omega)]; rfl, hS.tail⟩
      · by_cases c2 : x > 255
        · have c3 : decide (x < 0) = false := by simpa using c1
          go_wp2_with (first | ((with_reducible refine g_indexV ?_); refine wl_run rfl (a_idxA rfl rfl rfl rfl rfl rfl (by omega) (by omega) (by simpa using HE2.out)) ?_) | ((with_reducible refine g_load ?_); refine wl_run rfl (a_load1 hS rfl rfl rfl rfl Ix.here HE1.out) ?_) | fail)
          go_ret
          exact ⟨by rw [HANS.out (by unfold small; omega)]; rfl, hS.tail⟩
        · have c3 : decide (x < 0) = false := by simpa using c1
          have c4 : decide (x > 255) = false := by simpa using c2
          go_wp2_with (first | ((with_reducible refine g_indexV ?_); refine wl_run rfl (a_idxA rfl rfl rfl rfl rfl rfl (by omega) (by omega) (by simpa using HE2.out)) ?_) | ((with_reducible refine g_load ?_); refine wl_run rfl (a_load1 hS rfl rfl rfl rfl Ix.here HE1.out) ?_) | fail)
          refine ⟨⟨k + 1, by omega, Lib.hid fun i hi => ?_, by simp, trivial⟩, by simp [intOf]; omega⟩
          by_cases hik : i = k
          · subst hik
            rw [HX.out]
            exact decide_eq_true ⟨by omega, by omega⟩
          · exact HK.out i (by omega)
    · obtain rfl : k = 3 := by omega
      have HSM1 : Hid (h.smalls.all (fun n => decide (small n)) = true) := Lib.hid (all_nth rfl HK.out)
      clear HK HSM
      go_wp2_with (first | (go_at_call 62; refine (headNumbers_any (g := gb) hS).mono ?_; clear hS; rintro e w' ⟨rfl, hS⟩) | fail)
      go_loopw [23] (fun k wz => ∃ (k' : Nat), k' ≤ 8 ∧ Hid (∀ i, i < k' → decide (fits (nth h.nums i)) = true) ∧ k = .int .i64 k' ∧ wz = w') (fun k _ => 8 - (intOf k).toNat)
      case atStart => exact ⟨0, by omega, Lib.hid (fun i hi => absurd hi (by omega)), rfl, rfl⟩
      case round =>
        obtain ⟨k, hk, HK, rfl, rfl⟩ := hrel
        by_cases hlt : k < 8
        · have hlt1 : (k : Int) < 8 := by omega
          obtain ⟨e1, e2⟩ := HNU.out gb k hlt
          have HE1 := Lib.hid e1
          have HE2 := Lib.hid e2
          obtain ⟨x, hx⟩ : ∃ x, nth h.nums k = x := ⟨_, rfl⟩
          rw [hx] at HE1
          have HX := Lib.hid hx
          clear e1 e2 hx
          have hans : ¬ fits x → ans = false := fun hb => by
            rw [← HA.out, Hd.right, HSM1.out, not_all_nth (i := k) (by simp [Hd.nums]; omega) (by rw [HX.out]; simpa using hb)]
            rfl
          have HANS := Lib.hid hans
          clear hans
          by_cases c1 : x < 0
          · go_wp2_with (first | ((with_reducible refine g_indexV ?_); refine wl_run rfl (a_idxA rfl rfl rfl rfl rfl rfl (by omega) (by omega) (by simpa using HE2.out)) ?_) | ((with_reducible refine g_load ?_); refine wl_run rfl (a_load1 hS rfl rfl rfl rfl Ix.here HE1.out) ?_) | fail)
            go_ret
            exact ⟨by rw [HANS.out (by unfold fits; omega)]; rfl, hS.tail⟩
          · by_cases c2 : x > 72057594037927935
            · have c3 : decide (x < 0) = false := by simpa using c1
              go_wp2_with (first | ((with_reducible refine g_indexV ?_); refine wl_run rfl (a_idxA rfl rfl rfl rfl rfl rfl (by omega) (by omega) (by simpa using HE2.out)) ?_) | ((with_reducible refine g_load ?_); refine wl_run rfl (a_load1 hS rfl rfl rfl rfl Ix.here HE1.out) ?_) | fail)
              go_ret
              exact ⟨by rw [HANS.out (by unfold fits; omega)]; rfl, hS.tail⟩
            · have c3 : decide (x < 0) = false := by simpa using c1
              have c4 : decide (x > 72057594037927935) = false := by simpa using c2
              go_wp2_with (first | ((with_reducible refine g_indexV ?_); refine wl_run rfl (a_idxA rfl rfl rfl rfl rfl rfl (by omega) (by omega) (by simpa using HE2.out)) ?_) | ((with_reducible refine g_load ?_); refine wl_run rfl (a_load1 hS rfl rfl rfl rfl Ix.here HE1.out) ?_) | fail)
              refine ⟨⟨k + 1, by omega, Lib.hid fun i hi => ?_, by simp, trivial⟩, by simp [intOf]; omega⟩
              by_cases hik : i = k
              · subst hik
                rw [HX.out]
                exact decide_eq_true ⟨by omega, by omega⟩
              · exact HK.out i (by omega)
        · obtain rfl : k = 8 := by omega
          have HNU1 : Hid (h.nums.all (fun n => decide (fits n)) = true) := Lib.hid (all_nth rfl HK.out)
          clear HK HNU
          go_wp2
          go_ret
          exact ⟨by rw [← HA.out, Hd.right, HSM1.out, HNU1.out]; rfl, hS.tail⟩
end
end Go.Proofs.Ytnjboimjlbgdiaa
