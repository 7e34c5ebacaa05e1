/-
  The statement on whole accounts: the walk.
-/
import Derived.Test.YthihdgohfehnkaaWhole
import Derived.Test.YthihdgohfehnkaaLaw
namespace Go.Proofs.Ythihdgohfehnkaa
open Go.RowKit Go.Cmp

theorem g_neq {P : Program} {ops : Array Oper} {rest : List Oper} {a : Act} {Q : Exit → Act → World → Prop} {w : World} {d : Option Tmp} {ty : TypeId} {pos : String} {af : Array Edge} {gd : Option (Nat × Bool)} {t u : TypeId} {x y : Operand} (H : wpList P ops Q (⟨d, .binOp .neq t x y u, ty, pos, af, gd⟩ :: rest) a w) : wpList P ops Q (⟨d, .binOp .neq t x y u, ty, pos, af, gd⟩ :: rest) a w := H
theorem g_eql {P : Program} {ops : Array Oper} {rest : List Oper} {a : Act} {Q : Exit → Act → World → Prop} {w : World} {d : Option Tmp} {ty : TypeId} {pos : String} {af : Array Edge} {gd : Option (Nat × Bool)} {t u : TypeId} {x y : Operand} (H : wpList P ops Q (⟨d, .binOp .eql t x y u, ty, pos, af, gd⟩ :: rest) a w) : wpList P ops Q (⟨d, .binOp .eql t x y u, ty, pos, af, gd⟩ :: rest) a w := H

theorem eqAcc_op (X Y : Acc) {o : Oper} {a : Act} {w : World} {x y : Operand} {r : TypeId} (ho : o.op = .binOp .eql 37 x y r) (hx : a.eval x = .agg X.cells.toArray) (hy : a.eval y = .agg Y.cells.toArray) :
    (execOp a.eval o).run Try.prog w = .ok (.value (.bool (decide (X = Y)))) w := by
  obtain ⟨a1, a2, a3, a4⟩ := X
  obtain ⟨b1, b2, b3, b4⟩ := Y
  have e : decide ((⟨a1, a2, a3, a4⟩ : Acc) = ⟨b1, b2, b3, b4⟩) = (decide (a1 = b1) && decide (a2 = b2) && decide (a3 = b3) && decide (a4 = b4)) := by
    rw [Bool.eq_iff_iff]
    simp [and_assoc]
  rw [e]
  clear e
  simp only [Acc.cells] at hx hy
  simp only [execOp, ho, hx, hy]
  go_simp
  by_cases h1 : a1 = b1 <;> by_cases h2 : a2 = b2 <;> by_cases h3 : a3 = b3 <;> by_cases h4 : a4 = b4 <;> simp [h1, h2, h3, h4, Int.ofNat_inj]

theorem getW_wholeB (a : Acc) (h : a.Ok) (hf : 0 ≤ a.flags ∧ a.flags ≤ 255) : getW (wholeB a) = (a, true) := by
  obtain ⟨id, flags, deb, cred⟩ := a
  obtain ⟨h1, h2, h3, _⟩ := h
  simp only at h1 h2 h3 hf
  have l1 := leB_length 8 id
  have l2 := leB_length 8 deb
  have l3 := leB_length 8 cred
  have e0 : (wholeB ⟨id, flags, deb, cred⟩) = leB 8 id ++ ([fb flags] ++ (leB 8 deb ++ leB 8 cred)) := by simp [wholeB]
  have hl : (wholeB ⟨id, flags, deb, cred⟩).length = 25 := by rw [e0]; simp only [List.length_append, l1, l2, l3, List.length_singleton]
  unfold getW
  rw [if_pos hl, e0]
  have e1 : (leB 8 id ++ ([fb flags] ++ (leB 8 deb ++ leB 8 cred))).take 8 = leB 8 id := List.take_left' l1
  have e2 : (leB 8 id ++ ([fb flags] ++ (leB 8 deb ++ leB 8 cred))).getD 8 0 = fb flags := by
    rw [List.getD_eq_getElem?_getD, List.getElem?_append_right (by omega), l1]; rfl
  have e3 : (leB 8 id ++ ([fb flags] ++ (leB 8 deb ++ leB 8 cred))).drop 9 = leB 8 deb ++ leB 8 cred := by
    rw [← List.append_assoc]; exact List.drop_left' (by simp [l1])
  have e4 : (leB 8 id ++ ([fb flags] ++ (leB 8 deb ++ leB 8 cred))).drop 17 = leB 8 cred := by
    rw [← List.append_assoc, ← List.append_assoc]; exact List.drop_left' (by simp [l1, l2])
  rw [e1, e2, e3, e4, List.take_left' l2, List.take_of_length_le (by omega), leN_leB, leN_leB, leN_leB, Nat.mod_eq_of_lt h1, Nat.mod_eq_of_lt h2, Nat.mod_eq_of_lt h3]
  have hw : ((fb flags).toNat : Int) = flags := by rw [← fb_wrap]; simp only [IntKind.wrap, IntKind.bits, IntKind.signed]; simp; omega
  rw [hw]

set_option maxHeartbeats 2000000 in
theorem law_whole (a : Acc) (h : a.Ok) (l : List UInt8) (w : World) :
    Calls Try.prog 7 #[.agg a.cells.toArray, .string ⟨l.toArray⟩] w fun e w' => e = .returned (.bool true) ∧ St [] w w' [] := by
  have P1 := Lib.hid (fun w => putWhole_any a h w)
  have P2 := Lib.hid (fun w => refPutWhole_any a h w)
  have W2 := Lib.hid (fun w => refWhole_any l w)
  obtain ⟨G, hG⟩ : ∃ G, getW l = G := ⟨_, rfl⟩
  rw [hG] at W2
  obtain ⟨⟨x1, x2, x3, x4⟩, bx⟩ := G
  have G1 := Lib.hid hG
  simp only [Acc.cells] at W2
  clear hG
  by_cases hf : 0 ≤ a.flags ∧ a.flags ≤ 255
  · have e2 : putW a = (wholeB a, 0) := by unfold putW; rw [if_pos hf]
    have G2 := Lib.hid (getW_wholeB a h hf)
    rw [e2] at P1 P2
    clear e2 hf h
    generalize wholeB a = t at *
    obtain ⟨y1, y2, y3, y4⟩ := a
    simp only [Acc.cells] at P1 P2 ⊢
    go_enter Try.func7, Try.ntmps7
    refine St.startAt w fun w1 hS => ?_
    go_wp2_with (first | (go_at_call 8; refine (awake_any _).mono ?_; rintro e w' ⟨rfl, h⟩; replace hS := hS.call h; clear h) | (go_at_call 24; refine (P1.out _).mono ?_; rintro e w' ⟨rfl, h⟩; replace hS := hS.call h; clear h) | (go_at_call 25; refine (P2.out _).mono ?_; rintro e w' ⟨rfl, h⟩; replace hS := hS.call h; clear h) | (go_at_call 26; refine (whole_any _ _).mono ?_; rintro e w' ⟨rfl, h⟩; replace hS := hS.call h; clear h; simp only [G1.out, G2.out, Acc.cells]) | (go_at_call 27; refine (W2.out _).mono ?_; rintro e w' ⟨rfl, h⟩; replace hS := hS.call h; clear h) | ((with_reducible refine g_neq ?_); refine wl_run rfl (sameAcc_op ⟨x1, x2, x3, x4⟩ ⟨x1, x2, x3, x4⟩ rfl rfl rfl) ?_) | ((with_reducible refine g_eql ?_); refine wl_run rfl (eqAcc_op ⟨y1, y2, y3, y4⟩ ⟨y1, y2, y3, y4⟩ rfl rfl rfl) ?_) | (first | ((with_reducible refine g_load ?_); refine k_read rfl (h := ?_)) | ((with_reducible refine g_len ?_); refine k_len rfl (h := ?_)) | ((with_reducible refine g_index ?_); refine k_idx rfl (h := ?_)) | ((with_reducible refine g_field ?_); refine k_fld rfl (h := ?_)) | ((with_reducible refine g_store ?_); refine wl_of rfl ?_; first | (refine k_sta hS rfl rfl rfl (h := ?_); clear hS; intro w' hS; simp only [List.take, List.drop, List.cons_append, List.nil_append, List.length_cons, List.length_nil] at hS) | (first | ((first | (refine k_st1 (v := .int _ _) hS rfl rfl rfl (h := ?_)) | (refine k_st1 (v := .bool _) hS rfl rfl rfl (h := ?_)) | (refine k_st1 (v := .string _) hS rfl rfl rfl (h := ?_)) | (refine k_st1 (v := .slice none 0 0) hS rfl rfl rfl (h := ?_))); clear hS; intro w' hS; simp only [List.set_cons_zero, List.set_cons_succ] at hS) | ((refine k_st1  hS rfl rfl rfl (h := ?_)); clear hS; intro w' hS; simp only [List.set_cons_zero, List.set_cons_succ] at hS; simp only [Act.eval, Array.getD_eq_getD_getElem?, List.getElem?_toArray, List.getElem?_cons_succ, List.getElem?_cons_zero, Option.getD_some] at hS)) | (first | (refine k_ste (v := .int _ _) hS rfl rfl rfl (h := ?_); clear hS; intro w' hS) | (refine k_ste (v := .bool _) hS rfl rfl rfl (h := ?_); clear hS; intro w' hS) | (refine k_ste (v := .string _) hS rfl rfl rfl (h := ?_); clear hS; intro w' hS))) | ((with_reducible refine g_alloc ?_); refine wl_of rfl ?_; refine wp_alloc hS rfl rfl rfl rfl ?_; clear hS; intro gb w1 hS) | ((with_reducible refine g_box ?_); refine wl_of rfl ?_; refine wp_box hS rfl rfl rfl ?_; clear hS; intro gb w1 hS) | ((with_reducible refine g_bs ?_); refine wl_of rfl ?_; (first | refine a_build1 (v := .int _ _) hS rfl rfl rfl rfl (by rfl) (by simp) ?_ | refine a_build1 (v := .string _) hS rfl rfl rfl rfl (by rfl) (by simp) ?_ | refine a_build1 (v := .bool _) hS rfl rfl rfl rfl (by rfl) (by simp) ?_ | refine a_build1 (v := .agg _) hS rfl rfl rfl rfl (by rfl) (by simp) ?_ | refine a_build1  hS rfl rfl rfl rfl (by rfl) (by simp) ?_); clear hS; intro v1 w' hS; simp only [List.length_cons, List.length_nil, Nat.zero_add] at hS; try simp only [Nat.reduceAdd] at hS) | ((with_reducible refine g_cut ?_); refine k_str rfl (h := ?_)) | ((with_reducible refine g_indexV ?_); refine k_six rfl (h := ?_)) | ((with_reducible refine g_bin ?_); refine k_cat rfl (h := ?_)) | ((with_reducible refine g_conv ?_); refine k_tos rfl (h := ?_)) | ((with_reducible refine wl_guard ?_); refine stop_mem rfl rfl ?_)))
    go_ret
    exact ⟨by simp, hS.nil⟩
  · have e2 : putW a = ([], 1) := by unfold putW; rw [if_neg hf]
    have G2 : Hid (getW [] = (⟨0, 0, 0, 0⟩, false)) := Lib.hid (by unfold getW; rw [if_neg (by simp)])
    rw [e2] at P1 P2
    clear e2 hf h
    obtain ⟨y1, y2, y3, y4⟩ := a
    simp only [Acc.cells] at P1 P2 ⊢
    go_enter Try.func7, Try.ntmps7
    refine St.startAt w fun w1 hS => ?_
    go_wp2_with (first | (go_at_call 8; refine (awake_any _).mono ?_; rintro e w' ⟨rfl, h⟩; replace hS := hS.call h; clear h) | (go_at_call 24; refine (P1.out _).mono ?_; rintro e w' ⟨rfl, h⟩; replace hS := hS.call h; clear h) | (go_at_call 25; refine (P2.out _).mono ?_; rintro e w' ⟨rfl, h⟩; replace hS := hS.call h; clear h) | (go_at_call 26; refine (whole_any _ _).mono ?_; rintro e w' ⟨rfl, h⟩; replace hS := hS.call h; clear h; simp only [G1.out, G2.out, Acc.cells]) | (go_at_call 27; refine (W2.out _).mono ?_; rintro e w' ⟨rfl, h⟩; replace hS := hS.call h; clear h) | ((with_reducible refine g_neq ?_); refine wl_run rfl (sameAcc_op ⟨x1, x2, x3, x4⟩ ⟨x1, x2, x3, x4⟩ rfl rfl rfl) ?_) | (first | ((with_reducible refine g_load ?_); refine k_read rfl (h := ?_)) | ((with_reducible refine g_len ?_); refine k_len rfl (h := ?_)) | ((with_reducible refine g_index ?_); refine k_idx rfl (h := ?_)) | ((with_reducible refine g_field ?_); refine k_fld rfl (h := ?_)) | ((with_reducible refine g_store ?_); refine wl_of rfl ?_; first | (refine k_sta hS rfl rfl rfl (h := ?_); clear hS; intro w' hS; simp only [List.take, List.drop, List.cons_append, List.nil_append, List.length_cons, List.length_nil] at hS) | (first | ((first | (refine k_st1 (v := .int _ _) hS rfl rfl rfl (h := ?_)) | (refine k_st1 (v := .bool _) hS rfl rfl rfl (h := ?_)) | (refine k_st1 (v := .string _) hS rfl rfl rfl (h := ?_)) | (refine k_st1 (v := .slice none 0 0) hS rfl rfl rfl (h := ?_))); clear hS; intro w' hS; simp only [List.set_cons_zero, List.set_cons_succ] at hS) | ((refine k_st1  hS rfl rfl rfl (h := ?_)); clear hS; intro w' hS; simp only [List.set_cons_zero, List.set_cons_succ] at hS; simp only [Act.eval, Array.getD_eq_getD_getElem?, List.getElem?_toArray, List.getElem?_cons_succ, List.getElem?_cons_zero, Option.getD_some] at hS)) | (first | (refine k_ste (v := .int _ _) hS rfl rfl rfl (h := ?_); clear hS; intro w' hS) | (refine k_ste (v := .bool _) hS rfl rfl rfl (h := ?_); clear hS; intro w' hS) | (refine k_ste (v := .string _) hS rfl rfl rfl (h := ?_); clear hS; intro w' hS))) | ((with_reducible refine g_alloc ?_); refine wl_of rfl ?_; refine wp_alloc hS rfl rfl rfl rfl ?_; clear hS; intro gb w1 hS) | ((with_reducible refine g_box ?_); refine wl_of rfl ?_; refine wp_box hS rfl rfl rfl ?_; clear hS; intro gb w1 hS) | ((with_reducible refine g_bs ?_); refine wl_of rfl ?_; (first | refine a_build1 (v := .int _ _) hS rfl rfl rfl rfl (by rfl) (by simp) ?_ | refine a_build1 (v := .string _) hS rfl rfl rfl rfl (by rfl) (by simp) ?_ | refine a_build1 (v := .bool _) hS rfl rfl rfl rfl (by rfl) (by simp) ?_ | refine a_build1 (v := .agg _) hS rfl rfl rfl rfl (by rfl) (by simp) ?_ | refine a_build1  hS rfl rfl rfl rfl (by rfl) (by simp) ?_); clear hS; intro v1 w' hS; simp only [List.length_cons, List.length_nil, Nat.zero_add] at hS; try simp only [Nat.reduceAdd] at hS) | ((with_reducible refine g_cut ?_); refine k_str rfl (h := ?_)) | ((with_reducible refine g_indexV ?_); refine k_six rfl (h := ?_)) | ((with_reducible refine g_bin ?_); refine k_cat rfl (h := ?_)) | ((with_reducible refine g_conv ?_); refine k_tos rfl (h := ?_)) | ((with_reducible refine wl_guard ?_); refine stop_mem rfl rfl ?_)))
    go_ret
    exact ⟨by simp, hS.nil⟩
end Go.Proofs.Ythihdgohfehnkaa
