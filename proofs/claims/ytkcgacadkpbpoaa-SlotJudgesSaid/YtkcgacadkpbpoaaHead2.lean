/-
  May a header be: the program's answer.
-/
import Derived.Test.YtkcgacadkpbpoaaHead1
set_option linter.unusedSimpArgs false
set_option linter.unusedVariables false
set_option linter.unusedSectionVars false
namespace Go.Proofs.Ytkcgacadkpbpoaa
open Go.RowKit Go.Cmp
set_option maxRecDepth 100000

section
theorem a_idxA {P : Program} {o : Oper} {a : Act} {w : World} {t : TypeId} {x i : Operand} (ho : o.op = .index t x i) {cs : List Value} (hx : a.eval x = .agg cs.toArray) {j : Int} {ik : IntKind} (hi : a.eval i = .int ik j) {n : Nat} {e : TypeId}
    (ht : P.underlying t = some (.array n e)) {u : TypeId} (he : P.underlying e = some (.pointer u)) (hk : (P.info? e).map (·.size) = some 1) (h0 : 0 ≤ j) (hj : j < n) {v : Value} (hv : cs[j.toNat]? = some v) : (execOp a.eval o).run P w = .ok (.value v) w := by
  obtain ⟨ti, he', hk⟩ := Option.map_eq_some_iff.1 hk
  have hb : (0 ≤ j ∧ j < (n : Int)) := ⟨h0, hj⟩
  simp [execOp, ho, hx, hi, Instr.index, asIntOf, run_underlying ht, run_underlying he, part, isAgg, sizeOf, typeInfo, he', hk, hb, hv]
theorem sm_at (h : Hd) (gb k : Nat) (hk : k < 3) : h.cells[k]? = some (.int .i64 (nth h.smalls k)) ∧ (ptrs gb [0, 1, 2])[k]? = some (.pointer (some ⟨gb, k, none⟩)) := by
  match k, hk with
  | 0, _ => exact ⟨rfl, rfl⟩
  | 1, _ => exact ⟨rfl, rfl⟩
  | 2, _ => exact ⟨rfl, rfl⟩
theorem nu_at (h : Hd) (gb k : Nat) (hk : k < 8) : h.cells[3 + k]? = some (.int .i64 (nth h.nums k)) ∧ (ptrs gb [3, 4, 5, 6, 7, 8, 9, 10])[k]? = some (.pointer (some ⟨gb, 3 + k, none⟩)) := by
  match k, hk with
  | 0, _ => exact ⟨rfl, rfl⟩
  | 1, _ => exact ⟨rfl, rfl⟩
  | 2, _ => exact ⟨rfl, rfl⟩
  | 3, _ => exact ⟨rfl, rfl⟩
  | 4, _ => exact ⟨rfl, rfl⟩
  | 5, _ => exact ⟨rfl, rfl⟩
  | 6, _ => exact ⟨rfl, rfl⟩
  | 7, _ => exact ⟨rfl, rfl⟩
theorem all_nth {L : List Int} {p : Int → Bool} {n : Nat} (hn : L.length = n) (h : ∀ i, i < n → p (nth L i) = true) : L.all p = true := by
  subst hn
  rw [List.all_eq_true]
  intro x hx
  obtain ⟨i, hi, rfl⟩ := List.mem_iff_getElem.1 hx
  have := h i hi
  simpa [nth, hi] using this
theorem not_all_nth {L : List Int} {p : Int → Bool} {i : Nat} (hi : i < L.length) (h : p (nth L i) = false) : L.all p = false := by
  rw [Bool.eq_false_iff]
  intro hx
  rw [List.all_eq_true] at hx
  have := hx (nth L i) (by simp [nth, hi])
  rw [h] at this
  exact absurd this (by decide)
set_option maxHeartbeats 4000000 in
theorem headRight_any (h : Hd) (w : World) :
    Calls Try.prog 52 #[.agg h.cells.toArray] w fun e w' => e = .returned (.bool h.right) ∧ St [] w w' [] := by
  have hS := St.init w
  have HSM := Lib.hid (fun gb k => sm_at h gb k)
  have HNU := Lib.hid (fun gb k => nu_at h gb k)
  obtain ⟨cells, hc⟩ : ∃ cs, h.cells = cs := ⟨_, rfl⟩
  have hcl : cells.length = 12 := by rw [← hc]; rfl
  obtain ⟨ans, ha⟩ : ∃ b, h.right = b := ⟨_, rfl⟩
  have HA := Lib.hid ha
  rw [hc] at HSM HNU ⊢
  rw [ha]
  clear ha
  have HC := Lib.hid hc
  clear hc
  obtain ⟨k1, k2, k3, n1, n2, n3, n4, n5, n6, n7, n8, par, rfl⟩ : ∃ a b c d e f g h i j k l, cells = [a, b, c, d, e, f, g, h, i, j, k, l] := by
    match cells, hcl with
    | [a, b, c, d, e, f, g, h, i, j, k, l], _ => exact ⟨a, b, c, d, e, f, g, h, i, j, k, l, rfl⟩
  clear hcl
  (go_enter Try.func52, Try.ntmps52)
  go_wp2_with (first | (go_at_call 73; refine (headSmall_any (g := gb) hS).mono ?_; clear hS; rintro e w' ⟨rfl, hS⟩) | (first | ((with_reducible refine g_load ?_); refine k_read rfl (h := ?_)) | ((with_reducible refine g_len ?_); refine k_len rfl (h := ?_)) | ((with_reducible refine g_index ?_); refine k_idx rfl (h := ?_)) | ((with_reducible refine g_field ?_); refine k_fld rfl (h := ?_)) | ((with_reducible refine g_store ?_); refine wl_of rfl ?_; first | (refine k_sta hS rfl rfl rfl (h := ?_); clear hS; intro w' hS; simp only [List.take, List.drop, List.cons_append, List.nil_append, List.length_cons, List.length_nil] at hS) | (first | ((first | (refine k_st1 (v := .int _ _) hS rfl rfl rfl (h := ?_)) | (refine k_st1 (v := .bool _) hS rfl rfl rfl (h := ?_)) | (refine k_st1 (v := .string _) hS rfl rfl rfl (h := ?_)) | (refine k_st1 (v := .slice none 0 0) hS rfl rfl rfl (h := ?_))); clear hS; intro w' hS; simp only [List.set_cons_zero, List.set_cons_succ] at hS) | ((refine k_st1  hS rfl rfl rfl (h := ?_)); clear hS; intro w' hS; simp only [List.set_cons_zero, List.set_cons_succ] at hS; simp only [Act.eval, Array.getD_eq_getD_getElem?, List.getElem?_toArray, List.getElem?_cons_succ, List.getElem?_cons_zero, Option.getD_some] at hS)) | (first | (refine k_ste (v := .int _ _) hS rfl rfl rfl (h := ?_); clear hS; intro w' hS) | (refine k_ste (v := .bool _) hS rfl rfl rfl (h := ?_); clear hS; intro w' hS) | (refine k_ste (v := .string _) hS rfl rfl rfl (h := ?_); clear hS; intro w' hS))) | ((with_reducible refine g_alloc ?_); refine wl_of rfl ?_; refine wp_alloc hS rfl rfl rfl rfl ?_; clear hS; intro gb w1 hS) | ((with_reducible refine g_box ?_); refine wl_of rfl ?_; refine wp_box hS rfl rfl rfl ?_; clear hS; intro gb w1 hS) | ((with_reducible refine g_bs ?_); refine wl_of rfl ?_; (first | refine a_build1 (v := .int _ _) hS rfl rfl rfl rfl (by rfl) (by simp) ?_ | refine a_build1 (v := .string _) hS rfl rfl rfl rfl (by rfl) (by simp) ?_ | refine a_build1 (v := .bool _) hS rfl rfl rfl rfl (by rfl) (by simp) ?_ | refine a_build1 (v := .agg _) hS rfl rfl rfl rfl (by rfl) (by simp) ?_ | refine a_build1  hS rfl rfl rfl rfl (by rfl) (by simp) ?_); clear hS; intro v1 w' hS; simp only [List.length_cons, List.length_nil, Nat.zero_add] at hS; try simp only [Nat.reduceAdd] at hS) | ((with_reducible refine g_cut ?_); refine k_str rfl (h := ?_)) | ((with_reducible refine g_indexV ?_); refine k_six rfl (h := ?_)) | ((with_reducible refine g_bin ?_); refine k_cat rfl (h := ?_)) | ((with_reducible refine g_conv ?_); refine k_tos rfl (h := ?_)) | ((with_reducible refine wl_guard ?_); refine stop_mem rfl rfl ?_)))
  go_loopw [8] (fun k wz => ∃ (k' : Nat), k' ≤ 3 ∧ Hid (∀ i, i < k' → decide (small (nth h.smalls i)) = true) ∧ k = .int .i64 k' ∧ wz = w') (fun k _ => 3 - (intOf k).toNat)
  case atStart => exact ⟨0, by omega, Lib.hid (fun i hi => absurd hi (by omega)), rfl, rfl⟩
  case round =>
    obtain ⟨k, hk, HK, rfl, rfl⟩ := hrel
    by_cases hlt : k < 3
    · have hlt1 : (k : Int) < 3 := by omega
      obtain ⟨e1, e2⟩ := HSM.out gb k hlt
      have HE1 := Lib.hid e1
      have HE2 := Lib.hid e2
      obtain ⟨x, hx⟩ : ∃ x, nth h.smalls k = x := ⟨_, rfl⟩
      rw [hx] at HE1
      have HX := Lib.hid hx
      clear e1 e2 hx
      have hans : ¬ small x → ans = false := fun hb => by
        rw [← HA.out, Hd.right, not_all_nth (i := k) (by simp [Hd.smalls]; omega) (by rw [HX.out]; simpa using hb)]
        rfl
      have HANS := Lib.hid hans
      clear hans
      by_cases c1 : x < 0
      · go_wp2_with (first | ((with_reducible refine g_indexV ?_); refine wl_run rfl (a_idxA rfl rfl rfl rfl rfl rfl (by omega) (by omega) (by simpa using HE2.out)) ?_) | ((with_reducible refine g_load ?_); refine wl_run rfl (a_load1 hS rfl rfl rfl rfl Ix.here HE1.out) ?_) | fail)
        go_ret
        exact ⟨by rw [HANS.out (by unfold small; omega)]; rfl, hS.tail⟩
      · by_cases c2 : x > 255
        · have c3 : decide (x < 0) = false := by simpa using c1
          go_wp2_with (first | ((with_reducible refine g_indexV ?_); refine wl_run rfl (a_idxA rfl rfl rfl rfl rfl rfl (by omega) (by omega) (by simpa using HE2.out)) ?_) | ((with_reducible refine g_load ?_); refine wl_run rfl (a_load1 hS rfl rfl rfl rfl Ix.here HE1.out) ?_) | fail)
          go_ret
          exact ⟨by rw [HANS.out (by unfold small; omega)]; rfl, hS.tail⟩
        · have c3 : decide (x < 0) = false := by simpa using c1
          have c4 : decide (x > 255) = false := by simpa using c2
          go_wp2_with (first | ((with_reducible refine g_indexV ?_); refine wl_run rfl (a_idxA rfl rfl rfl rfl rfl rfl (by omega) (by omega) (by simpa using HE2.out)) ?_) | ((with_reducible refine g_load ?_); refine wl_run rfl (a_load1 hS rfl rfl rfl rfl Ix.here HE1.out) ?_) | fail)
          refine ⟨⟨k + 1, by omega, Lib.hid fun i hi => ?_, by simp, trivial⟩, by simp [intOf]; omega⟩
          by_cases hik : i = k
          · subst hik
            rw [HX.out]
            exact decide_eq_true ⟨by omega, by omega⟩
          · exact HK.out i (by omega)
    · obtain rfl : k = 3 := by omega
      have HSM1 : Hid (h.smalls.all (fun n => decide (small n)) = true) := Lib.hid (all_nth rfl HK.out)
      clear HK HSM
      go_wp2_with (first | (go_at_call 74; refine (headNumbers_any (g := gb) hS).mono ?_; clear hS; rintro e w' ⟨rfl, hS⟩) | fail)
      go_loopw [23] (fun k wz => ∃ (k' : Nat), k' ≤ 8 ∧ Hid (∀ i, i < k' → decide (fits (nth h.nums i)) = true) ∧ k = .int .i64 k' ∧ wz = w') (fun k _ => 8 - (intOf k).toNat)
      case atStart => exact ⟨0, by omega, Lib.hid (fun i hi => absurd hi (by omega)), rfl, rfl⟩
      case round =>
        obtain ⟨k, hk, HK, rfl, rfl⟩ := hrel
        by_cases hlt : k < 8
        · have hlt1 : (k : Int) < 8 := by omega
          obtain ⟨e1, e2⟩ := HNU.out gb k hlt
          have HE1 := Lib.hid e1
          have HE2 := Lib.hid e2
          obtain ⟨x, hx⟩ : ∃ x, nth h.nums k = x := ⟨_, rfl⟩
          rw [hx] at HE1
          have HX := Lib.hid hx
          clear e1 e2 hx
          have hans : ¬ fits x → ans = false := fun hb => by
            rw [← HA.out, Hd.right, HSM1.out, not_all_nth (i := k) (by simp [Hd.nums]; omega) (by rw [HX.out]; simpa using hb)]
            rfl
          have HANS := Lib.hid hans
          clear hans
          by_cases c1 : x < 0
          · go_wp2_with (first | ((with_reducible refine g_indexV ?_); refine wl_run rfl (a_idxA rfl rfl rfl rfl rfl rfl (by omega) (by omega) (by simpa using HE2.out)) ?_) | ((with_reducible refine g_load ?_); refine wl_run rfl (a_load1 hS rfl rfl rfl rfl Ix.here HE1.out) ?_) | fail)
            go_ret
            exact ⟨by rw [HANS.out (by unfold fits; omega)]; rfl, hS.tail⟩
          · by_cases c2 : x > 72057594037927935
            · have c3 : decide (x < 0) = false := by simpa using c1
              go_wp2_with (first | ((with_reducible refine g_indexV ?_); refine wl_run rfl (a_idxA rfl rfl rfl rfl rfl rfl (by omega) (by omega) (by simpa using HE2.out)) ?_) | ((with_reducible refine g_load ?_); refine wl_run rfl (a_load1 hS rfl rfl rfl rfl Ix.here HE1.out) ?_) | fail)
              go_ret
              exact ⟨by rw [HANS.out (by unfold fits; omega)]; rfl, hS.tail⟩
            · have c3 : decide (x < 0) = false := by simpa using c1
              have c4 : decide (x > 72057594037927935) = false := by simpa using c2
              go_wp2_with (first | ((with_reducible refine g_indexV ?_); refine wl_run rfl (a_idxA rfl rfl rfl rfl rfl rfl (by omega) (by omega) (by simpa using HE2.out)) ?_) | ((with_reducible refine g_load ?_); refine wl_run rfl (a_load1 hS rfl rfl rfl rfl Ix.here HE1.out) ?_) | fail)
              refine ⟨⟨k + 1, by omega, Lib.hid fun i hi => ?_, by simp, trivial⟩, by simp [intOf]; omega⟩
              by_cases hik : i = k
              · subst hik
                rw [HX.out]
                exact decide_eq_true ⟨by omega, by omega⟩
              · exact HK.out i (by omega)
        · obtain rfl : k = 8 := by omega
          have HNU1 : Hid (h.nums.all (fun n => decide (fits n)) = true) := Lib.hid (all_nth rfl HK.out)
          clear HK HNU
          go_wp2
          go_ret
          exact ⟨by rw [← HA.out, Hd.right, HSM1.out, HNU1.out]; rfl, hS.tail⟩
end
end Go.Proofs.Ytkcgacadkpbpoaa
