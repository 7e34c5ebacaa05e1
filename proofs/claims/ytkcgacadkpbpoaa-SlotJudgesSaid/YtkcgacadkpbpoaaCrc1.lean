/-
  Sums of bytes: the program's and the document's.
-/
import Derived.Test.YtkcgacadkpbpoaaCrcSpec
import Derived.Test.YtkcgacadkpbpoaaGen
set_option linter.unusedSimpArgs false
set_option linter.unusedVariables false
set_option linter.unusedSectionVars false
namespace Go.Cmp
open Go.RowKit
theorem a_arr {P : Program} {o : Oper} {a : Act} {w : World} {t : TypeId} {x i : Operand} (ho : o.op = .indexAddr t x i) {g off : Nat} (hx : a.eval x = .pointer (some ⟨g, off, none⟩)) {j : Int} {ik : IntKind} (hi : a.eval i = .int ik j) {n : Nat} {e : TypeId}
    (ht : P.underlying t = some (.array n e)) (hk : (P.info? e).map (·.size) = some 1) (h0 : 0 ≤ j) (hj : j < n) : (execOp a.eval o).run P w = .ok (.value (.pointer (some ⟨g, off + j.toNat, none⟩))) w := by
  obtain ⟨ti, he, hk⟩ := Option.map_eq_some_iff.1 hk
  have hb : (0 ≤ j ∧ j < (n : Int)) := ⟨h0, hj⟩
  simp [execOp, ho, hx, hi, Instr.indexAt, Instr.sureAddr, asIntOf, run_underlying ht, sizeOf, typeInfo, he, hk, hb, add_lit]
theorem crc_step (q : Nat) (hq : q < 4294967296) : bits .xor .u32 ((q : Int) / 2) (2197175160 * bits .and .u32 (q : Int) 1 % 4294967296) = (bitStep q : Int) := by
  have e1 : bits .and .u32 (q : Int) 1 = ((q % 2 : Nat) : Int) := by
    have := u32_and_nat q 1 hq (by omega)
    rw [Nat.and_one_is_mod] at this
    exact this
  rw [e1]
  unfold bitStep
  by_cases h : q % 2 = 1
  · rw [if_pos h, h]
    exact u32_xor_nat (q / 2) 2197175160 (by omega) (by omega)
  · rw [if_neg h, show q % 2 = 0 by omega]
    have := u32_xor_nat (q / 2) 0 (by omega) (by omega)
    rw [Nat.xor_zero] at this
    exact this
theorem xor_ones32 (b : Nat) (hb : b < 4294967296) : 4294967295 ^^^ b = 4294967295 - b := by
  have hb : b < 2 ^ 32 := hb
  have h : (2 ^ 32 - 1) ^^^ b = 2 ^ 32 - 1 - b := by
    apply Nat.eq_of_testBit_eq
    intro i
    rw [Nat.testBit_xor, Nat.testBit_two_pow_sub_one, show 2 ^ 32 - 1 - b = 2 ^ 32 - (b + 1) by omega, Nat.testBit_two_pow_sub_succ hb]
    by_cases hi : i < 32
    · simp [hi]
    · have : b.testBit i = false := Nat.testBit_lt_two_pow (Nat.lt_of_lt_of_le hb (Nat.pow_le_pow_right (by decide) (by omega)))
      simp [hi, this]
  exact h
end Go.Cmp
namespace Go.Proofs.Ytkcgacadkpbpoaa
open Go.RowKit Go.Cmp
set_option maxRecDepth 100000

section
variable {S : List Nat} {w0 w : World} {M : List Ent}

set_option maxHeartbeats 4000000 in
theorem refSteps_any (r : Nat) (hr : r < 4294967296) (w : World) :
    Calls Try.prog 89 #[.int .u32 r, .int .i64 8] w fun e w' => e = .returned (.int .u32 (stepsN 8 r)) ∧ w' = w := by
  have HS0 : Hid (w = w) := Lib.hid rfl
  (go_enter Try.func89, Try.ntmps89)
  go_wp2
  go_loopw [0, 5] (fun x k wr => ∃ (j q : Nat), j ≤ 8 ∧ q < 4294967296 ∧ Hid (stepsN (8 - j) q = stepsN 8 r) ∧ x = .int .u32 q ∧ k = .int .i64 j ∧ wr = w) (fun _ k _ => 8 - (intOf k).toNat)
  case atStart => exact ⟨0, r, by omega, hr, Lib.hid rfl, rfl, rfl, rfl⟩
  case round =>
    obtain ⟨j, q, hj, hq, HQ, rfl, rfl, rfl⟩ := hrel
    by_cases hlt : j < 8
    · have hlt1 : (j : Int) < 8 := by omega
      have hq2 := bitStep_lt hq
      have HN : Hid (stepsN (8 - (j + 1)) (bitStep q) = stepsN 8 r) := Lib.hid (by rw [← HQ.out, show 8 - j = (8 - (j + 1)) + 1 by omega]; rfl)
      by_cases ho : q % 2 = 1
      · have ho1 : (q : Int) % 2 = 1 := by omega
        have HB : Hid (bits .xor .u32 ((q : Int) / 2) 2197175160 = (bitStep q : Int)) := Lib.hid (by unfold bitStep; rw [if_pos ho]; exact u32_xor_nat (q / 2) 2197175160 (by omega) (by omega))
        clear ho
        go_wp2
        exact ⟨⟨j + 1, bitStep q, by omega, hq2, HN, by rw [HB.out], by simp, trivial⟩, by simp [intOf]; omega⟩
      · have ho1 : (q : Int) % 2 = 0 := by omega
        have HB : Hid ((q : Int) / 2 = (bitStep q : Int)) := Lib.hid (by unfold bitStep; rw [if_neg ho]; rfl)
        clear ho
        go_wp2
        exact ⟨⟨j + 1, bitStep q, by omega, hq2, HN, by rw [HB.out], by simp, trivial⟩, by simp [intOf]; omega⟩
    · obtain rfl : j = 8 := by omega
      have HE : Hid (q = stepsN 8 r) := Lib.hid (by rw [← HQ.out]; rfl)
      clear HQ
      go_wp2
      go_ret
      rw [← HE.out]
      exact ⟨rfl, rfl⟩
def tabTo (j : Nat) : List Value := (List.range 256).map fun i => .int .u32 ((if i < j then stepsN 8 i else 0 : Nat) : Int)
theorem tabTo_len (j : Nat) : (tabTo j).length = 256 := by simp [tabTo]
theorem tabTo_zero : tabTo 0 = List.replicate 256 (.int .u32 0) := by
  unfold tabTo
  rw [List.eq_replicate_iff]
  exact ⟨by simp, by intro b hb; obtain ⟨i, _, rfl⟩ := List.mem_map.1 hb; simp⟩
theorem tabTo_all : tabTo 256 = (List.range 256).map fun i => .int .u32 (stepsN 8 i : Int) := by
  unfold tabTo
  apply List.map_congr_left
  intro i hi
  rw [if_pos (List.mem_range.1 hi)]
theorem tabTo_set (j : Nat) (h : j < 256) : (tabTo j).set j (.int .u32 (stepsN 8 j : Int)) = tabTo (j + 1) := by
  apply List.ext_getElem?
  intro i
  unfold tabTo
  rw [List.getElem?_set]
  by_cases hij : j = i
  · subst hij
    simp [h]
  · rw [if_neg hij]
    by_cases hi : i < 256
    · simp only [List.getElem?_map, List.getElem?_range hi, Option.map_some]
      have : (i < j + 1) = (i < j) := by apply propext; omega
      simp only [this]
    · rw [List.getElem?_eq_none (by simp; omega), List.getElem?_eq_none (by simp; omega)]
set_option maxHeartbeats 4000000 in
theorem made_any (hS : St S w0 w M) : Calls Try.prog 84 #[] w fun e w' => ∃ g, e = .returned (.pointer (some ⟨g, 0, none⟩)) ∧ St S w0 w' (.row g ((List.range 256).map fun i => .int .u32 (stepsN 8 i)) 123 (0, 0) :: M) := by
  (go_enter Try.func84, Try.ntmps84)
  go_wp2_with (first | ((with_reducible refine g_alloc ?_); refine wl_of rfl ?_; refine wp_alloc (cs := List.replicate 256 (.int .u32 0)) hS rfl rfl rfl (by kernel_rfl) ?_; clear hS; intro gb w1 hS) | fail)
  rw [← tabTo_zero] at hS
  go_loopw [4] (fun k wr => ∃ j : Nat, j ≤ 256 ∧ k = .int .i64 j ∧ St S w0 wr (.row gb (tabTo j) 123 (0, 0) :: M)) (fun k _ => 256 - (intOf k).toNat)
  case atStart => exact ⟨0, by omega, rfl, hS⟩
  case round =>
    clear hS
    obtain ⟨j, hj, rfl, hS⟩ := hrel
    by_cases hlt : j < 256
    · have hlt1 : (j : Int) < 256 := by omega
      go_wp2
      go_loopw [3, 9] (fun x k wr => ∃ (i q : Nat), i ≤ 8 ∧ q < 4294967296 ∧ Hid (stepsN (8 - i) q = stepsN 8 j) ∧ x = .int .u32 q ∧ k = .int .i64 i ∧ St S w0 wr (.row gb (tabTo j) 123 (0, 0) :: M)) (fun _ k _ => 8 - (intOf k).toNat)
      case atStart => exact ⟨0, j, by omega, by omega, Lib.hid rfl, by simp, rfl, hS⟩
      case round =>
        clear hS
        obtain ⟨i, q, hi, hq, HQ, rfl, rfl, hS⟩ := hrel
        by_cases hlt8 : i < 8
        · have hlt2 : (i : Int) < 8 := by omega
          have hq2 := bitStep_lt hq
          have HN : Hid (stepsN (8 - (i + 1)) (bitStep q) = stepsN 8 j) := Lib.hid (by rw [← HQ.out, show 8 - i = (8 - (i + 1)) + 1 by omega]; rfl)
          have HB := Lib.hid (crc_step q hq)
          go_wp2
          exact ⟨⟨i + 1, bitStep q, by omega, hq2, HN, by rw [HB.out], by simp, hS⟩, by simp [intOf]; omega⟩
        · obtain rfl : i = 8 := by omega
          have HE : Hid (q = stepsN 8 j) := Lib.hid (by rw [← HQ.out]; rfl)
          clear HQ
          have hcs : (tabTo j).set j (.int .u32 (q : Int)) = tabTo (j + 1) := by rw [HE.out]; exact tabTo_set j hlt
          have hlen := tabTo_len j
          go_wp2_with (first | ((with_reducible refine g_index ?_); refine wl_run rfl (a_arr (n := 256) rfl rfl rfl rfl rfl (by omega) (by omega)) ?_) | ((with_reducible refine g_store ?_); refine wl_of rfl ?_; refine a_store1 (v := .int .u32 (q : Int)) (cs' := tabTo (j + 1)) hS rfl rfl rfl rfl rfl rfl Sw.here (by simp; omega) (by simpa using hcs) ?_; clear hS; intro w' hS) | fail)
          exact ⟨⟨j + 1, by omega, by simp, hS⟩, by simp [intOf]; omega⟩
    · obtain rfl : j = 256 := by omega
      go_wp2
      go_ret
      rw [tabTo_all] at hS
      exact ⟨gb, rfl, hS⟩

def tabC : List Value := (List.range 256).map fun i => .int .u32 (stepsN 8 i : Int)
theorem tabC_get {i : Nat} (h : i < 256) : tabC[i]? = some (.int .u32 (stepsN 8 i : Int)) := by
  unfold tabC
  simp [h]
set_option maxHeartbeats 8000000 in
theorem crcAdd_any (sum : Nat) (hsum : sum < 4294967296) (s : List UInt8) (hl : s.length ≤ 1000000000) (w : World) :
    Calls Try.prog 75 #[.int .u32 sum, .string ⟨s.toArray⟩] w fun e w' => e = .returned (.int .u32 (addC sum s)) ∧ St [] w w' [] := by
  have hS := St.init w
  have hx1 : bits .xor .u32 IntKind.u32.max (sum : Int) = ((4294967295 - sum : Nat) : Int) := by
    have := u32_xor_nat 4294967295 sum (by omega) hsum
    rw [xor_ones32 sum hsum] at this
    exact this
  by_cases h0 : s = []
  · subst h0
    have e : addC sum [] = sum := by unfold addC crcF; simp; omega
    rw [e]
    (go_enter Try.func75, Try.ntmps75)
    go_wp2_with (first | ((with_reducible refine g_load ?_); refine k_read rfl (h := ?_)) | ((with_reducible refine g_len ?_); refine k_len rfl (h := ?_)) | ((with_reducible refine g_index ?_); refine k_idx rfl (h := ?_)) | ((with_reducible refine g_field ?_); refine k_fld rfl (h := ?_)) | ((with_reducible refine g_store ?_); refine wl_of rfl ?_; first | (refine k_sta hS rfl rfl rfl (h := ?_); clear hS; intro w' hS; simp only [List.take, List.drop, List.cons_append, List.nil_append, List.length_cons, List.length_nil] at hS) | (first | ((first | (refine k_st1 (v := .int _ _) hS rfl rfl rfl (h := ?_)) | (refine k_st1 (v := .bool _) hS rfl rfl rfl (h := ?_)) | (refine k_st1 (v := .string _) hS rfl rfl rfl (h := ?_)) | (refine k_st1 (v := .slice none 0 0) hS rfl rfl rfl (h := ?_))); clear hS; intro w' hS; simp only [List.set_cons_zero, List.set_cons_succ] at hS) | ((refine k_st1  hS rfl rfl rfl (h := ?_)); clear hS; intro w' hS; simp only [List.set_cons_zero, List.set_cons_succ] at hS; simp only [Act.eval, Array.getD_eq_getD_getElem?, List.getElem?_toArray, List.getElem?_cons_succ, List.getElem?_cons_zero, Option.getD_some] at hS)) | (first | (refine k_ste (v := .int _ _) hS rfl rfl rfl (h := ?_); clear hS; intro w' hS) | (refine k_ste (v := .bool _) hS rfl rfl rfl (h := ?_); clear hS; intro w' hS) | (refine k_ste (v := .string _) hS rfl rfl rfl (h := ?_); clear hS; intro w' hS))) | ((with_reducible refine g_alloc ?_); refine wl_of rfl ?_; refine wp_alloc hS rfl rfl rfl rfl ?_; clear hS; intro gb w1 hS) | ((with_reducible refine g_box ?_); refine wl_of rfl ?_; refine wp_box hS rfl rfl rfl ?_; clear hS; intro gb w1 hS) | ((with_reducible refine g_bs ?_); refine wl_of rfl ?_; (first | refine a_build1 (v := .int _ _) hS rfl rfl rfl rfl (by rfl) (by simp) ?_ | refine a_build1 (v := .string _) hS rfl rfl rfl rfl (by rfl) (by simp) ?_ | refine a_build1 (v := .bool _) hS rfl rfl rfl rfl (by rfl) (by simp) ?_ | refine a_build1 (v := .agg _) hS rfl rfl rfl rfl (by rfl) (by simp) ?_ | refine a_build1  hS rfl rfl rfl rfl (by rfl) (by simp) ?_); clear hS; intro v1 w' hS; simp only [List.length_cons, List.length_nil, Nat.zero_add] at hS; try simp only [Nat.reduceAdd] at hS) | ((with_reducible refine g_cut ?_); refine k_str rfl (h := ?_)) | ((with_reducible refine g_indexV ?_); refine k_six rfl (h := ?_)) | ((with_reducible refine g_bin ?_); refine k_cat rfl (h := ?_)) | ((with_reducible refine g_conv ?_); refine k_tos rfl (h := ?_)) | ((with_reducible refine wl_guard ?_); refine stop_mem rfl rfl ?_))
    go_ret
    exact ⟨rfl, hS⟩
  obtain ⟨s0, s1, hs01⟩ := List.exists_cons_of_ne_nil h0
  have hem : s.isEmpty = false := by rw [hs01]; rfl
  have HM := Lib.hid (fun (W : World) (M : List Ent) (hS : St [] w W M) => made_any hS)
  have HA : Hid (addC sum s = 4294967295 - crcF (4294967295 - sum) s) := Lib.hid rfl
  obtain ⟨r0, hr0⟩ : ∃ r, 4294967295 - sum = r := ⟨_, rfl⟩
  rw [hr0] at HA hx1
  have hr1 : r0 < 4294967296 := by omega
  generalize addC sum s = ans at HA ⊢
  clear hr0 hs01 hsum
  (go_enter Try.func75, Try.ntmps75)
  go_wp2_with (first | (go_at_call 84; refine (HM.out _ _ hS).mono ?_; clear hS; rintro e w' ⟨g, rfl, hS⟩) | (first | ((with_reducible refine g_load ?_); refine k_read rfl (h := ?_)) | ((with_reducible refine g_len ?_); refine k_len rfl (h := ?_)) | ((with_reducible refine g_index ?_); refine k_idx rfl (h := ?_)) | ((with_reducible refine g_field ?_); refine k_fld rfl (h := ?_)) | ((with_reducible refine g_store ?_); refine wl_of rfl ?_; first | (refine k_sta hS rfl rfl rfl (h := ?_); clear hS; intro w' hS; simp only [List.take, List.drop, List.cons_append, List.nil_append, List.length_cons, List.length_nil] at hS) | (first | ((first | (refine k_st1 (v := .int _ _) hS rfl rfl rfl (h := ?_)) | (refine k_st1 (v := .bool _) hS rfl rfl rfl (h := ?_)) | (refine k_st1 (v := .string _) hS rfl rfl rfl (h := ?_)) | (refine k_st1 (v := .slice none 0 0) hS rfl rfl rfl (h := ?_))); clear hS; intro w' hS; simp only [List.set_cons_zero, List.set_cons_succ] at hS) | ((refine k_st1  hS rfl rfl rfl (h := ?_)); clear hS; intro w' hS; simp only [List.set_cons_zero, List.set_cons_succ] at hS; simp only [Act.eval, Array.getD_eq_getD_getElem?, List.getElem?_toArray, List.getElem?_cons_succ, List.getElem?_cons_zero, Option.getD_some] at hS)) | (first | (refine k_ste (v := .int _ _) hS rfl rfl rfl (h := ?_); clear hS; intro w' hS) | (refine k_ste (v := .bool _) hS rfl rfl rfl (h := ?_); clear hS; intro w' hS) | (refine k_ste (v := .string _) hS rfl rfl rfl (h := ?_); clear hS; intro w' hS))) | ((with_reducible refine g_alloc ?_); refine wl_of rfl ?_; refine wp_alloc hS rfl rfl rfl rfl ?_; clear hS; intro gb w1 hS) | ((with_reducible refine g_box ?_); refine wl_of rfl ?_; refine wp_box hS rfl rfl rfl ?_; clear hS; intro gb w1 hS) | ((with_reducible refine g_bs ?_); refine wl_of rfl ?_; (first | refine a_build1 (v := .int _ _) hS rfl rfl rfl rfl (by rfl) (by simp) ?_ | refine a_build1 (v := .string _) hS rfl rfl rfl rfl (by rfl) (by simp) ?_ | refine a_build1 (v := .bool _) hS rfl rfl rfl rfl (by rfl) (by simp) ?_ | refine a_build1 (v := .agg _) hS rfl rfl rfl rfl (by rfl) (by simp) ?_ | refine a_build1  hS rfl rfl rfl rfl (by rfl) (by simp) ?_); clear hS; intro v1 w' hS; simp only [List.length_cons, List.length_nil, Nat.zero_add] at hS; try simp only [Nat.reduceAdd] at hS) | ((with_reducible refine g_cut ?_); refine k_str rfl (h := ?_)) | ((with_reducible refine g_indexV ?_); refine k_six rfl (h := ?_)) | ((with_reducible refine g_bin ?_); refine k_cat rfl (h := ?_)) | ((with_reducible refine g_conv ?_); refine k_tos rfl (h := ?_)) | ((with_reducible refine wl_guard ?_); refine stop_mem rfl rfl ?_)))
  clear HM hx1 hem h0
  go_loopw [6, 16] (fun x k wr => ∃ (j q : Nat), j ≤ s.length ∧ q < 4294967296 ∧ Hid (crcF r0 (s.take j) = q) ∧ x = .int .u32 q ∧ k = .int .i64 j ∧ St [] w wr (.row g tabC 123 (0, 0) :: [])) (fun _ k _ => s.length - (intOf k).toNat)
  case atStart => exact ⟨0, r0, by omega, hr1, Lib.hid rfl, rfl, rfl, hS⟩
  case round =>
    clear hS
    obtain ⟨j, q, hj, hq, HQ, rfl, rfl, hS⟩ := hrel
    by_cases hlt : j < s.length
    · have hlt1 : (j : Int) < s.length := by omega
      have hn : crcF r0 (s.take (j + 1)) = crcB q (nth s j) := by rw [take_nth hlt, crcF_snoc, HQ.out]
      have hq2 := crcB_lt hq (nth s j)
      have htb := crcB_table q (nth s j)
      have hcn := (nth s j).toNat_lt
      obtain ⟨c, hc⟩ : ∃ c, (nth s j).toNat = c := ⟨_, rfl⟩
      obtain ⟨q2, hq2e⟩ : ∃ q2, crcB q (nth s j) = q2 := ⟨_, rfl⟩
      rw [hc] at htb hcn
      rw [hq2e] at hq2 hn htb
      have hd : (q % 256) ^^^ c < 256 := Nat.xor_lt_two_pow (n := 8) (by omega) hcn
      have HX8 : Hid (bits .xor .u8 (IntKind.u8.wrap (q : Int)) (c : Int) = (((q % 256) ^^^ c : Nat) : Int)) := Lib.hid (by
        have e : IntKind.u8.wrap (q : Int) = ((q % 256 : Nat) : Int) := by
          simp only [IntKind.wrap, IntKind.bits, IntKind.signed]
          simp
        rw [e]
        exact u8_xor_nat (q % 256) c (by omega) hcn)
      obtain ⟨d, hde⟩ : ∃ d, (q % 256) ^^^ c = d := ⟨_, rfl⟩
      rw [hde] at hd htb HX8
      have hsl := stepsN_lt 8 (show d < 4294967296 by omega)
      have hld := tabC_get hd
      obtain ⟨y, hy⟩ : ∃ y, stepsN 8 d = y := ⟨_, rfl⟩
      rw [hy] at htb hsl hld
      have HX32 : Hid (bits .xor .u32 ((q : Int) / 256) (y : Int) = (q2 : Int)) := Lib.hid (by rw [htb]; exact u32_xor_nat (q / 256) y (by omega) hsl)
      have HN := Lib.hid hn
      have HC := Lib.hid hc
      clear hn hq2e htb hde hy hc
      go_wp2_with (fail)
      refine region_calm (by kernel_rfl) (by kernel_rfl) hS ?_
      (refine Calm.pure rfl (h := ?_); simp only [Act.put, List.setIfInBounds_toArray, List.set_cons_zero, List.set_cons_succ])
      (refine Calm.pure rfl (h := ?_); simp only [Act.put, List.setIfInBounds_toArray, List.set_cons_zero, List.set_cons_succ])
      (refine Calm.pure rfl (h := ?_); simp only [Act.put, List.setIfInBounds_toArray, List.set_cons_zero, List.set_cons_succ])
      (refine Calm.pure rfl (h := ?_); simp only [Act.put, List.setIfInBounds_toArray, List.set_cons_zero, List.set_cons_succ])
      (refine Calm.pure rfl (h := ?_); simp only [Act.put, List.setIfInBounds_toArray, List.set_cons_zero, List.set_cons_succ])
      (refine Calm.pure rfl (h := ?_); simp only [Act.put, List.setIfInBounds_toArray, List.set_cons_zero, List.set_cons_succ])
      (refine Calm.pure rfl (h := ?_); simp only [Act.put, List.setIfInBounds_toArray, List.set_cons_zero, List.set_cons_succ])
      refine Calm.run (v := .int .u8 (c : Int)) rfl (fun W hW => by rw [← HC.out]; exact a_strIndex (l := s) (j := (j : Int)) rfl rfl rfl rfl (by omega) (by omega)) ?_
      simp only [Act.put, List.setIfInBounds_toArray, List.set_cons_zero, List.set_cons_succ]
      refine Calm.run (v := .int .u8 (d : Int)) rfl (fun W hW => by (go_simp; try simp [HX8.out])) ?_
      simp only [Act.put, List.setIfInBounds_toArray, List.set_cons_zero, List.set_cons_succ]
      (refine Calm.pure rfl (h := ?_); simp only [Act.put, List.setIfInBounds_toArray, List.set_cons_zero, List.set_cons_succ])
      refine Calm.run (v := .pointer (some ⟨g, 0 + (d : Int).toNat, none⟩)) rfl (fun W hW => by exact a_arr (g := g) (off := 0) (j := (d : Int)) (n := 256) rfl rfl rfl rfl rfl (by omega) (by omega)) ?_
      simp only [Int.toNat_natCast, Nat.zero_add]
      simp only [Act.put, List.setIfInBounds_toArray, List.set_cons_zero, List.set_cons_succ]
      refine Calm.run (v := .int .u32 (y : Int)) rfl (fun W hW => by exact a_load1 hW rfl rfl rfl rfl Ix.here hld) ?_
      simp only [Act.put, List.setIfInBounds_toArray, List.set_cons_zero, List.set_cons_succ]
      refine Calm.run (v := .int .u32 (q2 : Int)) rfl (fun W hW => by (go_simp; try simp [HX32.out])) ?_
      simp only [Act.put, List.setIfInBounds_toArray, List.set_cons_zero, List.set_cons_succ]
      (refine Calm.pure rfl (h := ?_); simp only [Act.put, List.setIfInBounds_toArray, List.set_cons_zero, List.set_cons_succ])
      (refine Calm.nil ?_; clear hS; intro w8 hS)
      go_wp2_with (fail)
      exact ⟨⟨j + 1, q2, by omega, hq2, HN, rfl, by simp, hS⟩, by simp [intOf]; omega⟩
    · obtain rfl : j = s.length := by omega
      rw [List.take_length] at HQ
      have hxe : bits .xor .u32 IntKind.u32.max (q : Int) = ((4294967295 - q : Nat) : Int) := by
        have := u32_xor_nat 4294967295 q (by omega) hq
        rw [xor_ones32 q hq] at this
        exact this
      have HAQ : Hid (ans = 4294967295 - q) := Lib.hid (by rw [HA.out, HQ.out])
      clear HQ HA
      go_wp2
      go_ret
      rw [HAQ.out]
      exact ⟨rfl, hS.nil⟩
end
end Go.Proofs.Ytkcgacadkpbpoaa
