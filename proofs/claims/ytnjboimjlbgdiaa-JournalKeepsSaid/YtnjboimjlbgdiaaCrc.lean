/-
  Sums of bytes in plain numbers: a register's steps.
  Sums of bytes: the program's and the document's.
  Sums of bytes: the program's and the document's, once more; the chain's step.
  The chain's sum: the program's and the document's.
-/
import Derived.Test.YtnjboimjlbgdiaaGen
set_option linter.unusedSimpArgs false
set_option linter.unusedVariables false
set_option linter.unusedSectionVars false
set_option maxRecDepth 100000
namespace Go.Cmp
open Go.RowKit

def bitStep (r : Nat) : Nat := if r % 2 = 1 then (r / 2) ^^^ 2197175160 else r / 2
def stepsN : Nat → Nat → Nat
  | 0, r => r
  | n + 1, r => stepsN n (bitStep r)
def crcB (r : Nat) (c : UInt8) : Nat := stepsN 8 (r ^^^ c.toNat)
def crcF (r : Nat) (s : List UInt8) : Nat := s.foldl crcB r
def addC (sum : Nat) (s : List UInt8) : Nat := 4294967295 - crcF (4294967295 - sum) s
/-- The sum of a text. -/
def sumOf (s : List UInt8) : Nat := addC 0 s

theorem xor_cancel {a b c : Nat} (h : a ^^^ b = a ^^^ c) : b = c := by
  have := congrArg (fun z => a ^^^ z) h
  simpa [← Nat.xor_assoc] using this
theorem bitStep_alt (r : Nat) : bitStep r = (r / 2) ^^^ (if r % 2 = 1 then 2197175160 else 0) := by
  unfold bitStep
  split <;> simp
theorem bitStep_lt {r : Nat} (h : r < 4294967296) : bitStep r < 4294967296 := by
  unfold bitStep
  split
  · exact Nat.xor_lt_two_pow (n := 32) (by omega) (by omega)
  · omega
theorem stepsN_lt : ∀ (n : Nat) {r : Nat}, r < 4294967296 → stepsN n r < 4294967296
  | 0, _, h => h
  | n + 1, _, h => stepsN_lt n (bitStep_lt h)
theorem crcB_lt {r : Nat} (h : r < 4294967296) (c : UInt8) : crcB r c < 4294967296 :=
  stepsN_lt 8 (Nat.xor_lt_two_pow (n := 32) h (by have := c.toNat_lt; omega))
theorem crcF_lt : ∀ (s : List UInt8) {r : Nat}, r < 4294967296 → crcF r s < 4294967296
  | [], _, h => h
  | c :: s, _, h => crcF_lt s (crcB_lt h c)
theorem crcF_snoc (r : Nat) (s : List UInt8) (c : UInt8) : crcF r (s ++ [c]) = crcB (crcF r s) c := by unfold crcF; rw [List.foldl_append]; rfl
theorem addC_lt (sum : Nat) (s : List UInt8) : addC sum s < 4294967296 := by unfold addC; omega
theorem sumOf_lt (s : List UInt8) : sumOf s < 4294967296 := addC_lt 0 s
theorem bitStep_xor (x y : Nat) : bitStep (x ^^^ y) = bitStep x ^^^ bitStep y := by
  rw [bitStep_alt, bitStep_alt, bitStep_alt]
  have h1 : (x ^^^ y) / 2 = x / 2 ^^^ y / 2 := Nat.xor_div_two
  have h2 := @Nat.xor_mod_two_eq_one x y
  rw [h1]
  by_cases hx : x % 2 = 1 <;> by_cases hy : y % 2 = 1
  · have h3 : ¬ (x ^^^ y) % 2 = 1 := by rw [h2]; simp [hx, hy]
    rw [if_neg h3, if_pos hx, if_pos hy, Nat.xor_zero]
    rw [Nat.xor_assoc, Nat.xor_comm 2197175160, Nat.xor_assoc, Nat.xor_self, Nat.xor_zero]
  · have h3 : (x ^^^ y) % 2 = 1 := by rw [h2]; simp [hx, hy]
    rw [if_pos h3, if_pos hx, if_neg hy, Nat.xor_zero, Nat.xor_assoc, Nat.xor_assoc, Nat.xor_comm (y / 2)]
  · have h3 : (x ^^^ y) % 2 = 1 := by rw [h2]; simp [hx, hy]
    rw [if_pos h3, if_neg hx, if_pos hy, Nat.xor_zero, Nat.xor_assoc]
  · have h3 : ¬ (x ^^^ y) % 2 = 1 := by rw [h2]; simp [hx, hy]
    rw [if_neg h3, if_neg hx, if_neg hy, Nat.xor_zero, Nat.xor_zero, Nat.xor_zero]
theorem stepsN_xor : ∀ (n x y : Nat), stepsN n (x ^^^ y) = stepsN n x ^^^ stepsN n y
  | 0, _, _ => rfl
  | n + 1, x, y => by simp only [stepsN, bitStep_xor, stepsN_xor n]
theorem stepsN_cut : ∀ (n x : Nat), stepsN n x = (x / 2 ^ n) ^^^ stepsN n (x % 2 ^ n)
  | 0, x => by simp [stepsN, Nat.mod_one]
  | n + 1, x => by
    have h1 : (x % 2 ^ (n + 1)) / 2 = (x / 2) % 2 ^ n := by rw [Nat.pow_succ, Nat.mul_comm, Nat.mod_mul_right_div_self]
    have h2 : (x % 2 ^ (n + 1)) % 2 = x % 2 := by rw [Nat.pow_succ, Nat.mul_comm]; exact Nat.mod_mul_right_mod x 2 (2 ^ n)
    have h3 : x / 2 ^ (n + 1) = x / 2 / 2 ^ n := by rw [Nat.div_div_eq_div_mul, Nat.pow_succ, Nat.mul_comm]
    simp only [stepsN]
    rw [bitStep_alt x, bitStep_alt (x % 2 ^ (n + 1)), h1, h2, h3, stepsN_xor, stepsN_xor, stepsN_cut n (x / 2), Nat.xor_assoc]
theorem crcB_table (r : Nat) (c : UInt8) : crcB r c = (r / 256) ^^^ stepsN 8 ((r % 256) ^^^ c.toNat) := by
  unfold crcB
  have hc := c.toNat_lt
  rw [stepsN_cut 8]
  have h1 : (r ^^^ c.toNat) / 2 ^ 8 = r / 256 := by
    rw [Nat.xor_div_two_pow, Nat.div_eq_of_lt (show c.toNat < 2 ^ 8 by omega), Nat.xor_zero]
  have h2 : (r ^^^ c.toNat) % 2 ^ 8 = (r % 256) ^^^ c.toNat := by
    rw [Nat.xor_mod_two_pow, Nat.mod_eq_of_lt (show c.toNat < 2 ^ 8 by omega)]
  rw [h1, h2]
theorem bitStep_inj {x y : Nat} (hx : x < 4294967296) (hy : y < 4294967296) (h : bitStep x = bitStep y) : x = y := by
  have big : ∀ z, z < 2147483648 → 2147483648 ≤ z ^^^ 2197175160 := by
    intro z hz
    have e : (z ^^^ 2197175160) / 2 ^ 31 = 1 := by rw [Nat.xor_div_two_pow, Nat.div_eq_of_lt (show z < 2 ^ 31 by omega)]; rfl
    omega
  unfold bitStep at h
  split at h <;> split at h
  · have := xor_cancel (a := 2197175160) (by rw [Nat.xor_comm, h, Nat.xor_comm] : 2197175160 ^^^ x / 2 = 2197175160 ^^^ y / 2)
    omega
  · have := big (x / 2) (by omega); omega
  · have := big (y / 2) (by omega); omega
  · omega
theorem stepsN_inj : ∀ (n : Nat) {x y : Nat}, x < 4294967296 → y < 4294967296 → stepsN n x = stepsN n y → x = y
  | 0, _, _, _, _, h => h
  | n + 1, _, _, hx, hy, h => bitStep_inj hx hy (stepsN_inj n (bitStep_lt hx) (bitStep_lt hy) h)
theorem crcB_inj {x y : Nat} {c d : UInt8} (hx : x < 4294967296) (hy : y < 4294967296) (h : crcB x c = crcB y d) : x ^^^ c.toNat = y ^^^ d.toNat :=
  stepsN_inj 8 (Nat.xor_lt_two_pow (n := 32) hx (by have := c.toNat_lt; omega)) (Nat.xor_lt_two_pow (n := 32) hy (by have := d.toNat_lt; omega)) h
theorem crcF_inj : ∀ (s : List UInt8) {x y : Nat}, x < 4294967296 → y < 4294967296 → crcF x s = crcF y s → x = y
  | [], _, _, _, _, h => h
  | c :: s, x, y, hx, hy, h => by
    have h1 := crcB_inj hx hy (crcF_inj s (crcB_lt hx c) (crcB_lt hy c) h)
    have := congrArg (fun z => z ^^^ c.toNat) h1
    simpa [Nat.xor_assoc] using this
/-- Two texts that differ in one byte have different sums. -/
theorem sumOf_turned (a b : List UInt8) (c d : UInt8) (h : c ≠ d) : sumOf (a ++ [c] ++ b) ≠ sumOf (a ++ [d] ++ b) := by
  intro e
  have ha : crcF 4294967295 a < 4294967296 := crcF_lt a (by omega)
  have e2 : crcF 4294967295 (a ++ [c] ++ b) = crcF 4294967295 (a ++ [d] ++ b) := by
    have l1 : crcF 4294967295 (a ++ [c] ++ b) < 4294967296 := crcF_lt _ (by omega)
    have l2 : crcF 4294967295 (a ++ [d] ++ b) < 4294967296 := crcF_lt _ (by omega)
    unfold sumOf addC at e
    simp only [Nat.sub_zero] at e
    omega
  have app : ∀ r (s t : List UInt8), crcF r (s ++ t) = crcF (crcF r s) t := fun r s t => by unfold crcF; rw [List.foldl_append]
  rw [app _ (a ++ [c]), app _ (a ++ [d]), crcF_snoc, crcF_snoc] at e2
  have h1 := crcB_inj ha ha (crcF_inj b (crcB_lt ha c) (crcB_lt ha d) e2)
  have h2 := xor_cancel h1
  exact h (UInt8.toNat_inj.1 h2)
end Go.Cmp
namespace Go.Cmp
open Go.RowKit
theorem a_arr {P : Program} {o : Oper} {a : Act} {w : World} {t : TypeId} {x i : Operand} (ho : o.op = .indexAddr t x i) {g off : Nat} (hx : a.eval x = .pointer (some ⟨g, off, none⟩)) {j : Int} {ik : IntKind} (hi : a.eval i = .int ik j) {n : Nat} {e : TypeId}
    (ht : P.underlying t = some (.array n e)) (hk : (P.info? e).map (·.size) = some 1) (h0 : 0 ≤ j) (hj : j < n) : (execOp a.eval o).run P w = .ok (.value (.pointer (some ⟨g, off + j.toNat, none⟩))) w := by
  obtain ⟨ti, he, hk⟩ := Option.map_eq_some_iff.1 hk
  have hb : (0 ≤ j ∧ j < (n : Int)) := ⟨h0, hj⟩
  simp [execOp, ho, hx, hi, Instr.indexAt, Instr.sureAddr, asIntOf, run_underlying ht, sizeOf, typeInfo, he, hk, hb, add_lit]
theorem crc_step (q : Nat) (hq : q < 4294967296) : bits .xor .u32 ((q : Int) / 2) (2197175160 * bits .and .u32 (q : Int) 1 % 4294967296) = (bitStep q : Int) := by
  have e1 : bits .and .u32 (q : Int) 1 = ((q % 2 : Nat) : Int) := by
    have := u32_and_nat q 1 hq (by omega)
    rw [Nat.and_one_is_mod] at this
    exact this
  rw [e1]
  unfold bitStep
  by_cases h : q % 2 = 1
  · rw [if_pos h, h]
    exact u32_xor_nat (q / 2) 2197175160 (by omega) (by omega)
  · rw [if_neg h, show q % 2 = 0 by omega]
    have := u32_xor_nat (q / 2) 0 (by omega) (by omega)
    rw [Nat.xor_zero] at this
    exact this
theorem xor_ones32 (b : Nat) (hb : b < 4294967296) : 4294967295 ^^^ b = 4294967295 - b := by
  have hb : b < 2 ^ 32 := hb
  have h : (2 ^ 32 - 1) ^^^ b = 2 ^ 32 - 1 - b := by
    apply Nat.eq_of_testBit_eq
    intro i
    rw [Nat.testBit_xor, Nat.testBit_two_pow_sub_one, show 2 ^ 32 - 1 - b = 2 ^ 32 - (b + 1) by omega, Nat.testBit_two_pow_sub_succ hb]
    by_cases hi : i < 32
    · simp [hi]
    · have : b.testBit i = false := Nat.testBit_lt_two_pow (Nat.lt_of_lt_of_le hb (Nat.pow_le_pow_right (by decide) (by omega)))
      simp [hi, this]
  exact h
end Go.Cmp
namespace Go.Proofs.Ytnjboimjlbgdiaa
open Go.RowKit Go.Cmp
set_option maxRecDepth 100000

section
variable {S : List Nat} {w0 w : World} {M : List Ent}

def tabTo (j : Nat) : List Value := (List.range 256).map fun i => .int .u32 ((if i < j then stepsN 8 i else 0 : Nat) : Int)
theorem tabTo_len (j : Nat) : (tabTo j).length = 256 := by simp [tabTo]
theorem tabTo_zero : tabTo 0 = List.replicate 256 (.int .u32 0) := by
  unfold tabTo
  rw [List.eq_replicate_iff]
  exact ⟨by simp, by intro b hb; obtain ⟨i, _, rfl⟩ := List.mem_map.1 hb; simp⟩
theorem tabTo_all : tabTo 256 = (List.range 256).map fun i => .int .u32 (stepsN 8 i : Int) := by
  unfold tabTo
  apply List.map_congr_left
  intro i hi
  rw [if_pos (List.mem_range.1 hi)]
theorem tabTo_set (j : Nat) (h : j < 256) : (tabTo j).set j (.int .u32 (stepsN 8 j : Int)) = tabTo (j + 1) := by
  apply List.ext_getElem?
  intro i
  unfold tabTo
  rw [List.getElem?_set]
  by_cases hij : j = i
  · subst hij
    simp [h]
  · rw [if_neg hij]
    by_cases hi : i < 256
    · simp only [List.getElem?_map, List.getElem?_range hi, Option.map_some]
      have : (i < j + 1) = (i < j) := by apply propext; omega
      simp only [this]
    · rw [List.getElem?_eq_none (by simp; omega), List.getElem?_eq_none (by simp; omega)]
set_option maxHeartbeats 4000000 in
theorem made_any (hS : St S w0 w M) : Calls Try.prog 76 #[] w fun e w' => ∃ g, e = .returned (.pointer (some ⟨g, 0, none⟩)) ∧ St S w0 w' (.row g ((List.range 256).map fun i => .int .u32 (stepsN 8 i)) 139 (0, 0) :: M) := by
  (go_enter Try.func76, Try.ntmps76)
  go_wp2_with (first | ((with_reducible refine g_alloc ?_); refine wl_of rfl ?_; refine wp_alloc (cs := List.replicate 256 (.int .u32 0)) hS rfl rfl rfl (by kernel_rfl) ?_; clear hS; intro gb w1 hS) | fail)
  rw [← tabTo_zero] at hS
  go_loopw [4] (fun k wr => ∃ j : Nat, j ≤ 256 ∧ k = .int .i64 j ∧ St S w0 wr (.row gb (tabTo j) 139 (0, 0) :: M)) (fun k _ => 256 - (intOf k).toNat)
  case atStart => exact ⟨0, by omega, rfl, hS⟩
  case round =>
    clear hS
    obtain ⟨j, hj, rfl, hS⟩ := hrel
    by_cases hlt : j < 256
    · have hlt1 : (j : Int) < 256 := by omega
      go_wp2
      go_loopw [3, 9] (fun x k wr => ∃ (i q : Nat), i ≤ 8 ∧ q < 4294967296 ∧ Hid (stepsN (8 - i) q = stepsN 8 j) ∧ x = .int .u32 q ∧ k = .int .i64 i ∧ St S w0 wr (.row gb (tabTo j) 139 (0, 0) :: M)) (fun _ k _ => 8 - (intOf k).toNat)
      case atStart => exact ⟨0, j, by omega, by omega, Lib.hid rfl, by simp, rfl, hS⟩
      case round =>
        clear hS
        obtain ⟨i, q, hi, hq, HQ, rfl, rfl, hS⟩ := hrel
        by_cases hlt8 : i < 8
        · have hlt2 : (i : Int) < 8 := by omega
          have hq2 := bitStep_lt hq
          have HN : Hid (stepsN (8 - (i + 1)) (bitStep q) = stepsN 8 j) := Lib.hid (by rw [← HQ.out, show 8 - i = (8 - (i + 1)) + 1 by omega]; rfl)
          have HB := Lib.hid (crc_step q hq)
          go_wp2
          exact ⟨⟨i + 1, bitStep q, by omega, hq2, HN, by rw [HB.out], by simp, hS⟩, by simp [intOf]; omega⟩
        · obtain rfl : i = 8 := by omega
          have HE : Hid (q = stepsN 8 j) := Lib.hid (by rw [← HQ.out]; rfl)
          clear HQ
          have hcs : (tabTo j).set j (.int .u32 (q : Int)) = tabTo (j + 1) := by rw [HE.out]; exact tabTo_set j hlt
          have hlen := tabTo_len j
          go_wp2_with (first | ((with_reducible refine g_index ?_); refine wl_run rfl (a_arr (n := 256) rfl rfl rfl rfl rfl (by omega) (by omega)) ?_) | ((with_reducible refine g_store ?_); refine wl_of rfl ?_; refine a_store1 (v := .int .u32 (q : Int)) (cs' := tabTo (j + 1)) hS rfl rfl rfl rfl rfl rfl Sw.here (by simp; omega) (by simpa using hcs) ?_; clear hS; intro w' hS) | fail)
          exact ⟨⟨j + 1, by omega, by simp, hS⟩, by simp [intOf]; omega⟩
    · obtain rfl : j = 256 := by omega
      go_wp2
      go_ret
      rw [tabTo_all] at hS
      exact ⟨gb, rfl, hS⟩

def tabC : List Value := (List.range 256).map fun i => .int .u32 (stepsN 8 i : Int)
theorem tabC_get {i : Nat} (h : i < 256) : tabC[i]? = some (.int .u32 (stepsN 8 i : Int)) := by
  unfold tabC
  simp [h]
set_option maxHeartbeats 8000000 in
theorem crcAdd_any (sum : Nat) (hsum : sum < 4294967296) (s : List UInt8) (hl : s.length ≤ 1000000000) (w : World) :
    Calls Try.prog 74 #[.int .u32 sum, .string ⟨s.toArray⟩] w fun e w' => e = .returned (.int .u32 (addC sum s)) ∧ St [] w w' [] := by
  have hS := St.init w
  have hx1 : bits .xor .u32 IntKind.u32.max (sum : Int) = ((4294967295 - sum : Nat) : Int) := by
    have := u32_xor_nat 4294967295 sum (by omega) hsum
    rw [xor_ones32 sum hsum] at this
    exact this
  by_cases h0 : s = []
  · subst h0
    have e : addC sum [] = sum := by unfold addC crcF; simp; omega
    rw [e]
    (go_enter Try.func74, Try.ntmps74)
    go_wp2_with (first | refine au1 (n := ?_) | (refine au2 (n := ?_); clear hS; intro w' hS) | (refine au3 (n := ?_); clear hS; intro gb w1 hS) | (refine au4 (n := ?_); clear hS; intro v1 w' hS) | ((with_reducible refine wl_guard ?_); refine stop_mem rfl rfl ?_))
    go_ret
    exact ⟨rfl, hS⟩
  obtain ⟨s0, s1, hs01⟩ := List.exists_cons_of_ne_nil h0
  have hem : s.isEmpty = false := by rw [hs01]; rfl
  have HM := Lib.hid (fun (W : World) (M : List Ent) (hS : St [] w W M) => made_any hS)
  have HA : Hid (addC sum s = 4294967295 - crcF (4294967295 - sum) s) := Lib.hid rfl
  obtain ⟨r0, hr0⟩ : ∃ r, 4294967295 - sum = r := ⟨_, rfl⟩
  rw [hr0] at HA hx1
  have hr1 : r0 < 4294967296 := by omega
  generalize addC sum s = ans at HA ⊢
  clear hr0 hs01 hsum
  (go_enter Try.func74, Try.ntmps74)
  go_wp2_with (first | (go_at_call 76; refine (HM.out _ _ hS).mono ?_; clear hS; rintro e w' ⟨g, rfl, hS⟩) | (first | refine au1 (n := ?_) | (refine au2 (n := ?_); clear hS; intro w' hS) | (refine au3 (n := ?_); clear hS; intro gb w1 hS) | (refine au4 (n := ?_); clear hS; intro v1 w' hS) | ((with_reducible refine wl_guard ?_); refine stop_mem rfl rfl ?_)))
  clear HM hx1 hem h0
  go_loopw [6, 16] (fun x k wr => ∃ (j q : Nat), j ≤ s.length ∧ q < 4294967296 ∧ Hid (crcF r0 (s.take j) = q) ∧ x = .int .u32 q ∧ k = .int .i64 j ∧ St [] w wr (.row g tabC 139 (0, 0) :: [])) (fun _ k _ => s.length - (intOf k).toNat)
  case atStart => exact ⟨0, r0, by omega, hr1, Lib.hid rfl, rfl, rfl, hS⟩
  case round =>
    clear hS
    obtain ⟨j, q, hj, hq, HQ, rfl, rfl, hS⟩ := hrel
    by_cases hlt : j < s.length
    · have hlt1 : (j : Int) < s.length := by omega
      have hn : crcF r0 (s.take (j + 1)) = crcB q (nth s j) := by rw [take_nth hlt, crcF_snoc, HQ.out]
      have hq2 := crcB_lt hq (nth s j)
      have htb := crcB_table q (nth s j)
      have hcn := (nth s j).toNat_lt
      obtain ⟨c, hc⟩ : ∃ c, (nth s j).toNat = c := ⟨_, rfl⟩
      obtain ⟨q2, hq2e⟩ : ∃ q2, crcB q (nth s j) = q2 := ⟨_, rfl⟩
      rw [hc] at htb hcn
      rw [hq2e] at hq2 hn htb
      have hd : (q % 256) ^^^ c < 256 := Nat.xor_lt_two_pow (n := 8) (by omega) hcn
      have HX8 : Hid (bits .xor .u8 (IntKind.u8.wrap (q : Int)) (c : Int) = (((q % 256) ^^^ c : Nat) : Int)) := Lib.hid (by
        have e : IntKind.u8.wrap (q : Int) = ((q % 256 : Nat) : Int) := by
          simp only [IntKind.wrap, IntKind.bits, IntKind.signed]
          simp
        rw [e]
        exact u8_xor_nat (q % 256) c (by omega) hcn)
      obtain ⟨d, hde⟩ : ∃ d, (q % 256) ^^^ c = d := ⟨_, rfl⟩
      rw [hde] at hd htb HX8
      have hsl := stepsN_lt 8 (show d < 4294967296 by omega)
      have hld := tabC_get hd
      obtain ⟨y, hy⟩ : ∃ y, stepsN 8 d = y := ⟨_, rfl⟩
      rw [hy] at htb hsl hld
      have HX32 : Hid (bits .xor .u32 ((q : Int) / 256) (y : Int) = (q2 : Int)) := Lib.hid (by rw [htb]; exact u32_xor_nat (q / 256) y (by omega) hsl)
      have HN := Lib.hid hn
      have HC := Lib.hid hc
      clear hn hq2e htb hde hy hc
      go_wp2_with (fail)
      refine region_calm (by kernel_rfl) (by kernel_rfl) hS ?_
      (refine Calm.pure rfl (h := ?_); simp only [Act.put, List.setIfInBounds_toArray, List.set_cons_zero, List.set_cons_succ])
      (refine Calm.pure rfl (h := ?_); simp only [Act.put, List.setIfInBounds_toArray, List.set_cons_zero, List.set_cons_succ])
      (refine Calm.pure rfl (h := ?_); simp only [Act.put, List.setIfInBounds_toArray, List.set_cons_zero, List.set_cons_succ])
      (refine Calm.pure rfl (h := ?_); simp only [Act.put, List.setIfInBounds_toArray, List.set_cons_zero, List.set_cons_succ])
      (refine Calm.pure rfl (h := ?_); simp only [Act.put, List.setIfInBounds_toArray, List.set_cons_zero, List.set_cons_succ])
      (refine Calm.pure rfl (h := ?_); simp only [Act.put, List.setIfInBounds_toArray, List.set_cons_zero, List.set_cons_succ])
      (refine Calm.pure rfl (h := ?_); simp only [Act.put, List.setIfInBounds_toArray, List.set_cons_zero, List.set_cons_succ])
      refine Calm.run (v := .int .u8 (c : Int)) rfl (fun W hW => by rw [← HC.out]; exact a_strIndex (l := s) (j := (j : Int)) rfl rfl rfl rfl (by omega) (by omega)) ?_
      simp only [Act.put, List.setIfInBounds_toArray, List.set_cons_zero, List.set_cons_succ]
      refine Calm.run (v := .int .u8 (d : Int)) rfl (fun W hW => by (go_simp; try simp [HX8.out])) ?_
      simp only [Act.put, List.setIfInBounds_toArray, List.set_cons_zero, List.set_cons_succ]
      (refine Calm.pure rfl (h := ?_); simp only [Act.put, List.setIfInBounds_toArray, List.set_cons_zero, List.set_cons_succ])
      refine Calm.run (v := .pointer (some ⟨g, 0 + (d : Int).toNat, none⟩)) rfl (fun W hW => by exact a_arr (g := g) (off := 0) (j := (d : Int)) (n := 256) rfl rfl rfl rfl rfl (by omega) (by omega)) ?_
      simp only [Int.toNat_natCast, Nat.zero_add]
      simp only [Act.put, List.setIfInBounds_toArray, List.set_cons_zero, List.set_cons_succ]
      refine Calm.run (v := .int .u32 (y : Int)) rfl (fun W hW => by exact a_load1 hW rfl rfl rfl rfl Ix.here hld) ?_
      simp only [Act.put, List.setIfInBounds_toArray, List.set_cons_zero, List.set_cons_succ]
      refine Calm.run (v := .int .u32 (q2 : Int)) rfl (fun W hW => by (go_simp; try simp [HX32.out])) ?_
      simp only [Act.put, List.setIfInBounds_toArray, List.set_cons_zero, List.set_cons_succ]
      (refine Calm.pure rfl (h := ?_); simp only [Act.put, List.setIfInBounds_toArray, List.set_cons_zero, List.set_cons_succ])
      (refine Calm.nil ?_; clear hS; intro w8 hS)
      go_wp2_with (fail)
      exact ⟨⟨j + 1, q2, by omega, hq2, HN, rfl, by simp, hS⟩, by simp [intOf]; omega⟩
    · obtain rfl : j = s.length := by omega
      rw [List.take_length] at HQ
      have hxe : bits .xor .u32 IntKind.u32.max (q : Int) = ((4294967295 - q : Nat) : Int) := by
        have := u32_xor_nat 4294967295 q (by omega) hq
        rw [xor_ones32 q hq] at this
        exact this
      have HAQ : Hid (ans = 4294967295 - q) := Lib.hid (by rw [HA.out, HQ.out])
      clear HQ HA
      go_wp2
      go_ret
      rw [HAQ.out]
      exact ⟨rfl, hS.nil⟩
end
end Go.Proofs.Ytnjboimjlbgdiaa
namespace Go.Cmp
open Go.RowKit
/-- The chain's step. -/
@[irreducible] def chB (h : Nat) (c : Nat) : Nat := ((h ^^^ c) * 1099511628211 % 18446744073709551616) ^^^ ((h ^^^ c) * 1099511628211 % 18446744073709551616 / 536870912)
def chF (h : Nat) (s : List UInt8) : Nat := s.foldl (fun h c => chB h c.toNat) h
def chainOf (h : Nat) (s : List UInt8) : Nat := chF (h ^^^ 14695981039346656037) (s ++ leB 8 s.length)
theorem chB_lt (h c : Nat) : chB h c < 18446744073709551616 := by
  unfold chB
  have hm := Nat.mod_lt ((h ^^^ c) * 1099511628211) (show 0 < 18446744073709551616 by omega)
  generalize (h ^^^ c) * 1099511628211 % 18446744073709551616 = y at hm ⊢
  have e : (18446744073709551616 : Nat) = 2 ^ 64 := by decide
  rw [e] at hm ⊢
  exact Nat.xor_lt_two_pow hm (Nat.lt_of_le_of_lt (Nat.div_le_self _ _) hm)
theorem chF_snoc (h : Nat) (s : List UInt8) (c : UInt8) : chF h (s ++ [c]) = chB (chF h s) c.toNat := by unfold chF; rw [List.foldl_append, List.foldl_cons, List.foldl_nil]
theorem chF_lt (h : Nat) (hh : h < 18446744073709551616) : ∀ s : List UInt8, chF h s < 18446744073709551616 := by
  intro s
  rcases List.eq_nil_or_concat s with rfl | ⟨t, c, rfl⟩
  · exact hh
  · rw [List.concat_eq_append, chF_snoc]; exact chB_lt _ _
theorem xor64_lt {a b : Nat} (ha : a < 18446744073709551616) (hb : b < 18446744073709551616) : a ^^^ b < 18446744073709551616 := by
  have e : (18446744073709551616 : Nat) = 2 ^ 64 := by decide
  rw [e] at ha hb ⊢
  exact Nat.xor_lt_two_pow ha hb
theorem chainOf_lt (h : Nat) (hh : h < 18446744073709551616) (s : List UInt8) : chainOf h s < 18446744073709551616 := chF_lt _ (xor64_lt hh (by decide)) _
theorem ch_step (h c : Nat) (hh : h < 18446744073709551616) (hc : c < 18446744073709551616) :
    bits .xor .u64 (IntKind.u64.wrap (bits .xor .u64 (h : Int) (c : Int) * 1099511628211)) (IntKind.u64.wrap (bits .xor .u64 (h : Int) (c : Int) * 1099511628211) / 536870912) = (chB h c : Int) := by
  have e1 : bits .xor .u64 (h : Int) (c : Int) = ((h ^^^ c : Nat) : Int) := u64_xor_nat h c hh hc
  rw [e1]
  unfold chB
  obtain ⟨x, hx⟩ : ∃ x, h ^^^ c = x := ⟨_, rfl⟩
  rw [hx]
  have e2 : IntKind.u64.wrap ((x : Int) * 1099511628211) = ((x * 1099511628211 % 18446744073709551616 : Nat) : Int) := by
    simp only [IntKind.wrap, IntKind.bits, IntKind.signed]
    simp
  rw [e2]
  have hm := Nat.mod_lt (x * 1099511628211) (show 0 < 18446744073709551616 by omega)
  generalize x * 1099511628211 % 18446744073709551616 = y at hm ⊢
  have e3 : (y : Int) / 536870912 = ((y / 536870912 : Nat) : Int) := by omega
  rw [e3]
  exact u64_xor_nat y (y / 536870912) hm (by omega)
end Go.Cmp
namespace Go.Proofs.Ytnjboimjlbgdiaa
open Go.RowKit Go.Cmp
set_option maxRecDepth 100000

section
variable {S : List Nat} {w0 w : World} {M : List Ent}

theorem crcSum_any (s : List UInt8) (hl : s.length ≤ 1000000000) (w : World) :
    Calls Try.prog 68 #[.string ⟨s.toArray⟩] w fun e w' => e = .returned (.int .u32 (sumOf s)) ∧ St [] w w' [] := by
  have hS := St.init w
  have HA := Lib.hid (fun w => crcAdd_any 0 (by omega) s hl w)
  have e : sumOf s = addC 0 s := rfl
  rw [e]
  generalize addC 0 s = x at HA ⊢
  (go_enter Try.func68, Try.ntmps68)
  go_wp2_with (first | (go_at_call 74; refine (HA.out _).mono ?_; rintro e w' ⟨rfl, h⟩; replace hS := hS.call h; clear h) | fail)
  go_ret
  exact ⟨rfl, hS⟩

theorem crcStep_any (h : Nat) (hh : h < 18446744073709551616) (c : Nat) (hc : c < 256) (w : World) :
    Calls Try.prog 73 #[.int .u64 h, .int .u8 c] w fun e w' => e = .returned (.int .u64 (chB h c)) ∧ w' = w := by
  have HB := Lib.hid (ch_step h c hh (by omega))
  (go_enter Try.func73, Try.ntmps73)
  go_wp2
  go_ret
  rw [← HB.out]
  exact ⟨rfl, rfl⟩
end
end Go.Proofs.Ytnjboimjlbgdiaa
namespace Go.Cmp
open Go.RowKit
theorem chF_app (h : Nat) (s t : List UInt8) : chF h (s ++ t) = chF (chF h s) t := by unfold chF; rw [List.foldl_append]
theorem nth_leB : ∀ (k n i : Nat), i < k → nth (leB k n) i = UInt8.ofNat (n / 256 ^ i % 256)
  | 0, _, _, h => by omega
  | k + 1, n, 0, _ => by simp [leB, nth]
  | k + 1, n, i + 1, h => by
    have e : nth (leB (k + 1) n) (i + 1) = nth (leB k (n / 256)) i := rfl
    rw [e, nth_leB k (n / 256) i (by omega), Nat.div_div_eq_div_mul, Nat.pow_succ, Nat.mul_comm 256]
theorem u8_wrap_nat (n : Nat) : IntKind.u8.wrap (n : Int) = ((n % 256 : Nat) : Int) := by
  simp only [IntKind.wrap, IntKind.bits, IntKind.signed]
  simp
theorem ch_step2 (h c : Nat) (hh : h < 18446744073709551616) (hc : c < 18446744073709551616) :
    bits .xor .u64 (IntKind.u64.wrap (bits .xor .u64 (h : Int) (c : Int) * 1099511628211)) (IntKind.u64.wrap ((IntKind.u64.wrap (bits .xor .u64 (h : Int) (c : Int) * 1099511628211)).tdiv 536870912)) = (chB h c : Int) := by
  have e1 : bits .xor .u64 (h : Int) (c : Int) = ((h ^^^ c : Nat) : Int) := u64_xor_nat h c hh hc
  rw [← ch_step h c hh hc, e1]
  obtain ⟨x, hx⟩ : ∃ x, h ^^^ c = x := ⟨_, rfl⟩
  rw [hx]
  have e2 : IntKind.u64.wrap ((x : Int) * 1099511628211) = ((x * 1099511628211 % 18446744073709551616 : Nat) : Int) := by
    simp only [IntKind.wrap, IntKind.bits, IntKind.signed]
    simp
  rw [e2]
  have hm := Nat.mod_lt (x * 1099511628211) (show 0 < 18446744073709551616 by omega)
  generalize x * 1099511628211 % 18446744073709551616 = y at hm ⊢
  have e3 : Int.tdiv (y : Int) 536870912 = (y : Int) / 536870912 := Int.tdiv_eq_ediv_of_nonneg (by omega)
  rw [e3]
  congr 1
  simp only [IntKind.wrap, IntKind.bits, IntKind.signed]
  simp
  omega
end Go.Cmp
namespace Go.Proofs.Ytnjboimjlbgdiaa
open Go.RowKit Go.Cmp
set_option maxRecDepth 100000

section
set_option maxHeartbeats 4000000 in
theorem crcChain_any (h : Nat) (hh : h < 18446744073709551616) (s : List UInt8) (hl : s.length ≤ 1000000000) (w : World) :
    Calls Try.prog 65 #[.int .u64 h, .string ⟨s.toArray⟩] w fun e w' => e = .returned (.int .u64 (chainOf h s)) ∧ w' = w := by
  have hx : bits .xor .u64 (h : Int) 14695981039346656037 = ((h ^^^ 14695981039346656037 : Nat) : Int) := u64_xor_nat h 14695981039346656037 hh (by decide)
  have HA : Hid (chainOf h s = chF (chF (h ^^^ 14695981039346656037) s) (leB 8 s.length)) := Lib.hid (by unfold chainOf; rw [chF_app])
  have h0l : h ^^^ 14695981039346656037 < 18446744073709551616 := xor64_lt hh (by decide)
  obtain ⟨h0, hh0⟩ : ∃ x, h ^^^ 14695981039346656037 = x := ⟨_, rfl⟩
  rw [hh0] at hx HA h0l
  generalize chainOf h s = ans at HA ⊢
  clear hh0 hh
  (go_enter Try.func65, Try.ntmps65)
  go_wp2
  clear hx
  go_loopw [0, 12] (fun x k wr => ∃ (j q : Nat), j ≤ s.length ∧ q < 18446744073709551616 ∧ Hid (chF h0 (s.take j) = q) ∧ x = .int .u64 q ∧ k = .int .i64 j ∧ wr = w) (fun _ k _ => s.length - (intOf k).toNat)
  case atStart => exact ⟨0, h0, by omega, h0l, Lib.hid rfl, rfl, rfl, rfl⟩
  case round =>
    obtain ⟨j, q, hj, hq, HQ, rfl, rfl, rfl⟩ := hrel
    by_cases hlt : j < s.length
    · have hlt1 : (j : Int) < s.length := by omega
      have hn : chF h0 (s.take (j + 1)) = chB q (nth s j).toNat := by rw [take_nth hlt, chF_snoc, HQ.out]
      have hcn := (nth s j).toNat_lt
      obtain ⟨c, hc⟩ : ∃ c, (nth s j).toNat = c := ⟨_, rfl⟩
      rw [hc] at hcn hn
      have HST := Lib.hid (fun w => crcStep_any q hq c hcn w)
      have hq2 := chB_lt q c
      generalize chB q c = q2 at HST hn hq2
      have HN := Lib.hid hn
      have HC := Lib.hid hc
      clear hn hc
      go_wp2_with (first | ((with_reducible refine g_indexV ?_); refine wl_run rfl (v := .int .u8 (c : Int)) (by rw [← HC.out]; exact a_strIndex (l := s) (j := (j : Int)) rfl rfl rfl rfl (by omega) (by omega)) ?_) | (go_at_call 73; refine (HST.out _).mono ?_; rintro e w' ⟨rfl, rfl⟩) | fail)
      exact ⟨⟨j + 1, q2, by omega, hq2, HN, rfl, by simp, trivial⟩, by simp [intOf]; omega⟩
    · obtain rfl : j = s.length := by omega
      rw [List.take_length] at HQ
      rw [HQ.out] at HA
      clear HQ
      go_wp2
      go_loopw [0, 6, 7] (fun x y k wz => ∃ (k' q2 n : Nat), k' ≤ 8 ∧ q2 < 18446744073709551616 ∧ n ≤ 1000000000 ∧ Hid (chF q (leB k' s.length) = q2) ∧ Hid (n = s.length / 256 ^ k') ∧ x = .int .u64 q2 ∧ y = .int .i64 n ∧ k = .int .i64 k' ∧ wz = wr) (fun _ _ k _ => 8 - (intOf k).toNat)
      case atStart => exact ⟨0, q, s.length, by omega, hq, hl, Lib.hid rfl, Lib.hid (by simp), rfl, rfl, rfl, by first | rfl | trivial⟩
      case round =>
        obtain ⟨k, q2, n, hk, hq2, hn, HQ, HN, rfl, rfl, rfl, rfl⟩ := hrel
        by_cases hlt8 : k < 8
        · have hlt1 : (k : Int) < 8 := by omega
          have hs : chF q (leB (k + 1) s.length) = chB q2 (n % 256) := by
            rw [leB_snoc, chF_snoc, HQ.out, ← HN.out]
            congr 1
            simp
          have hn2 : Hid (n / 256 = s.length / 256 ^ (k + 1)) := Lib.hid (by rw [HN.out, Nat.div_div_eq_div_mul, Nat.pow_succ])
          have hw := u8_wrap_nat n
          have hcn : n % 256 < 256 := by omega
          obtain ⟨c, hc⟩ : ∃ c, n % 256 = c := ⟨_, rfl⟩
          rw [hc] at hs hw hcn
          have HST := Lib.hid (fun w => crcStep_any q2 hq2 c hcn w)
          have hq3 := chB_lt q2 c
          generalize chB q2 c = q3 at HST hs hq3
          have HS := Lib.hid hs
          clear hs hc
          go_wp2_with (first | (go_at_call 73; refine (HST.out _).mono ?_; rintro e w' ⟨rfl, rfl⟩) | fail)
          exact ⟨⟨k + 1, q3, n / 256, by omega, hq3, by omega, HS, hn2, rfl, by simp, by simp, trivial⟩, by simp [intOf]; omega⟩
        · obtain rfl : k = 8 := by omega
          have HE : Hid (ans = q2) := Lib.hid (by rw [HA.out, HQ.out])
          clear HQ HN HA
          go_wp2
          go_ret
          rw [HE.out]
          exact ⟨rfl, rfl⟩

end
end Go.Proofs.Ytnjboimjlbgdiaa
