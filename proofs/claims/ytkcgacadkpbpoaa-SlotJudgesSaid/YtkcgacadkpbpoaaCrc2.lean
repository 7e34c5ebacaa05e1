/-
  Sums of bytes: the program's and the document's, once more; the chain's step.
-/
import Derived.Test.YtkcgacadkpbpoaaCrc1
set_option linter.unusedSimpArgs false
set_option linter.unusedVariables false
set_option linter.unusedSectionVars false
namespace Go.Cmp
open Go.RowKit
/-- The chain's step. -/
@[irreducible] def chB (h : Nat) (c : Nat) : Nat := ((h ^^^ c) * 1099511628211 % 18446744073709551616) ^^^ ((h ^^^ c) * 1099511628211 % 18446744073709551616 / 536870912)
def chF (h : Nat) (s : List UInt8) : Nat := s.foldl (fun h c => chB h c.toNat) h
def chainOf (h : Nat) (s : List UInt8) : Nat := chF (h ^^^ 14695981039346656037) (s ++ leB 8 s.length)
theorem chB_lt (h c : Nat) : chB h c < 18446744073709551616 := by
  unfold chB
  have hm := Nat.mod_lt ((h ^^^ c) * 1099511628211) (show 0 < 18446744073709551616 by omega)
  generalize (h ^^^ c) * 1099511628211 % 18446744073709551616 = y at hm ⊢
  have e : (18446744073709551616 : Nat) = 2 ^ 64 := by decide
  rw [e] at hm ⊢
  exact Nat.xor_lt_two_pow hm (Nat.lt_of_le_of_lt (Nat.div_le_self _ _) hm)
theorem chF_snoc (h : Nat) (s : List UInt8) (c : UInt8) : chF h (s ++ [c]) = chB (chF h s) c.toNat := by unfold chF; rw [List.foldl_append, List.foldl_cons, List.foldl_nil]
theorem chF_lt (h : Nat) (hh : h < 18446744073709551616) : ∀ s : List UInt8, chF h s < 18446744073709551616 := by
  intro s
  rcases List.eq_nil_or_concat s with rfl | ⟨t, c, rfl⟩
  · exact hh
  · rw [List.concat_eq_append, chF_snoc]; exact chB_lt _ _
theorem xor64_lt {a b : Nat} (ha : a < 18446744073709551616) (hb : b < 18446744073709551616) : a ^^^ b < 18446744073709551616 := by
  have e : (18446744073709551616 : Nat) = 2 ^ 64 := by decide
  rw [e] at ha hb ⊢
  exact Nat.xor_lt_two_pow ha hb
theorem chainOf_lt (h : Nat) (hh : h < 18446744073709551616) (s : List UInt8) : chainOf h s < 18446744073709551616 := chF_lt _ (xor64_lt hh (by decide)) _
theorem ch_step (h c : Nat) (hh : h < 18446744073709551616) (hc : c < 18446744073709551616) :
    bits .xor .u64 (IntKind.u64.wrap (bits .xor .u64 (h : Int) (c : Int) * 1099511628211)) (IntKind.u64.wrap (bits .xor .u64 (h : Int) (c : Int) * 1099511628211) / 536870912) = (chB h c : Int) := by
  have e1 : bits .xor .u64 (h : Int) (c : Int) = ((h ^^^ c : Nat) : Int) := u64_xor_nat h c hh hc
  rw [e1]
  unfold chB
  obtain ⟨x, hx⟩ : ∃ x, h ^^^ c = x := ⟨_, rfl⟩
  rw [hx]
  have e2 : IntKind.u64.wrap ((x : Int) * 1099511628211) = ((x * 1099511628211 % 18446744073709551616 : Nat) : Int) := by
    simp only [IntKind.wrap, IntKind.bits, IntKind.signed]
    simp
  rw [e2]
  have hm := Nat.mod_lt (x * 1099511628211) (show 0 < 18446744073709551616 by omega)
  generalize x * 1099511628211 % 18446744073709551616 = y at hm ⊢
  have e3 : (y : Int) / 536870912 = ((y / 536870912 : Nat) : Int) := by omega
  rw [e3]
  exact u64_xor_nat y (y / 536870912) hm (by omega)
end Go.Cmp
namespace Go.Proofs.Ytkcgacadkpbpoaa
open Go.RowKit Go.Cmp
set_option maxRecDepth 100000

section
variable {S : List Nat} {w0 w : World} {M : List Ent}

theorem crcSum_any (s : List UInt8) (hl : s.length ≤ 1000000000) (w : World) :
    Calls Try.prog 58 #[.string ⟨s.toArray⟩] w fun e w' => e = .returned (.int .u32 (sumOf s)) ∧ St [] w w' [] := by
  have hS := St.init w
  have HA := Lib.hid (fun w => crcAdd_any 0 (by omega) s hl w)
  have e : sumOf s = addC 0 s := rfl
  rw [e]
  generalize addC 0 s = x at HA ⊢
  (go_enter Try.func58, Try.ntmps58)
  go_wp2_with (first | (go_at_call 75; refine (HA.out _).mono ?_; rintro e w' ⟨rfl, h⟩; replace hS := hS.call h; clear h) | fail)
  go_ret
  exact ⟨rfl, hS⟩

set_option maxHeartbeats 4000000 in
theorem refAdd_any (sum : Nat) (hsum : sum < 4294967296) (s : List UInt8) (hl : s.length ≤ 1000000000) (w : World) :
    Calls Try.prog 86 #[.int .u32 sum, .string ⟨s.toArray⟩] w fun e w' => e = .returned (.int .u32 (addC sum s)) ∧ w' = w := by
  have hwr : IntKind.u32.wrap ((4294967295 : Int) - sum) = ((4294967295 - sum : Nat) : Int) := by
    simp only [IntKind.wrap, IntKind.bits, IntKind.signed]
    simp
    omega
  have HA : Hid (addC sum s = 4294967295 - crcF (4294967295 - sum) s) := Lib.hid rfl
  obtain ⟨r0, hr0⟩ : ∃ r, 4294967295 - sum = r := ⟨_, rfl⟩
  rw [hr0] at HA hwr
  have hr1 : r0 < 4294967296 := by omega
  generalize addC sum s = ans at HA ⊢
  clear hr0 hsum
  (go_enter Try.func86, Try.ntmps86)
  go_wp2
  clear hwr
  go_loopw [5, 6] (fun x k wr => ∃ (j q : Nat), j ≤ s.length ∧ q < 4294967296 ∧ Hid (crcF r0 (s.take j) = q) ∧ x = .int .u32 q ∧ k = .int .i64 j ∧ wr = w) (fun _ k _ => s.length - (intOf k).toNat)
  case atStart => exact ⟨0, r0, by omega, hr1, Lib.hid rfl, rfl, rfl, rfl⟩
  case round =>
    obtain ⟨j, q, hj, hq, HQ, rfl, rfl, rfl⟩ := hrel
    by_cases hlt : j < s.length
    · have hlt1 : (j : Int) < s.length := by omega
      have hn : crcF r0 (s.take (j + 1)) = crcB q (nth s j) := by rw [take_nth hlt, crcF_snoc, HQ.out]
      have hq2 := crcB_lt hq (nth s j)
      have hcn := (nth s j).toNat_lt
      have hcb : crcB q (nth s j) = stepsN 8 (q ^^^ (nth s j).toNat) := rfl
      obtain ⟨c, hc⟩ : ∃ c, (nth s j).toNat = c := ⟨_, rfl⟩
      rw [hc] at hcn hcb
      have hxl : q ^^^ c < 4294967296 := Nat.xor_lt_two_pow (n := 32) hq (by omega)
      have hx32 : bits .xor .u32 (q : Int) (c : Int) = ((q ^^^ c : Nat) : Int) := u32_xor_nat q c hq (by omega)
      obtain ⟨x, hx⟩ : ∃ x, q ^^^ c = x := ⟨_, rfl⟩
      rw [hx] at hxl hx32 hcb
      have HST := Lib.hid (fun w => refSteps_any x hxl w)
      rw [hcb] at hn hq2
      generalize stepsN 8 x = q2 at HST hn hq2
      have HN := Lib.hid hn
      have HC := Lib.hid hc
      clear hn hcb hx hc
      go_wp2_with (first | ((with_reducible refine g_indexV ?_); refine wl_run rfl (v := .int .u8 (c : Int)) (by rw [← HC.out]; exact a_strIndex (l := s) (j := (j : Int)) rfl rfl rfl rfl (by omega) (by omega)) ?_) | (go_at_call 89; refine (HST.out _).mono ?_; rintro e w' ⟨rfl, rfl⟩) | fail)
      exact ⟨⟨j + 1, q2, by omega, hq2, HN, rfl, by simp, trivial⟩, by simp [intOf]; omega⟩
    · obtain rfl : j = s.length := by omega
      rw [List.take_length] at HQ
      have hwr : IntKind.u32.wrap ((4294967295 : Int) - q) = ((4294967295 - q : Nat) : Int) := by
        simp only [IntKind.wrap, IntKind.bits, IntKind.signed]
        simp
        omega
      have HAQ : Hid (ans = 4294967295 - q) := Lib.hid (by rw [HA.out, HQ.out])
      clear HQ HA
      go_wp2
      go_ret
      rw [HAQ.out]
      exact ⟨rfl, rfl⟩
theorem refSum_any (s : List UInt8) (hl : s.length ≤ 1000000000) (w : World) :
    Calls Try.prog 78 #[.string ⟨s.toArray⟩] w fun e w' => e = .returned (.int .u32 (sumOf s)) ∧ w' = w := by
  have HA := Lib.hid (fun w => refAdd_any 0 (by omega) s hl w)
  have e : sumOf s = addC 0 s := rfl
  rw [e]
  generalize addC 0 s = x at HA ⊢
  (go_enter Try.func78, Try.ntmps78)
  go_wp2_with (first | (go_at_call 86; refine (HA.out _).mono ?_; rintro e w' ⟨rfl, rfl⟩) | fail)
  go_ret
  exact ⟨rfl, rfl⟩

theorem crcStep_any (h : Nat) (hh : h < 18446744073709551616) (c : Nat) (hc : c < 256) (w : World) :
    Calls Try.prog 83 #[.int .u64 h, .int .u8 c] w fun e w' => e = .returned (.int .u64 (chB h c)) ∧ w' = w := by
  have HB := Lib.hid (ch_step h c hh (by omega))
  (go_enter Try.func83, Try.ntmps83)
  go_wp2
  go_ret
  rw [← HB.out]
  exact ⟨rfl, rfl⟩
end
end Go.Proofs.Ytkcgacadkpbpoaa
