/-
  The chain's sum: the program's and the document's.
-/
import Derived.Test.YtkcgacadkpbpoaaCrc2
import Derived.Test.YtkcgacadkpbpoaaGen
set_option linter.unusedSimpArgs false
set_option linter.unusedVariables false
set_option linter.unusedSectionVars false
namespace Go.Cmp
open Go.RowKit
theorem chF_app (h : Nat) (s t : List UInt8) : chF h (s ++ t) = chF (chF h s) t := by unfold chF; rw [List.foldl_append]
theorem nth_leB : ∀ (k n i : Nat), i < k → nth (leB k n) i = UInt8.ofNat (n / 256 ^ i % 256)
  | 0, _, _, h => by omega
  | k + 1, n, 0, _ => by simp [leB, nth]
  | k + 1, n, i + 1, h => by
    have e : nth (leB (k + 1) n) (i + 1) = nth (leB k (n / 256)) i := rfl
    rw [e, nth_leB k (n / 256) i (by omega), Nat.div_div_eq_div_mul, Nat.pow_succ, Nat.mul_comm 256]
theorem u8_wrap_nat (n : Nat) : IntKind.u8.wrap (n : Int) = ((n % 256 : Nat) : Int) := by
  simp only [IntKind.wrap, IntKind.bits, IntKind.signed]
  simp
theorem ch_step2 (h c : Nat) (hh : h < 18446744073709551616) (hc : c < 18446744073709551616) :
    bits .xor .u64 (IntKind.u64.wrap (bits .xor .u64 (h : Int) (c : Int) * 1099511628211)) (IntKind.u64.wrap ((IntKind.u64.wrap (bits .xor .u64 (h : Int) (c : Int) * 1099511628211)).tdiv 536870912)) = (chB h c : Int) := by
  have e1 : bits .xor .u64 (h : Int) (c : Int) = ((h ^^^ c : Nat) : Int) := u64_xor_nat h c hh hc
  rw [← ch_step h c hh hc, e1]
  obtain ⟨x, hx⟩ : ∃ x, h ^^^ c = x := ⟨_, rfl⟩
  rw [hx]
  have e2 : IntKind.u64.wrap ((x : Int) * 1099511628211) = ((x * 1099511628211 % 18446744073709551616 : Nat) : Int) := by
    simp only [IntKind.wrap, IntKind.bits, IntKind.signed]
    simp
  rw [e2]
  have hm := Nat.mod_lt (x * 1099511628211) (show 0 < 18446744073709551616 by omega)
  generalize x * 1099511628211 % 18446744073709551616 = y at hm ⊢
  have e3 : Int.tdiv (y : Int) 536870912 = (y : Int) / 536870912 := Int.tdiv_eq_ediv_of_nonneg (by omega)
  rw [e3]
  congr 1
  simp only [IntKind.wrap, IntKind.bits, IntKind.signed]
  simp
  omega
end Go.Cmp
namespace Go.Proofs.Ytkcgacadkpbpoaa
open Go.RowKit Go.Cmp
set_option maxRecDepth 100000

section
set_option maxHeartbeats 4000000 in
theorem crcChain_any (h : Nat) (hh : h < 18446744073709551616) (s : List UInt8) (hl : s.length ≤ 1000000000) (w : World) :
    Calls Try.prog 70 #[.int .u64 h, .string ⟨s.toArray⟩] w fun e w' => e = .returned (.int .u64 (chainOf h s)) ∧ w' = w := by
  have hx : bits .xor .u64 (h : Int) 14695981039346656037 = ((h ^^^ 14695981039346656037 : Nat) : Int) := u64_xor_nat h 14695981039346656037 hh (by decide)
  have HA : Hid (chainOf h s = chF (chF (h ^^^ 14695981039346656037) s) (leB 8 s.length)) := Lib.hid (by unfold chainOf; rw [chF_app])
  have h0l : h ^^^ 14695981039346656037 < 18446744073709551616 := xor64_lt hh (by decide)
  obtain ⟨h0, hh0⟩ : ∃ x, h ^^^ 14695981039346656037 = x := ⟨_, rfl⟩
  rw [hh0] at hx HA h0l
  generalize chainOf h s = ans at HA ⊢
  clear hh0 hh
  (go_enter Try.func70, Try.ntmps70)
  go_wp2
  clear hx
  go_loopw [0, 12] (fun x k wr => ∃ (j q : Nat), j ≤ s.length ∧ q < 18446744073709551616 ∧ Hid (chF h0 (s.take j) = q) ∧ x = .int .u64 q ∧ k = .int .i64 j ∧ wr = w) (fun _ k _ => s.length - (intOf k).toNat)
  case atStart => exact ⟨0, h0, by omega, h0l, Lib.hid rfl, rfl, rfl, rfl⟩
  case round =>
    obtain ⟨j, q, hj, hq, HQ, rfl, rfl, rfl⟩ := hrel
    by_cases hlt : j < s.length
    · have hlt1 : (j : Int) < s.length := by omega
      have hn : chF h0 (s.take (j + 1)) = chB q (nth s j).toNat := by rw [take_nth hlt, chF_snoc, HQ.out]
      have hcn := (nth s j).toNat_lt
      obtain ⟨c, hc⟩ : ∃ c, (nth s j).toNat = c := ⟨_, rfl⟩
      rw [hc] at hcn hn
      have HST := Lib.hid (fun w => crcStep_any q hq c hcn w)
      have hq2 := chB_lt q c
      generalize chB q c = q2 at HST hn hq2
      have HN := Lib.hid hn
      have HC := Lib.hid hc
      clear hn hc
      go_wp2_with (first | ((with_reducible refine g_indexV ?_); refine wl_run rfl (v := .int .u8 (c : Int)) (by rw [← HC.out]; exact a_strIndex (l := s) (j := (j : Int)) rfl rfl rfl rfl (by omega) (by omega)) ?_) | (go_at_call 83; refine (HST.out _).mono ?_; rintro e w' ⟨rfl, rfl⟩) | fail)
      exact ⟨⟨j + 1, q2, by omega, hq2, HN, rfl, by simp, trivial⟩, by simp [intOf]; omega⟩
    · obtain rfl : j = s.length := by omega
      rw [List.take_length] at HQ
      rw [HQ.out] at HA
      clear HQ
      go_wp2
      go_loopw [0, 6, 7] (fun x y k wz => ∃ (k' q2 n : Nat), k' ≤ 8 ∧ q2 < 18446744073709551616 ∧ n ≤ 1000000000 ∧ Hid (chF q (leB k' s.length) = q2) ∧ Hid (n = s.length / 256 ^ k') ∧ x = .int .u64 q2 ∧ y = .int .i64 n ∧ k = .int .i64 k' ∧ wz = wr) (fun _ _ k _ => 8 - (intOf k).toNat)
      case atStart => exact ⟨0, q, s.length, by omega, hq, hl, Lib.hid rfl, Lib.hid (by simp), rfl, rfl, rfl, by first | rfl | trivial⟩
      case round =>
        obtain ⟨k, q2, n, hk, hq2, hn, HQ, HN, rfl, rfl, rfl, rfl⟩ := hrel
        by_cases hlt8 : k < 8
        · have hlt1 : (k : Int) < 8 := by omega
          have hs : chF q (leB (k + 1) s.length) = chB q2 (n % 256) := by
            rw [leB_snoc, chF_snoc, HQ.out, ← HN.out]
            congr 1
            simp
          have hn2 : Hid (n / 256 = s.length / 256 ^ (k + 1)) := Lib.hid (by rw [HN.out, Nat.div_div_eq_div_mul, Nat.pow_succ])
          have hw := u8_wrap_nat n
          have hcn : n % 256 < 256 := by omega
          obtain ⟨c, hc⟩ : ∃ c, n % 256 = c := ⟨_, rfl⟩
          rw [hc] at hs hw hcn
          have HST := Lib.hid (fun w => crcStep_any q2 hq2 c hcn w)
          have hq3 := chB_lt q2 c
          generalize chB q2 c = q3 at HST hs hq3
          have HS := Lib.hid hs
          clear hs hc
          go_wp2_with (first | (go_at_call 83; refine (HST.out _).mono ?_; rintro e w' ⟨rfl, rfl⟩) | fail)
          exact ⟨⟨k + 1, q3, n / 256, by omega, hq3, by omega, HS, hn2, rfl, by simp, by simp, trivial⟩, by simp [intOf]; omega⟩
        · obtain rfl : k = 8 := by omega
          have HE : Hid (ans = q2) := Lib.hid (by rw [HA.out, HQ.out])
          clear HQ HN HA
          go_wp2
          go_ret
          rw [HE.out]
          exact ⟨rfl, rfl⟩

set_option maxHeartbeats 4000000 in
theorem refChain_any (h : Nat) (hh : h < 18446744073709551616) (s : List UInt8) (hl : s.length ≤ 1000000000) (w : World) :
    Calls Try.prog 72 #[.int .u64 h, .string ⟨s.toArray⟩] w fun e w' => e = .returned (.int .u64 (chainOf h s)) ∧ w' = w := by
  have hx : bits .xor .u64 (h : Int) 14695981039346656037 = ((h ^^^ 14695981039346656037 : Nat) : Int) := u64_xor_nat h 14695981039346656037 hh (by decide)
  have HA : Hid (chainOf h s = chF (h ^^^ 14695981039346656037) (s ++ leB 8 s.length)) := Lib.hid rfl
  have h0l : h ^^^ 14695981039346656037 < 18446744073709551616 := xor64_lt hh (by decide)
  obtain ⟨h0, hh0⟩ : ∃ x, h ^^^ 14695981039346656037 = x := ⟨_, rfl⟩
  rw [hh0] at hx HA h0l
  have hLl : (s ++ leB 8 s.length).length = s.length + 8 := by rw [List.length_append, leB_length]
  have hL1 : ∀ j, j < s.length → nth (s ++ leB 8 s.length) j = nth s j := fun j hj => by rw [nth_append, if_pos hj]
  have hL2 : ∀ j, s.length ≤ j → j < s.length + 8 → nth (s ++ leB 8 s.length) j = UInt8.ofNat (s.length / 256 ^ (j - s.length) % 256) := fun j hj hj2 => by rw [nth_append, if_neg (by omega), nth_leB _ _ _ (by omega)]
  obtain ⟨L, hL⟩ : ∃ L, s ++ leB 8 s.length = L := ⟨_, rfl⟩
  rw [hL] at HA hLl hL1 hL2
  have HL1 := Lib.hid hL1
  have HL2 := Lib.hid hL2
  have HLl := Lib.hid hLl
  generalize chainOf h s = ans at HA ⊢
  clear hh0 hh hL hL1 hL2 hLl
  (go_enter Try.func72, Try.ntmps72)
  go_wp2
  clear hx
  go_loopw [0, 5, 6] (fun x y k wr => ∃ (j q n : Nat), j ≤ s.length + 8 ∧ q < 18446744073709551616 ∧ n ≤ 1000000000 ∧ Hid (chF h0 (L.take j) = q) ∧ Hid (n = s.length / 256 ^ (j - s.length)) ∧ x = .int .u64 q ∧ y = .int .u64 n ∧ k = .int .i64 j ∧ wr = w) (fun _ _ k _ => s.length + 8 - (intOf k).toNat)
  case atStart => exact ⟨0, h0, s.length, by omega, h0l, hl, Lib.hid rfl, Lib.hid (by simp), rfl, rfl, rfl, by first | rfl | trivial⟩
  case round =>
    obtain ⟨j, q, n, hj, hq, hn, HQ, HN, rfl, rfl, rfl, rfl⟩ := hrel
    by_cases hlt : j < s.length
    · have hlt1 : (j : Int) < s.length := by omega
      have hlt2 : (j : Int) < s.length + 8 := by omega
      have hs : chF h0 (L.take (j + 1)) = chB q (nth s j).toNat := by rw [take_nth (by rw [HLl.out]; omega), chF_snoc, HQ.out, HL1.out j hlt]
      have hcn := (nth s j).toNat_lt
      obtain ⟨c, hc⟩ : ∃ c, (nth s j).toNat = c := ⟨_, rfl⟩
      rw [hc] at hcn hs
      have HB := Lib.hid (ch_step2 q c hq (by omega))
      have hq2 := chB_lt q c
      generalize chB q c = q2 at HB hs hq2
      have HS := Lib.hid hs
      have HC := Lib.hid hc
      have hn2 : Hid (n = s.length / 256 ^ (j + 1 - s.length)) := Lib.hid (by rw [HN.out, show j - s.length = 0 by omega, show j + 1 - s.length = 0 by omega])
      clear hs hc
      go_wp2_with (first | ((with_reducible refine g_indexV ?_); refine wl_run rfl (v := .int .u8 (c : Int)) (by rw [← HC.out]; exact a_strIndex (l := s) (j := (j : Int)) rfl rfl rfl rfl (by omega) (by omega)) ?_) | fail)
      exact ⟨⟨j + 1, q2, n, by omega, hq2, hn, HS, hn2, by rw [HB.out], rfl, by simp, trivial⟩, by simp [intOf]; omega⟩
    · have hlt1 : ¬ (j : Int) < s.length := by omega
      by_cases hlt2 : j < s.length + 8
      · have hlt3 : (j : Int) < s.length + 8 := by omega
        have hs : chF h0 (L.take (j + 1)) = chB q (n % 256) := by
          rw [take_nth (by rw [HLl.out]; omega), chF_snoc, HQ.out, HL2.out j (by omega) hlt2, ← HN.out]
          congr 1
          simp
        have hn2 : Hid (n / 256 = s.length / 256 ^ (j + 1 - s.length)) := Lib.hid (by rw [HN.out, Nat.div_div_eq_div_mul, show j + 1 - s.length = (j - s.length) + 1 by omega, Nat.pow_succ])
        have hcn : n % 256 < 256 := by omega
        have hc1 : (n : Int) % 256 = ((n % 256 : Nat) : Int) := by omega
        obtain ⟨c, hc⟩ : ∃ c, n % 256 = c := ⟨_, rfl⟩
        rw [hc] at hs hcn hc1
        have HB := Lib.hid (ch_step2 q c hq (by omega))
        have hq2 := chB_lt q c
        generalize chB q c = q2 at HB hs hq2
        have HS := Lib.hid hs
        clear hs hc
        go_wp2
        exact ⟨⟨j + 1, q2, n / 256, by omega, hq2, by omega, HS, hn2, by rw [HB.out], by simp, by simp, trivial⟩, by simp [intOf]; omega⟩
      · obtain rfl : j = s.length + 8 := by omega
        rw [List.take_of_length_le (by rw [HLl.out]; omega)] at HQ
        have HE : Hid (ans = q) := Lib.hid (by rw [HA.out, HQ.out])
        clear HQ HN HA
        go_wp2
        go_ret
        rw [HE.out]
        exact ⟨rfl, rfl⟩
end
end Go.Proofs.Ytkcgacadkpbpoaa
