/-
  The document's answers: numbers' bytes.
-/
import Derived.Test.YtggngdjncokanaaEvent
set_option linter.unusedSimpArgs false
set_option linter.unusedVariables false
set_option linter.unusedSectionVars false
namespace Go.Proofs.Ytggngdjncokanaa
open Go.RowKit Go.Cmp
set_option maxRecDepth 100000

theorem refBytes_any (l : List UInt8) (v : Value) (n : Nat) (w : World) (hn : l.length = n) (hl : n ≤ 140737488355328) (hR : Rd w 1 v n (B l)) :
    Calls Try.prog 84 #[v] w fun e w' => ∃ v', e = .returned v' ∧ St [] w w' [.vec v' 5 1 n (B l)] := by
  have Hn := Lib.hid hn
  clear hn
  go_enter Try.func84, Try.ntmps84
  refine St.startAt w fun w1 hS => ?_
  have h0 : (0 : Int) ≤ (n : Int) := by omega
  have h1 : ((n : Int)).toNat * 1 ≤ 140737488355328 := by simpa using hl
  have h2 : (n : Int) ≤ 140737488355328 := by omega
  have h3 : (B l).take (min n (n : Int).toNat * 1) ++ (List.replicate (n : Int).toNat (Value.int .u8 0)).drop (min n (n : Int).toNat * 1) = B l := by
    have := Hn.out
    rw [List.drop_eq_nil_of_le (by simp), List.append_nil, List.take_of_length_le (by simp [B_length]; omega)]
  go_wp2_with (first | ((with_reducible refine g_len ?_); refine wl_run rfl (x_len rfl (hS.old0 hR) rfl rfl) ?_) | ((with_reducible refine g_make ?_); refine wl_of rfl ?_; refine wp_make hS rfl rfl rfl rfl rfl rfl rfl rfl h0 h1 h2 ?_; clear hS; intro v1 w1 hS) | ((with_reducible refine g_copy ?_); refine wl_of rfl ?_; refine wp_copyVec hS rfl (hS.old0 hR) 0 rfl rfl rfl rfl rfl rfl (B_one _) h3 ?_; clear hS; intro w1 hS) | fail)
  go_ret
  exact ⟨_, rfl, by simpa using hS⟩

set_option maxHeartbeats 400000 in
theorem refPut_any (l : List UInt8) (v : Value) (m n : Nat) (w : World) (hm : l.length = m) (hl : m + 8 ≤ 140737488355328) (hn : n < 256 ^ 8) (hR : Rd w 1 v m (B l)) :
    Calls Try.prog 82 #[v, .int .u64 n, .int .i64 8] w fun e w' => ∃ v', e = .returned (.tuple #[v', .int .i64 0]) ∧ St [] w w' [.vec v' 5 1 (m + 8) (B (l ++ leB 8 n))] := by
  have Hn := Lib.hid hn
  have Hm := Lib.hid hm
  clear hn hm
  go_enter Try.func82, Try.ntmps82
  refine St.startAt w fun w1 hS => ?_
  go_wp2_with (fail)
  refine (refBytes_any l _ m _ Hm.out (by omega) (hS.old0 hR)).mono ?_
  rintro e w2 ⟨v', rfl, hS2⟩
  replace hS := hS.call hS2
  clear hS2
  go_wp2
  go_loopw [8, 1, 9] (fun b x i wr => ∃ (j q : Nat), j ≤ 8 ∧ Hid (n / 256 ^ j = q) ∧ i = .int .i64 j ∧ x = .int .u64 (q : Int) ∧ St [] w wr [.vec b 5 1 (m + j) (B (l ++ leB j n))]) (fun _ _ i _ => 8 - (intOf i).toNat)
  case atStart => exact ⟨0, n, by omega, Lib.hid (by simp), rfl, rfl, by simpa [leB] using hS⟩
  case round =>
    clear hS
    obtain ⟨j, q, hj, Hq, rfl, rfl, hS⟩ := hrel
    by_cases hlt : j < 8
    · have hS0 := hS
      clear hS
      have hS := St.init wr
      have hE := hS0.rdv (i := 0) rfl
      have hb : (m + j + 1) * 1 ≤ 140737488355328 := by omega
      have ho1 : ∀ u ∈ [Value.int .u8 ((q : Int) % 256)], u.oneCell' = true := by simp [Value.oneCell']
      have hv1 : ∀ v ∈ [Value.int .u8 ((q : Int) % 256)], v.cells = #[v] := by simp [Value.cells]
      clear hS
      have hS := hS0
      go_wp2_with (first | ((with_reducible refine g_bs ?_); refine wl_of rfl ?_; refine wp_buildSlice1 (vs := [.int .u8 ((q : Int) % 256)]) hS rfl rfl rfl rfl rfl rfl (by decide) ⟨rfl, hv1⟩ ?_; clear hS; intro v1 w1 hS) | ((with_reducible refine g_append ?_); refine wl_of rfl ?_; refine wp_append hS rfl 1 rfl (hS.rdv (i := 0) rfl) rfl rfl rfl rfl rfl rfl (by decide) rfl ho1 hb ?_; clear hS; intro v9 w9 hS _) | fail)
      have hqn : q < 18446744073709551616 := by
        have := Hn.out
        have h2 := Hq.out
        have h3 := Nat.div_le_self n (256 ^ j)
        rw [pow8] at this
        omega
      have hw : IntKind.u64.wrap ((q : Int) / 256) = ((q / 256 : Nat) : Int) := by
        simp only [IntKind.wrap, IntKind.signed, IntKind.bits]
        simp
        omega
      refine ⟨⟨j + 1, q / 256, by omega, Lib.hid ?_, by go_num, by rw [hw], ?_⟩, by simp [intOf]; omega⟩
      · rw [← Hq.out, Nat.div_div_eq_div_mul, ← Nat.pow_succ]
      · have hf := (hS.front 1 rfl).one
        have e2 : B (l ++ leB j n) ++ [Value.int .u8 ((q : Int) % 256)] = B (l ++ leB (j + 1) n) := by
          rw [leB_snoc, ← List.append_assoc, B_append (l ++ leB j n), Hq.out]
          congr 1
          simp [B]
        rw [e2] at hf
        exact hf
    · obtain rfl : j = 8 := by omega
      obtain rfl : q = 0 := by
        have := Hq.out
        rw [Nat.div_eq_of_lt Hn.out] at this
        exact this.symm
      go_wp2
      go_ret2
      exact ⟨_, rfl, hS⟩

theorem eight_any (n : Nat) (w : World) (hn : n < 256 ^ 8) :
    Calls Try.prog 76 #[.int .u64 n] w fun e w' => e = .returned (.string ⟨(leB 8 n).toArray⟩) ∧ St [] w w' [] := by
  have Hn := Lib.hid hn
  clear hn
  go_enter Try.func76, Try.ntmps76
  refine St.startAt w fun w1 hS => ?_
  go_wp2_with (first | ((with_reducible refine g_bs ?_); refine wl_of rfl ?_; refine wp_buildSlice1 (vs := []) hS rfl rfl rfl rfl rfl rfl (by decide) ⟨rfl, by simp⟩ ?_; clear hS; intro v1 w1 hS) | fail)
  refine (refPut_any [] _ 0 n _ rfl (by omega) Hn.out (hS.rdv (i := 0) rfl)).mono ?_
  rintro e w2 ⟨v', rfl, hS2⟩
  replace hS := hS.call hS2
  clear hS2
  have hE := hS.rdv (i := 0) rfl
  rw [List.nil_append] at hE
  go_wp2_with (first | ((with_reducible refine g_conv ?_); refine wl_run rfl (x_toString rfl rfl rfl rfl hE rfl) ?_) | fail)
  go_ret
  exact ⟨rfl, hS.nil⟩

theorem many_any (n : Nat) (w : World) :
    Calls Try.prog 71 #[.int .i64 n] w fun e w' => e = .returned (.bool (decide (1 ≤ n ∧ n ≤ 4))) ∧ St [] w w' [] := by
  go_enter Try.func71, Try.ntmps71
  refine St.startAt w fun w1 hS => ?_
  go_wp2_with (fail)
  all_goals
    go_ret
    refine ⟨?_, hS⟩
    refine congrArg Ending.returned ?_
    refine congrArg Value.bool ?_
    rw [Bool.eq_iff_iff]
    simp
    try omega

end Go.Proofs.Ytggngdjncokanaa
