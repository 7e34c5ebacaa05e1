/-
  The document's disk: flush.
-/
import Derived.Test.YtbfdnpahojoccaaRef3A
set_option linter.unusedSimpArgs false
set_option linter.unusedVariables false
set_option linter.unusedSectionVars false
set_option maxRecDepth 100000
namespace Go.Proofs.Ytbfdnpahojoccaa
open Go.RowKit Go.Cmp

section
variable {S : List Nat} {w0 w : World} {M : List Ent} {g : Nat} {D : Dsk}

theorem goes_off {D : Dsk} (h : D.off = true) : Dsk.goes D = (false, D) := by unfold Dsk.goes; rw [if_pos h]
theorem goes_on {D : Dsk} (h : D.off = false) : Dsk.goes D = D.step := by unfold Dsk.goes; rw [if_neg (by rw [h]; simp)]

set_option maxHeartbeats 4000000 in
theorem rdisk_flush (hS : St S w0 w (rdisk g D :: M)) (hD : D.Ok) : Calls Try.prog 53 #[.pointer (some ⟨g, 0, none⟩)] w fun e w' => e = .returned (.int .i64 D.flush.1) ∧ St S w0 w' (rdisk g D.flush.2 :: M) := by
  have h0 := hS
  have HD := Lib.hid hD
  clear hD
  by_cases hc : (Dsk.goes D).1 = false
  · have e : D.flush = (6, (Dsk.goes D).2) := by
      cases ho : D.off
      · rw [goes_on ho] at hc ⊢
        unfold Dsk.flush
        rw [if_neg (by rw [ho]; simp), if_pos hc]
      · rw [goes_off ho] at hc ⊢
        unfold Dsk.flush
        rw [if_pos ho]
    rw [e]
    clear e
    have h := rdisk_goes h0 HD.out
    rw [hc] at h
    have H := Lib.hid h
    clear h hc
    (go_enter Try.func53, Try.ntmps53)
    go_wp2_with (fail)
    refine H.out.mono ?_
    rintro e w' ⟨rfl, hS⟩
    go_wp2_with (fail)
    go_ret
    exact ⟨rfl, hS⟩
  have hc : (Dsk.goes D).1 = true := by simpa using hc
  have ho : D.off = false := by
    cases ho : D.off
    · rfl
    · rw [goes_off ho] at hc; exact absurd hc (by simp)
  have h := rdisk_goes h0 HD.out
  rw [hc] at h
  rw [goes_on ho] at h hc
  obtain ⟨E, hE⟩ : ∃ E, D.step.2 = E := ⟨_, rfl⟩
  have hw : E.way = D.way ∧ E.lasts.length = D.lasts.length ∧ E.mark.length = D.mark.length := by rw [← hE]; simp [step_way]
  have hlm := HD.out.len
  have hwl : E.way.length ≤ 1000000 := by rw [hw.1]; exact HD.out.ways
  have e : D.flush = (0, { E.puts E.way with way := [] }) := by
    unfold Dsk.flush
    rw [if_neg (by rw [ho]; simp), if_neg (by rw [hc]; simp), hE, hw.1]
  rw [e]
  rw [hE] at h
  have Hw := Lib.hid hw
  have H := Lib.hid h
  clear hE hw hlm h e hc ho h0
  (go_enter Try.func53, Try.ntmps53)
  go_wp2_with (fail)
  refine H.out.mono ?_
  clear H hS
  rintro e w' ⟨rfl, hS⟩
  (have hU := St.unpack hS; clear hS; obtain ⟨⟨vl, vm, vw⟩, _, hS⟩ := hU; simp only [List.cons_append, List.nil_append] at hS)
  go_wp2_with (fail)
  go_loopw [3] (fun i wr => ∃ j : Nat, j ≤ E.way.length ∧ i = .int .i64 j ∧ St S w0 wr (.row g [vl, vm, vw, .bool E.off, .int .i64 E.fuse, .int .i64 E.steps] 65 (0, 0) :: .vec vl 9 1 (E.puts (E.way.take j)).lasts.length ((E.puts (E.way.take j)).lasts.flatMap str) :: .vec vm 4 1 (E.puts (E.way.take j)).mark.length ((E.puts (E.way.take j)).mark.flatMap bl) :: .vec vw 95 2 E.way.length (E.way.flatMap Wr.cells) :: M)) (fun i _ => E.way.length - (intOf i).toNat)
  case atStart => exact ⟨0, Nat.zero_le _, rfl, hS⟩
  case round =>
    clear hS
    obtain ⟨j, hj, rfl, hS⟩ := hrel
    obtain ⟨F, hF⟩ : ∃ F, E.puts (E.way.take j) = F := ⟨_, rfl⟩
    rw [hF] at hS
    have HF := Lib.hid hF
    clear hF
    by_cases hlt : j < E.way.length
    · have hok := HD.out.way (nth E.way j) (by rw [Hw.out.1] at hlt ⊢; exact nth_mem hlt)
      obtain ⟨x, hx⟩ : ∃ x, nth E.way j = x := ⟨_, rfl⟩
      have hxx : E.way[j]? = some x := by rw [get_lt hlt, hx]
      rw [hx] at hok
      obtain ⟨k1, k2, k3⟩ := hok
      have k4 : x.sector < F.lasts.length := by rw [← HF.out, puts_len.1, Hw.out.2.1]; exact k2
      have k5 : x.sector < F.mark.length := by rw [← HF.out, puts_len.2.1, Hw.out.2.2, HD.out.len]; exact k2
      have Hx := Lib.hid hx
      clear hx k2 k3
      go_wp2_with (first | refine au1 (n := ?_) | (refine au2 (n := ?_); clear hS; intro w' hS) | (refine au3 (n := ?_); clear hS; intro gb w1 hS) | (refine au4 (n := ?_); clear hS; intro v1 w' hS) | ((with_reducible refine wl_guard ?_); refine stop_mem rfl rfl ?_))
      (refine wp_region_tail 21 (by kernel_rfl) (by kernel_rfl) hS ?_; clear hS; intro w' hS; simp only [List.take_succ_cons, List.take_zero, List.drop_succ_cons, List.drop_zero]; ((repeat (first | ((with_reducible refine s_load ?_); refine z_read rfl (h := ?_); simp only [Act.put, List.setIfInBounds_toArray, List.set_cons_zero, List.set_cons_succ]) | ((with_reducible refine s_index ?_); refine z_idx rfl (h := ?_); simp only [Act.put, List.setIfInBounds_toArray, List.set_cons_zero, List.set_cons_succ]) | ((with_reducible refine s_field ?_); refine z_fld rfl (h := ?_); simp only [Act.put, List.setIfInBounds_toArray, List.set_cons_zero, List.set_cons_succ]) | ((with_reducible refine s_len ?_); refine z_len rfl (h := ?_); simp only [Act.put, List.setIfInBounds_toArray, List.set_cons_zero, List.set_cons_succ]) | ((with_reducible refine s_cut ?_); refine z_str rfl (h := ?_); simp only [Act.put, List.setIfInBounds_toArray, List.set_cons_zero, List.set_cons_succ]) | ((with_reducible refine s_indexV ?_); refine z_six rfl (h := ?_); simp only [Act.put, List.setIfInBounds_toArray, List.set_cons_zero, List.set_cons_succ]) | ((with_reducible refine s_bin ?_); refine z_cat rfl (h := ?_); simp only [Act.put, List.setIfInBounds_toArray, List.set_cons_zero, List.set_cons_succ]) | ((with_reducible refine s_conv ?_); refine z_tos rfl (h := ?_); simp only [Act.put, List.setIfInBounds_toArray, List.set_cons_zero, List.set_cons_succ]) | still_step)); refine wpStill_nil ?_))
      go_wp2_with (first | refine au1 (n := ?_) | (refine au2 (n := ?_); clear hS; intro w' hS) | (refine au3 (n := ?_); clear hS; intro gb w1 hS) | (refine au4 (n := ?_); clear hS; intro v1 w' hS) | ((with_reducible refine wl_guard ?_); refine stop_mem rfl rfl ?_))
      (refine wp_region_tail 13 (by kernel_rfl) (by kernel_rfl) hS ?_; clear hS; intro w' hS; simp only [List.take_succ_cons, List.take_zero, List.drop_succ_cons, List.drop_zero]; ((repeat (first | ((with_reducible refine s_load ?_); refine z_read rfl (h := ?_); simp only [Act.put, List.setIfInBounds_toArray, List.set_cons_zero, List.set_cons_succ]) | ((with_reducible refine s_index ?_); refine z_idx rfl (h := ?_); simp only [Act.put, List.setIfInBounds_toArray, List.set_cons_zero, List.set_cons_succ]) | ((with_reducible refine s_field ?_); refine z_fld rfl (h := ?_); simp only [Act.put, List.setIfInBounds_toArray, List.set_cons_zero, List.set_cons_succ]) | ((with_reducible refine s_len ?_); refine z_len rfl (h := ?_); simp only [Act.put, List.setIfInBounds_toArray, List.set_cons_zero, List.set_cons_succ]) | ((with_reducible refine s_cut ?_); refine z_str rfl (h := ?_); simp only [Act.put, List.setIfInBounds_toArray, List.set_cons_zero, List.set_cons_succ]) | ((with_reducible refine s_indexV ?_); refine z_six rfl (h := ?_); simp only [Act.put, List.setIfInBounds_toArray, List.set_cons_zero, List.set_cons_succ]) | ((with_reducible refine s_bin ?_); refine z_cat rfl (h := ?_); simp only [Act.put, List.setIfInBounds_toArray, List.set_cons_zero, List.set_cons_succ]) | ((with_reducible refine s_conv ?_); refine z_tos rfl (h := ?_); simp only [Act.put, List.setIfInBounds_toArray, List.set_cons_zero, List.set_cons_succ]) | still_step)); refine wpStill_nil ?_))
      go_wp2_with (first | refine au1 (n := ?_) | (refine au2 (n := ?_); clear hS; intro w' hS) | (refine au3 (n := ?_); clear hS; intro gb w1 hS) | (refine au4 (n := ?_); clear hS; intro v1 w' hS) | ((with_reducible refine wl_guard ?_); refine stop_mem rfl rfl ?_))
      go_round
      case rel =>
        refine ⟨j + 1, by omega, by go_num, ?_⟩
        have e : E.puts (E.way.take (j + 1)) = F.put x := by rw [puts_take hlt, HF.out, Hx.out]
        rw [e]
        exact hS
      case measure => simp [intOf]; omega
    · obtain rfl : j = E.way.length := by omega
      go_wp2_with (first | refine au1 (n := ?_) | (refine au2 (n := ?_); clear hS; intro w' hS) | (refine au3 (n := ?_); clear hS; intro gb w1 hS) | (refine au4 (n := ?_); clear hS; intro v1 w' hS) | ((with_reducible refine wl_guard ?_); refine stop_mem rfl rfl ?_))
      go_ret
      have e : F = E.puts E.way := by rw [← HF.out, List.take_length]
      subst e
      refine ⟨rfl, ?_⟩
      have := @puts_len E E.way
      have hS := hS.addNil 95 2
      obtain ⟨t1, t2, t3, t4, t5, t6⟩ := this
      rw [← t4, ← t5, ← t6] at hS
      exact St.packs (vl, vm, .slice none 0 0) hS
end
end Go.Proofs.Ytbfdnpahojoccaa
