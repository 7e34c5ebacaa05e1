/-
  The disk's flushes.
-/
import Derived.Test.YtbfdnpahojoccaaDisk2
set_option linter.unusedSimpArgs false
set_option linter.unusedVariables false
set_option linter.unusedSectionVars false
set_option maxRecDepth 100000
namespace Go.Proofs.Ytbfdnpahojoccaa
open Go.RowKit Go.Cmp

section
variable {S : List Nat} {w0 w : World} {M : List Ent} {g : Nat} {D : Dsk}

theorem puts_take {D : Dsk} {l : List Wr} {j : Nat} (h : j < l.length) : D.puts (l.take (j + 1)) = (D.puts (l.take j)).put (nth l j) := by
  rw [List.take_succ_eq_append_getElem h, Dsk.puts, List.foldl_append]
  have : nth l j = l[j] := nth_eq (List.getElem?_eq_getElem h)
  rw [this]
  rfl
theorem puts_len {D : Dsk} : ∀ {l : List Wr}, (D.puts l).lasts.length = D.lasts.length ∧ (D.puts l).mark.length = D.mark.length ∧ (D.puts l).way = D.way ∧ (D.puts l).off = D.off ∧ (D.puts l).fuse = D.fuse ∧ (D.puts l).steps = D.steps := by
  intro l
  induction l generalizing D with
  | nil => exact ⟨rfl, rfl, rfl, rfl, rfl, rfl⟩
  | cons x l ih =>
    have := @ih (D.put x)
    simp only [Dsk.puts, List.foldl_cons] at this ⊢
    simpa [Dsk.put] using this

set_option maxHeartbeats 4000000 in
theorem disk_flush (hS : St S w0 w (disk g D :: M)) (hD : D.Ok) : Calls Try.prog 41 #[.pointer (some ⟨g, 0, none⟩)] w fun e w' => e = .returned (.int .i64 D.flush.1) ∧ St S w0 w' (disk g D.flush.2 :: M) := by
  have h0 := hS
  have HD := Lib.hid hD
  clear hD
  obtain ⟨E, hE⟩ : ∃ E, D.step.2 = E := ⟨_, rfl⟩
  have hw : E.way = D.way ∧ E.lasts.length = D.lasts.length ∧ E.mark.length = D.mark.length := by rw [← hE]; simp [step_way]
  have hlm := HD.out.len
  have hwl : E.way.length ≤ 1000000 := by rw [hw.1]; exact HD.out.ways
  have Hw := Lib.hid hw
  have HE := Lib.hid hE
  clear hE hw hlm
  (have hU := St.unpack hS; clear hS; obtain ⟨⟨vl, vm, vw⟩, _, hS⟩ := hU; simp only [List.cons_append, List.nil_append] at hS)
  (go_enter Try.func41, Try.ntmps41)
  go_wp2_with (first | ((with_reducible refine (disk_step h0 HD.out).mono ?_); rintro e w' ⟨rfl, h1⟩; clear hS; have hS := h1; rw [HE.out] at hS; (have hU := St.unpack hS; clear hS; obtain ⟨⟨vl, vm, vw⟩, _, hS⟩ := hU; simp only [List.cons_append, List.nil_append] at hS)) | (first | refine au1 (n := ?_) | (refine au2 (n := ?_); clear hS; intro w' hS) | (refine au3 (n := ?_); clear hS; intro gb w1 hS) | (refine au4 (n := ?_); clear hS; intro v1 w' hS) | ((with_reducible refine wl_guard ?_); refine stop_mem rfl rfl ?_)))
  · go_ret
    exact ⟨by simp_all [Dsk.flush], St.cast h0 (by simp_all [Dsk.flush])⟩
  · go_ret
    exact ⟨by simp_all [Dsk.flush], St.cast h1 (by simp_all [Dsk.flush])⟩
  · have e : D.flush = (0, { E.puts E.way with way := [] }) := by have h1 := Hw.out.1; have h2 := HE.out; simp_all [Dsk.flush]
    have He := Lib.hid e
    clear e
    clear h0 h1
    go_loopw [23] (fun i wr => ∃ j : Nat, j ≤ E.way.length ∧ i = .int .i64 j ∧ St S w0 wr (.row g [vl, vm, vw, .bool E.off, .int .i64 E.fuse, .int .i64 E.steps] 77 (0, 0) :: .vec vl 9 1 (E.puts (E.way.take j)).lasts.length ((E.puts (E.way.take j)).lasts.flatMap str) :: .vec vm 4 1 (E.puts (E.way.take j)).mark.length ((E.puts (E.way.take j)).mark.flatMap bl) :: .vec vw 85 2 E.way.length (E.way.flatMap Wr.cells) :: M)) (fun i _ => E.way.length - (intOf i).toNat)
    case atStart => exact ⟨0, Nat.zero_le _, rfl, hS⟩
    case round =>
      clear hS
      obtain ⟨j, hj, rfl, hS⟩ := hrel
      obtain ⟨F, hF⟩ : ∃ F, E.puts (E.way.take j) = F := ⟨_, rfl⟩
      rw [hF] at hS
      have HF := Lib.hid hF
      clear hF
      by_cases hlt : j < E.way.length
      · have hok := HD.out.way (nth E.way j) (by rw [Hw.out.1] at hlt ⊢; exact nth_mem hlt)
        obtain ⟨x, hx⟩ : ∃ x, nth E.way j = x := ⟨_, rfl⟩
        have hxx : E.way[j]? = some x := by rw [get_lt hlt, hx]
        rw [hx] at hok
        obtain ⟨k1, k2, k3⟩ := hok
        have k4 : x.sector < F.lasts.length := by rw [← HF.out, puts_len.1, Hw.out.2.1]; exact k2
        have k5 : x.sector < F.mark.length := by rw [← HF.out, puts_len.2.1, Hw.out.2.2, HD.out.len]; exact k2
        have Hx := Lib.hid hx
        have Hxx := Lib.hid hxx
        clear hx k2 k3 hxx
        go_wp2_with (first | ((with_reducible refine g_load ?_); have hy9 := Hxx.out; refine k_readx hy9 rfl (h := ?_); clear hy9) | (first | refine au1 (n := ?_) | (refine au2 (n := ?_); clear hS; intro w' hS) | (refine au3 (n := ?_); clear hS; intro gb w1 hS) | (refine au4 (n := ?_); clear hS; intro v1 w' hS) | ((with_reducible refine wl_guard ?_); refine stop_mem rfl rfl ?_)))
        (refine wp_region_tail 9 (by kernel_rfl) (by kernel_rfl) hS ?_; clear hS; intro w' hS; simp only [List.take_succ_cons, List.take_zero, List.drop_succ_cons, List.drop_zero]; ((repeat (first | ((with_reducible refine s_load ?_); refine z_read rfl (h := ?_); simp only [Act.put, List.setIfInBounds_toArray, List.set_cons_zero, List.set_cons_succ]) | ((with_reducible refine s_index ?_); refine z_idx rfl (h := ?_); simp only [Act.put, List.setIfInBounds_toArray, List.set_cons_zero, List.set_cons_succ]) | ((with_reducible refine s_field ?_); refine z_fld rfl (h := ?_); simp only [Act.put, List.setIfInBounds_toArray, List.set_cons_zero, List.set_cons_succ]) | ((with_reducible refine s_len ?_); refine z_len rfl (h := ?_); simp only [Act.put, List.setIfInBounds_toArray, List.set_cons_zero, List.set_cons_succ]) | ((with_reducible refine s_cut ?_); refine z_str rfl (h := ?_); simp only [Act.put, List.setIfInBounds_toArray, List.set_cons_zero, List.set_cons_succ]) | ((with_reducible refine s_indexV ?_); refine z_six rfl (h := ?_); simp only [Act.put, List.setIfInBounds_toArray, List.set_cons_zero, List.set_cons_succ]) | ((with_reducible refine s_bin ?_); refine z_cat rfl (h := ?_); simp only [Act.put, List.setIfInBounds_toArray, List.set_cons_zero, List.set_cons_succ]) | ((with_reducible refine s_conv ?_); refine z_tos rfl (h := ?_); simp only [Act.put, List.setIfInBounds_toArray, List.set_cons_zero, List.set_cons_succ]) | still_step)); refine wpStill_nil ?_))
        go_wp2_with (first | refine au1 (n := ?_) | (refine au2 (n := ?_); clear hS; intro w' hS) | (refine au3 (n := ?_); clear hS; intro gb w1 hS) | (refine au4 (n := ?_); clear hS; intro v1 w' hS) | ((with_reducible refine wl_guard ?_); refine stop_mem rfl rfl ?_))
        (refine wp_region_tail 7 (by kernel_rfl) (by kernel_rfl) hS ?_; clear hS; intro w' hS; simp only [List.take_succ_cons, List.take_zero, List.drop_succ_cons, List.drop_zero]; ((repeat (first | ((with_reducible refine s_load ?_); refine z_read rfl (h := ?_); simp only [Act.put, List.setIfInBounds_toArray, List.set_cons_zero, List.set_cons_succ]) | ((with_reducible refine s_index ?_); refine z_idx rfl (h := ?_); simp only [Act.put, List.setIfInBounds_toArray, List.set_cons_zero, List.set_cons_succ]) | ((with_reducible refine s_field ?_); refine z_fld rfl (h := ?_); simp only [Act.put, List.setIfInBounds_toArray, List.set_cons_zero, List.set_cons_succ]) | ((with_reducible refine s_len ?_); refine z_len rfl (h := ?_); simp only [Act.put, List.setIfInBounds_toArray, List.set_cons_zero, List.set_cons_succ]) | ((with_reducible refine s_cut ?_); refine z_str rfl (h := ?_); simp only [Act.put, List.setIfInBounds_toArray, List.set_cons_zero, List.set_cons_succ]) | ((with_reducible refine s_indexV ?_); refine z_six rfl (h := ?_); simp only [Act.put, List.setIfInBounds_toArray, List.set_cons_zero, List.set_cons_succ]) | ((with_reducible refine s_bin ?_); refine z_cat rfl (h := ?_); simp only [Act.put, List.setIfInBounds_toArray, List.set_cons_zero, List.set_cons_succ]) | ((with_reducible refine s_conv ?_); refine z_tos rfl (h := ?_); simp only [Act.put, List.setIfInBounds_toArray, List.set_cons_zero, List.set_cons_succ]) | still_step)); refine wpStill_nil ?_))
        go_wp2_with (first | refine au1 (n := ?_) | (refine au2 (n := ?_); clear hS; intro w' hS) | (refine au3 (n := ?_); clear hS; intro gb w1 hS) | (refine au4 (n := ?_); clear hS; intro v1 w' hS) | ((with_reducible refine wl_guard ?_); refine stop_mem rfl rfl ?_))
        go_round
        case rel =>
          refine ⟨j + 1, by omega, by go_num, ?_⟩
          have e : E.puts (E.way.take (j + 1)) = F.put x := by rw [puts_take hlt, HF.out, Hx.out]
          rw [e]
          exact hS.tail
        case measure => simp [intOf]; omega
      · obtain rfl : j = E.way.length := by omega
        go_wp2_with (first | refine au1 (n := ?_) | (refine au2 (n := ?_); clear hS; intro w' hS) | (refine au3 (n := ?_); clear hS; intro gb w1 hS) | (refine au4 (n := ?_); clear hS; intro v1 w' hS) | ((with_reducible refine wl_guard ?_); refine stop_mem rfl rfl ?_))
        go_ret
        have e : F = E.puts E.way := by rw [← HF.out, List.take_length]
        subst e
        rw [He.out]
        refine ⟨rfl, ?_⟩
        have := @puts_len E E.way
        have hS := hS.addNil 85 2
        obtain ⟨t1, t2, t3, t4, t5, t6⟩ := this
        rw [← t4, ← t5, ← t6] at hS
        exact St.packs (vl, vm, .slice none 0 0) hS



end
end Go.Proofs.Ytbfdnpahojoccaa
