/-
  The disk's rot; a new disk.
-/
import Derived.Test.YtbfdnpahojoccaaDisk2
set_option linter.unusedSimpArgs false
set_option linter.unusedVariables false
set_option linter.unusedSectionVars false
set_option maxRecDepth 100000
namespace Go.Proofs.Ytbfdnpahojoccaa
open Go.RowKit Go.Cmp

section
variable {S : List Nat} {w0 w : World} {M : List Ent} {g : Nat} {D : Dsk}

set_option maxHeartbeats 3000000 in
theorem disk_rot (hS : St S w0 w (disk g D :: M)) (hD : D.Ok) (i at' mask : Int) :
    Calls Try.prog 14 #[.pointer (some ⟨g, 0, none⟩), .int .i64 i, .int .i64 at', .int .i64 mask] w fun e w' => e = .returned (.int .i64 (D.rot i at' mask).1) ∧ St S w0 w' (disk g (D.rot i at' mask).2 :: M) := by
  have h0 := hS
  have HD := Lib.hid hD
  have hwl := hD.ways
  have hlm := hD.len
  have HL := Lib.hid hlm
  clear hD hlm
  by_cases hc : D.is i = false ∨ at' < 0 ∨ 384 ≤ at' ∨ mask < 1 ∨ 255 < mask
  · have e : D.rot i at' mask = (1, D) := by unfold Dsk.rot; rw [if_pos hc]
    rw [e]
    clear e
    by_cases hd : D.is i = false
    · have Hd := Lib.hid hd
      clear hd hc
      (go_enter Try.func14, Try.ntmps14)
      go_wp2_with (first | ((with_reducible refine (disk_is h0 i).mono ?_); rw [Hd.out]; rintro e w' ⟨rfl, rfl⟩) | (first | refine au1 (n := ?_) | (refine au2 (n := ?_); clear hS; intro w' hS) | (refine au3 (n := ?_); clear hS; intro gb w1 hS) | (refine au4 (n := ?_); clear hS; intro v1 w' hS) | ((with_reducible refine wl_guard ?_); refine stop_mem rfl rfl ?_)))
      go_ret
      exact ⟨rfl, hS⟩
    · have hc := hc.resolve_left hd
      have hd : D.is i = true := by simpa using hd
      have Hd := Lib.hid hd
      clear hd
      (go_enter Try.func14, Try.ntmps14)
      go_wp2_with (first | ((with_reducible refine (disk_is h0 i).mono ?_); rw [Hd.out]; rintro e w' ⟨rfl, rfl⟩) | (first | refine au1 (n := ?_) | (refine au2 (n := ?_); clear hS; intro w' hS) | (refine au3 (n := ?_); clear hS; intro gb w1 hS) | (refine au4 (n := ?_); clear hS; intro v1 w' hS) | ((with_reducible refine wl_guard ?_); refine stop_mem rfl rfl ?_)))
      all_goals
        go_ret
        exact ⟨rfl, hS⟩
  · have hd : D.is i = true := by cases h : D.is i; exact absurd (.inl h) hc; rfl
    have c1 : 0 ≤ at' := by omega
    have c2 : at' < 384 := by omega
    have c3 : 1 ≤ mask := by omega
    have c4 : mask ≤ 255 := by omega
    have Hd := Lib.hid hd
    have hi : 0 ≤ i ∧ i < D.lasts.length := by simpa [Dsk.is] using hd
    obtain ⟨i1, i2⟩ := hi
    have e : D.rot i at' mask = if D.way.any (fun x => x.sector == i) then (10, D) else if (nth D.mark i.toNat) = true then (7, D) else (0, { D with lasts := D.lasts.set i.toNat (Dsk.turn (nth D.lasts i.toNat) at'.toNat mask), mark := D.mark.set i.toNat true }) := by unfold Dsk.rot; rw [if_neg hc]
    have E := Lib.hid e
    obtain ⟨d, rfl⟩ := u8_of (m := mask) (by omega) c4
    have HN := Lib.hid (HD.out.size _ (nth_mem (L := D.lasts) (j := i.toNat) (by omega)))
    have hnl : (nth D.lasts i.toNat).length ≤ maxLen := by rw [HN.out]; unfold maxLen; omega
    have hat : at' < (nth D.lasts i.toNat).length := by rw [HN.out]; exact c2
    clear e hc hd
    (have hU := St.unpack hS; clear hS; obtain ⟨⟨vl, vm, vw⟩, _, hS⟩ := hU; simp only [List.cons_append, List.nil_append] at hS)
    (go_enter Try.func14, Try.ntmps14)
    go_wp2_with (first | ((with_reducible refine (disk_is h0 i).mono ?_); rw [Hd.out]; rintro e w' ⟨rfl, rfl⟩) | (first | refine au1 (n := ?_) | (refine au2 (n := ?_); clear hS; intro w' hS) | (refine au3 (n := ?_); clear hS; intro gb w1 hS) | (refine au4 (n := ?_); clear hS; intro v1 w' hS) | ((with_reducible refine wl_guard ?_); refine stop_mem rfl rfl ?_)))
    go_loopw [41] (fun i' wr => ∃ j : Nat, j ≤ D.way.length ∧ i' = .int .i64 j ∧ Hid ((D.way.take j).any (fun x => x.sector == i) = false) ∧ St S w0 wr (.row g [vl, vm, vw, .bool D.off, .int .i64 D.fuse, .int .i64 D.steps] 77 (0, 0) :: .vec vl 9 1 D.lasts.length (D.lasts.flatMap str) :: .vec vm 4 1 D.mark.length (D.mark.flatMap bl) :: .vec vw 85 2 D.way.length (D.way.flatMap Wr.cells) :: M)) (fun i' _ => D.way.length - (intOf i').toNat)
    case atStart => exact ⟨0, Nat.zero_le _, rfl, Lib.hid rfl, hS⟩
    case round =>
      clear hS h0
      obtain ⟨j, hj, rfl, Hj, hS⟩ := hrel
      by_cases hlt : j < D.way.length
      · go_wp2_with (first | refine au1 (n := ?_) | (refine au2 (n := ?_); clear hS; intro w' hS) | (refine au3 (n := ?_); clear hS; intro gb w1 hS) | (refine au4 (n := ?_); clear hS; intro v1 w' hS) | ((with_reducible refine wl_guard ?_); refine stop_mem rfl rfl ?_))
        · rename_i hx
          go_ret
          have e : D.rot i at' d.toNat = (10, D) := by
            rw [E.out, if_pos]
            rw [List.any_eq_true]
            exact ⟨nth D.way j, nth_mem hlt, hx⟩
          rw [e]
          refine ⟨rfl, ?_⟩
          exact St.packs (vl, vm, vw) hS
        · rename_i hx
          go_round
          case rel =>
            refine ⟨j + 1, by omega, by go_num, Lib.hid ?_, hS.tail⟩
            rw [List.take_add_one, get_lt hlt, List.any_append, Hj.out]
            simpa using hx
          case measure => simp [intOf]; omega
      · obtain rfl : j = D.way.length := by omega
        have i3 : i < D.mark.length := by have := HL.out; omega
        have E2 : Hid (D.rot i at' d.toNat = if (nth D.mark i.toNat) = true then (7, D) else (0, { D with lasts := D.lasts.set i.toNat (Dsk.turn (nth D.lasts i.toNat) at'.toNat d.toNat), mark := D.mark.set i.toNat true })) := Lib.hid (by
          have h := Hj.out
          rw [List.take_length] at h
          rw [E.out, h]
          rfl)
        clear E
        go_wp2_with (first | ((with_reducible refine g_conv ?_); refine wl_of rfl ?_; refine a_toBytes hS rfl rfl rfl rfl rfl hnl ?_; clear hS; intro v1 w1 hS) | ((with_reducible refine g_xor ?_); refine wl_run rfl (a_xor8 (d := d) rfl rfl rfl) ?_) | (first | refine au1 (n := ?_) | (refine au2 (n := ?_); clear hS; intro w' hS) | (refine au3 (n := ?_); clear hS; intro gb w1 hS) | (refine au4 (n := ?_); clear hS; intro v1 w' hS) | ((with_reducible refine wl_guard ?_); refine stop_mem rfl rfl ?_)))
        · rename_i hx
          go_ret
          rw [E2.out, if_pos hx]
          refine ⟨rfl, ?_⟩
          exact St.packs (vl, vm, vw) hS
        · have hx : nth D.mark i.toNat = false := by assumption
          (refine wp_region_tail 8 (by kernel_rfl) (by kernel_rfl) hS ?_; clear hS; intro w' hS; simp only [List.take_succ_cons, List.take_zero, List.drop_succ_cons, List.drop_zero]; ((repeat (first | ((with_reducible refine s_load ?_); refine z_read rfl (h := ?_); simp only [Act.put, List.setIfInBounds_toArray, List.set_cons_zero, List.set_cons_succ]) | ((with_reducible refine s_index ?_); refine z_idx rfl (h := ?_); simp only [Act.put, List.setIfInBounds_toArray, List.set_cons_zero, List.set_cons_succ]) | ((with_reducible refine s_field ?_); refine z_fld rfl (h := ?_); simp only [Act.put, List.setIfInBounds_toArray, List.set_cons_zero, List.set_cons_succ]) | ((with_reducible refine s_len ?_); refine z_len rfl (h := ?_); simp only [Act.put, List.setIfInBounds_toArray, List.set_cons_zero, List.set_cons_succ]) | ((with_reducible refine s_cut ?_); refine z_str rfl (h := ?_); simp only [Act.put, List.setIfInBounds_toArray, List.set_cons_zero, List.set_cons_succ]) | ((with_reducible refine s_indexV ?_); refine z_six rfl (h := ?_); simp only [Act.put, List.setIfInBounds_toArray, List.set_cons_zero, List.set_cons_succ]) | ((with_reducible refine s_bin ?_); refine z_cat rfl (h := ?_); simp only [Act.put, List.setIfInBounds_toArray, List.set_cons_zero, List.set_cons_succ]) | ((with_reducible refine s_conv ?_); refine z_tos rfl (h := ?_); simp only [Act.put, List.setIfInBounds_toArray, List.set_cons_zero, List.set_cons_succ]) | still_step)); refine wpStill_nil ?_))
          go_wp2_with (first | refine au1 (n := ?_) | (refine au2 (n := ?_); clear hS; intro w' hS) | (refine au3 (n := ?_); clear hS; intro gb w1 hS) | (refine au4 (n := ?_); clear hS; intro v1 w' hS) | ((with_reducible refine wl_guard ?_); refine stop_mem rfl rfl ?_))
          go_ret
          have e : D.rot i at' d.toNat = (0, { D with lasts := D.lasts.set i.toNat ((nth D.lasts i.toNat).set at'.toNat (nth (nth D.lasts i.toNat) at'.toNat ^^^ d)), mark := D.mark.set i.toNat true }) := by
            rw [E2.out, if_neg (by rw [hx]; exact Bool.false_ne_true)]
            simp [Dsk.turn]
          rw [e]
          refine ⟨rfl, ?_⟩
          exact St.packs (vl, vm, vw) hS
end
end Go.Proofs.Ytbfdnpahojoccaa
