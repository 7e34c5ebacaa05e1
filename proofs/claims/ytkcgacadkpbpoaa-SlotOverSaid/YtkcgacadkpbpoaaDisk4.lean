/-
  The disk's starts.
-/
import Derived.Test.YtkcgacadkpbpoaaDisk2
set_option linter.unusedSimpArgs false
set_option linter.unusedVariables false
set_option linter.unusedSectionVars false
set_option maxRecDepth 100000
namespace Go.Proofs.Ytkcgacadkpbpoaa
open Go.RowKit Go.Cmp

section
variable {S : List Nat} {w0 w : World} {M : List Ent} {g : Nat} {D : Dsk}

theorem kept_le (pick : Int) : Dsk.kept pick ≤ 384 := by unfold Dsk.kept; split <;> (try split) <;> omega

/-- The disk, opened. -/
def dparts (g : Nat) (vl vm vw : Value) (D : Dsk) : List Ent :=
  [.row g [vl, vm, vw, .bool D.off, .int .i64 D.fuse, .int .i64 D.steps] 88 (0, 0),
   .vec vl 9 1 D.lasts.length (D.lasts.flatMap str), .vec vm 4 1 D.mark.length (D.mark.flatMap bl), .vec vw 91 2 D.way.length (D.way.flatMap Wr.cells)]

set_option maxHeartbeats 4000000 in
theorem disk_settle {vl vm vw : Value} (hS : St S w0 w (dparts g vl vm vw D ++ M)) (hD : D.Ok) (x : Wr) (h1 : 0 ≤ x.sector) (h2 : x.sector < D.lasts.length) (h3 : x.text.length = 384) (pick : Int) (hp : pick ≤ 9223372036854775807) :
    Calls Try.prog 56 #[.pointer (some ⟨g, 0, none⟩), .agg #[.int .i64 x.sector, .string ⟨x.text.toArray⟩], .int .i64 pick] w fun e w' => e = .returned (.tuple #[]) ∧ St S w0 w' (dparts g vl vm vw (D.settle x pick) ++ M) := by
  have h4 : x.sector < D.mark.length := by rw [hD.len]; exact h2
  obtain ⟨y, hy⟩ : ∃ y, nth D.lasts x.sector.toNat = y := ⟨_, rfl⟩
  have hyl : y.length = 384 := by rw [← hy]; exact hD.size _ (nth_mem (by omega))
  have hyy : D.lasts[x.sector.toNat]? = some y := by rw [← hy]; exact get_lt (by omega)
  have e : D.settle x pick = if Dsk.kept pick = 0 then D else { D with lasts := D.lasts.set x.sector.toNat (x.text.take (Dsk.kept pick) ++ y.drop (Dsk.kept pick)), mark := D.mark.set x.sector.toNat (decide ((Dsk.kept pick : Int) < 384)) } := by
    unfold Dsk.settle
    rw [hy]
  have He := Lib.hid e
  have HY := Lib.hid hyy
  clear e hD hy hyy
  have hxl : (x.text.length : Int) = 384 := by omega
  have hyl : (y.length : Int) = 384 := by omega
  clear h3
  simp only [dparts, List.cons_append, List.nil_append] at hS ⊢
  by_cases c0 : pick ≤ 0
  · have e : D.settle x pick = D := by rw [He.out, if_pos (by unfold Dsk.kept; rw [if_pos (by omega)])]
    rw [e]
    clear e
    (go_enter Try.func56, Try.ntmps56)
    go_wp2_with (first | refine au1 (n := ?_) | (refine au2 (n := ?_); clear hS; intro w' hS) | (refine au3 (n := ?_); clear hS; intro gb w1 hS) | (refine au4 (n := ?_); clear hS; intro v1 w' hS) | ((with_reducible refine wl_guard ?_); refine stop_mem rfl rfl ?_))
    go_end0
    exact ⟨rfl, hS.sel (by (repeat (first | exact Sel.refl | exact Sel.nil | refine Sel.cons (by (repeat (first | exact Out.here | apply Out.there))) ?_ | refine Sel.drop ?_)))⟩
  · have c1 : 0 < pick := by omega
    by_cases c2 : pick % 3 = 0
    · have e : D.settle x pick = D := by rw [He.out, if_pos (by unfold Dsk.kept; rw [if_pos (.inr c2)])]
      rw [e]
      clear e
      (go_enter Try.func56, Try.ntmps56)
      go_wp2_with (first | refine au1 (n := ?_) | (refine au2 (n := ?_); clear hS; intro w' hS) | (refine au3 (n := ?_); clear hS; intro gb w1 hS) | (refine au4 (n := ?_); clear hS; intro v1 w' hS) | ((with_reducible refine wl_guard ?_); refine stop_mem rfl rfl ?_))
      go_end0
      exact ⟨rfl, hS.sel (by (repeat (first | exact Sel.refl | exact Sel.nil | refine Sel.cons (by (repeat (first | exact Out.here | apply Out.there))) ?_ | refine Sel.drop ?_)))⟩
    · by_cases c3 : pick % 3 = 1
      · have hk : Dsk.kept pick = 384 := by unfold Dsk.kept; rw [if_neg (by omega), if_pos c3]
        rw [hk] at He
        have e : D.settle x pick = { D with lasts := D.lasts.set x.sector.toNat (x.text.take 384 ++ y.drop 384), mark := D.mark.set x.sector.toNat false } := by rw [He.out]; rfl
        have E := Lib.hid e
        have c4 : ((pick % 3) == 1) = true := by simp [c3]
        clear hk c2 e He
        (go_enter Try.func56, Try.ntmps56)
        go_wp2_with (first | refine au1 (n := ?_) | (refine au2 (n := ?_); clear hS; intro w' hS) | (refine au3 (n := ?_); clear hS; intro gb w1 hS) | (refine au4 (n := ?_); clear hS; intro v1 w' hS) | ((with_reducible refine wl_guard ?_); refine stop_mem rfl rfl ?_))
        (refine wp_region_tail 22 (by kernel_rfl) (by kernel_rfl) hS ?_; clear hS; intro w' hS; simp only [List.take_succ_cons, List.take_zero, List.drop_succ_cons, List.drop_zero]; ((repeat (first | ((with_reducible refine s_load ?_); refine ws_run rfl (by first | exact a_loadE rfl (by (first | exact St.rdx hS (by (repeat (first | exact Ix.here | apply Ix.there))) | exact Reads.at (by assumption) hS (by (repeat (first | exact List.Sublist.refl _ | apply List.Sublist.cons))) | exact St.old0 hS (by assumption))) rfl rfl rfl (by intro _; rfl) (HY.out) (by rfl) | exact a_loadF rfl (by (first | exact St.rdx hS (by (repeat (first | exact Ix.here | apply Ix.there))) | exact Reads.at (by assumption) hS (by (repeat (first | exact List.Sublist.refl _ | apply List.Sublist.cons))) | exact St.old0 hS (by assumption))) rfl rfl rfl (by intro _; rfl) (HY.out) (by rfl)) ?_; simp only [Act.put, List.setIfInBounds_toArray, List.set_cons_zero, List.set_cons_succ]) | ((with_reducible refine s_load ?_); refine z_read rfl (h := ?_); simp only [Act.put, List.setIfInBounds_toArray, List.set_cons_zero, List.set_cons_succ]) | ((with_reducible refine s_index ?_); refine z_idx rfl (h := ?_); simp only [Act.put, List.setIfInBounds_toArray, List.set_cons_zero, List.set_cons_succ]) | ((with_reducible refine s_field ?_); refine z_fld rfl (h := ?_); simp only [Act.put, List.setIfInBounds_toArray, List.set_cons_zero, List.set_cons_succ]) | ((with_reducible refine s_len ?_); refine z_len rfl (h := ?_); simp only [Act.put, List.setIfInBounds_toArray, List.set_cons_zero, List.set_cons_succ]) | ((with_reducible refine s_cut ?_); refine z_str rfl (h := ?_); simp only [Act.put, List.setIfInBounds_toArray, List.set_cons_zero, List.set_cons_succ]) | ((with_reducible refine s_indexV ?_); refine z_six rfl (h := ?_); simp only [Act.put, List.setIfInBounds_toArray, List.set_cons_zero, List.set_cons_succ]) | ((with_reducible refine s_bin ?_); refine z_cat rfl (h := ?_); simp only [Act.put, List.setIfInBounds_toArray, List.set_cons_zero, List.set_cons_succ]) | ((with_reducible refine s_conv ?_); refine z_tos rfl (h := ?_); simp only [Act.put, List.setIfInBounds_toArray, List.set_cons_zero, List.set_cons_succ]) | still_step)); refine wpStill_nil ?_))
        go_wp2_with (first | refine au1 (n := ?_) | (refine au2 (n := ?_); clear hS; intro w' hS) | (refine au3 (n := ?_); clear hS; intro gb w1 hS) | (refine au4 (n := ?_); clear hS; intro v1 w' hS) | ((with_reducible refine wl_guard ?_); refine stop_mem rfl rfl ?_))
        (refine wp_region_tail 9 (by kernel_rfl) (by kernel_rfl) hS ?_; clear hS; intro w' hS; simp only [List.take_succ_cons, List.take_zero, List.drop_succ_cons, List.drop_zero]; ((repeat (first | ((with_reducible refine s_load ?_); refine z_read rfl (h := ?_); simp only [Act.put, List.setIfInBounds_toArray, List.set_cons_zero, List.set_cons_succ]) | ((with_reducible refine s_index ?_); refine z_idx rfl (h := ?_); simp only [Act.put, List.setIfInBounds_toArray, List.set_cons_zero, List.set_cons_succ]) | ((with_reducible refine s_field ?_); refine z_fld rfl (h := ?_); simp only [Act.put, List.setIfInBounds_toArray, List.set_cons_zero, List.set_cons_succ]) | ((with_reducible refine s_len ?_); refine z_len rfl (h := ?_); simp only [Act.put, List.setIfInBounds_toArray, List.set_cons_zero, List.set_cons_succ]) | ((with_reducible refine s_cut ?_); refine z_str rfl (h := ?_); simp only [Act.put, List.setIfInBounds_toArray, List.set_cons_zero, List.set_cons_succ]) | ((with_reducible refine s_indexV ?_); refine z_six rfl (h := ?_); simp only [Act.put, List.setIfInBounds_toArray, List.set_cons_zero, List.set_cons_succ]) | ((with_reducible refine s_bin ?_); refine z_cat rfl (h := ?_); simp only [Act.put, List.setIfInBounds_toArray, List.set_cons_zero, List.set_cons_succ]) | ((with_reducible refine s_conv ?_); refine z_tos rfl (h := ?_); simp only [Act.put, List.setIfInBounds_toArray, List.set_cons_zero, List.set_cons_succ]) | still_step)); refine wpStill_nil ?_))
        go_wp2_with (first | refine au1 (n := ?_) | (refine au2 (n := ?_); clear hS; intro w' hS) | (refine au3 (n := ?_); clear hS; intro gb w1 hS) | (refine au4 (n := ?_); clear hS; intro v1 w' hS) | ((with_reducible refine wl_guard ?_); refine stop_mem rfl rfl ?_))
        go_end0
        rw [E.out]
        exact ⟨rfl, hS.sel (by (repeat (first | exact Sel.refl | exact Sel.nil | refine Sel.cons (by (repeat (first | exact Out.here | apply Out.there))) ?_ | refine Sel.drop ?_)))⟩
      · obtain ⟨c, hc⟩ : ∃ c : Nat, pick / 3 % 385 = (c : Int) := ⟨(pick / 3 % 385).toNat, by omega⟩
        have c5 : (c : Int) ≤ 384 := by omega
        have c6 : ((pick % 3) == 1) = false := by simp [c3]
        have c7 : ((pick % 3) == 2) = true := by have : pick % 3 = 2 := by omega
                                                 simp [this]
        have hk : Dsk.kept pick = c := by unfold Dsk.kept; rw [if_neg (by omega), if_neg c3, hc]; rfl
        rw [hk] at He
        clear hk c2 c3
        by_cases c8 : c = 0
        · subst c8
          have e : D.settle x pick = D := by rw [He.out, if_pos rfl]
          rw [e]
          clear e He
          (go_enter Try.func56, Try.ntmps56)
          go_wp2_with (first | refine au1 (n := ?_) | (refine au2 (n := ?_); clear hS; intro w' hS) | (refine au3 (n := ?_); clear hS; intro gb w1 hS) | (refine au4 (n := ?_); clear hS; intro v1 w' hS) | ((with_reducible refine wl_guard ?_); refine stop_mem rfl rfl ?_))
          go_end0
          exact ⟨rfl, hS.sel (by (repeat (first | exact Sel.refl | exact Sel.nil | refine Sel.cons (by (repeat (first | exact Out.here | apply Out.there))) ?_ | refine Sel.drop ?_)))⟩
        · have e : D.settle x pick = { D with lasts := D.lasts.set x.sector.toNat (x.text.take c ++ y.drop c), mark := D.mark.set x.sector.toNat (decide ((c : Int) < 384)) } := by rw [He.out, if_neg c8]
          have E := Lib.hid e
          have c9 : (0 : Int) < c := by omega
          clear e He c8
          (go_enter Try.func56, Try.ntmps56)
          go_wp2_with (first | refine au1 (n := ?_) | (refine au2 (n := ?_); clear hS; intro w' hS) | (refine au3 (n := ?_); clear hS; intro gb w1 hS) | (refine au4 (n := ?_); clear hS; intro v1 w' hS) | ((with_reducible refine wl_guard ?_); refine stop_mem rfl rfl ?_))
          (refine wp_region_tail 22 (by kernel_rfl) (by kernel_rfl) hS ?_; clear hS; intro w' hS; simp only [List.take_succ_cons, List.take_zero, List.drop_succ_cons, List.drop_zero]; ((repeat (first | ((with_reducible refine s_load ?_); refine ws_run rfl (by first | exact a_loadE rfl (by (first | exact St.rdx hS (by (repeat (first | exact Ix.here | apply Ix.there))) | exact Reads.at (by assumption) hS (by (repeat (first | exact List.Sublist.refl _ | apply List.Sublist.cons))) | exact St.old0 hS (by assumption))) rfl rfl rfl (by intro _; rfl) (HY.out) (by rfl) | exact a_loadF rfl (by (first | exact St.rdx hS (by (repeat (first | exact Ix.here | apply Ix.there))) | exact Reads.at (by assumption) hS (by (repeat (first | exact List.Sublist.refl _ | apply List.Sublist.cons))) | exact St.old0 hS (by assumption))) rfl rfl rfl (by intro _; rfl) (HY.out) (by rfl)) ?_; simp only [Act.put, List.setIfInBounds_toArray, List.set_cons_zero, List.set_cons_succ]) | ((with_reducible refine s_load ?_); refine z_read rfl (h := ?_); simp only [Act.put, List.setIfInBounds_toArray, List.set_cons_zero, List.set_cons_succ]) | ((with_reducible refine s_index ?_); refine z_idx rfl (h := ?_); simp only [Act.put, List.setIfInBounds_toArray, List.set_cons_zero, List.set_cons_succ]) | ((with_reducible refine s_field ?_); refine z_fld rfl (h := ?_); simp only [Act.put, List.setIfInBounds_toArray, List.set_cons_zero, List.set_cons_succ]) | ((with_reducible refine s_len ?_); refine z_len rfl (h := ?_); simp only [Act.put, List.setIfInBounds_toArray, List.set_cons_zero, List.set_cons_succ]) | ((with_reducible refine s_cut ?_); refine z_str rfl (h := ?_); simp only [Act.put, List.setIfInBounds_toArray, List.set_cons_zero, List.set_cons_succ]) | ((with_reducible refine s_indexV ?_); refine z_six rfl (h := ?_); simp only [Act.put, List.setIfInBounds_toArray, List.set_cons_zero, List.set_cons_succ]) | ((with_reducible refine s_bin ?_); refine z_cat rfl (h := ?_); simp only [Act.put, List.setIfInBounds_toArray, List.set_cons_zero, List.set_cons_succ]) | ((with_reducible refine s_conv ?_); refine z_tos rfl (h := ?_); simp only [Act.put, List.setIfInBounds_toArray, List.set_cons_zero, List.set_cons_succ]) | still_step)); refine wpStill_nil ?_))
          go_wp2_with (first | refine au1 (n := ?_) | (refine au2 (n := ?_); clear hS; intro w' hS) | (refine au3 (n := ?_); clear hS; intro gb w1 hS) | (refine au4 (n := ?_); clear hS; intro v1 w' hS) | ((with_reducible refine wl_guard ?_); refine stop_mem rfl rfl ?_))
          (refine wp_region_tail 9 (by kernel_rfl) (by kernel_rfl) hS ?_; clear hS; intro w' hS; simp only [List.take_succ_cons, List.take_zero, List.drop_succ_cons, List.drop_zero]; ((repeat (first | ((with_reducible refine s_load ?_); refine z_read rfl (h := ?_); simp only [Act.put, List.setIfInBounds_toArray, List.set_cons_zero, List.set_cons_succ]) | ((with_reducible refine s_index ?_); refine z_idx rfl (h := ?_); simp only [Act.put, List.setIfInBounds_toArray, List.set_cons_zero, List.set_cons_succ]) | ((with_reducible refine s_field ?_); refine z_fld rfl (h := ?_); simp only [Act.put, List.setIfInBounds_toArray, List.set_cons_zero, List.set_cons_succ]) | ((with_reducible refine s_len ?_); refine z_len rfl (h := ?_); simp only [Act.put, List.setIfInBounds_toArray, List.set_cons_zero, List.set_cons_succ]) | ((with_reducible refine s_cut ?_); refine z_str rfl (h := ?_); simp only [Act.put, List.setIfInBounds_toArray, List.set_cons_zero, List.set_cons_succ]) | ((with_reducible refine s_indexV ?_); refine z_six rfl (h := ?_); simp only [Act.put, List.setIfInBounds_toArray, List.set_cons_zero, List.set_cons_succ]) | ((with_reducible refine s_bin ?_); refine z_cat rfl (h := ?_); simp only [Act.put, List.setIfInBounds_toArray, List.set_cons_zero, List.set_cons_succ]) | ((with_reducible refine s_conv ?_); refine z_tos rfl (h := ?_); simp only [Act.put, List.setIfInBounds_toArray, List.set_cons_zero, List.set_cons_succ]) | still_step)); refine wpStill_nil ?_))
          go_wp2_with (first | refine au1 (n := ?_) | (refine au2 (n := ?_); clear hS; intro w' hS) | (refine au3 (n := ?_); clear hS; intro gb w1 hS) | (refine au4 (n := ?_); clear hS; intro v1 w' hS) | ((with_reducible refine wl_guard ?_); refine stop_mem rfl rfl ?_))
          all_goals
            go_end0
            rw [E.out]
            exact ⟨rfl, hS.sel (by (repeat (first | exact Sel.refl | exact Sel.nil | refine Sel.cons (by (repeat (first | exact Out.here | apply Out.there))) ?_ | refine Sel.drop ?_)))⟩
end
end Go.Proofs.Ytkcgacadkpbpoaa
