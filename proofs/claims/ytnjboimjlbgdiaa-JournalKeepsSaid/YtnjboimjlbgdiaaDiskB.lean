/-
  The disk's starts.
  The disk's starts.
  The disk's rot; a new disk.
  A new disk.
-/
import Derived.Test.YtnjboimjlbgdiaaDiskA
set_option linter.unusedSimpArgs false
set_option linter.unusedVariables false
set_option linter.unusedSectionVars false
set_option maxRecDepth 100000
namespace Go.Proofs.Ytnjboimjlbgdiaa
open Go.RowKit Go.Cmp

section
variable {S : List Nat} {w0 w : World} {M : List Ent} {g : Nat} {D : Dsk}

theorem kept_le (pick : Int) : Dsk.kept pick ≤ 384 := by unfold Dsk.kept; split <;> (try split) <;> omega

/-- The disk, opened. -/
def dparts (g : Nat) (vl vm vw : Value) (D : Dsk) : List Ent :=
  [.row g [vl, vm, vw, .bool D.off, .int .i64 D.fuse, .int .i64 D.steps] 94 (0, 0),
   .vec vl 9 1 D.lasts.length (D.lasts.flatMap str), .vec vm 4 1 D.mark.length (D.mark.flatMap bl), .vec vw 98 2 D.way.length (D.way.flatMap Wr.cells)]

set_option maxHeartbeats 4000000 in
theorem disk_settle {vl vm vw : Value} (hS : St S w0 w (dparts g vl vm vw D ++ M)) (hD : D.Ok) (x : Wr) (h1 : 0 ≤ x.sector) (h2 : x.sector < D.lasts.length) (h3 : x.text.length = 384) (pick : Int) (hp : pick ≤ 9223372036854775807) :
    Calls Try.prog 63 #[.pointer (some ⟨g, 0, none⟩), .agg #[.int .i64 x.sector, .string ⟨x.text.toArray⟩], .int .i64 pick] w fun e w' => e = .returned (.tuple #[]) ∧ St S w0 w' (dparts g vl vm vw (D.settle x pick) ++ M) := by
  have h4 : x.sector < D.mark.length := by rw [hD.len]; exact h2
  obtain ⟨y, hy⟩ : ∃ y, nth D.lasts x.sector.toNat = y := ⟨_, rfl⟩
  have hyl : y.length = 384 := by rw [← hy]; exact hD.size _ (nth_mem (by omega))
  have hyy : D.lasts[x.sector.toNat]? = some y := by rw [← hy]; exact get_lt (by omega)
  have e : D.settle x pick = if Dsk.kept pick = 0 then D else { D with lasts := D.lasts.set x.sector.toNat (x.text.take (Dsk.kept pick) ++ y.drop (Dsk.kept pick)), mark := D.mark.set x.sector.toNat (decide ((Dsk.kept pick : Int) < 384)) } := by
    unfold Dsk.settle
    rw [hy]
  have He := Lib.hid e
  have HY := Lib.hid hyy
  clear e hD hy hyy
  have hxl : (x.text.length : Int) = 384 := by omega
  have hyl : (y.length : Int) = 384 := by omega
  clear h3
  simp only [dparts, List.cons_append, List.nil_append] at hS ⊢
  by_cases c0 : pick ≤ 0
  · have e : D.settle x pick = D := by rw [He.out, if_pos (by unfold Dsk.kept; rw [if_pos (by omega)])]
    rw [e]
    clear e
    (go_enter Try.func63, Try.ntmps63)
    go_wp2_with (first | refine au1 (n := ?_) | (refine au2 (n := ?_); clear hS; intro w' hS) | (refine au3 (n := ?_); clear hS; intro gb w1 hS) | (refine au4 (n := ?_); clear hS; intro v1 w' hS) | ((with_reducible refine wl_guard ?_); refine stop_mem rfl rfl ?_))
    go_end0
    exact ⟨rfl, hS.sel (by (repeat (first | exact Sel.refl | exact Sel.nil | refine Sel.cons (by (repeat (first | exact Out.here | apply Out.there))) ?_ | refine Sel.drop ?_)))⟩
  · have c1 : 0 < pick := by omega
    by_cases c2 : pick % 3 = 0
    · have e : D.settle x pick = D := by rw [He.out, if_pos (by unfold Dsk.kept; rw [if_pos (.inr c2)])]
      rw [e]
      clear e
      (go_enter Try.func63, Try.ntmps63)
      go_wp2_with (first | refine au1 (n := ?_) | (refine au2 (n := ?_); clear hS; intro w' hS) | (refine au3 (n := ?_); clear hS; intro gb w1 hS) | (refine au4 (n := ?_); clear hS; intro v1 w' hS) | ((with_reducible refine wl_guard ?_); refine stop_mem rfl rfl ?_))
      go_end0
      exact ⟨rfl, hS.sel (by (repeat (first | exact Sel.refl | exact Sel.nil | refine Sel.cons (by (repeat (first | exact Out.here | apply Out.there))) ?_ | refine Sel.drop ?_)))⟩
    · by_cases c3 : pick % 3 = 1
      · have hk : Dsk.kept pick = 384 := by unfold Dsk.kept; rw [if_neg (by omega), if_pos c3]
        rw [hk] at He
        have e : D.settle x pick = { D with lasts := D.lasts.set x.sector.toNat (x.text.take 384 ++ y.drop 384), mark := D.mark.set x.sector.toNat false } := by rw [He.out]; rfl
        have E := Lib.hid e
        have c4 : ((pick % 3) == 1) = true := by simp [c3]
        clear hk c2 e He
        (go_enter Try.func63, Try.ntmps63)
        go_wp2_with (first | refine au1 (n := ?_) | (refine au2 (n := ?_); clear hS; intro w' hS) | (refine au3 (n := ?_); clear hS; intro gb w1 hS) | (refine au4 (n := ?_); clear hS; intro v1 w' hS) | ((with_reducible refine wl_guard ?_); refine stop_mem rfl rfl ?_))
        (refine wp_region_tail 22 (by kernel_rfl) (by kernel_rfl) hS ?_; clear hS; intro w' hS; simp only [List.take_succ_cons, List.take_zero, List.drop_succ_cons, List.drop_zero]; ((repeat (first | ((with_reducible refine s_load ?_); refine ws_run rfl (by first | exact a_loadE rfl (by (first | exact St.rdx hS (by (repeat (first | exact Ix.here | apply Ix.there))) | exact Reads.at (by assumption) hS (by (repeat (first | exact List.Sublist.refl _ | apply List.Sublist.cons))) | exact St.old0 hS (by assumption))) rfl rfl rfl (by intro _; rfl) (HY.out) (by rfl) | exact a_loadF rfl (by (first | exact St.rdx hS (by (repeat (first | exact Ix.here | apply Ix.there))) | exact Reads.at (by assumption) hS (by (repeat (first | exact List.Sublist.refl _ | apply List.Sublist.cons))) | exact St.old0 hS (by assumption))) rfl rfl rfl (by intro _; rfl) (HY.out) (by rfl)) ?_; simp only [Act.put, List.setIfInBounds_toArray, List.set_cons_zero, List.set_cons_succ]) | ((with_reducible refine s_load ?_); refine z_read rfl (h := ?_); simp only [Act.put, List.setIfInBounds_toArray, List.set_cons_zero, List.set_cons_succ]) | ((with_reducible refine s_index ?_); refine z_idx rfl (h := ?_); simp only [Act.put, List.setIfInBounds_toArray, List.set_cons_zero, List.set_cons_succ]) | ((with_reducible refine s_field ?_); refine z_fld rfl (h := ?_); simp only [Act.put, List.setIfInBounds_toArray, List.set_cons_zero, List.set_cons_succ]) | ((with_reducible refine s_len ?_); refine z_len rfl (h := ?_); simp only [Act.put, List.setIfInBounds_toArray, List.set_cons_zero, List.set_cons_succ]) | ((with_reducible refine s_cut ?_); refine z_str rfl (h := ?_); simp only [Act.put, List.setIfInBounds_toArray, List.set_cons_zero, List.set_cons_succ]) | ((with_reducible refine s_indexV ?_); refine z_six rfl (h := ?_); simp only [Act.put, List.setIfInBounds_toArray, List.set_cons_zero, List.set_cons_succ]) | ((with_reducible refine s_bin ?_); refine z_cat rfl (h := ?_); simp only [Act.put, List.setIfInBounds_toArray, List.set_cons_zero, List.set_cons_succ]) | ((with_reducible refine s_conv ?_); refine z_tos rfl (h := ?_); simp only [Act.put, List.setIfInBounds_toArray, List.set_cons_zero, List.set_cons_succ]) | still_step)); refine wpStill_nil ?_))
        go_wp2_with (first | refine au1 (n := ?_) | (refine au2 (n := ?_); clear hS; intro w' hS) | (refine au3 (n := ?_); clear hS; intro gb w1 hS) | (refine au4 (n := ?_); clear hS; intro v1 w' hS) | ((with_reducible refine wl_guard ?_); refine stop_mem rfl rfl ?_))
        (refine wp_region_tail 9 (by kernel_rfl) (by kernel_rfl) hS ?_; clear hS; intro w' hS; simp only [List.take_succ_cons, List.take_zero, List.drop_succ_cons, List.drop_zero]; ((repeat (first | ((with_reducible refine s_load ?_); refine z_read rfl (h := ?_); simp only [Act.put, List.setIfInBounds_toArray, List.set_cons_zero, List.set_cons_succ]) | ((with_reducible refine s_index ?_); refine z_idx rfl (h := ?_); simp only [Act.put, List.setIfInBounds_toArray, List.set_cons_zero, List.set_cons_succ]) | ((with_reducible refine s_field ?_); refine z_fld rfl (h := ?_); simp only [Act.put, List.setIfInBounds_toArray, List.set_cons_zero, List.set_cons_succ]) | ((with_reducible refine s_len ?_); refine z_len rfl (h := ?_); simp only [Act.put, List.setIfInBounds_toArray, List.set_cons_zero, List.set_cons_succ]) | ((with_reducible refine s_cut ?_); refine z_str rfl (h := ?_); simp only [Act.put, List.setIfInBounds_toArray, List.set_cons_zero, List.set_cons_succ]) | ((with_reducible refine s_indexV ?_); refine z_six rfl (h := ?_); simp only [Act.put, List.setIfInBounds_toArray, List.set_cons_zero, List.set_cons_succ]) | ((with_reducible refine s_bin ?_); refine z_cat rfl (h := ?_); simp only [Act.put, List.setIfInBounds_toArray, List.set_cons_zero, List.set_cons_succ]) | ((with_reducible refine s_conv ?_); refine z_tos rfl (h := ?_); simp only [Act.put, List.setIfInBounds_toArray, List.set_cons_zero, List.set_cons_succ]) | still_step)); refine wpStill_nil ?_))
        go_wp2_with (first | refine au1 (n := ?_) | (refine au2 (n := ?_); clear hS; intro w' hS) | (refine au3 (n := ?_); clear hS; intro gb w1 hS) | (refine au4 (n := ?_); clear hS; intro v1 w' hS) | ((with_reducible refine wl_guard ?_); refine stop_mem rfl rfl ?_))
        go_end0
        rw [E.out]
        exact ⟨rfl, hS.sel (by (repeat (first | exact Sel.refl | exact Sel.nil | refine Sel.cons (by (repeat (first | exact Out.here | apply Out.there))) ?_ | refine Sel.drop ?_)))⟩
      · obtain ⟨c, hc⟩ : ∃ c : Nat, pick / 3 % 385 = (c : Int) := ⟨(pick / 3 % 385).toNat, by omega⟩
        have c5 : (c : Int) ≤ 384 := by omega
        have c6 : ((pick % 3) == 1) = false := by simp [c3]
        have c7 : ((pick % 3) == 2) = true := by have : pick % 3 = 2 := by omega
                                                 simp [this]
        have hk : Dsk.kept pick = c := by unfold Dsk.kept; rw [if_neg (by omega), if_neg c3, hc]; rfl
        rw [hk] at He
        clear hk c2 c3
        by_cases c8 : c = 0
        · subst c8
          have e : D.settle x pick = D := by rw [He.out, if_pos rfl]
          rw [e]
          clear e He
          (go_enter Try.func63, Try.ntmps63)
          go_wp2_with (first | refine au1 (n := ?_) | (refine au2 (n := ?_); clear hS; intro w' hS) | (refine au3 (n := ?_); clear hS; intro gb w1 hS) | (refine au4 (n := ?_); clear hS; intro v1 w' hS) | ((with_reducible refine wl_guard ?_); refine stop_mem rfl rfl ?_))
          go_end0
          exact ⟨rfl, hS.sel (by (repeat (first | exact Sel.refl | exact Sel.nil | refine Sel.cons (by (repeat (first | exact Out.here | apply Out.there))) ?_ | refine Sel.drop ?_)))⟩
        · have e : D.settle x pick = { D with lasts := D.lasts.set x.sector.toNat (x.text.take c ++ y.drop c), mark := D.mark.set x.sector.toNat (decide ((c : Int) < 384)) } := by rw [He.out, if_neg c8]
          have E := Lib.hid e
          have c9 : (0 : Int) < c := by omega
          clear e He c8
          (go_enter Try.func63, Try.ntmps63)
          go_wp2_with (first | refine au1 (n := ?_) | (refine au2 (n := ?_); clear hS; intro w' hS) | (refine au3 (n := ?_); clear hS; intro gb w1 hS) | (refine au4 (n := ?_); clear hS; intro v1 w' hS) | ((with_reducible refine wl_guard ?_); refine stop_mem rfl rfl ?_))
          (refine wp_region_tail 22 (by kernel_rfl) (by kernel_rfl) hS ?_; clear hS; intro w' hS; simp only [List.take_succ_cons, List.take_zero, List.drop_succ_cons, List.drop_zero]; ((repeat (first | ((with_reducible refine s_load ?_); refine ws_run rfl (by first | exact a_loadE rfl (by (first | exact St.rdx hS (by (repeat (first | exact Ix.here | apply Ix.there))) | exact Reads.at (by assumption) hS (by (repeat (first | exact List.Sublist.refl _ | apply List.Sublist.cons))) | exact St.old0 hS (by assumption))) rfl rfl rfl (by intro _; rfl) (HY.out) (by rfl) | exact a_loadF rfl (by (first | exact St.rdx hS (by (repeat (first | exact Ix.here | apply Ix.there))) | exact Reads.at (by assumption) hS (by (repeat (first | exact List.Sublist.refl _ | apply List.Sublist.cons))) | exact St.old0 hS (by assumption))) rfl rfl rfl (by intro _; rfl) (HY.out) (by rfl)) ?_; simp only [Act.put, List.setIfInBounds_toArray, List.set_cons_zero, List.set_cons_succ]) | ((with_reducible refine s_load ?_); refine z_read rfl (h := ?_); simp only [Act.put, List.setIfInBounds_toArray, List.set_cons_zero, List.set_cons_succ]) | ((with_reducible refine s_index ?_); refine z_idx rfl (h := ?_); simp only [Act.put, List.setIfInBounds_toArray, List.set_cons_zero, List.set_cons_succ]) | ((with_reducible refine s_field ?_); refine z_fld rfl (h := ?_); simp only [Act.put, List.setIfInBounds_toArray, List.set_cons_zero, List.set_cons_succ]) | ((with_reducible refine s_len ?_); refine z_len rfl (h := ?_); simp only [Act.put, List.setIfInBounds_toArray, List.set_cons_zero, List.set_cons_succ]) | ((with_reducible refine s_cut ?_); refine z_str rfl (h := ?_); simp only [Act.put, List.setIfInBounds_toArray, List.set_cons_zero, List.set_cons_succ]) | ((with_reducible refine s_indexV ?_); refine z_six rfl (h := ?_); simp only [Act.put, List.setIfInBounds_toArray, List.set_cons_zero, List.set_cons_succ]) | ((with_reducible refine s_bin ?_); refine z_cat rfl (h := ?_); simp only [Act.put, List.setIfInBounds_toArray, List.set_cons_zero, List.set_cons_succ]) | ((with_reducible refine s_conv ?_); refine z_tos rfl (h := ?_); simp only [Act.put, List.setIfInBounds_toArray, List.set_cons_zero, List.set_cons_succ]) | still_step)); refine wpStill_nil ?_))
          go_wp2_with (first | refine au1 (n := ?_) | (refine au2 (n := ?_); clear hS; intro w' hS) | (refine au3 (n := ?_); clear hS; intro gb w1 hS) | (refine au4 (n := ?_); clear hS; intro v1 w' hS) | ((with_reducible refine wl_guard ?_); refine stop_mem rfl rfl ?_))
          (refine wp_region_tail 9 (by kernel_rfl) (by kernel_rfl) hS ?_; clear hS; intro w' hS; simp only [List.take_succ_cons, List.take_zero, List.drop_succ_cons, List.drop_zero]; ((repeat (first | ((with_reducible refine s_load ?_); refine z_read rfl (h := ?_); simp only [Act.put, List.setIfInBounds_toArray, List.set_cons_zero, List.set_cons_succ]) | ((with_reducible refine s_index ?_); refine z_idx rfl (h := ?_); simp only [Act.put, List.setIfInBounds_toArray, List.set_cons_zero, List.set_cons_succ]) | ((with_reducible refine s_field ?_); refine z_fld rfl (h := ?_); simp only [Act.put, List.setIfInBounds_toArray, List.set_cons_zero, List.set_cons_succ]) | ((with_reducible refine s_len ?_); refine z_len rfl (h := ?_); simp only [Act.put, List.setIfInBounds_toArray, List.set_cons_zero, List.set_cons_succ]) | ((with_reducible refine s_cut ?_); refine z_str rfl (h := ?_); simp only [Act.put, List.setIfInBounds_toArray, List.set_cons_zero, List.set_cons_succ]) | ((with_reducible refine s_indexV ?_); refine z_six rfl (h := ?_); simp only [Act.put, List.setIfInBounds_toArray, List.set_cons_zero, List.set_cons_succ]) | ((with_reducible refine s_bin ?_); refine z_cat rfl (h := ?_); simp only [Act.put, List.setIfInBounds_toArray, List.set_cons_zero, List.set_cons_succ]) | ((with_reducible refine s_conv ?_); refine z_tos rfl (h := ?_); simp only [Act.put, List.setIfInBounds_toArray, List.set_cons_zero, List.set_cons_succ]) | still_step)); refine wpStill_nil ?_))
          go_wp2_with (first | refine au1 (n := ?_) | (refine au2 (n := ?_); clear hS; intro w' hS) | (refine au3 (n := ?_); clear hS; intro gb w1 hS) | (refine au4 (n := ?_); clear hS; intro v1 w' hS) | ((with_reducible refine wl_guard ?_); refine stop_mem rfl rfl ?_))
          all_goals
            go_end0
            rw [E.out]
            exact ⟨rfl, hS.sel (by (repeat (first | exact Sel.refl | exact Sel.nil | refine Sel.cons (by (repeat (first | exact Out.here | apply Out.there))) ?_ | refine Sel.drop ?_)))⟩
end
end Go.Proofs.Ytnjboimjlbgdiaa
namespace Go.Proofs.Ytnjboimjlbgdiaa
open Go.RowKit Go.Cmp

section
variable {S : List Nat} {w0 w : World} {M : List Ent} {g : Nat} {D : Dsk}

theorem settle_same (D : Dsk) (x : Wr) (pick : Int) : (D.settle x pick).way = D.way ∧ (D.settle x pick).lasts.length = D.lasts.length ∧ (D.settle x pick).mark.length = D.mark.length ∧ (D.settle x pick).off = D.off ∧ (D.settle x pick).fuse = D.fuse ∧ (D.settle x pick).steps = D.steps := by
  unfold Dsk.settle; split <;> simp
theorem set_mem {α : Type} {L : List α} {i : Nat} {x y : α} (h : y ∈ L.set i x) : y ∈ L ∨ y = x := List.mem_or_eq_of_mem_set h
theorem settle_ok {D : Dsk} (hD : D.Ok) {x : Wr} (h3 : x.text.length = 384) (h1 : 0 ≤ x.sector) (h2 : x.sector < D.lasts.length) (pick : Int) : (D.settle x pick).Ok := by
  obtain ⟨e1, e2, e3, e4, e5, e6⟩ := settle_same D x pick
  refine ⟨by rw [e2, e3]; exact hD.len, by rw [e2]; exact hD.few, ?_, by rw [e1, e2]; exact hD.way, by rw [e1]; exact hD.ways, by rw [e5]; exact hD.fuse0, by rw [e5]; exact hD.fuse1, by rw [e6]; exact hD.steps0, by rw [e6]; exact hD.steps1⟩
  intro s hs
  unfold Dsk.settle at hs
  split at hs
  · exact hD.size s hs
  · rcases set_mem hs with h | h
    · exact hD.size s h
    · have hy := hD.size _ (nth_mem (L := D.lasts) (j := x.sector.toNat) (by omega))
      have := kept_le pick
      rw [h]
      simp [h3, hy]
      omega
def sets (D : Dsk) (picks : List Int) (j : Nat) : Dsk := D.settles picks 0 (D.way.take j)
theorem settles_snoc (picks : List Int) : ∀ (l : List Wr) (D : Dsk) (k : Nat) (x : Wr), D.settles picks k (l ++ [x]) = (D.settles picks k l).settle x (Dsk.pickAt picks (k + l.length))
  | [], D, k, x => rfl
  | y :: l, D, k, x => by
    rw [List.cons_append, Dsk.settles, settles_snoc, Dsk.settles, List.length_cons, show k + 1 + l.length = k + (l.length + 1) by omega]
theorem sets_succ {D : Dsk} {picks : List Int} {j : Nat} (h : j < D.way.length) : sets D picks (j + 1) = (sets D picks j).settle (nth D.way j) (Dsk.pickAt picks j) := by
  unfold sets
  have : nth D.way j = D.way[j] := nth_eq (List.getElem?_eq_getElem h)
  rw [List.take_succ_eq_append_getElem h, settles_snoc, this, List.length_take, Nat.zero_add, Nat.min_eq_left (by omega)]
theorem sets_ok {D : Dsk} (hD : D.Ok) (picks : List Int) : ∀ j, j ≤ D.way.length → (sets D picks j).Ok ∧ (sets D picks j).way = D.way ∧ (sets D picks j).lasts.length = D.lasts.length ∧ (sets D picks j).off = D.off ∧ (sets D picks j).fuse = D.fuse ∧ (sets D picks j).steps = D.steps
  | 0, _ => ⟨hD, rfl, rfl, rfl, rfl, rfl⟩
  | j + 1, h => by
    obtain ⟨h1, h2, h3, h4, h5, h6⟩ := sets_ok hD picks j (by omega)
    obtain ⟨k1, k2, k3⟩ := hD.way _ (nth_mem (L := D.way) (j := j) (by omega))
    rw [sets_succ (by omega)]
    obtain ⟨e1, e2, e3, e4, e5, e6⟩ := settle_same (sets D picks j) (nth D.way j) (Dsk.pickAt picks j)
    exact ⟨settle_ok h1 k3 k1 (by rw [h3]; exact k2) _, by rw [e1, h2], by rw [e2, h3], by rw [e4, h4], by rw [e5, h5], by rw [e6, h6]⟩

set_option maxHeartbeats 1000000 in
theorem disk_start (hS : St S w0 w (disk g D :: M)) (hD : D.Ok) (vp : Value) (picks : List Int) (hP : Reads S w0 M 1 vp picks.length (picks.flatMap num)) (hpk : ∀ p ∈ picks, p ≤ 9223372036854775807) :
    Calls Try.prog 45 #[.pointer (some ⟨g, 0, none⟩), vp] w fun e w' => e = .returned (.int .i64 (D.start picks).1) ∧ St S w0 w' (disk g (D.start picks).2 :: M) := by
  have h0 := hS
  have HD := Lib.hid hD
  have HPK := Lib.hid hpk
  have hwl := hD.ways
  clear hD hpk
  by_cases hoff : D.off = false
  · (have hU := St.unpack hS; clear hS; obtain ⟨⟨vl, vm, vw⟩, _, hS⟩ := hU; simp only [List.cons_append, List.nil_append] at hS)
    (go_enter Try.func45, Try.ntmps45)
    go_wp2_with (first | refine au1 (n := ?_) | (refine au2 (n := ?_); clear hS; intro w' hS) | (refine au3 (n := ?_); clear hS; intro gb w1 hS) | (refine au4 (n := ?_); clear hS; intro v1 w' hS) | ((with_reducible refine wl_guard ?_); refine stop_mem rfl rfl ?_))
    go_ret
    exact ⟨by simp_all [Dsk.start], St.cast h0 (by simp_all [Dsk.start])⟩
  · have hoff : D.off = true := by simpa using hoff
    have e : D.start picks = (0, { sets D picks D.way.length with way := [], off := false }) := by simp [Dsk.start, sets, hoff]
    have E := Lib.hid e
    clear e
    (have hU := St.unpack hS; clear hS; obtain ⟨⟨vl, vm, vw⟩, _, hS⟩ := hU; simp only [List.cons_append, List.nil_append] at hS)
    rw [hoff] at hS
    clear h0
    (go_enter Try.func45, Try.ntmps45)
    go_wp2_with (first | refine au1 (n := ?_) | (refine au2 (n := ?_); clear hS; intro w' hS) | (refine au3 (n := ?_); clear hS; intro gb w1 hS) | (refine au4 (n := ?_); clear hS; intro v1 w' hS) | ((with_reducible refine wl_guard ?_); refine stop_mem rfl rfl ?_))
    rw [← hoff] at hS
    have HO := Lib.hid hoff
    clear hoff
    go_loopw [22] (fun i wr => ∃ j : Nat, j ≤ D.way.length ∧ i = .int .i64 j ∧ St S w0 wr (dparts g vl vm vw (sets D picks j) ++ M)) (fun i _ => D.way.length - (intOf i).toNat)
    case atStart => exact ⟨0, Nat.zero_le _, rfl, hS⟩
    case round =>
      clear hS
      obtain ⟨j, hj, rfl, hS⟩ := hrel
      obtain ⟨f1, f2, f3, f4, f5, f6⟩ := sets_ok HD.out picks j hj
      by_cases hlt : j < D.way.length
      · obtain ⟨k1, k2, k3⟩ := HD.out.way _ (nth_mem hlt)
        have hsu := Lib.hid (sets_succ (picks := picks) hlt)
        obtain ⟨F, hF⟩ : ∃ F, sets D picks j = F := ⟨_, rfl⟩
        rw [hF] at hS f1 f2 f3 f4 f5 f6 hsu
        have hxx : D.way[j]? = some (nth D.way j) := get_lt hlt
        obtain ⟨x, hx⟩ : ∃ x, nth D.way j = x := ⟨_, rfl⟩
        rw [hx] at k1 k2 k3 hsu hxx
        rw [← f2] at hxx
        rw [← f3] at k2
        have hlt2 : j < F.way.length := by rw [f2]; exact hlt
        have Hxx := Lib.hid hxx
        have F1 := Lib.hid f1
        have F2 := Lib.hid f2
        have K3 := Lib.hid k3
        clear hxx f1 f2 f3 f4 f5 f6 hF hx k3
        simp only [dparts, List.cons_append, List.nil_append] at hS
        by_cases hp : picks.length = 0
        · have Hpk : Hid (Dsk.pickAt picks j = 0) := Lib.hid (by unfold Dsk.pickAt; rw [if_pos hp])
          have hp0 : ((picks.length : Int)) = 0 := by omega
          go_wp2_with (first | ((with_reducible refine g_load ?_); have hy9 := Hxx.out; refine k_readx hy9 rfl (h := ?_); clear hy9) | (first | refine au1 (n := ?_) | (refine au2 (n := ?_); clear hS; intro w' hS) | (refine au3 (n := ?_); clear hS; intro gb w1 hS) | (refine au4 (n := ?_); clear hS; intro v1 w' hS) | ((with_reducible refine wl_guard ?_); refine stop_mem rfl rfl ?_)))
          refine (disk_settle (hS.sel (N := dparts g vl vm vw F ++ M) (by (repeat (first | exact Sel.refl | exact Sel.nil | refine Sel.cons (by (repeat (first | exact Out.here | apply Out.there))) ?_ | refine Sel.drop ?_)))) F1.out x k1 k2 K3.out 0 (by omega)).mono ?_
          rintro e w' ⟨rfl, hS⟩
          go_wp2
          go_round
          case rel => exact ⟨j + 1, by omega, by go_num, by rw [hsu.out, Hpk.out]; exact hS⟩
          case measure => simp [intOf]; omega
        · have hml : j % picks.length < picks.length := Nat.mod_lt _ (by omega)
          have hmod : (j : Int) % (picks.length : Int) = ((j % picks.length : Nat) : Int) := by push_cast; rfl
          obtain ⟨m, hm⟩ : ∃ m, j % picks.length = m := ⟨_, rfl⟩
          have Hpk : Hid (Dsk.pickAt picks j = nth picks m) := Lib.hid (by unfold Dsk.pickAt; rw [if_neg hp, hm])
          rw [hm] at hml hmod
          clear hm
          have hp0 : (0 : Int) < ((picks.length : Int)) := by omega
          have hb := HPK.out _ (nth_mem hml)
          have hpb : ¬ picks = [] := fun h => hp (by rw [h]; rfl)
          clear hp
          have hpl := Reads.len hP hS
          go_wp2_with (first | ((with_reducible refine g_load ?_); have hy9 := Hxx.out; refine k_readx hy9 rfl (h := ?_); clear hy9) | (first | refine au1 (n := ?_) | (refine au2 (n := ?_); clear hS; intro w' hS) | (refine au3 (n := ?_); clear hS; intro gb w1 hS) | (refine au4 (n := ?_); clear hS; intro v1 w' hS) | ((with_reducible refine wl_guard ?_); refine stop_mem rfl rfl ?_)))
          refine (disk_settle (hS.sel (N := dparts g vl vm vw F ++ M) (by (repeat (first | exact Sel.refl | exact Sel.nil | refine Sel.cons (by (repeat (first | exact Out.here | apply Out.there))) ?_ | refine Sel.drop ?_)))) F1.out x k1 k2 K3.out (nth picks m) hb).mono ?_
          rintro e w' ⟨rfl, hS⟩
          go_wp2
          go_round
          case rel => exact ⟨j + 1, by omega, by go_num, by rw [hsu.out, Hpk.out]; exact hS⟩
          case measure => simp [intOf]; omega
      · obtain rfl : j = D.way.length := by omega
        simp only [dparts, List.cons_append, List.nil_append] at hS
        go_wp2_with (first | refine au1 (n := ?_) | (refine au2 (n := ?_); clear hS; intro w' hS) | (refine au3 (n := ?_); clear hS; intro gb w1 hS) | (refine au4 (n := ?_); clear hS; intro v1 w' hS) | ((with_reducible refine wl_guard ?_); refine stop_mem rfl rfl ?_))
        go_ret
        rw [E.out]
        have hS := hS.addNil 98 2
        refine ⟨rfl, ?_⟩
        exact St.packs (vl, vm, .slice none 0 0) hS
end
end Go.Proofs.Ytnjboimjlbgdiaa
namespace Go.Proofs.Ytnjboimjlbgdiaa
open Go.RowKit Go.Cmp

section
variable {S : List Nat} {w0 w : World} {M : List Ent} {g : Nat} {D : Dsk}

set_option maxHeartbeats 3000000 in
theorem disk_rot (hS : St S w0 w (disk g D :: M)) (hD : D.Ok) (i at' mask : Int) :
    Calls Try.prog 46 #[.pointer (some ⟨g, 0, none⟩), .int .i64 i, .int .i64 at', .int .i64 mask] w fun e w' => e = .returned (.int .i64 (D.rot i at' mask).1) ∧ St S w0 w' (disk g (D.rot i at' mask).2 :: M) := by
  have h0 := hS
  have HD := Lib.hid hD
  have hwl := hD.ways
  have hlm := hD.len
  have HL := Lib.hid hlm
  clear hD hlm
  by_cases hc : D.is i = false ∨ at' < 0 ∨ 384 ≤ at' ∨ mask < 1 ∨ 255 < mask
  · have e : D.rot i at' mask = (1, D) := by unfold Dsk.rot; rw [if_pos hc]
    rw [e]
    clear e
    by_cases hd : D.is i = false
    · have Hd := Lib.hid hd
      clear hd hc
      (go_enter Try.func46, Try.ntmps46)
      go_wp2_with (first | ((with_reducible refine (disk_is h0 i).mono ?_); rw [Hd.out]; rintro e w' ⟨rfl, rfl⟩) | (first | refine au1 (n := ?_) | (refine au2 (n := ?_); clear hS; intro w' hS) | (refine au3 (n := ?_); clear hS; intro gb w1 hS) | (refine au4 (n := ?_); clear hS; intro v1 w' hS) | ((with_reducible refine wl_guard ?_); refine stop_mem rfl rfl ?_)))
      go_ret
      exact ⟨rfl, hS⟩
    · have hc := hc.resolve_left hd
      have hd : D.is i = true := by simpa using hd
      have Hd := Lib.hid hd
      clear hd
      (go_enter Try.func46, Try.ntmps46)
      go_wp2_with (first | ((with_reducible refine (disk_is h0 i).mono ?_); rw [Hd.out]; rintro e w' ⟨rfl, rfl⟩) | (first | refine au1 (n := ?_) | (refine au2 (n := ?_); clear hS; intro w' hS) | (refine au3 (n := ?_); clear hS; intro gb w1 hS) | (refine au4 (n := ?_); clear hS; intro v1 w' hS) | ((with_reducible refine wl_guard ?_); refine stop_mem rfl rfl ?_)))
      all_goals
        go_ret
        exact ⟨rfl, hS⟩
  · have hd : D.is i = true := by cases h : D.is i; exact absurd (.inl h) hc; rfl
    have c1 : 0 ≤ at' := by omega
    have c2 : at' < 384 := by omega
    have c3 : 1 ≤ mask := by omega
    have c4 : mask ≤ 255 := by omega
    have Hd := Lib.hid hd
    have hi : 0 ≤ i ∧ i < D.lasts.length := by simpa [Dsk.is] using hd
    obtain ⟨i1, i2⟩ := hi
    have e : D.rot i at' mask = if D.way.any (fun x => x.sector == i) then (10, D) else if (nth D.mark i.toNat) = true then (7, D) else (0, { D with lasts := D.lasts.set i.toNat (Dsk.turn (nth D.lasts i.toNat) at'.toNat mask), mark := D.mark.set i.toNat true }) := by unfold Dsk.rot; rw [if_neg hc]
    have E := Lib.hid e
    obtain ⟨d, rfl⟩ := u8_of (m := mask) (by omega) c4
    have HN := Lib.hid (HD.out.size _ (nth_mem (L := D.lasts) (j := i.toNat) (by omega)))
    have hnl : (nth D.lasts i.toNat).length ≤ maxLen := by rw [HN.out]; unfold maxLen; omega
    have hat : at' < (nth D.lasts i.toNat).length := by rw [HN.out]; exact c2
    clear e hc hd
    (have hU := St.unpack hS; clear hS; obtain ⟨⟨vl, vm, vw⟩, _, hS⟩ := hU; simp only [List.cons_append, List.nil_append] at hS)
    (go_enter Try.func46, Try.ntmps46)
    go_wp2_with (first | ((with_reducible refine (disk_is h0 i).mono ?_); rw [Hd.out]; rintro e w' ⟨rfl, rfl⟩) | (first | refine au1 (n := ?_) | (refine au2 (n := ?_); clear hS; intro w' hS) | (refine au3 (n := ?_); clear hS; intro gb w1 hS) | (refine au4 (n := ?_); clear hS; intro v1 w' hS) | ((with_reducible refine wl_guard ?_); refine stop_mem rfl rfl ?_)))
    go_loopw [41] (fun i' wr => ∃ j : Nat, j ≤ D.way.length ∧ i' = .int .i64 j ∧ Hid ((D.way.take j).any (fun x => x.sector == i) = false) ∧ St S w0 wr (.row g [vl, vm, vw, .bool D.off, .int .i64 D.fuse, .int .i64 D.steps] 94 (0, 0) :: .vec vl 9 1 D.lasts.length (D.lasts.flatMap str) :: .vec vm 4 1 D.mark.length (D.mark.flatMap bl) :: .vec vw 98 2 D.way.length (D.way.flatMap Wr.cells) :: M)) (fun i' _ => D.way.length - (intOf i').toNat)
    case atStart => exact ⟨0, Nat.zero_le _, rfl, Lib.hid rfl, hS⟩
    case round =>
      clear hS h0
      obtain ⟨j, hj, rfl, Hj, hS⟩ := hrel
      by_cases hlt : j < D.way.length
      · go_wp2_with (first | refine au1 (n := ?_) | (refine au2 (n := ?_); clear hS; intro w' hS) | (refine au3 (n := ?_); clear hS; intro gb w1 hS) | (refine au4 (n := ?_); clear hS; intro v1 w' hS) | ((with_reducible refine wl_guard ?_); refine stop_mem rfl rfl ?_))
        · rename_i hx
          go_ret
          have e : D.rot i at' d.toNat = (10, D) := by
            rw [E.out, if_pos]
            rw [List.any_eq_true]
            exact ⟨nth D.way j, nth_mem hlt, hx⟩
          rw [e]
          refine ⟨rfl, ?_⟩
          exact St.packs (vl, vm, vw) hS
        · rename_i hx
          go_round
          case rel =>
            refine ⟨j + 1, by omega, by go_num, Lib.hid ?_, hS.tail⟩
            rw [List.take_add_one, get_lt hlt, List.any_append, Hj.out]
            simpa using hx
          case measure => simp [intOf]; omega
      · obtain rfl : j = D.way.length := by omega
        have i3 : i < D.mark.length := by have := HL.out; omega
        have E2 : Hid (D.rot i at' d.toNat = if (nth D.mark i.toNat) = true then (7, D) else (0, { D with lasts := D.lasts.set i.toNat (Dsk.turn (nth D.lasts i.toNat) at'.toNat d.toNat), mark := D.mark.set i.toNat true })) := Lib.hid (by
          have h := Hj.out
          rw [List.take_length] at h
          rw [E.out, h]
          rfl)
        clear E
        go_wp2_with (first | ((with_reducible refine g_conv ?_); refine wl_of rfl ?_; refine a_toBytes hS rfl rfl rfl rfl rfl hnl ?_; clear hS; intro v1 w1 hS) | ((with_reducible refine g_xor ?_); refine wl_run rfl (a_xor8 (d := d) rfl rfl rfl) ?_) | (first | refine au1 (n := ?_) | (refine au2 (n := ?_); clear hS; intro w' hS) | (refine au3 (n := ?_); clear hS; intro gb w1 hS) | (refine au4 (n := ?_); clear hS; intro v1 w' hS) | ((with_reducible refine wl_guard ?_); refine stop_mem rfl rfl ?_)))
        · rename_i hx
          go_ret
          rw [E2.out, if_pos hx]
          refine ⟨rfl, ?_⟩
          exact St.packs (vl, vm, vw) hS
        · have hx : nth D.mark i.toNat = false := by assumption
          (refine wp_region_tail 8 (by kernel_rfl) (by kernel_rfl) hS ?_; clear hS; intro w' hS; simp only [List.take_succ_cons, List.take_zero, List.drop_succ_cons, List.drop_zero]; ((repeat (first | ((with_reducible refine s_load ?_); refine z_read rfl (h := ?_); simp only [Act.put, List.setIfInBounds_toArray, List.set_cons_zero, List.set_cons_succ]) | ((with_reducible refine s_index ?_); refine z_idx rfl (h := ?_); simp only [Act.put, List.setIfInBounds_toArray, List.set_cons_zero, List.set_cons_succ]) | ((with_reducible refine s_field ?_); refine z_fld rfl (h := ?_); simp only [Act.put, List.setIfInBounds_toArray, List.set_cons_zero, List.set_cons_succ]) | ((with_reducible refine s_len ?_); refine z_len rfl (h := ?_); simp only [Act.put, List.setIfInBounds_toArray, List.set_cons_zero, List.set_cons_succ]) | ((with_reducible refine s_cut ?_); refine z_str rfl (h := ?_); simp only [Act.put, List.setIfInBounds_toArray, List.set_cons_zero, List.set_cons_succ]) | ((with_reducible refine s_indexV ?_); refine z_six rfl (h := ?_); simp only [Act.put, List.setIfInBounds_toArray, List.set_cons_zero, List.set_cons_succ]) | ((with_reducible refine s_bin ?_); refine z_cat rfl (h := ?_); simp only [Act.put, List.setIfInBounds_toArray, List.set_cons_zero, List.set_cons_succ]) | ((with_reducible refine s_conv ?_); refine z_tos rfl (h := ?_); simp only [Act.put, List.setIfInBounds_toArray, List.set_cons_zero, List.set_cons_succ]) | still_step)); refine wpStill_nil ?_))
          go_wp2_with (first | refine au1 (n := ?_) | (refine au2 (n := ?_); clear hS; intro w' hS) | (refine au3 (n := ?_); clear hS; intro gb w1 hS) | (refine au4 (n := ?_); clear hS; intro v1 w' hS) | ((with_reducible refine wl_guard ?_); refine stop_mem rfl rfl ?_))
          go_ret
          have e : D.rot i at' d.toNat = (0, { D with lasts := D.lasts.set i.toNat ((nth D.lasts i.toNat).set at'.toNat (nth (nth D.lasts i.toNat) at'.toNat ^^^ d)), mark := D.mark.set i.toNat true }) := by
            rw [E2.out, if_neg (by rw [hx]; exact Bool.false_ne_true)]
            simp [Dsk.turn]
          rw [e]
          refine ⟨rfl, ?_⟩
          exact St.packs (vl, vm, vw) hS
end
end Go.Proofs.Ytnjboimjlbgdiaa
namespace Go.Proofs.Ytnjboimjlbgdiaa
open Go.RowKit Go.Cmp

section
variable {S : List Nat} {w0 w : World} {M : List Ent}

def zeros (k : Nat) : List UInt8 := List.replicate k 0
theorem zeros_len (k : Nat) : (zeros k).length = k := by unfold zeros; exact List.length_replicate
def newDsk (n : Nat) : Dsk := ⟨List.replicate n (zeros 384), List.replicate n false, [], false, 0, 0⟩
theorem newDsk_ok (n : Nat) (h : n ≤ 64) : (newDsk n).Ok := by
  refine ⟨by simp [newDsk], by simp [newDsk]; exact h, ?_, by simp [newDsk], by simp [newDsk], by simp [newDsk], by simp [newDsk], by simp [newDsk], by simp [newDsk]⟩
  intro s hs
  simp only [newDsk, List.mem_replicate] at hs
  rw [hs.2]
  exact zeros_len _
def fillD (n j : Nat) : List (List UInt8) := List.replicate j (zeros 384) ++ List.replicate (n - j) []
theorem fillD_set {n j : Nat} (h : j < n) : (fillD n j).set j (zeros 384) = fillD n (j + 1) := by
  unfold fillD
  rw [List.set_append_right _ _ (by simp), List.length_replicate, Nat.sub_self]
  obtain ⟨m, hm⟩ : ∃ m, n - j = m + 1 := ⟨n - j - 1, by omega⟩
  rw [hm, show n - (j + 1) = m by omega, List.replicate_succ, List.set_cons_zero, List.replicate_succ']
  simp
theorem B_zeros (n : Nat) : List.replicate n (Value.int .u8 0) = (zeros n).flatMap byt := by
  unfold zeros
  induction n with
  | zero => rfl
  | succ n ih => rw [List.replicate_succ, List.replicate_succ, List.flatMap_cons, ← ih]; rfl
theorem flat_rep {α : Type} (f : α → List Value) (x : α) (z : Value) (h : f x = [z]) (n : Nat) : List.replicate n z = (List.replicate n x).flatMap f := by
  induction n with
  | zero => rfl
  | succ n ih => rw [List.replicate_succ, List.replicate_succ, List.flatMap_cons, ← ih, h]; rfl

set_option maxHeartbeats 2000000 in
theorem disk_new_bad (n : Int) (h : n < 1 ∨ 64 < n) : Calls Try.prog 24 #[.int .i64 n] w fun e w' => e = .returned (.tuple #[.pointer none, .int .i64 1]) ∧ w' = w := by
  (go_enter Try.func24, Try.ntmps24)
  go_wp2_with (fail)
  all_goals
    go_ret2
    exact ⟨rfl, rfl⟩

set_option maxHeartbeats 2000000 in
theorem disk_new (n : Nat) (h1 : 1 ≤ n) (h2 : n ≤ 64) (hS : St S w0 w M) : Calls Try.prog 24 #[.int .i64 n] w fun e w' => ∃ g, e = .returned (.tuple #[.pointer (some ⟨g, 0, none⟩), .int .i64 0]) ∧ St S w0 w' (disk g (newDsk n) :: M) := by
  (go_enter Try.func24, Try.ntmps24)
  go_wp2_with (fail)
  have hS0 := hS
  clear hS
  have hS := (St.init w).drew
  refine wp_region_held (S := fun W => Cmp.Mod [] w W) (by kernel_rfl) ?_
  change wpAnyH _ _ _ _ _ _ _ _ w.drew
  generalize w.drew = w2 at hS ⊢
  (refine whd_take 0 rfl rfl (by kernel_rfl) (by kernel_rfl) (by kernel_rfl) (fun _ _ _ h => h) rfl (fun W hW => by (go_simp; try with_reducible rfl)) hS.base ?_; simp only [Act.put, List.setIfInBounds_toArray, List.set_cons_zero, List.set_cons_succ])
  (refine whd_take 2 rfl rfl (by kernel_rfl) (by kernel_rfl) (by kernel_rfl) (fun _ _ _ h => h) rfl (fun W hW => by (go_simp; try with_reducible rfl)) hS.base ?_; simp only [Act.put, List.setIfInBounds_toArray, List.set_cons_zero, List.set_cons_succ])
  (refine wpAnyH_all (rs := [1, 3]) (by kernel_rfl) (by simp) ?_; intro i hi; simp only [List.mem_cons, List.not_mem_nil, or_false] at hi)
  rcases hi with rfl | rfl
  · (refine wod_of rfl rfl rfl (a_make hS rfl rfl rfl rfl (by rfl) rfl (by omega) (by omega) ?_); clear hS; intro vl w3 hS; refine ⟨hS.base, ?_⟩; simp only [Act.put, List.setIfInBounds_toArray, List.set_cons_zero, List.set_cons_succ])
    (refine wpAnyH_all (rs := [3]) (by kernel_rfl) (by simp) ?_; intro i hi; simp only [List.mem_cons, List.not_mem_nil, or_false] at hi)
    subst hi
    (refine wod_of rfl rfl rfl (a_make hS rfl rfl rfl rfl (by rfl) rfl (by omega) (by omega) ?_); clear hS; intro vm w3 hS; refine ⟨hS.base, ?_⟩; simp only [Act.put, List.setIfInBounds_toArray, List.set_cons_zero, List.set_cons_succ])
    have hRl : ∃ p c, vl = .slice p (n : Int).toNat c := (St.rdx (v := vl) hS (by (repeat (first | exact Ix.here | apply Ix.there)))).shape
    have hRm : ∃ p c, vm = .slice p (n : Int).toNat c := (St.rdx (v := vm) hS (by (repeat (first | exact Ix.here | apply Ix.there)))).shape
    (refine whd_take (v := (.agg #[vl, vm, .slice none 0 0, .bool false, .int .i64 0, .int .i64 0])) 4 rfl rfl (by kernel_rfl) (by kernel_rfl) (by kernel_rfl) (fun _ _ _ h => h) rfl (fun W hW => by (obtain ⟨p1, c1, e1⟩ := hRl; obtain ⟨p2, c2, e2⟩ := hRm; subst e1; subst e2; go_simp)) hS.base ?_; simp only [Act.put, List.setIfInBounds_toArray, List.set_cons_zero, List.set_cons_succ])
    clear hRl hRm
    (refine wpAnyH_all (rs := [5]) (by kernel_rfl) (by simp) ?_; intro i hi; simp only [List.mem_cons, List.not_mem_nil, or_false] at hi)
    subst hi
    (refine wod_of rfl rfl rfl (wp_box hS rfl rfl rfl ?_); clear hS; intro gb w1 hS; refine ⟨hS.base, ?_⟩; simp only [Act.put, List.setIfInBounds_toArray, List.set_cons_zero, List.set_cons_succ])
    (refine whd_take 6 rfl rfl (by kernel_rfl) (by kernel_rfl) (by kernel_rfl) (fun _ _ _ h => h) rfl (fun W hW => by (go_simp; try with_reducible rfl)) hS.base ?_; simp only [Act.put, List.setIfInBounds_toArray, List.set_cons_zero, List.set_cons_succ])
    (refine wpAnyH_done (by kernel_rfl) ?_ _)
    have hS := hS0.call hS
    simp only [List.cons_append, List.nil_append] at hS
    go_wp2_with (first | refine au1 (n := ?_) | (refine au2 (n := ?_); clear hS; intro w' hS) | (refine au3 (n := ?_); clear hS; intro gb w1 hS) | (refine au4 (n := ?_); clear hS; intro v1 w' hS) | ((with_reducible refine wl_guard ?_); refine stop_mem rfl rfl ?_))
    rw [Int.toNat_natCast, flat_rep str [] _ rfl, flat_rep bl false _ rfl] at hS
    go_loopw [23] (fun i wr => ∃ j : Nat, j ≤ n ∧ i = .int .i64 j ∧ St S w0 wr (.row gb [vl, vm, .slice none 0 0, .bool false, .int .i64 0, .int .i64 0] 94 (0, 0) :: .vec vl 9 1 (fillD n j).length ((fillD n j).flatMap str) :: .vec vm 4 1 (List.replicate n false).length ((List.replicate n false).flatMap bl) :: M)) (fun i _ => n - (intOf i).toNat)
    case atStart =>
      refine ⟨0, Nat.zero_le _, rfl, ?_⟩
      have e : fillD n 0 = List.replicate n [] := by simp [fillD]
      rw [e, List.length_replicate, List.length_replicate]
      exact hS.sel (by (repeat (first | exact Sel.refl | exact Sel.nil | refine Sel.cons (by (repeat (first | exact Out.here | apply Out.there))) ?_ | refine Sel.drop ?_)))
    case round =>
      clear hS hS0
      obtain ⟨j, hj, rfl, hS⟩ := hrel
      have hfl : (fillD n j).length = n := by simp [fillD]; omega
      have HFL := Lib.hid hfl
      by_cases hlt : j < n
      · have hlf : j < (fillD n j).length := by omega
        clear hfl
        go_wp2_with (first | refine au1 (n := ?_) | (refine au2 (n := ?_); clear hS; intro w' hS) | (refine au3 (n := ?_); clear hS; intro gb w1 hS) | (refine au4 (n := ?_); clear hS; intro v1 w' hS) | ((with_reducible refine wl_guard ?_); refine stop_mem rfl rfl ?_))
        have hRl : Rd wr 1 vl _ _ := St.rdx (v := vl) (e := 9) (k := 1) (n := (fillD n j).length) (xs := (fillD n j).flatMap str) hS (by (repeat (first | exact Ix.here | apply Ix.there)))
        obtain ⟨F, hA, hR, hB⟩ := St.split (A := [.vec vl 9 1 (fillD n j).length ((fillD n j).flatMap str)]) (hS.sel (by (repeat (first | exact Sel.refl | exact Sel.nil | refine Sel.cons (by (repeat (first | exact Out.here | apply Out.there))) ?_ | refine Sel.drop ?_))) : St S w0 wr ([.vec vl 9 1 (fillD n j).length ((fillD n j).flatMap str)] ++ (.row gb [vl, vm, .slice none 0 0, .bool false, .int .i64 0, .int .i64 0] 94 (0, 0) :: .vec vm 4 1 (List.replicate n false).length ((List.replicate n false).flatMap bl) :: M)))
        clear hS
        have hS := hA.drew
        clear hA
        refine wp_region_held (S := fun W => Cmp.Mod F wr W) (by kernel_rfl) ?_
        change wpAnyH _ _ _ _ _ _ _ _ wr.drew
        generalize wr.drew = w2 at hS ⊢
        (refine whd_take 0 rfl rfl (by kernel_rfl) (by kernel_rfl) (by kernel_rfl) (fun _ _ _ h => h) rfl (fun W hW => by (go_simp; try with_reducible rfl)) hS.base ?_; simp only [Act.put, List.setIfInBounds_toArray, List.set_cons_zero, List.set_cons_succ])
        (refine whd_take 1 rfl rfl (by kernel_rfl) (by kernel_rfl) (by kernel_rfl) (fun _ _ _ h => h) rfl (fun W hW => by (go_simp; try with_reducible rfl)) hS.base ?_; simp only [Act.put, List.setIfInBounds_toArray, List.set_cons_zero, List.set_cons_succ])
        (refine whd_take 2 rfl rfl (by kernel_rfl) (by kernel_rfl) (by kernel_rfl) (fun _ _ _ h => h) rfl (fun W hW => by (go_simp; try with_reducible rfl)) hS.base ?_; simp only [Act.put, List.setIfInBounds_toArray, List.set_cons_zero, List.set_cons_succ])
        (refine whd_take 3 rfl rfl (by kernel_rfl) (by kernel_rfl) (by kernel_rfl) (fun _ _ _ h => h) rfl (fun W hW => (by (first | exact a_load1 (hR W hW) rfl rfl rfl rfl (by (repeat (first | exact Ix.here | apply Ix.there))) (by rfl) | exact a_loadE rfl (by (first | exact St.rdx (hR W hW) (by (repeat (first | exact Ix.here | apply Ix.there))) | exact Reads.at (by assumption) (hR W hW) (by (repeat (first | exact List.Sublist.refl _ | apply List.Sublist.cons))) | exact St.old0 (hR W hW) (by assumption))) rfl rfl rfl (by intro _; rfl) (by (first | assumption | exact get_lt (by first | omega | (simp; omega)))) (by rfl) | exact a_loadF rfl (by (first | exact St.rdx (hR W hW) (by (repeat (first | exact Ix.here | apply Ix.there))) | exact Reads.at (by assumption) (hR W hW) (by (repeat (first | exact List.Sublist.refl _ | apply List.Sublist.cons))) | exact St.old0 (hR W hW) (by assumption))) rfl rfl rfl (by intro _; rfl) (by (first | assumption | exact get_lt (by first | omega | (simp; omega)))) (by rfl) | exact a_loadG (vs := [_, _]) rfl (by (first | exact St.rdx (hR W hW) (by (repeat (first | exact Ix.here | apply Ix.there))) | exact Reads.at (by assumption) (hR W hW) (by (repeat (first | exact List.Sublist.refl _ | apply List.Sublist.cons))) | exact St.old0 (hR W hW) (by assumption))) rfl rfl rfl (by rfl) (by intro _; rfl) (by (first | assumption | exact get_lt (by first | omega | (simp; omega)))) (by rfl) | exact a_loadG (vs := [_, _, _]) rfl (by (first | exact St.rdx (hR W hW) (by (repeat (first | exact Ix.here | apply Ix.there))) | exact Reads.at (by assumption) (hR W hW) (by (repeat (first | exact List.Sublist.refl _ | apply List.Sublist.cons))) | exact St.old0 (hR W hW) (by assumption))) rfl rfl rfl (by rfl) (by intro _; rfl) (by (first | assumption | exact get_lt (by first | omega | (simp; omega)))) (by rfl) | exact a_loadG (vs := [_, _, _, _]) rfl (by (first | exact St.rdx (hR W hW) (by (repeat (first | exact Ix.here | apply Ix.there))) | exact Reads.at (by assumption) (hR W hW) (by (repeat (first | exact List.Sublist.refl _ | apply List.Sublist.cons))) | exact St.old0 (hR W hW) (by assumption))) rfl rfl rfl (by rfl) (by intro _; rfl) (by (first | assumption | exact get_lt (by first | omega | (simp; omega)))) (by rfl) | exact a_loadG (vs := [_, _, _, _, _]) rfl (by (first | exact St.rdx (hR W hW) (by (repeat (first | exact Ix.here | apply Ix.there))) | exact Reads.at (by assumption) (hR W hW) (by (repeat (first | exact List.Sublist.refl _ | apply List.Sublist.cons))) | exact St.old0 (hR W hW) (by assumption))) rfl rfl rfl (by rfl) (by intro _; rfl) (by (first | assumption | exact get_lt (by first | omega | (simp; omega)))) (by rfl) | exact a_loadR (hR W hW) rfl rfl rfl rfl (by (repeat (first | exact Ix.here | apply Ix.there))) (by rfl)))) hS.base ?_; simp only [Act.put, List.setIfInBounds_toArray, List.set_cons_zero, List.set_cons_succ])
        (refine whd_take 4 rfl rfl (by kernel_rfl) (by kernel_rfl) (by kernel_rfl) (fun _ _ _ h => h) rfl (fun W hW => by (go_simp; try with_reducible rfl)) hS.base ?_; simp only [Act.put, List.setIfInBounds_toArray, List.set_cons_zero, List.set_cons_succ])
        (refine wpAnyH_all (rs := [5]) (by kernel_rfl) (by simp) ?_; intro i hi; simp only [List.mem_cons, List.not_mem_nil, or_false] at hi)
        subst hi
        (refine wod_of rfl rfl rfl (a_make hS rfl rfl rfl rfl (by rfl) rfl (by omega) (by omega) ?_); clear hS; intro vb w3 hS; refine ⟨hS.base, ?_⟩; simp only [Act.put, List.setIfInBounds_toArray, List.set_cons_zero, List.set_cons_succ])
        rw [B_zeros] at hS
        (refine wpAnyH_all (rs := [6]) (by kernel_rfl) (by simp) ?_; intro i hi; simp only [List.mem_cons, List.not_mem_nil, or_false] at hi)
        subst hi
        refine wod_of rfl rfl rfl (wp_run (a_toString3 rfl rfl rfl rfl rfl (by (first | exact St.rdx hS (by (repeat (first | exact Ix.here | apply Ix.there))) | exact Reads.at (by assumption) hS (by (repeat (first | exact List.Sublist.refl _ | apply List.Sublist.cons))) | exact St.old0 hS (by assumption))) (zeros_len _)) ?_)
        refine ⟨hS.base, ?_⟩
        simp only [Act.put, List.setIfInBounds_toArray, List.set_cons_zero, List.set_cons_succ]
        (refine whd_take 7 rfl rfl (by kernel_rfl) (by kernel_rfl) (by kernel_rfl) (fun _ _ _ h => h) rfl (fun W hW => (by exact a_indexW rfl rfl rfl rfl hRl (by rfl) (by omega) (by omega))) hS.base ?_; simp only [Act.put, List.setIfInBounds_toArray, List.set_cons_zero, List.set_cons_succ])
        (refine wpAnyH_all (rs := [8]) (by kernel_rfl) (by simp) ?_; intro i hi; simp only [List.mem_cons, List.not_mem_nil, or_false] at hi)
        subst hi
        refine won_of rfl rfl rfl (a_storeE (v := .string _) hS rfl rfl rfl rfl rfl (by rfl) rfl (by (repeat (first | exact Sw.here | apply Sw.there))) (by intro _; rfl) (by omega) (by rfl) ?_)
        clear hS
        intro w4 hS
        refine ⟨hS.base, ?_⟩
        (refine wpAnyH_done (by kernel_rfl) ?_ _)
        have hS := hB _ _ hS
        go_wp2_with (first | refine au1 (n := ?_) | (refine au2 (n := ?_); clear hS; intro w' hS) | (refine au3 (n := ?_); clear hS; intro gb w1 hS) | (refine au4 (n := ?_); clear hS; intro v1 w' hS) | ((with_reducible refine wl_guard ?_); refine stop_mem rfl rfl ?_))
        go_round
        case rel =>
          refine ⟨j + 1, by omega, by go_num, ?_⟩
          rw [← fillD_set hlt]
          exact hS.sel (by (repeat (first | exact Sel.refl | exact Sel.nil | refine Sel.cons (by (repeat (first | exact Out.here | apply Out.there))) ?_ | refine Sel.drop ?_)))
        case measure => simp [intOf]; omega
      · obtain rfl : j = n := by omega
        go_wp2_with (first | refine au1 (n := ?_) | (refine au2 (n := ?_); clear hS; intro w' hS) | (refine au3 (n := ?_); clear hS; intro gb w1 hS) | (refine au4 (n := ?_); clear hS; intro v1 w' hS) | ((with_reducible refine wl_guard ?_); refine stop_mem rfl rfl ?_))
        go_ret2
        have e : fillD j j = List.replicate j (zeros 384) := by simp only [fillD, Nat.sub_self]; exact List.append_nil _
        rw [e] at hS
        refine ⟨gb, rfl, ?_⟩
        have hS := hS.addNil 98 2
        exact St.packs (vl, vm, .slice none 0 0) hS
  · (refine wod_of rfl rfl rfl (a_make hS rfl rfl rfl rfl (by rfl) rfl (by omega) (by omega) ?_); clear hS; intro vm w3 hS; refine ⟨hS.base, ?_⟩; simp only [Act.put, List.setIfInBounds_toArray, List.set_cons_zero, List.set_cons_succ])
    (refine wpAnyH_all (rs := [1]) (by kernel_rfl) (by simp) ?_; intro i hi; simp only [List.mem_cons, List.not_mem_nil, or_false] at hi)
    subst hi
    (refine wod_of rfl rfl rfl (a_make hS rfl rfl rfl rfl (by rfl) rfl (by omega) (by omega) ?_); clear hS; intro vl w3 hS; refine ⟨hS.base, ?_⟩; simp only [Act.put, List.setIfInBounds_toArray, List.set_cons_zero, List.set_cons_succ])
    have hRl : ∃ p c, vl = .slice p (n : Int).toNat c := (St.rdx (v := vl) hS (by (repeat (first | exact Ix.here | apply Ix.there)))).shape
    have hRm : ∃ p c, vm = .slice p (n : Int).toNat c := (St.rdx (v := vm) hS (by (repeat (first | exact Ix.here | apply Ix.there)))).shape
    (refine whd_take (v := (.agg #[vl, vm, .slice none 0 0, .bool false, .int .i64 0, .int .i64 0])) 4 rfl rfl (by kernel_rfl) (by kernel_rfl) (by kernel_rfl) (fun _ _ _ h => h) rfl (fun W hW => by (obtain ⟨p1, c1, e1⟩ := hRl; obtain ⟨p2, c2, e2⟩ := hRm; subst e1; subst e2; go_simp)) hS.base ?_; simp only [Act.put, List.setIfInBounds_toArray, List.set_cons_zero, List.set_cons_succ])
    clear hRl hRm
    (refine wpAnyH_all (rs := [5]) (by kernel_rfl) (by simp) ?_; intro i hi; simp only [List.mem_cons, List.not_mem_nil, or_false] at hi)
    subst hi
    (refine wod_of rfl rfl rfl (wp_box hS rfl rfl rfl ?_); clear hS; intro gb w1 hS; refine ⟨hS.base, ?_⟩; simp only [Act.put, List.setIfInBounds_toArray, List.set_cons_zero, List.set_cons_succ])
    (refine whd_take 6 rfl rfl (by kernel_rfl) (by kernel_rfl) (by kernel_rfl) (fun _ _ _ h => h) rfl (fun W hW => by (go_simp; try with_reducible rfl)) hS.base ?_; simp only [Act.put, List.setIfInBounds_toArray, List.set_cons_zero, List.set_cons_succ])
    (refine wpAnyH_done (by kernel_rfl) ?_ _)
    have hS := hS0.call hS
    simp only [List.cons_append, List.nil_append] at hS
    go_wp2_with (first | refine au1 (n := ?_) | (refine au2 (n := ?_); clear hS; intro w' hS) | (refine au3 (n := ?_); clear hS; intro gb w1 hS) | (refine au4 (n := ?_); clear hS; intro v1 w' hS) | ((with_reducible refine wl_guard ?_); refine stop_mem rfl rfl ?_))
    rw [Int.toNat_natCast, flat_rep str [] _ rfl, flat_rep bl false _ rfl] at hS
    go_loopw [23] (fun i wr => ∃ j : Nat, j ≤ n ∧ i = .int .i64 j ∧ St S w0 wr (.row gb [vl, vm, .slice none 0 0, .bool false, .int .i64 0, .int .i64 0] 94 (0, 0) :: .vec vl 9 1 (fillD n j).length ((fillD n j).flatMap str) :: .vec vm 4 1 (List.replicate n false).length ((List.replicate n false).flatMap bl) :: M)) (fun i _ => n - (intOf i).toNat)
    case atStart =>
      refine ⟨0, Nat.zero_le _, rfl, ?_⟩
      have e : fillD n 0 = List.replicate n [] := by simp [fillD]
      rw [e, List.length_replicate, List.length_replicate]
      exact hS.sel (by (repeat (first | exact Sel.refl | exact Sel.nil | refine Sel.cons (by (repeat (first | exact Out.here | apply Out.there))) ?_ | refine Sel.drop ?_)))
    case round =>
      clear hS hS0
      obtain ⟨j, hj, rfl, hS⟩ := hrel
      have hfl : (fillD n j).length = n := by simp [fillD]; omega
      have HFL := Lib.hid hfl
      by_cases hlt : j < n
      · have hlf : j < (fillD n j).length := by omega
        clear hfl
        go_wp2_with (first | refine au1 (n := ?_) | (refine au2 (n := ?_); clear hS; intro w' hS) | (refine au3 (n := ?_); clear hS; intro gb w1 hS) | (refine au4 (n := ?_); clear hS; intro v1 w' hS) | ((with_reducible refine wl_guard ?_); refine stop_mem rfl rfl ?_))
        have hRl : Rd wr 1 vl _ _ := St.rdx (v := vl) (e := 9) (k := 1) (n := (fillD n j).length) (xs := (fillD n j).flatMap str) hS (by (repeat (first | exact Ix.here | apply Ix.there)))
        obtain ⟨F, hA, hR, hB⟩ := St.split (A := [.vec vl 9 1 (fillD n j).length ((fillD n j).flatMap str)]) (hS.sel (by (repeat (first | exact Sel.refl | exact Sel.nil | refine Sel.cons (by (repeat (first | exact Out.here | apply Out.there))) ?_ | refine Sel.drop ?_))) : St S w0 wr ([.vec vl 9 1 (fillD n j).length ((fillD n j).flatMap str)] ++ (.row gb [vl, vm, .slice none 0 0, .bool false, .int .i64 0, .int .i64 0] 94 (0, 0) :: .vec vm 4 1 (List.replicate n false).length ((List.replicate n false).flatMap bl) :: M)))
        clear hS
        have hS := hA.drew
        clear hA
        refine wp_region_held (S := fun W => Cmp.Mod F wr W) (by kernel_rfl) ?_
        change wpAnyH _ _ _ _ _ _ _ _ wr.drew
        generalize wr.drew = w2 at hS ⊢
        (refine whd_take 0 rfl rfl (by kernel_rfl) (by kernel_rfl) (by kernel_rfl) (fun _ _ _ h => h) rfl (fun W hW => by (go_simp; try with_reducible rfl)) hS.base ?_; simp only [Act.put, List.setIfInBounds_toArray, List.set_cons_zero, List.set_cons_succ])
        (refine whd_take 1 rfl rfl (by kernel_rfl) (by kernel_rfl) (by kernel_rfl) (fun _ _ _ h => h) rfl (fun W hW => by (go_simp; try with_reducible rfl)) hS.base ?_; simp only [Act.put, List.setIfInBounds_toArray, List.set_cons_zero, List.set_cons_succ])
        (refine whd_take 2 rfl rfl (by kernel_rfl) (by kernel_rfl) (by kernel_rfl) (fun _ _ _ h => h) rfl (fun W hW => by (go_simp; try with_reducible rfl)) hS.base ?_; simp only [Act.put, List.setIfInBounds_toArray, List.set_cons_zero, List.set_cons_succ])
        (refine whd_take 3 rfl rfl (by kernel_rfl) (by kernel_rfl) (by kernel_rfl) (fun _ _ _ h => h) rfl (fun W hW => (by (first | exact a_load1 (hR W hW) rfl rfl rfl rfl (by (repeat (first | exact Ix.here | apply Ix.there))) (by rfl) | exact a_loadE rfl (by (first | exact St.rdx (hR W hW) (by (repeat (first | exact Ix.here | apply Ix.there))) | exact Reads.at (by assumption) (hR W hW) (by (repeat (first | exact List.Sublist.refl _ | apply List.Sublist.cons))) | exact St.old0 (hR W hW) (by assumption))) rfl rfl rfl (by intro _; rfl) (by (first | assumption | exact get_lt (by first | omega | (simp; omega)))) (by rfl) | exact a_loadF rfl (by (first | exact St.rdx (hR W hW) (by (repeat (first | exact Ix.here | apply Ix.there))) | exact Reads.at (by assumption) (hR W hW) (by (repeat (first | exact List.Sublist.refl _ | apply List.Sublist.cons))) | exact St.old0 (hR W hW) (by assumption))) rfl rfl rfl (by intro _; rfl) (by (first | assumption | exact get_lt (by first | omega | (simp; omega)))) (by rfl) | exact a_loadG (vs := [_, _]) rfl (by (first | exact St.rdx (hR W hW) (by (repeat (first | exact Ix.here | apply Ix.there))) | exact Reads.at (by assumption) (hR W hW) (by (repeat (first | exact List.Sublist.refl _ | apply List.Sublist.cons))) | exact St.old0 (hR W hW) (by assumption))) rfl rfl rfl (by rfl) (by intro _; rfl) (by (first | assumption | exact get_lt (by first | omega | (simp; omega)))) (by rfl) | exact a_loadG (vs := [_, _, _]) rfl (by (first | exact St.rdx (hR W hW) (by (repeat (first | exact Ix.here | apply Ix.there))) | exact Reads.at (by assumption) (hR W hW) (by (repeat (first | exact List.Sublist.refl _ | apply List.Sublist.cons))) | exact St.old0 (hR W hW) (by assumption))) rfl rfl rfl (by rfl) (by intro _; rfl) (by (first | assumption | exact get_lt (by first | omega | (simp; omega)))) (by rfl) | exact a_loadG (vs := [_, _, _, _]) rfl (by (first | exact St.rdx (hR W hW) (by (repeat (first | exact Ix.here | apply Ix.there))) | exact Reads.at (by assumption) (hR W hW) (by (repeat (first | exact List.Sublist.refl _ | apply List.Sublist.cons))) | exact St.old0 (hR W hW) (by assumption))) rfl rfl rfl (by rfl) (by intro _; rfl) (by (first | assumption | exact get_lt (by first | omega | (simp; omega)))) (by rfl) | exact a_loadG (vs := [_, _, _, _, _]) rfl (by (first | exact St.rdx (hR W hW) (by (repeat (first | exact Ix.here | apply Ix.there))) | exact Reads.at (by assumption) (hR W hW) (by (repeat (first | exact List.Sublist.refl _ | apply List.Sublist.cons))) | exact St.old0 (hR W hW) (by assumption))) rfl rfl rfl (by rfl) (by intro _; rfl) (by (first | assumption | exact get_lt (by first | omega | (simp; omega)))) (by rfl) | exact a_loadR (hR W hW) rfl rfl rfl rfl (by (repeat (first | exact Ix.here | apply Ix.there))) (by rfl)))) hS.base ?_; simp only [Act.put, List.setIfInBounds_toArray, List.set_cons_zero, List.set_cons_succ])
        (refine whd_take 4 rfl rfl (by kernel_rfl) (by kernel_rfl) (by kernel_rfl) (fun _ _ _ h => h) rfl (fun W hW => by (go_simp; try with_reducible rfl)) hS.base ?_; simp only [Act.put, List.setIfInBounds_toArray, List.set_cons_zero, List.set_cons_succ])
        (refine wpAnyH_all (rs := [5]) (by kernel_rfl) (by simp) ?_; intro i hi; simp only [List.mem_cons, List.not_mem_nil, or_false] at hi)
        subst hi
        (refine wod_of rfl rfl rfl (a_make hS rfl rfl rfl rfl (by rfl) rfl (by omega) (by omega) ?_); clear hS; intro vb w3 hS; refine ⟨hS.base, ?_⟩; simp only [Act.put, List.setIfInBounds_toArray, List.set_cons_zero, List.set_cons_succ])
        rw [B_zeros] at hS
        (refine wpAnyH_all (rs := [6]) (by kernel_rfl) (by simp) ?_; intro i hi; simp only [List.mem_cons, List.not_mem_nil, or_false] at hi)
        subst hi
        refine wod_of rfl rfl rfl (wp_run (a_toString3 rfl rfl rfl rfl rfl (by (first | exact St.rdx hS (by (repeat (first | exact Ix.here | apply Ix.there))) | exact Reads.at (by assumption) hS (by (repeat (first | exact List.Sublist.refl _ | apply List.Sublist.cons))) | exact St.old0 hS (by assumption))) (zeros_len _)) ?_)
        refine ⟨hS.base, ?_⟩
        simp only [Act.put, List.setIfInBounds_toArray, List.set_cons_zero, List.set_cons_succ]
        (refine whd_take 7 rfl rfl (by kernel_rfl) (by kernel_rfl) (by kernel_rfl) (fun _ _ _ h => h) rfl (fun W hW => (by exact a_indexW rfl rfl rfl rfl hRl (by rfl) (by omega) (by omega))) hS.base ?_; simp only [Act.put, List.setIfInBounds_toArray, List.set_cons_zero, List.set_cons_succ])
        (refine wpAnyH_all (rs := [8]) (by kernel_rfl) (by simp) ?_; intro i hi; simp only [List.mem_cons, List.not_mem_nil, or_false] at hi)
        subst hi
        refine won_of rfl rfl rfl (a_storeE (v := .string _) hS rfl rfl rfl rfl rfl (by rfl) rfl (by (repeat (first | exact Sw.here | apply Sw.there))) (by intro _; rfl) (by omega) (by rfl) ?_)
        clear hS
        intro w4 hS
        refine ⟨hS.base, ?_⟩
        (refine wpAnyH_done (by kernel_rfl) ?_ _)
        have hS := hB _ _ hS
        go_wp2_with (first | refine au1 (n := ?_) | (refine au2 (n := ?_); clear hS; intro w' hS) | (refine au3 (n := ?_); clear hS; intro gb w1 hS) | (refine au4 (n := ?_); clear hS; intro v1 w' hS) | ((with_reducible refine wl_guard ?_); refine stop_mem rfl rfl ?_))
        go_round
        case rel =>
          refine ⟨j + 1, by omega, by go_num, ?_⟩
          rw [← fillD_set hlt]
          exact hS.sel (by (repeat (first | exact Sel.refl | exact Sel.nil | refine Sel.cons (by (repeat (first | exact Out.here | apply Out.there))) ?_ | refine Sel.drop ?_)))
        case measure => simp [intOf]; omega
      · obtain rfl : j = n := by omega
        go_wp2_with (first | refine au1 (n := ?_) | (refine au2 (n := ?_); clear hS; intro w' hS) | (refine au3 (n := ?_); clear hS; intro gb w1 hS) | (refine au4 (n := ?_); clear hS; intro v1 w' hS) | ((with_reducible refine wl_guard ?_); refine stop_mem rfl rfl ?_))
        go_ret2
        have e : fillD j j = List.replicate j (zeros 384) := by simp only [fillD, Nat.sub_self]; exact List.append_nil _
        rw [e] at hS
        refine ⟨gb, rfl, ?_⟩
        have hS := hS.addNil 98 2
        exact St.packs (vl, vm, .slice none 0 0) hS
end
end Go.Proofs.Ytnjboimjlbgdiaa
