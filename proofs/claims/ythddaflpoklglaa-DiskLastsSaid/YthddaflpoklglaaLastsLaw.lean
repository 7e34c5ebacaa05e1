/-
  The statement on what lasts: the walk.
-/
import Derived.Test.YthddaflpoklglaaRdAct3
namespace Go.Cmp
open Go.RowKit
namespace Dsk
/-- After j calls: where no write of i is under way, i lasts. -/
structure Keeps (i : Int) (j : Nat) (way : Bool) (D : Dsk) : Prop where
  ok : D.Ok
  ways : D.way.length ≤ j
  steps : D.steps ≤ j
  none : way = false → ∀ x ∈ D.way, x.sector ≠ i
theorem settles_other {i : Int} (hi : 0 ≤ i) {picks : List Int} : ∀ {l : List Wr} {D : Dsk} {k : Nat}, (∀ x ∈ l, 0 ≤ x.sector ∧ x.sector ≠ i) → nth (D.settles picks k l).lasts i.toNat = nth D.lasts i.toNat
  | [], D, k, _ => rfl
  | x :: l, D, k, hl => by
    obtain ⟨x1, x2⟩ := hl x (by simp)
    have h := settles_other hi (picks := picks) (l := l) (D := D.settle x (pickAt picks k)) (k := k + 1) (fun y hy => hl y (by simp [hy]))
    refine Eq.trans h ?_
    unfold settle
    split
    · rfl
    · simp only
      rw [nth_set, if_neg (by omega)]
theorem under_none {i : Int} : ∀ {l : List Wr}, (∀ x ∈ l, x.sector ≠ i) → under i l = none
  | [], _ => rfl
  | x :: l, hl => by
    have h := under_none (l := l) (fun y hy => hl y (by simp [hy]))
    simp only [under, h]
    rw [if_neg (hl x (by simp))]
theorem lasts_same {D : Dsk} (h : D.Ok) {i : Int} (hw : ∀ x ∈ D.way, x.sector ≠ i) (ho : D.off = false) (picks : List Int) : (D.cut.2.start picks).1 = 0 ∧ (D.cut.2.start picks).2.read i = D.read i := by
  have ec : D.cut = (0, { D with off := true, fuse := 0 }) := by unfold cut; rw [if_neg (by rw [ho]; simp)]
  have h2 := (cut_next h).ok
  rw [ec] at h2 ⊢
  simp only at h2 ⊢
  obtain ⟨s1, s2, s3, s4⟩ := settles_ok (picks := picks) (k := 0) (l := D.way) h2 h.way
  have es : ({ D with off := true, fuse := 0 } : Dsk).start picks = (0, { ({ D with off := true, fuse := 0 } : Dsk).settles picks 0 D.way with way := [], off := false }) := by unfold start; rw [if_neg (by simp)]
  rw [es]
  refine ⟨rfl, ?_⟩
  simp only
  by_cases hd : D.is i = true
  · obtain ⟨i1, i2⟩ := is_lt hd
    have hk := settles_other i1 (picks := picks) (l := D.way) (D := { D with off := true, fuse := 0 }) (k := 0) (fun x hx => ⟨(h.way x hx).1, hw x hx⟩)
    have hd2 : ({ ({ D with off := true, fuse := 0 } : Dsk).settles picks 0 D.way with way := [], off := false } : Dsk).is i = true := by
      simp only [is, s2]
      exact hd
    unfold read
    rw [if_neg (by rw [hd2]; simp), if_neg (by simp), if_neg (by rw [hd]; simp), if_neg (by rw [ho]; simp), under_none hw]
    simp only [under, Option.getD_none, hk]
  · have hd' : D.is i = false := by simpa using hd
    have hd2 : ({ ({ D with off := true, fuse := 0 } : Dsk).settles picks 0 D.way with way := [], off := false } : Dsk).is i = false := by
      simp only [is, s2]
      exact hd'
    unfold read
    rw [if_pos hd2, if_pos hd']
end Dsk
end Go.Cmp
namespace Go.Proofs.Ythddaflpoklglaa
open Go.RowKit Go.Cmp

theorem act_way {D : Dsk} (x : Act3) : (∀ y ∈ (act D x).2.way, y ∈ D.way ∨ (x.kind = 1 ∧ y.sector = x.i ∧ (act D x).1 = 0)) ∧ (x.kind = 2 ∨ x.kind = 5 → (act D x).1 = 0 → (act D x).2.way = []) := by
  obtain ⟨kind, i, pos, n, c, text, picks⟩ := x
  have hst : D.step.2.way = D.way := by unfold Dsk.step; split <;> rfl
  unfold act
  simp only
  split
  · rename_i h1
    refine ⟨?_, fun h => by omega⟩
    intro y hy
    unfold Dsk.write at hy ⊢
    split at hy
    · exact .inl hy
    · split at hy
      · exact .inl hy
      · split at hy
        · rw [hst] at hy; exact .inl hy
        · rename_i c1 c2 c3
          rw [if_neg c1, if_neg c2, if_neg c3]
          simp only at hy ⊢
          rcases List.mem_append.1 hy with hy | hy
          · exact .inl hy
          · simp only [List.mem_singleton] at hy
            subst hy
            exact .inr ⟨h1, rfl, trivial⟩
  split
  · unfold Dsk.flush
    split
    · exact ⟨fun y hy => .inl hy, fun _ h => by simp at h⟩
    · split
      · exact ⟨fun y hy => .inl (by rw [hst] at hy; exact hy), fun _ h => by simp at h⟩
      · exact ⟨fun y hy => by simp at hy, fun _ _ => rfl⟩
  split
  · refine ⟨fun y hy => .inl ?_, fun h => by omega⟩
    unfold Dsk.setFuse at hy
    split at hy <;> exact hy
  split
  · refine ⟨fun y hy => .inl ?_, fun h => by omega⟩
    unfold Dsk.cut at hy
    split at hy <;> exact hy
  split
  · unfold Dsk.start
    split
    · exact ⟨fun y hy => .inl hy, fun _ h => by simp at h⟩
    · exact ⟨fun y hy => by simp at hy, fun _ _ => rfl⟩
  split
  · refine ⟨fun y hy => .inl ?_, fun h => by omega⟩
    unfold Dsk.rot at hy
    split at hy
    · exact hy
    · split at hy
      · exact hy
      · split at hy <;> exact hy
  · exact ⟨fun y hy => .inl hy, fun h => by omega⟩
theorem keeps_act {i : Int} {j : Nat} {way : Bool} {D : Dsk} (h : D.Keeps i j way) (hj : j < 60) (x : Act3) (hx : x.Ok) :
    (act D x).2.Keeps i (j + 1) true ∧ (x.kind = 2 ∨ x.kind = 5 → (act D x).1 = 0 → (act D x).2.Keeps i (j + 1) false) ∧ (¬ (x.kind = 1 ∧ x.i = i ∧ (act D x).1 = 0) → (act D x).2.Keeps i (j + 1) way) := by
  have hw := h.ways
  have hs := h.steps
  have hn := act_next h.ok x hx (by omega) (by omega)
  have nw := hn.way
  have ns := hn.steps
  obtain ⟨a1, a2⟩ := act_way (D := D) x
  refine ⟨⟨hn.ok, by omega, by omega, fun h => by cases h⟩, fun hk he => ⟨hn.ok, by omega, by omega, fun _ y hy => by rw [a2 hk he] at hy; simp at hy⟩, fun hc => ⟨hn.ok, by omega, by omega, fun hf y hy hyi => ?_⟩⟩
  rcases a1 y hy with h1 | ⟨h1, h2, h3⟩
  · exact h.none hf y h1 hyi
  · exact hc ⟨h1, h2.symm.trans hyi, h3⟩

set_option maxRecDepth 100000 in
set_option maxHeartbeats 8000000 in
theorem law_lasts (sectors i : Int) (vl vp : Value) (L : List (Act3 × Value)) (picks : List Int) (w : World) (hL : Rd w 7 vl L.length (L.flatMap actCells)) (hok : ∀ x ∈ L, ActOk w x) (hP : Rd w 1 vp picks.length (picks.flatMap num)) (hpk : ∀ p ∈ picks, p ≤ 9223372036854775807) :
    Calls Try.prog 5 #[.int .i64 sectors, vl, .int .i64 i, vp] w fun e w' => e = .returned (.bool true) ∧ St [] w w' [] := by
  have hS := St.init w
  have HOK := Lib.hid hok
  have HPK := Lib.hid hpk
  clear hok hpk
  by_cases hs : sectors < 1 ∨ 64 < sectors
  · (go_enter Try.func5, Try.ntmps5)
    go_wp2_with (first | (go_at_call 9; refine (law_awake _).mono ?_; rintro e w' ⟨rfl, h⟩; replace hS := hS.call h; clear h) | (go_at_call 10; refine (disk_new_bad _ hs).mono ?_; rintro e w' ⟨rfl, rfl⟩) | fail)
    go_ret
    exact ⟨rfl, hS.nil⟩
  obtain ⟨n, rfl⟩ := Int.eq_ofNat_of_zero_le (show 0 ≤ sectors by omega)
  have ok0 := newDsk_ok n (by omega)
  have K0 : Hid (Dsk.Keeps i 0 false (newDsk n)) := Lib.hid ⟨ok0, by simp [newDsk], by simp [newDsk], fun _ => by simp [newDsk]⟩
  clear ok0
  obtain ⟨D0, hD0⟩ : ∃ D0, newDsk n = D0 := ⟨_, rfl⟩
  rw [hD0] at K0
  (go_enter Try.func5, Try.ntmps5)
  go_wp2_with (first | (go_at_call 9; refine (law_awake _).mono ?_; rintro e w' ⟨rfl, h⟩; replace hS := hS.call h; clear h) | fail)
  refine (disk_new n (by omega) (by omega) hS).mono ?_
  clear hS
  rintro e w1 ⟨g, rfl, hS⟩
  rw [hD0] at hS
  clear hD0
  go_wp2_with (fail)
  go_loopw [11, 12] (fun b k wr => ∃ (j : Nat) (way : Bool) (D : Dsk), j ≤ 60 ∧ j ≤ L.length ∧ k = .int .i64 j ∧ b = .bool way ∧ Hid (Dsk.Keeps i j way D) ∧ St [] w wr (disk g D :: ([] ++ []))) (fun _ k _ => (60 - intOf k).toNat)
  case atStart => exact ⟨0, false, D0, by omega, by omega, rfl, rfl, K0, hS⟩
  case round =>
    clear hS
    obtain ⟨j, way, D, hj, hjl, rfl, rfl, HK, hS⟩ := hrel
    by_cases hlt : j < 60 ∧ j < L.length
    · obtain ⟨hlt, hlt2⟩ := hlt
      have hlt1 : (j : Int) < L.length := by omega
      have hget := get_lt (L := L) hlt2
      have hx := HOK.out _ (nth_mem hlt2)
      obtain ⟨X, hX⟩ : ∃ X, nth L j = X := ⟨_, rfl⟩
      rw [hX] at hget hx
      clear hX
      obtain ⟨x, vx⟩ := X
      obtain ⟨x1, x2⟩ := hx
      simp only at x1 x2
      obtain ⟨k1, k2, k3⟩ := keeps_act HK.out hlt x x1
      have hR := Reads.old (M := ([] ++ [] : List Ent)) x2
      have hd := fun (wr : World) (hS : St [] w wr (disk g D :: ([] ++ []))) => law_does hS HK.out.ok x x1 vx hR
      obtain ⟨Y, hY⟩ : ∃ Y, act D x = Y := ⟨_, rfl⟩
      rw [hY] at k1 k2 k3
      simp only [hY] at hd
      obtain ⟨e1, D1⟩ := Y
      simp only at k1 k2 k3 hd
      clear hY x1 x2 hR
      obtain ⟨kind, i1, pos, m, c, text, pk⟩ := x
      simp only [Act3.cells] at k1 k2 k3 hd
      have HD := Lib.hid hd
      have K1 := Lib.hid k1
      have K2 := Lib.hid k2
      have K3 := Lib.hid k3
      clear hd k1 k2 k3
      by_cases hq : ¬ kind = 1 ∧ ¬ kind = 2
      · obtain ⟨hk1, hk2⟩ := hq
        have hk3 : (kind == 2) = false := by simp [hk2]
        have HQ := Lib.hid hk1
        go_wp2_with (first | (go_at_call 24; refine (HD.out _ hS).mono ?_; clear hS; rintro e w' ⟨rfl, hS⟩) | ((with_reducible refine g_len ?_); refine wl_run rfl (a_len rfl rfl rfl (hS.old0 hL)) ?_) | ((with_reducible refine g_index ?_); refine wl_run rfl (a_index rfl rfl rfl rfl (hS.old0 hL) (by rfl) (by omega) (by omega)) ?_) | ((with_reducible refine g_field ?_); refine wl_run rfl (a_field rfl rfl (hS.old0 hL) (by omega) rfl rfl rfl (by rfl)) ?_) | ((with_reducible refine g_load ?_); refine wl_run rfl (a_loadF rfl (hS.old0 hL) rfl rfl rfl (by intro _; rfl) hget (by rfl)) ?_) | ((with_reducible refine g_load ?_); refine wl_run rfl (a_loadG (vs := [_, _, _, _, _, _, _]) rfl (hS.old0 hL) rfl rfl rfl (by rfl) (by intro _; rfl) hget (by rfl)) ?_) | ((with_reducible refine wl_guard ?_); refine stop_mem rfl rfl ?_))
        all_goals try unfold Stop
        all_goals
          first
          | (refine ⟨⟨j + 1, _, D1, by omega, by omega, by go_num, rfl, ?_, hS⟩, by simp [intOf]; omega⟩
             clear hget HD hS HOK HPK hL hP
             first | exact K1 | exact Lib.hid (K3.out (by first | omega | (intro hq; simp_all; done))) | exact Lib.hid (K2.out (by first | omega | (simp_all; done)) (by first | omega | (simp_all; done))))
          | (exfalso; have := HQ.out; omega)
      · have HQ := Lib.hid hq
        clear hq
        go_wp2_with (first | (go_at_call 24; refine (HD.out _ hS).mono ?_; clear hS; rintro e w' ⟨rfl, hS⟩) | ((with_reducible refine g_len ?_); refine wl_run rfl (a_len rfl rfl rfl (hS.old0 hL)) ?_) | ((with_reducible refine g_index ?_); refine wl_run rfl (a_index rfl rfl rfl rfl (hS.old0 hL) (by rfl) (by omega) (by omega)) ?_) | ((with_reducible refine g_field ?_); refine wl_run rfl (a_field rfl rfl (hS.old0 hL) (by omega) rfl rfl rfl (by rfl)) ?_) | ((with_reducible refine g_load ?_); refine wl_run rfl (a_loadF rfl (hS.old0 hL) rfl rfl rfl (by intro _; rfl) hget (by rfl)) ?_) | ((with_reducible refine g_load ?_); refine wl_run rfl (a_loadG (vs := [_, _, _, _, _, _, _]) rfl (hS.old0 hL) rfl rfl rfl (by rfl) (by intro _; rfl) hget (by rfl)) ?_) | ((with_reducible refine wl_guard ?_); refine stop_mem rfl rfl ?_))
        all_goals try unfold Stop
        all_goals
          first
          | (refine ⟨⟨j + 1, _, D1, by omega, by omega, by go_num, rfl, ?_, hS⟩, by simp [intOf]; omega⟩
             clear hget HD hS HOK HPK hL hP
             first | exact K1 | exact Lib.hid (K3.out (by first | omega | (intro hq; simp_all; done))) | exact Lib.hid (K2.out (by first | omega | (simp_all; done)) (by first | omega | (simp_all; done))))
          | (exfalso; have := HQ.out; omega)
    · by_cases hlt1 : (j : Int) < L.length
      all_goals
        try (have hlt2 : ¬ (j : Int) < 60 := by omega)
        cases way with
        | true =>
          go_wp2_with (first | ((with_reducible refine g_load ?_); refine k_read rfl (h := ?_)) | ((with_reducible refine g_len ?_); refine k_len rfl (h := ?_)) | ((with_reducible refine g_index ?_); refine k_idx rfl (h := ?_)) | ((with_reducible refine g_field ?_); refine k_fld rfl (h := ?_)) | ((with_reducible refine g_store ?_); refine wl_of rfl ?_; first | (first | (refine k_ste (v := .int _ _) hS rfl rfl rfl (h := ?_); clear hS; intro w' hS) | (refine k_ste (v := .bool _) hS rfl rfl rfl (h := ?_); clear hS; intro w' hS) | (refine k_ste (v := .string _) hS rfl rfl rfl (h := ?_); clear hS; intro w' hS)) | (refine k_sta hS rfl rfl rfl (h := ?_); clear hS; intro w' hS; simp only [List.take, List.drop, List.cons_append, List.nil_append, List.length_cons, List.length_nil] at hS) | (first | ((first | (refine k_st1 (v := .int _ _) hS rfl rfl rfl (h := ?_)) | (refine k_st1 (v := .bool _) hS rfl rfl rfl (h := ?_)) | (refine k_st1 (v := .string _) hS rfl rfl rfl (h := ?_)) | (refine k_st1 (v := .slice none 0 0) hS rfl rfl rfl (h := ?_))); clear hS; intro w' hS; simp only [List.set_cons_zero, List.set_cons_succ] at hS) | ((refine k_st1  hS rfl rfl rfl (h := ?_)); clear hS; intro w' hS; simp only [List.set_cons_zero, List.set_cons_succ] at hS; simp only [Act.eval, Array.getD_eq_getD_getElem?, List.getElem?_toArray, List.getElem?_cons_succ, List.getElem?_cons_zero, Option.getD_some] at hS))) | ((with_reducible refine g_alloc ?_); refine wl_of rfl ?_; refine wp_alloc hS rfl rfl rfl rfl ?_; clear hS; intro gb w1 hS) | ((with_reducible refine g_box ?_); refine wl_of rfl ?_; refine wp_box hS rfl rfl rfl ?_; clear hS; intro gb w1 hS) | ((with_reducible refine g_bs ?_); refine wl_of rfl ?_; (first | refine a_build1 (v := .int _ _) hS rfl rfl rfl rfl (by rfl) (by simp) ?_ | refine a_build1 (v := .string _) hS rfl rfl rfl rfl (by rfl) (by simp) ?_ | refine a_build1 (v := .bool _) hS rfl rfl rfl rfl (by rfl) (by simp) ?_ | refine a_build1 (v := .agg _) hS rfl rfl rfl rfl (by rfl) (by simp) ?_ | refine a_build1  hS rfl rfl rfl rfl (by rfl) (by simp) ?_); clear hS; intro v1 w' hS; simp only [List.length_cons, List.length_nil, Nat.zero_add] at hS; try simp only [Nat.reduceAdd] at hS) | ((with_reducible refine g_cut ?_); refine k_str rfl (h := ?_)) | ((with_reducible refine g_indexV ?_); refine k_six rfl (h := ?_)) | ((with_reducible refine g_bin ?_); refine k_cat rfl (h := ?_)) | ((with_reducible refine g_conv ?_); refine k_tos rfl (h := ?_)) | ((with_reducible refine wl_guard ?_); refine stop_mem rfl rfl ?_))
          go_ret
          exact ⟨rfl, hS.nil⟩
        | false =>
          by_cases ho : D.off = true
          · go_wp2_with (first | (go_at_call 21; refine (disk_on hS).mono ?_; rintro e w' ⟨rfl, rfl⟩) | (first | ((with_reducible refine g_load ?_); refine k_read rfl (h := ?_)) | ((with_reducible refine g_len ?_); refine k_len rfl (h := ?_)) | ((with_reducible refine g_index ?_); refine k_idx rfl (h := ?_)) | ((with_reducible refine g_field ?_); refine k_fld rfl (h := ?_)) | ((with_reducible refine g_store ?_); refine wl_of rfl ?_; first | (first | (refine k_ste (v := .int _ _) hS rfl rfl rfl (h := ?_); clear hS; intro w' hS) | (refine k_ste (v := .bool _) hS rfl rfl rfl (h := ?_); clear hS; intro w' hS) | (refine k_ste (v := .string _) hS rfl rfl rfl (h := ?_); clear hS; intro w' hS)) | (refine k_sta hS rfl rfl rfl (h := ?_); clear hS; intro w' hS; simp only [List.take, List.drop, List.cons_append, List.nil_append, List.length_cons, List.length_nil] at hS) | (first | ((first | (refine k_st1 (v := .int _ _) hS rfl rfl rfl (h := ?_)) | (refine k_st1 (v := .bool _) hS rfl rfl rfl (h := ?_)) | (refine k_st1 (v := .string _) hS rfl rfl rfl (h := ?_)) | (refine k_st1 (v := .slice none 0 0) hS rfl rfl rfl (h := ?_))); clear hS; intro w' hS; simp only [List.set_cons_zero, List.set_cons_succ] at hS) | ((refine k_st1  hS rfl rfl rfl (h := ?_)); clear hS; intro w' hS; simp only [List.set_cons_zero, List.set_cons_succ] at hS; simp only [Act.eval, Array.getD_eq_getD_getElem?, List.getElem?_toArray, List.getElem?_cons_succ, List.getElem?_cons_zero, Option.getD_some] at hS))) | ((with_reducible refine g_alloc ?_); refine wl_of rfl ?_; refine wp_alloc hS rfl rfl rfl rfl ?_; clear hS; intro gb w1 hS) | ((with_reducible refine g_box ?_); refine wl_of rfl ?_; refine wp_box hS rfl rfl rfl ?_; clear hS; intro gb w1 hS) | ((with_reducible refine g_bs ?_); refine wl_of rfl ?_; (first | refine a_build1 (v := .int _ _) hS rfl rfl rfl rfl (by rfl) (by simp) ?_ | refine a_build1 (v := .string _) hS rfl rfl rfl rfl (by rfl) (by simp) ?_ | refine a_build1 (v := .bool _) hS rfl rfl rfl rfl (by rfl) (by simp) ?_ | refine a_build1 (v := .agg _) hS rfl rfl rfl rfl (by rfl) (by simp) ?_ | refine a_build1  hS rfl rfl rfl rfl (by rfl) (by simp) ?_); clear hS; intro v1 w' hS; simp only [List.length_cons, List.length_nil, Nat.zero_add] at hS; try simp only [Nat.reduceAdd] at hS) | ((with_reducible refine g_cut ?_); refine k_str rfl (h := ?_)) | ((with_reducible refine g_indexV ?_); refine k_six rfl (h := ?_)) | ((with_reducible refine g_bin ?_); refine k_cat rfl (h := ?_)) | ((with_reducible refine g_conv ?_); refine k_tos rfl (h := ?_)) | ((with_reducible refine wl_guard ?_); refine stop_mem rfl rfl ?_)))
            go_ret
            exact ⟨rfl, hS.nil⟩
          · have ho' : D.off = false := by simpa using ho
            obtain ⟨s1, s2⟩ := Dsk.lasts_same HK.out.ok (HK.out.none rfl) ho' picks
            have n1 := (Dsk.cut_next HK.out.ok).ok
            have n2 := (Dsk.start_next n1 picks).ok
            have hc := fun (wr : World) (hS : St [] w wr (disk g D :: ([] ++ []))) => disk_cut hS
            have hr := fun (wr : World) (hS : St [] w wr (disk g D :: ([] ++ []))) => disk_read hS HK.out.ok i
            obtain ⟨⟨RA, RB⟩, hR⟩ : ∃ R, D.read i = R := ⟨_, rfl⟩
            obtain ⟨D1, hD1⟩ : ∃ D1, D.cut.2 = D1 := ⟨_, rfl⟩
            rw [hR] at s2
            simp only [hR] at hr
            rw [hD1] at s1 s2 n1 n2
            simp only [hD1] at hc
            have hst := fun (wr : World) (hS : St [] w wr (disk g D1 :: ([] ++ []))) => disk_start hS n1 vp picks (Reads.old hP) HPK.out
            obtain ⟨⟨YA, D2⟩, hY⟩ : ∃ Y, D1.start picks = Y := ⟨_, rfl⟩
            rw [hY] at s1 s2 n2
            simp only [hY] at hst
            simp only at s1 s2 n2
            subst s1
            have hr2 := fun (wr : World) (hS : St [] w wr (disk g D2 :: ([] ++ []))) => disk_read hS n2 i
            simp only [s2] at hr2
            have HC := Lib.hid hc
            have HR := Lib.hid hr
            have HST := Lib.hid hst
            have HR2 := Lib.hid hr2
            clear hc hr hst hr2 s2 n1 n2 hR hD1 hY
            go_wp2_with (first | (go_at_call 21; refine (disk_on hS).mono ?_; rintro e w' ⟨rfl, rfl⟩) | (first | ((with_reducible refine g_load ?_); refine k_read rfl (h := ?_)) | ((with_reducible refine g_len ?_); refine k_len rfl (h := ?_)) | ((with_reducible refine g_index ?_); refine k_idx rfl (h := ?_)) | ((with_reducible refine g_field ?_); refine k_fld rfl (h := ?_)) | ((with_reducible refine g_store ?_); refine wl_of rfl ?_; first | (first | (refine k_ste (v := .int _ _) hS rfl rfl rfl (h := ?_); clear hS; intro w' hS) | (refine k_ste (v := .bool _) hS rfl rfl rfl (h := ?_); clear hS; intro w' hS) | (refine k_ste (v := .string _) hS rfl rfl rfl (h := ?_); clear hS; intro w' hS)) | (refine k_sta hS rfl rfl rfl (h := ?_); clear hS; intro w' hS; simp only [List.take, List.drop, List.cons_append, List.nil_append, List.length_cons, List.length_nil] at hS) | (first | ((first | (refine k_st1 (v := .int _ _) hS rfl rfl rfl (h := ?_)) | (refine k_st1 (v := .bool _) hS rfl rfl rfl (h := ?_)) | (refine k_st1 (v := .string _) hS rfl rfl rfl (h := ?_)) | (refine k_st1 (v := .slice none 0 0) hS rfl rfl rfl (h := ?_))); clear hS; intro w' hS; simp only [List.set_cons_zero, List.set_cons_succ] at hS) | ((refine k_st1  hS rfl rfl rfl (h := ?_)); clear hS; intro w' hS; simp only [List.set_cons_zero, List.set_cons_succ] at hS; simp only [Act.eval, Array.getD_eq_getD_getElem?, List.getElem?_toArray, List.getElem?_cons_succ, List.getElem?_cons_zero, Option.getD_some] at hS))) | ((with_reducible refine g_alloc ?_); refine wl_of rfl ?_; refine wp_alloc hS rfl rfl rfl rfl ?_; clear hS; intro gb w1 hS) | ((with_reducible refine g_box ?_); refine wl_of rfl ?_; refine wp_box hS rfl rfl rfl ?_; clear hS; intro gb w1 hS) | ((with_reducible refine g_bs ?_); refine wl_of rfl ?_; (first | refine a_build1 (v := .int _ _) hS rfl rfl rfl rfl (by rfl) (by simp) ?_ | refine a_build1 (v := .string _) hS rfl rfl rfl rfl (by rfl) (by simp) ?_ | refine a_build1 (v := .bool _) hS rfl rfl rfl rfl (by rfl) (by simp) ?_ | refine a_build1 (v := .agg _) hS rfl rfl rfl rfl (by rfl) (by simp) ?_ | refine a_build1  hS rfl rfl rfl rfl (by rfl) (by simp) ?_); clear hS; intro v1 w' hS; simp only [List.length_cons, List.length_nil, Nat.zero_add] at hS; try simp only [Nat.reduceAdd] at hS) | ((with_reducible refine g_cut ?_); refine k_str rfl (h := ?_)) | ((with_reducible refine g_indexV ?_); refine k_six rfl (h := ?_)) | ((with_reducible refine g_bin ?_); refine k_cat rfl (h := ?_)) | ((with_reducible refine g_conv ?_); refine k_tos rfl (h := ?_)) | ((with_reducible refine wl_guard ?_); refine stop_mem rfl rfl ?_)))
            refine (HR.out _ hS).mono ?_
            clear hS
            rintro e w2 ⟨rfl, hS⟩
            go_wp2_with (fail)
            refine (HC.out _ hS).mono ?_
            clear hS
            rintro e w3 ⟨rfl, hS⟩
            go_wp2_with (fail)
            refine (HST.out _ hS).mono ?_
            clear hS
            rintro e w4 ⟨rfl, hS⟩
            go_wp2_with (fail)
            refine (HR2.out _ hS).mono ?_
            clear hS
            rintro e w5 ⟨rfl, hS⟩
            go_wp2_with (fail)
            go_ret
            exact ⟨rfl, hS.nil⟩
end Go.Proofs.Ythddaflpoklglaa
