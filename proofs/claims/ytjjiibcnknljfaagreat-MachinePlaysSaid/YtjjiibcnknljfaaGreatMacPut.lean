/-
  Entries as a log.
-/
import Derived.Test.YtjjiibcnknljfaaGreatMac1
set_option linter.unusedSimpArgs false
set_option linter.unusedVariables false
set_option linter.unusedSectionVars false
set_option maxRecDepth 100000
namespace Go.Proofs.YtjjiibcnknljfaaGreat
open Go.RowKit Go.Cmp

/-- Each behind the one ahead; those that may not be as they are. -/
def putL : Mk → List En → List En
  | _, [] => []
  | m, e :: l => if (nextE m e).right = true then nextE m e :: putL (markE (nextE m e)) l else e :: putL m l
def logOf (L : List En) : List En := putL ⟨0, 0, 0⟩ (L.take 60)
theorem putL_len : ∀ (l : List En) (m : Mk), (putL m l).length = l.length
  | [], _ => rfl
  | e :: l, m => by
    unfold putL
    split
    · rw [List.length_cons, putL_len l, List.length_cons]
    · rw [List.length_cons, putL_len l, List.length_cons]
theorem logOf_len (L : List En) : (logOf L).length ≤ 60 := by unfold logOf; rw [putL_len, List.length_take]; omega
def parL (L : List En) : Prop := ∀ x ∈ L, x.parent < 18446744073709551616
theorem markE_sum {e : En} (hp : e.parent < 18446744073709551616) : (markE e).sum < 18446744073709551616 := by
  unfold markE
  split
  · exact chainOf_lt _ hp _
  · show (0 : Nat) < _; omega
theorem putL_par : ∀ (l : List En) (m : Mk), m.sum < 18446744073709551616 → parL l → parL (putL m l)
  | [], _, _, _ => by intro x hx; cases hx
  | e :: l, m, hm, h => by
    have h2 : parL l := fun x hx => h x (List.mem_cons_of_mem _ hx)
    unfold putL
    split
    · intro x hx
      rcases List.mem_cons.1 hx with rfl | hx
      · exact hm
      · exact putL_par l _ (markE_sum (e := nextE m e) hm) h2 x hx
    · intro x hx
      rcases List.mem_cons.1 hx with rfl | hx
      · exact h _ (List.mem_cons_self)
      · exact putL_par l m hm h2 x hx
theorem logOf_par {L : List En} (h : parL L) : parL (logOf L) := putL_par _ _ (by show (0 : Nat) < _; omega) (fun x hx => h x (List.mem_of_mem_take hx))

section
variable {S : List Nat} {w0 w : World} {M : List Ent}

set_option maxHeartbeats 16000000 in
theorem put_any10 (hS : St S w0 w M) {vl : Value} {L : List En} (hRd : Reads S w0 M 9 vl L.length (L.flatMap En.cells)) (hpar : parL L) :
    Calls Tryz.prog 6 #[vl] w fun e w' => ∃ u, e = .returned u ∧ St S w0 w' (.vec u 34 9 (logOf L).length ((logOf L).flatMap En.cells) :: M) := by
  have HP := Lib.hid hpar
  clear hpar
  (go_enter Tryz.func6, Tryz.ntmps6)
  go_wp2_with (first | ((with_reducible refine g_bs ?_); refine wl_of rfl ?_; refine a_build0 hS rfl rfl (by rfl) ?_; clear hS; intro v1 w' hS) | ((with_reducible refine g_alloc ?_); refine wl_of rfl ?_; refine wp_alloc hS rfl rfl rfl rfl ?_; clear hS; intro gm w1 hS) | (first | refine au1 (n := ?_) | (refine au2 (n := ?_); clear hS; intro w' hS) | (refine au3 (n := ?_); clear hS; intro gb w1 hS) | (refine au4 (n := ?_); clear hS; intro v1 w' hS) | ((with_reducible refine wl_guard ?_); refine stop_mem rfl rfl ?_)))
  obtain ⟨m0, hm0⟩ : ∃ m0 : Mk, m0 = ⟨0, 0, 0⟩ := ⟨_, rfl⟩
  go_loopw [3, 5] (fun o i wr => ∃ (j : Nat) (O : List En) (mk : Mk), j ≤ 60 ∧ j ≤ L.length ∧ O.length ≤ 60 ∧ i = .int .i64 j ∧ Hid (O ++ putL mk ((L.take 60).drop j) = logOf L ∧ mk.sum < 18446744073709551616 ∧ O.length = j) ∧ St S w0 wr (.vec o 34 9 O.length (O.flatMap En.cells) :: .row gm mk.cells 38 (0, 0) :: M)) (fun _ i _ => (60 - intOf i).toNat)
  case atStart => exact ⟨0, [], m0, by omega, by omega, by simp, rfl, Lib.hid ⟨by rw [hm0]; rfl, by rw [hm0]; show (0 : Nat) < _; omega, rfl⟩, by rw [hm0]; exact hS.pick⟩
  case round =>
    clear hS hm0
    obtain ⟨j, O, mk, hj, hjl, hol, rfl, HI, hS⟩ := hrel
    by_cases hlt : j < 60 ∧ j < L.length
    · obtain ⟨hlt, hlt2⟩ := hlt
      have hlt1 : (j : Int) < L.length := by omega
      have hlt3 : (j : Int) < 60 := by omega
      have hget := get_lt (L := L) hlt2
      obtain ⟨h1, h2, h3⟩ := HI.out
      have hpx := HP.out _ (nth_mem hlt2)
      have hstep : (L.take 60).drop j = nth L j :: (L.take 60).drop (j + 1) := by
        have hl : j < (L.take 60).length := by rw [List.length_take]; omega
        rw [List.drop_eq_getElem_cons hl]
        congr 1
        have h5 : (L.take 60)[j]? = some (nth L j) := by rw [List.getElem?_take_of_lt (by omega)]; exact hget
        rw [List.getElem?_eq_getElem hl] at h5
        exact Option.some.inj h5
      rw [hstep] at h1
      obtain ⟨x, hX⟩ : ∃ X, nth L j = X := ⟨_, rfl⟩
      rw [hX] at hget hpx h1
      clear hX hstep
      have HN := Lib.hid (fun w => entNext_any mk x w)
      obtain ⟨y, hY⟩ : ∃ Y, nextE mk x = Y := ⟨_, rfl⟩
      have hpy : y.parent < 18446744073709551616 := by rw [← hY]; exact h2
      have HR := Lib.hid (fun w => entRightL_any y w)
      have HM := Lib.hid (fun (hr : y.right = true) w => entMark_any y hpy (by have := (right_may hr).2.2.2.2; omega) w)
      have HG : Hid (y.right = true → (O ++ [y]) ++ putL (markE y) ((L.take 60).drop (j + 1)) = logOf L ∧ (markE y).sum < 18446744073709551616 ∧ (O ++ [y]).length = j + 1) := Lib.hid (fun hr => by
        unfold putL at h1
        rw [hY, if_pos hr] at h1
        exact ⟨by rw [← h1]; simp, markE_sum hpy, by simp [h3]⟩)
      have HB : Hid (y.right = false → (O ++ [x]) ++ putL mk ((L.take 60).drop (j + 1)) = logOf L ∧ mk.sum < 18446744073709551616 ∧ (O ++ [x]).length = j + 1) := Lib.hid (fun hr => by
        unfold putL at h1
        rw [hY, if_neg (by simp [hr])] at h1
        exact ⟨by rw [← h1]; simp, h2, by simp [h3]⟩)
      rw [hY] at HN
      have hol2 : O.length + 1 ≤ 60 := by omega
      clear h1 h2 h3 HI hY hpx hpy
      generalize hb : y.right = b at HR HM HG HB
      generalize markE y = my at HM HG
      obtain ⟨mo, mv, ms⟩ := mk
      obtain ⟨mo2, mv2, ms2⟩ := my
      obtain ⟨vw, po, un, par, cl, se, rq, opr, body⟩ := x
      obtain ⟨vw2, po2, un2, par2, cl2, se2, rq2, opr2, body2⟩ := y
      clear hb
      simp only [En.cells, Mk.cells] at HN HR HM hS hget ⊢
      go_wp2_with (first | refine au1 (n := ?_) | (refine au2 (n := ?_); clear hS; intro w' hS) | (refine au3 (n := ?_); clear hS; intro gb w1 hS) | (refine au4 (n := ?_); clear hS; intro v1 w' hS) | ((with_reducible refine wl_guard ?_); refine stop_mem rfl rfl ?_))
      refine region_drift0 7 hS (by kernel_rfl) ?_
      clear hS
      intro wx hR hB hS
      (refine d_take 0 rfl rfl (by kernel_rfl) (by kernel_rfl) (by kernel_rfl) (fun _ _ _ h => h) (by kernel_rfl) rfl (fun W hW => rdR) hS.base ?_; simp only [Act.put, List.setIfInBounds_toArray, List.set_cons_zero, List.set_cons_succ])
      (refine d_take 1 rfl rfl (by kernel_rfl) (by kernel_rfl) (by kernel_rfl) (fun _ _ _ h => h) (by kernel_rfl) rfl (fun W hW => (by (go_simp; try with_reducible rfl))) hS.base ?_; simp only [Act.put, List.setIfInBounds_toArray, List.set_cons_zero, List.set_cons_succ])
      (refine d_take 2 rfl rfl (by kernel_rfl) (by kernel_rfl) (by kernel_rfl) (fun _ _ _ h => h) (by kernel_rfl) rfl (fun W hW => (by (go_simp; try with_reducible rfl))) hS.base ?_; simp only [Act.put, List.setIfInBounds_toArray, List.set_cons_zero, List.set_cons_succ])
      (refine d_take 3 rfl rfl (by kernel_rfl) (by kernel_rfl) (by kernel_rfl) (fun _ _ _ h => h) (by kernel_rfl) rfl (fun W hW => (by exact a_index (u := vl) (j := (j : Int)) rfl rfl rfl rfl (Reads.at hRd (hR W hW) (by (repeat (first | exact List.Sublist.refl _ | apply List.Sublist.cons)))) (by rfl) (by omega) (by omega))) hS.base ?_; simp only [Act.put, List.setIfInBounds_toArray, List.set_cons_zero, List.set_cons_succ])
      (refine d_take 4 rfl rfl (by kernel_rfl) (by kernel_rfl) (by kernel_rfl) (fun _ _ _ h => h) (by kernel_rfl) rfl (fun W hW => (by exact a_loadG (j := j) (vs := [.int .i64 vw, .int .i64 po, .int .i64 un, .int .u64 par, .int .i64 cl, .int .i64 se, .int .i64 rq, .int .i64 opr, .string ⟨body.toArray⟩]) rfl (Reads.at hRd (hR W hW) (by (repeat (first | exact List.Sublist.refl _ | apply List.Sublist.cons)))) rfl rfl rfl (by rfl) (by intro _; rfl) hget (by rfl))) hS.base ?_; simp only [Act.put, List.setIfInBounds_toArray, List.set_cons_zero, List.set_cons_succ])
      (refine d_call 5 rfl rfl (by kernel_rfl) (by kernel_rfl) (by kernel_rfl) (fun _ _ _ h => h) (by kernel_rfl) rfl (fun W => by go_simp) hS.base (fun W hW => HN.out W) ?_; simp only [Act.put, List.setIfInBounds_toArray, List.set_cons_zero, List.set_cons_succ])
      (refine d_all (rs := [6]) (by kernel_rfl) (by simp) ?_; intro wd hd; replace hS := hS.same hd; clear hd; intro i hi; have hi := List.mem_singleton.1 hi; subst hi)
      refine wod_of rfl rfl rfl (wp_alloc hS rfl rfl rfl rfl ?_)
      clear hS
      intro gy w3 hS
      (refine ⟨fun _ => hS.base, ?_⟩; simp only [Act.put, List.setIfInBounds_toArray, List.set_cons_zero, List.set_cons_succ])
      (refine d_all (rs := [7]) (by kernel_rfl) (by simp) ?_; intro wd hd; replace hS := hS.same hd; clear hd; intro i hi; have hi := List.mem_singleton.1 hi; subst hi)
      refine won_of rfl rfl rfl (k_sta hS rfl rfl rfl (h := ?_))
      clear hS
      intro w3 hS
      simp only [List.take, List.drop, List.cons_append, List.nil_append, List.length_cons, List.length_nil] at hS
      replace hS := hB _ _ hS
      simp only [List.cons_append, List.nil_append] at hS
      (refine ⟨fun h => absurd rfl h, ?_⟩; refine d_done (by kernel_rfl) ?_ _; intro wd hd; replace hS := hS.same hd; clear hd)
      simp only [Act.put, List.setIfInBounds_toArray, List.set_cons_zero, List.set_cons_succ]
      cases b
      · have HB2 := Lib.hid (HB.out rfl)
        clear HB HG HM HN
        go_wp2_with (first | (go_at_call 12; refine (HR.out _).mono ?_; rintro e w' ⟨rfl, h⟩; replace hS := hS.call h; clear h) | ((with_reducible refine g_load ?_); refine wl_run rfl (a_loadG (j := j) (vs := [.int .i64 vw, .int .i64 po, .int .i64 un, .int .u64 par, .int .i64 cl, .int .i64 se, .int .i64 rq, .int .i64 opr, .string ⟨body.toArray⟩]) rfl (Reads.at hRd hS (by (repeat (first | exact List.Sublist.refl _ | apply List.Sublist.cons)))) rfl rfl rfl (by rfl) (by intro _; rfl) hget (by rfl)) ?_) | ((with_reducible refine g_append ?_); refine wl_of rfl ?_; refine k_app (z := (⟨vw, po, un, par, cl, se, rq, opr, body⟩ : En)) hS rfl rfl rfl rfl (h1 := by simp [En.cells, Value.oneCell']) (h := ?_); clear hS; intro v2 w' hS hv2) | (first | refine au1 (n := ?_) | (refine au2 (n := ?_); clear hS; intro w' hS) | (refine au3 (n := ?_); clear hS; intro gb w1 hS) | (refine au4 (n := ?_); clear hS; intro v1 w' hS) | ((with_reducible refine wl_guard ?_); refine stop_mem rfl rfl ?_)))
        refine ⟨⟨j + 1, _, ⟨mo, mv, ms⟩, by omega, by omega, by simp; omega, by go_num, HB2, hS.pick⟩, by simp [intOf]; omega⟩
      · have HG2 := Lib.hid (HG.out rfl)
        have HM2 := Lib.hid (HM.out rfl)
        clear HB HG HM HN
        go_wp2_with (first | (go_at_call 12; refine (HR.out _).mono ?_; rintro e w' ⟨rfl, h⟩; replace hS := hS.call h; clear h) | (go_at_call 27; refine (HM2.out _).mono ?_; rintro e w' ⟨rfl, h⟩; replace hS := hS.call h; clear h) | ((with_reducible refine g_append ?_); refine wl_of rfl ?_; refine k_app (z := (⟨vw2, po2, un2, par2, cl2, se2, rq2, opr2, body2⟩ : En)) hS rfl rfl rfl rfl (h1 := by simp [En.cells, Value.oneCell']) (h := ?_); clear hS; intro v2 w' hS hv2) | (first | refine au1 (n := ?_) | (refine au2 (n := ?_); clear hS; intro w' hS) | (refine au3 (n := ?_); clear hS; intro gb w1 hS) | (refine au4 (n := ?_); clear hS; intro v1 w' hS) | ((with_reducible refine wl_guard ?_); refine stop_mem rfl rfl ?_)))
        refine ⟨⟨j + 1, _, ⟨mo2, mv2, ms2⟩, by omega, by omega, by simp; omega, by go_num, HG2, hS.pick⟩, by simp [intOf]; omega⟩
    · have hO : O = logOf L := by
        obtain ⟨h1, _, _⟩ := HI.out
        rw [show (L.take 60).drop j = [] from List.drop_eq_nil_of_le (by rw [List.length_take]; omega)] at h1
        simpa [putL] using h1
      subst hO
      clear HI
      by_cases hlt1 : (j : Int) < L.length
      all_goals
        try (have hlt2 : ¬ (j : Int) < 60 := by omega)
        go_wp2_with (first | refine au1 (n := ?_) | (refine au2 (n := ?_); clear hS; intro w' hS) | (refine au3 (n := ?_); clear hS; intro gb w1 hS) | (refine au4 (n := ?_); clear hS; intro v1 w' hS) | ((with_reducible refine wl_guard ?_); refine stop_mem rfl rfl ?_))
        go_ret
        exact ⟨_, rfl, hS.pick⟩
end
end Go.Proofs.YtjjiibcnknljfaaGreat
