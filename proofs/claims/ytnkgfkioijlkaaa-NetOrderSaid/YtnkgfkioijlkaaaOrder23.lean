/-
  The statement on the order of letters: the walk.
-/
import Derived.Test.YtnkgfkioijlkaaaPlays23Law
namespace Go.Cmp
open Go.RowKit
theorem place_at {N : Nt} {m : Nat} (h : m < N.all.length) : N.place (m : Int) = (nth N.all m).id := by
  unfold Nt.place Nt.at'
  have e : Int.tmod (m : Int) (N.all.length : Int) = m := Int.tmod_eq_of_lt (by omega) (by omega)
  rw [if_neg (by omega), e, if_neg (by omega), Int.toNat_natCast]
theorem place_again {N : Nt} {m : Nat} (h : m < N.all.length) : N.place ((m : Int) + (N.all.length : Int)) = (nth N.all m).id := by
  unfold Nt.place Nt.at'
  have e : Int.tmod ((m : Int) + (N.all.length : Int)) (N.all.length : Int) = m := by
    rw [Int.tmod_eq_emod_of_nonneg (by omega), Int.add_emod_right, Int.emod_eq_of_lt (by omega) (by omega)]
  rw [if_neg (by omega), e, if_neg (by omega), Int.toNat_natCast]
theorem look_at {N : Nt} (hN : N.Good) {m : Nat} (h : m < N.all.length) : N.look (nth N.all m).id = (nth N.all m, true) := by
  have e := pos_inc hN.inc h rfl
  unfold Nt.look
  rw [e, if_neg (by omega), Int.toNat_natCast]
def lastOf (N : Nt) (m : Nat) : Int := if m = 0 then 0 else (nth N.all (m - 1)).id
theorem last_lt {N : Nt} (hN : N.Good) {m : Nat} (h : m < N.all.length) : lastOf N m < (nth N.all m).id := by
  unfold lastOf
  split
  · have := (hN.ids _ (nth_mem h)).1; omega
  · exact hN.inc (m - 1) m (by omega) h
theorem last_succ (N : Nt) (m : Nat) : lastOf N (m + 1) = (nth N.all m).id := by
  unfold lastOf
  rw [if_neg (by omega), Nat.add_sub_cancel]
end Go.Cmp
namespace Go.Proofs.Ytnkgfkioijlkaaa
open Go.RowKit Go.Cmp

set_option maxRecDepth 100000 in
set_option maxHeartbeats 32000000 in
theorem law_order23 (vl : Value) (L : List Act23) (w : World) (hL : Rd w 9 vl L.length (L.flatMap Act23.cells)) (hok : ∀ x ∈ L, x.Ok) :
    Calls Try.prog 6 #[vl] w fun e w' => e = .returned (.bool true) ∧ St [] w w' [] := by
  have hS := St.init w
  have HOK := Lib.hid hok
  clear hok
  have K0 : Hid (Sent 0 ⟨0, []⟩) := Lib.hid ⟨⟨⟨by simp, by simp, by simp⟩, fun i j _ h => by simp at h, by simp, by simp⟩, by simp⟩
  (go_enter Try.func6, Try.ntmps6)
  go_wp2_with (first | (go_at_call 7; refine (law_awake _).mono ?_; rintro e w' ⟨rfl, h⟩; replace hS := hS.call h; clear h) | (go_at_call 8; refine (net_new hS).mono ?_; clear hS; rintro e w' ⟨g, rfl, hS⟩) | (first | ((with_reducible refine g_load ?_); refine k_read rfl (h := ?_)) | ((with_reducible refine g_len ?_); refine k_len rfl (h := ?_)) | ((with_reducible refine g_index ?_); refine k_idx rfl (h := ?_)) | ((with_reducible refine g_field ?_); refine k_fld rfl (h := ?_)) | ((with_reducible refine g_store ?_); refine wl_of rfl ?_; first | (refine k_sta hS rfl rfl rfl (h := ?_); clear hS; intro w' hS; simp only [List.take, List.drop, List.cons_append, List.nil_append, List.length_cons, List.length_nil] at hS) | (first | ((first | (refine k_st1 (v := .int _ _) hS rfl rfl rfl (h := ?_)) | (refine k_st1 (v := .bool _) hS rfl rfl rfl (h := ?_)) | (refine k_st1 (v := .string _) hS rfl rfl rfl (h := ?_)) | (refine k_st1 (v := .slice none 0 0) hS rfl rfl rfl (h := ?_))); clear hS; intro w' hS; simp only [List.set_cons_zero, List.set_cons_succ] at hS) | ((refine k_st1  hS rfl rfl rfl (h := ?_)); clear hS; intro w' hS; simp only [List.set_cons_zero, List.set_cons_succ] at hS; simp only [Act.eval, Array.getD_eq_getD_getElem?, List.getElem?_toArray, List.getElem?_cons_succ, List.getElem?_cons_zero, Option.getD_some] at hS)) | (first | (refine k_ste (v := .int _ _) hS rfl rfl rfl (h := ?_); clear hS; intro w' hS) | (refine k_ste (v := .bool _) hS rfl rfl rfl (h := ?_); clear hS; intro w' hS) | (refine k_ste (v := .string _) hS rfl rfl rfl (h := ?_); clear hS; intro w' hS))) | ((with_reducible refine g_alloc ?_); refine wl_of rfl ?_; refine wp_alloc hS rfl rfl rfl rfl ?_; clear hS; intro gb w1 hS) | ((with_reducible refine g_box ?_); refine wl_of rfl ?_; refine wp_box hS rfl rfl rfl ?_; clear hS; intro gb w1 hS) | ((with_reducible refine g_bs ?_); refine wl_of rfl ?_; (first | refine a_build1 (v := .int _ _) hS rfl rfl rfl rfl (by rfl) (by simp) ?_ | refine a_build1 (v := .string _) hS rfl rfl rfl rfl (by rfl) (by simp) ?_ | refine a_build1 (v := .bool _) hS rfl rfl rfl rfl (by rfl) (by simp) ?_ | refine a_build1 (v := .agg _) hS rfl rfl rfl rfl (by rfl) (by simp) ?_ | refine a_build1  hS rfl rfl rfl rfl (by rfl) (by simp) ?_); clear hS; intro v1 w' hS; simp only [List.length_cons, List.length_nil, Nat.zero_add] at hS; try simp only [Nat.reduceAdd] at hS) | ((with_reducible refine g_cut ?_); refine k_str rfl (h := ?_)) | ((with_reducible refine g_indexV ?_); refine k_six rfl (h := ?_)) | ((with_reducible refine g_bin ?_); refine k_cat rfl (h := ?_)) | ((with_reducible refine g_conv ?_); refine k_tos rfl (h := ?_)) | ((with_reducible refine wl_guard ?_); refine stop_mem rfl rfl ?_)))
  go_loopw [4] (fun k wr => ∃ (j : Nat) (N : Nt), j ≤ 80 ∧ j ≤ L.length ∧ k = .int .i64 j ∧ Hid (Sent j N) ∧ St [] w wr [net g N]) (fun k _ => (80 - intOf k).toNat)
  case atStart => exact ⟨0, ⟨0, []⟩, by omega, by omega, rfl, K0, hS.pick⟩
  case round =>
    clear hS K0
    obtain ⟨j, N, hj, hjl, rfl, HK, hS⟩ := hrel
    by_cases hlt : j < 80 ∧ j < L.length
    · obtain ⟨hlt, hlt2⟩ := hlt
      have hlt1 : (j : Int) < L.length := by omega
      have hlt3 : (j : Int) < 80 := by omega
      have hget := get_lt (L := L) hlt2
      have hx := HOK.out _ (nth_mem hlt2)
      obtain ⟨x, hX⟩ : ∃ X, nth L j = X := ⟨_, rfl⟩
      rw [hX] at hget hx
      clear hX
      have C := Lib.hid (calls23 (w := w) (g := g) (g2 := 0) HK.out.1 hx)
      obtain ⟨k, hk⟩ : ∃ k, who N x = k := ⟨_, rfl⟩
      rw [hk] at C
      have DN := Lib.hid (sent_next HK.out (by omega) (deed_next HK.out.1 x k))
      obtain ⟨N2, hN2⟩ : ∃ N2, (deed N x k).2.2.2 = N2 := ⟨_, rfl⟩
      rw [hN2] at DN
      clear hk hx
      by_cases h1 : x.kind = 1
      --CASE 1
      · have hq : (N.send x.fr x.to x.data).2.2 = N2 := by rw [← hN2]; unfold deed; rw [if_pos h1]
        have c1 := C.out.send
        rw [hq] at c1
        clear hq hN2
        obtain ⟨kind, fr, to, data, id, by', kk, pp, mask⟩ := x
        simp only at h1
        subst h1
        go_wp2_with (first | ((with_reducible refine g_len ?_); refine wl_run rfl (a_len rfl rfl rfl (hS.old0 hL)) ?_) | ((with_reducible refine g_index ?_); refine wl_run rfl (a_index (u := vl) (j := (j : Int)) rfl rfl rfl rfl (hS.old0 hL) (by rfl) (by omega) (by omega)) ?_) | ((with_reducible refine g_load ?_); refine wl_run rfl (a_loadG (vs := [_, _, _, _, _, _, _, _, _]) rfl (hS.old0 hL) rfl rfl rfl (by rfl) (by intro _; rfl) hget (by rfl)) ?_) | (go_at_call 9; refine (C.out.who _ _ (hS.out (by (repeat (first | exact Out.here | apply Out.there))))).mono ?_; clear hS; rintro e w' ⟨rfl, hS⟩) | ((with_reducible refine g_load ?_); refine wl_run rfl (a_loadA (vs := [_, _, _]) hS rfl rfl rfl rfl (by (repeat (first | exact Ix.here | apply Ix.there))) 3 (by rfl) (by rfl) (by rfl)) ?_) | (go_at_call 10; refine (c1 _ _ (hS.out (by (repeat (first | exact Out.here | apply Out.there))))).mono ?_; clear hS; rintro e w' ⟨rfl, hS⟩) |(first | ((with_reducible refine g_load ?_); refine k_read rfl (h := ?_)) | ((with_reducible refine g_len ?_); refine k_len rfl (h := ?_)) | ((with_reducible refine g_index ?_); refine k_idx rfl (h := ?_)) | ((with_reducible refine g_field ?_); refine k_fld rfl (h := ?_)) | ((with_reducible refine g_store ?_); refine wl_of rfl ?_; first | (refine k_sta hS rfl rfl rfl (h := ?_); clear hS; intro w' hS; simp only [List.take, List.drop, List.cons_append, List.nil_append, List.length_cons, List.length_nil] at hS) | (first | ((first | (refine k_st1 (v := .int _ _) hS rfl rfl rfl (h := ?_)) | (refine k_st1 (v := .bool _) hS rfl rfl rfl (h := ?_)) | (refine k_st1 (v := .string _) hS rfl rfl rfl (h := ?_)) | (refine k_st1 (v := .slice none 0 0) hS rfl rfl rfl (h := ?_))); clear hS; intro w' hS; simp only [List.set_cons_zero, List.set_cons_succ] at hS) | ((refine k_st1  hS rfl rfl rfl (h := ?_)); clear hS; intro w' hS; simp only [List.set_cons_zero, List.set_cons_succ] at hS; simp only [Act.eval, Array.getD_eq_getD_getElem?, List.getElem?_toArray, List.getElem?_cons_succ, List.getElem?_cons_zero, Option.getD_some] at hS)) | (first | (refine k_ste (v := .int _ _) hS rfl rfl rfl (h := ?_); clear hS; intro w' hS) | (refine k_ste (v := .bool _) hS rfl rfl rfl (h := ?_); clear hS; intro w' hS) | (refine k_ste (v := .string _) hS rfl rfl rfl (h := ?_); clear hS; intro w' hS))) | ((with_reducible refine g_alloc ?_); refine wl_of rfl ?_; refine wp_alloc hS rfl rfl rfl rfl ?_; clear hS; intro gb w1 hS) | ((with_reducible refine g_box ?_); refine wl_of rfl ?_; refine wp_box hS rfl rfl rfl ?_; clear hS; intro gb w1 hS) | ((with_reducible refine g_bs ?_); refine wl_of rfl ?_; (first | refine a_build1 (v := .int _ _) hS rfl rfl rfl rfl (by rfl) (by simp) ?_ | refine a_build1 (v := .string _) hS rfl rfl rfl rfl (by rfl) (by simp) ?_ | refine a_build1 (v := .bool _) hS rfl rfl rfl rfl (by rfl) (by simp) ?_ | refine a_build1 (v := .agg _) hS rfl rfl rfl rfl (by rfl) (by simp) ?_ | refine a_build1  hS rfl rfl rfl rfl (by rfl) (by simp) ?_); clear hS; intro v1 w' hS; simp only [List.length_cons, List.length_nil, Nat.zero_add] at hS; try simp only [Nat.reduceAdd] at hS) | ((with_reducible refine g_cut ?_); refine k_str rfl (h := ?_)) | ((with_reducible refine g_indexV ?_); refine k_six rfl (h := ?_)) | ((with_reducible refine g_bin ?_); refine k_cat rfl (h := ?_)) | ((with_reducible refine g_conv ?_); refine k_tos rfl (h := ?_)) | ((with_reducible refine wl_guard ?_); refine stop_mem rfl rfl ?_)))
        replace hS : St [] w _ [net g N2] := hS.pick
        have HG := Lib.hid DN.out.1
        have ln := Lib.hid (fun (W : World) (M : List Ent) (hS : St [] w W (net g N2 :: M)) => net_len hS)
        clear C hget
        try clear c1
        try simp only [hb1, hb2, hb3, hb4]
        go_loopw [7, 8] (fun la p wr => ∃ m : Nat, m ≤ N2.all.length ∧ p = .int .i64 m ∧ la = .int .i64 (lastOf N2 m) ∧ St [] w wr [net g N2]) (fun _ p _ => N2.all.length - (intOf p).toNat)
        case atStart => exact ⟨0, by omega, rfl, by simp [lastOf], hS⟩
        case round =>
          clear hS
          obtain ⟨m, hm, rfl, rfl, hS⟩ := hrel
          by_cases hlm : m < N2.all.length
          · have hl := last_lt HG.out hlm
            have e1 := place_at hlm
            have e2 := place_again hlm
            have e3 := look_at HG.out hlm
            have e4 := last_succ N2 m
            have hr := HG.out.ids _ (nth_mem hlm)
            have hr2 := HG.out.ok.last1
            rw [← e1] at e2 e3 e4 hl hr
            obtain ⟨lm, hlm2⟩ : ∃ lm, lastOf N2 m = lm := ⟨_, rfl⟩
            rw [hlm2] at hl ⊢
            have lk := fun (W : World) (M : List Ent) (hS : St [] w W (net g N2 :: M)) => net_look hS HG.out (N2.place (m : Int)) (by omega) (by omega)
            rw [e3] at lk
            simp only [Pk.letter] at lk
            have PL := Lib.hid (fun (W : World) (M : List Ent) (hS : St [] w W (net g N2 :: M)) (z : Int) => net_place hS HG.out.ok z)
            have LKK := Lib.hid lk
            have E4 := Lib.hid e4
            clear lk e1 e3 e4 hlm2 hr hr2
            have hlm1 : (m : Int) < (N2.all.length : Int) := by omega
            have hll := HG.out.ok.len
            go_wp2_with (first | (go_at_call 15; refine (ln.out _ _ (hS.out (by (repeat (first | exact Out.here | apply Out.there))))).mono ?_; rintro e w' ⟨rfl, rfl⟩) | (go_at_call 16; refine (PL.out _ _ (hS.out (by (repeat (first | exact Out.here | apply Out.there)))) _).mono ?_; rintro e w' ⟨rfl, rfl⟩) | (go_at_call 22; refine (LKK.out _ _ (hS.out (by (repeat (first | exact Out.here | apply Out.there))))).mono ?_; clear hS; rintro e w' ⟨rfl, hS⟩) | (first | ((with_reducible refine g_load ?_); refine k_read rfl (h := ?_)) | ((with_reducible refine g_len ?_); refine k_len rfl (h := ?_)) | ((with_reducible refine g_index ?_); refine k_idx rfl (h := ?_)) | ((with_reducible refine g_field ?_); refine k_fld rfl (h := ?_)) | ((with_reducible refine g_store ?_); refine wl_of rfl ?_; first | (refine k_sta hS rfl rfl rfl (h := ?_); clear hS; intro w' hS; simp only [List.take, List.drop, List.cons_append, List.nil_append, List.length_cons, List.length_nil] at hS) | (first | ((first | (refine k_st1 (v := .int _ _) hS rfl rfl rfl (h := ?_)) | (refine k_st1 (v := .bool _) hS rfl rfl rfl (h := ?_)) | (refine k_st1 (v := .string _) hS rfl rfl rfl (h := ?_)) | (refine k_st1 (v := .slice none 0 0) hS rfl rfl rfl (h := ?_))); clear hS; intro w' hS; simp only [List.set_cons_zero, List.set_cons_succ] at hS) | ((refine k_st1  hS rfl rfl rfl (h := ?_)); clear hS; intro w' hS; simp only [List.set_cons_zero, List.set_cons_succ] at hS; simp only [Act.eval, Array.getD_eq_getD_getElem?, List.getElem?_toArray, List.getElem?_cons_succ, List.getElem?_cons_zero, Option.getD_some] at hS)) | (first | (refine k_ste (v := .int _ _) hS rfl rfl rfl (h := ?_); clear hS; intro w' hS) | (refine k_ste (v := .bool _) hS rfl rfl rfl (h := ?_); clear hS; intro w' hS) | (refine k_ste (v := .string _) hS rfl rfl rfl (h := ?_); clear hS; intro w' hS))) | ((with_reducible refine g_alloc ?_); refine wl_of rfl ?_; refine wp_alloc hS rfl rfl rfl rfl ?_; clear hS; intro gb w1 hS) | ((with_reducible refine g_box ?_); refine wl_of rfl ?_; refine wp_box hS rfl rfl rfl ?_; clear hS; intro gb w1 hS) | ((with_reducible refine g_bs ?_); refine wl_of rfl ?_; (first | refine a_build1 (v := .int _ _) hS rfl rfl rfl rfl (by rfl) (by simp) ?_ | refine a_build1 (v := .string _) hS rfl rfl rfl rfl (by rfl) (by simp) ?_ | refine a_build1 (v := .bool _) hS rfl rfl rfl rfl (by rfl) (by simp) ?_ | refine a_build1 (v := .agg _) hS rfl rfl rfl rfl (by rfl) (by simp) ?_ | refine a_build1  hS rfl rfl rfl rfl (by rfl) (by simp) ?_); clear hS; intro v1 w' hS; simp only [List.length_cons, List.length_nil, Nat.zero_add] at hS; try simp only [Nat.reduceAdd] at hS) | ((with_reducible refine g_cut ?_); refine k_str rfl (h := ?_)) | ((with_reducible refine g_indexV ?_); refine k_six rfl (h := ?_)) | ((with_reducible refine g_bin ?_); refine k_cat rfl (h := ?_)) | ((with_reducible refine g_conv ?_); refine k_tos rfl (h := ?_)) | ((with_reducible refine wl_guard ?_); refine stop_mem rfl rfl ?_)))
            first
            | exact ⟨⟨m + 1, by omega, by go_num, by rw [E4.out], hS.pick⟩, by simp [intOf]; omega⟩
            | (go_round
               case rel => exact ⟨m + 1, by omega, by go_num, by rw [E4.out], hS.pick⟩
               case measure => simp [intOf]; omega)
          · obtain rfl : m = N2.all.length := by omega
            go_wp2_with (first | (go_at_call 15; refine (ln.out _ _ (hS.out (by (repeat (first | exact Out.here | apply Out.there))))).mono ?_; rintro e w' ⟨rfl, rfl⟩) | (first | ((with_reducible refine g_load ?_); refine k_read rfl (h := ?_)) | ((with_reducible refine g_len ?_); refine k_len rfl (h := ?_)) | ((with_reducible refine g_index ?_); refine k_idx rfl (h := ?_)) | ((with_reducible refine g_field ?_); refine k_fld rfl (h := ?_)) | ((with_reducible refine g_store ?_); refine wl_of rfl ?_; first | (refine k_sta hS rfl rfl rfl (h := ?_); clear hS; intro w' hS; simp only [List.take, List.drop, List.cons_append, List.nil_append, List.length_cons, List.length_nil] at hS) | (first | ((first | (refine k_st1 (v := .int _ _) hS rfl rfl rfl (h := ?_)) | (refine k_st1 (v := .bool _) hS rfl rfl rfl (h := ?_)) | (refine k_st1 (v := .string _) hS rfl rfl rfl (h := ?_)) | (refine k_st1 (v := .slice none 0 0) hS rfl rfl rfl (h := ?_))); clear hS; intro w' hS; simp only [List.set_cons_zero, List.set_cons_succ] at hS) | ((refine k_st1  hS rfl rfl rfl (h := ?_)); clear hS; intro w' hS; simp only [List.set_cons_zero, List.set_cons_succ] at hS; simp only [Act.eval, Array.getD_eq_getD_getElem?, List.getElem?_toArray, List.getElem?_cons_succ, List.getElem?_cons_zero, Option.getD_some] at hS)) | (first | (refine k_ste (v := .int _ _) hS rfl rfl rfl (h := ?_); clear hS; intro w' hS) | (refine k_ste (v := .bool _) hS rfl rfl rfl (h := ?_); clear hS; intro w' hS) | (refine k_ste (v := .string _) hS rfl rfl rfl (h := ?_); clear hS; intro w' hS))) | ((with_reducible refine g_alloc ?_); refine wl_of rfl ?_; refine wp_alloc hS rfl rfl rfl rfl ?_; clear hS; intro gb w1 hS) | ((with_reducible refine g_box ?_); refine wl_of rfl ?_; refine wp_box hS rfl rfl rfl ?_; clear hS; intro gb w1 hS) | ((with_reducible refine g_bs ?_); refine wl_of rfl ?_; (first | refine a_build1 (v := .int _ _) hS rfl rfl rfl rfl (by rfl) (by simp) ?_ | refine a_build1 (v := .string _) hS rfl rfl rfl rfl (by rfl) (by simp) ?_ | refine a_build1 (v := .bool _) hS rfl rfl rfl rfl (by rfl) (by simp) ?_ | refine a_build1 (v := .agg _) hS rfl rfl rfl rfl (by rfl) (by simp) ?_ | refine a_build1  hS rfl rfl rfl rfl (by rfl) (by simp) ?_); clear hS; intro v1 w' hS; simp only [List.length_cons, List.length_nil, Nat.zero_add] at hS; try simp only [Nat.reduceAdd] at hS) | ((with_reducible refine g_cut ?_); refine k_str rfl (h := ?_)) | ((with_reducible refine g_indexV ?_); refine k_six rfl (h := ?_)) | ((with_reducible refine g_bin ?_); refine k_cat rfl (h := ?_)) | ((with_reducible refine g_conv ?_); refine k_tos rfl (h := ?_)) | ((with_reducible refine wl_guard ?_); refine stop_mem rfl rfl ?_)))
            first
            | exact ⟨⟨j + 1, N2, by omega, by omega, by go_num, DN, hS⟩, by simp [intOf]; omega⟩
            | (go_round
               case rel => exact ⟨j + 1, N2, by omega, by omega, by go_num, DN, hS⟩
               case measure => simp [intOf]; omega)
      --END
      by_cases h2 : x.kind = 2
      --CASE 2
      · have hq : (N.take k).2.2 = N2 := by rw [← hN2]; unfold deed; rw [if_neg h1]; rw [if_pos h2]
        have c1 := C.out.take
        rw [hq] at c1
        clear hq hN2
        obtain ⟨kind, fr, to, data, id, by', kk, pp, mask⟩ := x
        simp only at h2
        subst h2
        go_wp2_with (first | ((with_reducible refine g_len ?_); refine wl_run rfl (a_len rfl rfl rfl (hS.old0 hL)) ?_) | ((with_reducible refine g_index ?_); refine wl_run rfl (a_index (u := vl) (j := (j : Int)) rfl rfl rfl rfl (hS.old0 hL) (by rfl) (by omega) (by omega)) ?_) | ((with_reducible refine g_load ?_); refine wl_run rfl (a_loadG (vs := [_, _, _, _, _, _, _, _, _]) rfl (hS.old0 hL) rfl rfl rfl (by rfl) (by intro _; rfl) hget (by rfl)) ?_) | (go_at_call 9; refine (C.out.who _ _ (hS.out (by (repeat (first | exact Out.here | apply Out.there))))).mono ?_; clear hS; rintro e w' ⟨rfl, hS⟩) | ((with_reducible refine g_load ?_); refine wl_run rfl (a_loadA (vs := [_, _, _]) hS rfl rfl rfl rfl (by (repeat (first | exact Ix.here | apply Ix.there))) 3 (by rfl) (by rfl) (by rfl)) ?_) | (go_at_call 11; refine (c1 _ _ (hS.out (by (repeat (first | exact Out.here | apply Out.there))))).mono ?_; clear hS; rintro e w' ⟨rfl, hS⟩) |(first | ((with_reducible refine g_load ?_); refine k_read rfl (h := ?_)) | ((with_reducible refine g_len ?_); refine k_len rfl (h := ?_)) | ((with_reducible refine g_index ?_); refine k_idx rfl (h := ?_)) | ((with_reducible refine g_field ?_); refine k_fld rfl (h := ?_)) | ((with_reducible refine g_store ?_); refine wl_of rfl ?_; first | (refine k_sta hS rfl rfl rfl (h := ?_); clear hS; intro w' hS; simp only [List.take, List.drop, List.cons_append, List.nil_append, List.length_cons, List.length_nil] at hS) | (first | ((first | (refine k_st1 (v := .int _ _) hS rfl rfl rfl (h := ?_)) | (refine k_st1 (v := .bool _) hS rfl rfl rfl (h := ?_)) | (refine k_st1 (v := .string _) hS rfl rfl rfl (h := ?_)) | (refine k_st1 (v := .slice none 0 0) hS rfl rfl rfl (h := ?_))); clear hS; intro w' hS; simp only [List.set_cons_zero, List.set_cons_succ] at hS) | ((refine k_st1  hS rfl rfl rfl (h := ?_)); clear hS; intro w' hS; simp only [List.set_cons_zero, List.set_cons_succ] at hS; simp only [Act.eval, Array.getD_eq_getD_getElem?, List.getElem?_toArray, List.getElem?_cons_succ, List.getElem?_cons_zero, Option.getD_some] at hS)) | (first | (refine k_ste (v := .int _ _) hS rfl rfl rfl (h := ?_); clear hS; intro w' hS) | (refine k_ste (v := .bool _) hS rfl rfl rfl (h := ?_); clear hS; intro w' hS) | (refine k_ste (v := .string _) hS rfl rfl rfl (h := ?_); clear hS; intro w' hS))) | ((with_reducible refine g_alloc ?_); refine wl_of rfl ?_; refine wp_alloc hS rfl rfl rfl rfl ?_; clear hS; intro gb w1 hS) | ((with_reducible refine g_box ?_); refine wl_of rfl ?_; refine wp_box hS rfl rfl rfl ?_; clear hS; intro gb w1 hS) | ((with_reducible refine g_bs ?_); refine wl_of rfl ?_; (first | refine a_build1 (v := .int _ _) hS rfl rfl rfl rfl (by rfl) (by simp) ?_ | refine a_build1 (v := .string _) hS rfl rfl rfl rfl (by rfl) (by simp) ?_ | refine a_build1 (v := .bool _) hS rfl rfl rfl rfl (by rfl) (by simp) ?_ | refine a_build1 (v := .agg _) hS rfl rfl rfl rfl (by rfl) (by simp) ?_ | refine a_build1  hS rfl rfl rfl rfl (by rfl) (by simp) ?_); clear hS; intro v1 w' hS; simp only [List.length_cons, List.length_nil, Nat.zero_add] at hS; try simp only [Nat.reduceAdd] at hS) | ((with_reducible refine g_cut ?_); refine k_str rfl (h := ?_)) | ((with_reducible refine g_indexV ?_); refine k_six rfl (h := ?_)) | ((with_reducible refine g_bin ?_); refine k_cat rfl (h := ?_)) | ((with_reducible refine g_conv ?_); refine k_tos rfl (h := ?_)) | ((with_reducible refine wl_guard ?_); refine stop_mem rfl rfl ?_)))
        replace hS : St [] w _ [net g N2] := hS.pick
        have HG := Lib.hid DN.out.1
        have ln := Lib.hid (fun (W : World) (M : List Ent) (hS : St [] w W (net g N2 :: M)) => net_len hS)
        clear C hget
        try clear c1
        try simp only [hb1, hb2, hb3, hb4]
        go_loopw [7, 8] (fun la p wr => ∃ m : Nat, m ≤ N2.all.length ∧ p = .int .i64 m ∧ la = .int .i64 (lastOf N2 m) ∧ St [] w wr [net g N2]) (fun _ p _ => N2.all.length - (intOf p).toNat)
        case atStart => exact ⟨0, by omega, rfl, by simp [lastOf], hS⟩
        case round =>
          clear hS
          obtain ⟨m, hm, rfl, rfl, hS⟩ := hrel
          by_cases hlm : m < N2.all.length
          · have hl := last_lt HG.out hlm
            have e1 := place_at hlm
            have e2 := place_again hlm
            have e3 := look_at HG.out hlm
            have e4 := last_succ N2 m
            have hr := HG.out.ids _ (nth_mem hlm)
            have hr2 := HG.out.ok.last1
            rw [← e1] at e2 e3 e4 hl hr
            obtain ⟨lm, hlm2⟩ : ∃ lm, lastOf N2 m = lm := ⟨_, rfl⟩
            rw [hlm2] at hl ⊢
            have lk := fun (W : World) (M : List Ent) (hS : St [] w W (net g N2 :: M)) => net_look hS HG.out (N2.place (m : Int)) (by omega) (by omega)
            rw [e3] at lk
            simp only [Pk.letter] at lk
            have PL := Lib.hid (fun (W : World) (M : List Ent) (hS : St [] w W (net g N2 :: M)) (z : Int) => net_place hS HG.out.ok z)
            have LKK := Lib.hid lk
            have E4 := Lib.hid e4
            clear lk e1 e3 e4 hlm2 hr hr2
            have hlm1 : (m : Int) < (N2.all.length : Int) := by omega
            have hll := HG.out.ok.len
            go_wp2_with (first | (go_at_call 15; refine (ln.out _ _ (hS.out (by (repeat (first | exact Out.here | apply Out.there))))).mono ?_; rintro e w' ⟨rfl, rfl⟩) | (go_at_call 16; refine (PL.out _ _ (hS.out (by (repeat (first | exact Out.here | apply Out.there)))) _).mono ?_; rintro e w' ⟨rfl, rfl⟩) | (go_at_call 22; refine (LKK.out _ _ (hS.out (by (repeat (first | exact Out.here | apply Out.there))))).mono ?_; clear hS; rintro e w' ⟨rfl, hS⟩) | (first | ((with_reducible refine g_load ?_); refine k_read rfl (h := ?_)) | ((with_reducible refine g_len ?_); refine k_len rfl (h := ?_)) | ((with_reducible refine g_index ?_); refine k_idx rfl (h := ?_)) | ((with_reducible refine g_field ?_); refine k_fld rfl (h := ?_)) | ((with_reducible refine g_store ?_); refine wl_of rfl ?_; first | (refine k_sta hS rfl rfl rfl (h := ?_); clear hS; intro w' hS; simp only [List.take, List.drop, List.cons_append, List.nil_append, List.length_cons, List.length_nil] at hS) | (first | ((first | (refine k_st1 (v := .int _ _) hS rfl rfl rfl (h := ?_)) | (refine k_st1 (v := .bool _) hS rfl rfl rfl (h := ?_)) | (refine k_st1 (v := .string _) hS rfl rfl rfl (h := ?_)) | (refine k_st1 (v := .slice none 0 0) hS rfl rfl rfl (h := ?_))); clear hS; intro w' hS; simp only [List.set_cons_zero, List.set_cons_succ] at hS) | ((refine k_st1  hS rfl rfl rfl (h := ?_)); clear hS; intro w' hS; simp only [List.set_cons_zero, List.set_cons_succ] at hS; simp only [Act.eval, Array.getD_eq_getD_getElem?, List.getElem?_toArray, List.getElem?_cons_succ, List.getElem?_cons_zero, Option.getD_some] at hS)) | (first | (refine k_ste (v := .int _ _) hS rfl rfl rfl (h := ?_); clear hS; intro w' hS) | (refine k_ste (v := .bool _) hS rfl rfl rfl (h := ?_); clear hS; intro w' hS) | (refine k_ste (v := .string _) hS rfl rfl rfl (h := ?_); clear hS; intro w' hS))) | ((with_reducible refine g_alloc ?_); refine wl_of rfl ?_; refine wp_alloc hS rfl rfl rfl rfl ?_; clear hS; intro gb w1 hS) | ((with_reducible refine g_box ?_); refine wl_of rfl ?_; refine wp_box hS rfl rfl rfl ?_; clear hS; intro gb w1 hS) | ((with_reducible refine g_bs ?_); refine wl_of rfl ?_; (first | refine a_build1 (v := .int _ _) hS rfl rfl rfl rfl (by rfl) (by simp) ?_ | refine a_build1 (v := .string _) hS rfl rfl rfl rfl (by rfl) (by simp) ?_ | refine a_build1 (v := .bool _) hS rfl rfl rfl rfl (by rfl) (by simp) ?_ | refine a_build1 (v := .agg _) hS rfl rfl rfl rfl (by rfl) (by simp) ?_ | refine a_build1  hS rfl rfl rfl rfl (by rfl) (by simp) ?_); clear hS; intro v1 w' hS; simp only [List.length_cons, List.length_nil, Nat.zero_add] at hS; try simp only [Nat.reduceAdd] at hS) | ((with_reducible refine g_cut ?_); refine k_str rfl (h := ?_)) | ((with_reducible refine g_indexV ?_); refine k_six rfl (h := ?_)) | ((with_reducible refine g_bin ?_); refine k_cat rfl (h := ?_)) | ((with_reducible refine g_conv ?_); refine k_tos rfl (h := ?_)) | ((with_reducible refine wl_guard ?_); refine stop_mem rfl rfl ?_)))
            first
            | exact ⟨⟨m + 1, by omega, by go_num, by rw [E4.out], hS.pick⟩, by simp [intOf]; omega⟩
            | (go_round
               case rel => exact ⟨m + 1, by omega, by go_num, by rw [E4.out], hS.pick⟩
               case measure => simp [intOf]; omega)
          · obtain rfl : m = N2.all.length := by omega
            go_wp2_with (first | (go_at_call 15; refine (ln.out _ _ (hS.out (by (repeat (first | exact Out.here | apply Out.there))))).mono ?_; rintro e w' ⟨rfl, rfl⟩) | (first | ((with_reducible refine g_load ?_); refine k_read rfl (h := ?_)) | ((with_reducible refine g_len ?_); refine k_len rfl (h := ?_)) | ((with_reducible refine g_index ?_); refine k_idx rfl (h := ?_)) | ((with_reducible refine g_field ?_); refine k_fld rfl (h := ?_)) | ((with_reducible refine g_store ?_); refine wl_of rfl ?_; first | (refine k_sta hS rfl rfl rfl (h := ?_); clear hS; intro w' hS; simp only [List.take, List.drop, List.cons_append, List.nil_append, List.length_cons, List.length_nil] at hS) | (first | ((first | (refine k_st1 (v := .int _ _) hS rfl rfl rfl (h := ?_)) | (refine k_st1 (v := .bool _) hS rfl rfl rfl (h := ?_)) | (refine k_st1 (v := .string _) hS rfl rfl rfl (h := ?_)) | (refine k_st1 (v := .slice none 0 0) hS rfl rfl rfl (h := ?_))); clear hS; intro w' hS; simp only [List.set_cons_zero, List.set_cons_succ] at hS) | ((refine k_st1  hS rfl rfl rfl (h := ?_)); clear hS; intro w' hS; simp only [List.set_cons_zero, List.set_cons_succ] at hS; simp only [Act.eval, Array.getD_eq_getD_getElem?, List.getElem?_toArray, List.getElem?_cons_succ, List.getElem?_cons_zero, Option.getD_some] at hS)) | (first | (refine k_ste (v := .int _ _) hS rfl rfl rfl (h := ?_); clear hS; intro w' hS) | (refine k_ste (v := .bool _) hS rfl rfl rfl (h := ?_); clear hS; intro w' hS) | (refine k_ste (v := .string _) hS rfl rfl rfl (h := ?_); clear hS; intro w' hS))) | ((with_reducible refine g_alloc ?_); refine wl_of rfl ?_; refine wp_alloc hS rfl rfl rfl rfl ?_; clear hS; intro gb w1 hS) | ((with_reducible refine g_box ?_); refine wl_of rfl ?_; refine wp_box hS rfl rfl rfl ?_; clear hS; intro gb w1 hS) | ((with_reducible refine g_bs ?_); refine wl_of rfl ?_; (first | refine a_build1 (v := .int _ _) hS rfl rfl rfl rfl (by rfl) (by simp) ?_ | refine a_build1 (v := .string _) hS rfl rfl rfl rfl (by rfl) (by simp) ?_ | refine a_build1 (v := .bool _) hS rfl rfl rfl rfl (by rfl) (by simp) ?_ | refine a_build1 (v := .agg _) hS rfl rfl rfl rfl (by rfl) (by simp) ?_ | refine a_build1  hS rfl rfl rfl rfl (by rfl) (by simp) ?_); clear hS; intro v1 w' hS; simp only [List.length_cons, List.length_nil, Nat.zero_add] at hS; try simp only [Nat.reduceAdd] at hS) | ((with_reducible refine g_cut ?_); refine k_str rfl (h := ?_)) | ((with_reducible refine g_indexV ?_); refine k_six rfl (h := ?_)) | ((with_reducible refine g_bin ?_); refine k_cat rfl (h := ?_)) | ((with_reducible refine g_conv ?_); refine k_tos rfl (h := ?_)) | ((with_reducible refine wl_guard ?_); refine stop_mem rfl rfl ?_)))
            first
            | exact ⟨⟨j + 1, N2, by omega, by omega, by go_num, DN, hS⟩, by simp [intOf]; omega⟩
            | (go_round
               case rel => exact ⟨j + 1, N2, by omega, by omega, by go_num, DN, hS⟩
               case measure => simp [intOf]; omega)
      --END
      by_cases h3 : x.kind = 3
      --CASE 3
      · have hq : (N.twice k).2.2 = N2 := by rw [← hN2]; unfold deed; rw [if_neg h1]; rw [if_neg h2]; rw [if_pos h3]
        have c1 := C.out.twice
        rw [hq] at c1
        clear hq hN2
        obtain ⟨kind, fr, to, data, id, by', kk, pp, mask⟩ := x
        simp only at h3
        subst h3
        go_wp2_with (first | ((with_reducible refine g_len ?_); refine wl_run rfl (a_len rfl rfl rfl (hS.old0 hL)) ?_) | ((with_reducible refine g_index ?_); refine wl_run rfl (a_index (u := vl) (j := (j : Int)) rfl rfl rfl rfl (hS.old0 hL) (by rfl) (by omega) (by omega)) ?_) | ((with_reducible refine g_load ?_); refine wl_run rfl (a_loadG (vs := [_, _, _, _, _, _, _, _, _]) rfl (hS.old0 hL) rfl rfl rfl (by rfl) (by intro _; rfl) hget (by rfl)) ?_) | (go_at_call 9; refine (C.out.who _ _ (hS.out (by (repeat (first | exact Out.here | apply Out.there))))).mono ?_; clear hS; rintro e w' ⟨rfl, hS⟩) | ((with_reducible refine g_load ?_); refine wl_run rfl (a_loadA (vs := [_, _, _]) hS rfl rfl rfl rfl (by (repeat (first | exact Ix.here | apply Ix.there))) 3 (by rfl) (by rfl) (by rfl)) ?_) | (go_at_call 13; refine (c1 _ _ (hS.out (by (repeat (first | exact Out.here | apply Out.there))))).mono ?_; clear hS; rintro e w' ⟨rfl, hS⟩) |(first | ((with_reducible refine g_load ?_); refine k_read rfl (h := ?_)) | ((with_reducible refine g_len ?_); refine k_len rfl (h := ?_)) | ((with_reducible refine g_index ?_); refine k_idx rfl (h := ?_)) | ((with_reducible refine g_field ?_); refine k_fld rfl (h := ?_)) | ((with_reducible refine g_store ?_); refine wl_of rfl ?_; first | (refine k_sta hS rfl rfl rfl (h := ?_); clear hS; intro w' hS; simp only [List.take, List.drop, List.cons_append, List.nil_append, List.length_cons, List.length_nil] at hS) | (first | ((first | (refine k_st1 (v := .int _ _) hS rfl rfl rfl (h := ?_)) | (refine k_st1 (v := .bool _) hS rfl rfl rfl (h := ?_)) | (refine k_st1 (v := .string _) hS rfl rfl rfl (h := ?_)) | (refine k_st1 (v := .slice none 0 0) hS rfl rfl rfl (h := ?_))); clear hS; intro w' hS; simp only [List.set_cons_zero, List.set_cons_succ] at hS) | ((refine k_st1  hS rfl rfl rfl (h := ?_)); clear hS; intro w' hS; simp only [List.set_cons_zero, List.set_cons_succ] at hS; simp only [Act.eval, Array.getD_eq_getD_getElem?, List.getElem?_toArray, List.getElem?_cons_succ, List.getElem?_cons_zero, Option.getD_some] at hS)) | (first | (refine k_ste (v := .int _ _) hS rfl rfl rfl (h := ?_); clear hS; intro w' hS) | (refine k_ste (v := .bool _) hS rfl rfl rfl (h := ?_); clear hS; intro w' hS) | (refine k_ste (v := .string _) hS rfl rfl rfl (h := ?_); clear hS; intro w' hS))) | ((with_reducible refine g_alloc ?_); refine wl_of rfl ?_; refine wp_alloc hS rfl rfl rfl rfl ?_; clear hS; intro gb w1 hS) | ((with_reducible refine g_box ?_); refine wl_of rfl ?_; refine wp_box hS rfl rfl rfl ?_; clear hS; intro gb w1 hS) | ((with_reducible refine g_bs ?_); refine wl_of rfl ?_; (first | refine a_build1 (v := .int _ _) hS rfl rfl rfl rfl (by rfl) (by simp) ?_ | refine a_build1 (v := .string _) hS rfl rfl rfl rfl (by rfl) (by simp) ?_ | refine a_build1 (v := .bool _) hS rfl rfl rfl rfl (by rfl) (by simp) ?_ | refine a_build1 (v := .agg _) hS rfl rfl rfl rfl (by rfl) (by simp) ?_ | refine a_build1  hS rfl rfl rfl rfl (by rfl) (by simp) ?_); clear hS; intro v1 w' hS; simp only [List.length_cons, List.length_nil, Nat.zero_add] at hS; try simp only [Nat.reduceAdd] at hS) | ((with_reducible refine g_cut ?_); refine k_str rfl (h := ?_)) | ((with_reducible refine g_indexV ?_); refine k_six rfl (h := ?_)) | ((with_reducible refine g_bin ?_); refine k_cat rfl (h := ?_)) | ((with_reducible refine g_conv ?_); refine k_tos rfl (h := ?_)) | ((with_reducible refine wl_guard ?_); refine stop_mem rfl rfl ?_)))
        replace hS : St [] w _ [net g N2] := hS.pick
        have HG := Lib.hid DN.out.1
        have ln := Lib.hid (fun (W : World) (M : List Ent) (hS : St [] w W (net g N2 :: M)) => net_len hS)
        clear C hget
        try clear c1
        try simp only [hb1, hb2, hb3, hb4]
        go_loopw [7, 8] (fun la p wr => ∃ m : Nat, m ≤ N2.all.length ∧ p = .int .i64 m ∧ la = .int .i64 (lastOf N2 m) ∧ St [] w wr [net g N2]) (fun _ p _ => N2.all.length - (intOf p).toNat)
        case atStart => exact ⟨0, by omega, rfl, by simp [lastOf], hS⟩
        case round =>
          clear hS
          obtain ⟨m, hm, rfl, rfl, hS⟩ := hrel
          by_cases hlm : m < N2.all.length
          · have hl := last_lt HG.out hlm
            have e1 := place_at hlm
            have e2 := place_again hlm
            have e3 := look_at HG.out hlm
            have e4 := last_succ N2 m
            have hr := HG.out.ids _ (nth_mem hlm)
            have hr2 := HG.out.ok.last1
            rw [← e1] at e2 e3 e4 hl hr
            obtain ⟨lm, hlm2⟩ : ∃ lm, lastOf N2 m = lm := ⟨_, rfl⟩
            rw [hlm2] at hl ⊢
            have lk := fun (W : World) (M : List Ent) (hS : St [] w W (net g N2 :: M)) => net_look hS HG.out (N2.place (m : Int)) (by omega) (by omega)
            rw [e3] at lk
            simp only [Pk.letter] at lk
            have PL := Lib.hid (fun (W : World) (M : List Ent) (hS : St [] w W (net g N2 :: M)) (z : Int) => net_place hS HG.out.ok z)
            have LKK := Lib.hid lk
            have E4 := Lib.hid e4
            clear lk e1 e3 e4 hlm2 hr hr2
            have hlm1 : (m : Int) < (N2.all.length : Int) := by omega
            have hll := HG.out.ok.len
            go_wp2_with (first | (go_at_call 15; refine (ln.out _ _ (hS.out (by (repeat (first | exact Out.here | apply Out.there))))).mono ?_; rintro e w' ⟨rfl, rfl⟩) | (go_at_call 16; refine (PL.out _ _ (hS.out (by (repeat (first | exact Out.here | apply Out.there)))) _).mono ?_; rintro e w' ⟨rfl, rfl⟩) | (go_at_call 22; refine (LKK.out _ _ (hS.out (by (repeat (first | exact Out.here | apply Out.there))))).mono ?_; clear hS; rintro e w' ⟨rfl, hS⟩) | (first | ((with_reducible refine g_load ?_); refine k_read rfl (h := ?_)) | ((with_reducible refine g_len ?_); refine k_len rfl (h := ?_)) | ((with_reducible refine g_index ?_); refine k_idx rfl (h := ?_)) | ((with_reducible refine g_field ?_); refine k_fld rfl (h := ?_)) | ((with_reducible refine g_store ?_); refine wl_of rfl ?_; first | (refine k_sta hS rfl rfl rfl (h := ?_); clear hS; intro w' hS; simp only [List.take, List.drop, List.cons_append, List.nil_append, List.length_cons, List.length_nil] at hS) | (first | ((first | (refine k_st1 (v := .int _ _) hS rfl rfl rfl (h := ?_)) | (refine k_st1 (v := .bool _) hS rfl rfl rfl (h := ?_)) | (refine k_st1 (v := .string _) hS rfl rfl rfl (h := ?_)) | (refine k_st1 (v := .slice none 0 0) hS rfl rfl rfl (h := ?_))); clear hS; intro w' hS; simp only [List.set_cons_zero, List.set_cons_succ] at hS) | ((refine k_st1  hS rfl rfl rfl (h := ?_)); clear hS; intro w' hS; simp only [List.set_cons_zero, List.set_cons_succ] at hS; simp only [Act.eval, Array.getD_eq_getD_getElem?, List.getElem?_toArray, List.getElem?_cons_succ, List.getElem?_cons_zero, Option.getD_some] at hS)) | (first | (refine k_ste (v := .int _ _) hS rfl rfl rfl (h := ?_); clear hS; intro w' hS) | (refine k_ste (v := .bool _) hS rfl rfl rfl (h := ?_); clear hS; intro w' hS) | (refine k_ste (v := .string _) hS rfl rfl rfl (h := ?_); clear hS; intro w' hS))) | ((with_reducible refine g_alloc ?_); refine wl_of rfl ?_; refine wp_alloc hS rfl rfl rfl rfl ?_; clear hS; intro gb w1 hS) | ((with_reducible refine g_box ?_); refine wl_of rfl ?_; refine wp_box hS rfl rfl rfl ?_; clear hS; intro gb w1 hS) | ((with_reducible refine g_bs ?_); refine wl_of rfl ?_; (first | refine a_build1 (v := .int _ _) hS rfl rfl rfl rfl (by rfl) (by simp) ?_ | refine a_build1 (v := .string _) hS rfl rfl rfl rfl (by rfl) (by simp) ?_ | refine a_build1 (v := .bool _) hS rfl rfl rfl rfl (by rfl) (by simp) ?_ | refine a_build1 (v := .agg _) hS rfl rfl rfl rfl (by rfl) (by simp) ?_ | refine a_build1  hS rfl rfl rfl rfl (by rfl) (by simp) ?_); clear hS; intro v1 w' hS; simp only [List.length_cons, List.length_nil, Nat.zero_add] at hS; try simp only [Nat.reduceAdd] at hS) | ((with_reducible refine g_cut ?_); refine k_str rfl (h := ?_)) | ((with_reducible refine g_indexV ?_); refine k_six rfl (h := ?_)) | ((with_reducible refine g_bin ?_); refine k_cat rfl (h := ?_)) | ((with_reducible refine g_conv ?_); refine k_tos rfl (h := ?_)) | ((with_reducible refine wl_guard ?_); refine stop_mem rfl rfl ?_)))
            first
            | exact ⟨⟨m + 1, by omega, by go_num, by rw [E4.out], hS.pick⟩, by simp [intOf]; omega⟩
            | (go_round
               case rel => exact ⟨m + 1, by omega, by go_num, by rw [E4.out], hS.pick⟩
               case measure => simp [intOf]; omega)
          · obtain rfl : m = N2.all.length := by omega
            go_wp2_with (first | (go_at_call 15; refine (ln.out _ _ (hS.out (by (repeat (first | exact Out.here | apply Out.there))))).mono ?_; rintro e w' ⟨rfl, rfl⟩) | (first | ((with_reducible refine g_load ?_); refine k_read rfl (h := ?_)) | ((with_reducible refine g_len ?_); refine k_len rfl (h := ?_)) | ((with_reducible refine g_index ?_); refine k_idx rfl (h := ?_)) | ((with_reducible refine g_field ?_); refine k_fld rfl (h := ?_)) | ((with_reducible refine g_store ?_); refine wl_of rfl ?_; first | (refine k_sta hS rfl rfl rfl (h := ?_); clear hS; intro w' hS; simp only [List.take, List.drop, List.cons_append, List.nil_append, List.length_cons, List.length_nil] at hS) | (first | ((first | (refine k_st1 (v := .int _ _) hS rfl rfl rfl (h := ?_)) | (refine k_st1 (v := .bool _) hS rfl rfl rfl (h := ?_)) | (refine k_st1 (v := .string _) hS rfl rfl rfl (h := ?_)) | (refine k_st1 (v := .slice none 0 0) hS rfl rfl rfl (h := ?_))); clear hS; intro w' hS; simp only [List.set_cons_zero, List.set_cons_succ] at hS) | ((refine k_st1  hS rfl rfl rfl (h := ?_)); clear hS; intro w' hS; simp only [List.set_cons_zero, List.set_cons_succ] at hS; simp only [Act.eval, Array.getD_eq_getD_getElem?, List.getElem?_toArray, List.getElem?_cons_succ, List.getElem?_cons_zero, Option.getD_some] at hS)) | (first | (refine k_ste (v := .int _ _) hS rfl rfl rfl (h := ?_); clear hS; intro w' hS) | (refine k_ste (v := .bool _) hS rfl rfl rfl (h := ?_); clear hS; intro w' hS) | (refine k_ste (v := .string _) hS rfl rfl rfl (h := ?_); clear hS; intro w' hS))) | ((with_reducible refine g_alloc ?_); refine wl_of rfl ?_; refine wp_alloc hS rfl rfl rfl rfl ?_; clear hS; intro gb w1 hS) | ((with_reducible refine g_box ?_); refine wl_of rfl ?_; refine wp_box hS rfl rfl rfl ?_; clear hS; intro gb w1 hS) | ((with_reducible refine g_bs ?_); refine wl_of rfl ?_; (first | refine a_build1 (v := .int _ _) hS rfl rfl rfl rfl (by rfl) (by simp) ?_ | refine a_build1 (v := .string _) hS rfl rfl rfl rfl (by rfl) (by simp) ?_ | refine a_build1 (v := .bool _) hS rfl rfl rfl rfl (by rfl) (by simp) ?_ | refine a_build1 (v := .agg _) hS rfl rfl rfl rfl (by rfl) (by simp) ?_ | refine a_build1  hS rfl rfl rfl rfl (by rfl) (by simp) ?_); clear hS; intro v1 w' hS; simp only [List.length_cons, List.length_nil, Nat.zero_add] at hS; try simp only [Nat.reduceAdd] at hS) | ((with_reducible refine g_cut ?_); refine k_str rfl (h := ?_)) | ((with_reducible refine g_indexV ?_); refine k_six rfl (h := ?_)) | ((with_reducible refine g_bin ?_); refine k_cat rfl (h := ?_)) | ((with_reducible refine g_conv ?_); refine k_tos rfl (h := ?_)) | ((with_reducible refine wl_guard ?_); refine stop_mem rfl rfl ?_)))
            first
            | exact ⟨⟨j + 1, N2, by omega, by omega, by go_num, DN, hS⟩, by simp [intOf]; omega⟩
            | (go_round
               case rel => exact ⟨j + 1, N2, by omega, by omega, by go_num, DN, hS⟩
               case measure => simp [intOf]; omega)
      --END
      by_cases h4 : x.kind = 4
      --CASE 4
      · have hq : (N.spoil k x.pos x.mask).2 = N2 := by rw [← hN2]; unfold deed; rw [if_neg h1]; rw [if_neg h2]; rw [if_neg h3]; rw [if_pos h4]
        have c1 := C.out.spoil
        rw [hq] at c1
        clear hq hN2
        obtain ⟨kind, fr, to, data, id, by', kk, pp, mask⟩ := x
        simp only at h4
        subst h4
        go_wp2_with (first | ((with_reducible refine g_len ?_); refine wl_run rfl (a_len rfl rfl rfl (hS.old0 hL)) ?_) | ((with_reducible refine g_index ?_); refine wl_run rfl (a_index (u := vl) (j := (j : Int)) rfl rfl rfl rfl (hS.old0 hL) (by rfl) (by omega) (by omega)) ?_) | ((with_reducible refine g_load ?_); refine wl_run rfl (a_loadG (vs := [_, _, _, _, _, _, _, _, _]) rfl (hS.old0 hL) rfl rfl rfl (by rfl) (by intro _; rfl) hget (by rfl)) ?_) | (go_at_call 9; refine (C.out.who _ _ (hS.out (by (repeat (first | exact Out.here | apply Out.there))))).mono ?_; clear hS; rintro e w' ⟨rfl, hS⟩) | ((with_reducible refine g_load ?_); refine wl_run rfl (a_loadA (vs := [_, _, _]) hS rfl rfl rfl rfl (by (repeat (first | exact Ix.here | apply Ix.there))) 3 (by rfl) (by rfl) (by rfl)) ?_) | (go_at_call 14; refine (c1 _ _ (hS.out (by (repeat (first | exact Out.here | apply Out.there))))).mono ?_; clear hS; rintro e w' ⟨rfl, hS⟩) |(first | ((with_reducible refine g_load ?_); refine k_read rfl (h := ?_)) | ((with_reducible refine g_len ?_); refine k_len rfl (h := ?_)) | ((with_reducible refine g_index ?_); refine k_idx rfl (h := ?_)) | ((with_reducible refine g_field ?_); refine k_fld rfl (h := ?_)) | ((with_reducible refine g_store ?_); refine wl_of rfl ?_; first | (refine k_sta hS rfl rfl rfl (h := ?_); clear hS; intro w' hS; simp only [List.take, List.drop, List.cons_append, List.nil_append, List.length_cons, List.length_nil] at hS) | (first | ((first | (refine k_st1 (v := .int _ _) hS rfl rfl rfl (h := ?_)) | (refine k_st1 (v := .bool _) hS rfl rfl rfl (h := ?_)) | (refine k_st1 (v := .string _) hS rfl rfl rfl (h := ?_)) | (refine k_st1 (v := .slice none 0 0) hS rfl rfl rfl (h := ?_))); clear hS; intro w' hS; simp only [List.set_cons_zero, List.set_cons_succ] at hS) | ((refine k_st1  hS rfl rfl rfl (h := ?_)); clear hS; intro w' hS; simp only [List.set_cons_zero, List.set_cons_succ] at hS; simp only [Act.eval, Array.getD_eq_getD_getElem?, List.getElem?_toArray, List.getElem?_cons_succ, List.getElem?_cons_zero, Option.getD_some] at hS)) | (first | (refine k_ste (v := .int _ _) hS rfl rfl rfl (h := ?_); clear hS; intro w' hS) | (refine k_ste (v := .bool _) hS rfl rfl rfl (h := ?_); clear hS; intro w' hS) | (refine k_ste (v := .string _) hS rfl rfl rfl (h := ?_); clear hS; intro w' hS))) | ((with_reducible refine g_alloc ?_); refine wl_of rfl ?_; refine wp_alloc hS rfl rfl rfl rfl ?_; clear hS; intro gb w1 hS) | ((with_reducible refine g_box ?_); refine wl_of rfl ?_; refine wp_box hS rfl rfl rfl ?_; clear hS; intro gb w1 hS) | ((with_reducible refine g_bs ?_); refine wl_of rfl ?_; (first | refine a_build1 (v := .int _ _) hS rfl rfl rfl rfl (by rfl) (by simp) ?_ | refine a_build1 (v := .string _) hS rfl rfl rfl rfl (by rfl) (by simp) ?_ | refine a_build1 (v := .bool _) hS rfl rfl rfl rfl (by rfl) (by simp) ?_ | refine a_build1 (v := .agg _) hS rfl rfl rfl rfl (by rfl) (by simp) ?_ | refine a_build1  hS rfl rfl rfl rfl (by rfl) (by simp) ?_); clear hS; intro v1 w' hS; simp only [List.length_cons, List.length_nil, Nat.zero_add] at hS; try simp only [Nat.reduceAdd] at hS) | ((with_reducible refine g_cut ?_); refine k_str rfl (h := ?_)) | ((with_reducible refine g_indexV ?_); refine k_six rfl (h := ?_)) | ((with_reducible refine g_bin ?_); refine k_cat rfl (h := ?_)) | ((with_reducible refine g_conv ?_); refine k_tos rfl (h := ?_)) | ((with_reducible refine wl_guard ?_); refine stop_mem rfl rfl ?_)))
        replace hS : St [] w _ [net g N2] := hS.pick
        have HG := Lib.hid DN.out.1
        have ln := Lib.hid (fun (W : World) (M : List Ent) (hS : St [] w W (net g N2 :: M)) => net_len hS)
        clear C hget
        try clear c1
        try simp only [hb1, hb2, hb3, hb4]
        go_loopw [7, 8] (fun la p wr => ∃ m : Nat, m ≤ N2.all.length ∧ p = .int .i64 m ∧ la = .int .i64 (lastOf N2 m) ∧ St [] w wr [net g N2]) (fun _ p _ => N2.all.length - (intOf p).toNat)
        case atStart => exact ⟨0, by omega, rfl, by simp [lastOf], hS⟩
        case round =>
          clear hS
          obtain ⟨m, hm, rfl, rfl, hS⟩ := hrel
          by_cases hlm : m < N2.all.length
          · have hl := last_lt HG.out hlm
            have e1 := place_at hlm
            have e2 := place_again hlm
            have e3 := look_at HG.out hlm
            have e4 := last_succ N2 m
            have hr := HG.out.ids _ (nth_mem hlm)
            have hr2 := HG.out.ok.last1
            rw [← e1] at e2 e3 e4 hl hr
            obtain ⟨lm, hlm2⟩ : ∃ lm, lastOf N2 m = lm := ⟨_, rfl⟩
            rw [hlm2] at hl ⊢
            have lk := fun (W : World) (M : List Ent) (hS : St [] w W (net g N2 :: M)) => net_look hS HG.out (N2.place (m : Int)) (by omega) (by omega)
            rw [e3] at lk
            simp only [Pk.letter] at lk
            have PL := Lib.hid (fun (W : World) (M : List Ent) (hS : St [] w W (net g N2 :: M)) (z : Int) => net_place hS HG.out.ok z)
            have LKK := Lib.hid lk
            have E4 := Lib.hid e4
            clear lk e1 e3 e4 hlm2 hr hr2
            have hlm1 : (m : Int) < (N2.all.length : Int) := by omega
            have hll := HG.out.ok.len
            go_wp2_with (first | (go_at_call 15; refine (ln.out _ _ (hS.out (by (repeat (first | exact Out.here | apply Out.there))))).mono ?_; rintro e w' ⟨rfl, rfl⟩) | (go_at_call 16; refine (PL.out _ _ (hS.out (by (repeat (first | exact Out.here | apply Out.there)))) _).mono ?_; rintro e w' ⟨rfl, rfl⟩) | (go_at_call 22; refine (LKK.out _ _ (hS.out (by (repeat (first | exact Out.here | apply Out.there))))).mono ?_; clear hS; rintro e w' ⟨rfl, hS⟩) | (first | ((with_reducible refine g_load ?_); refine k_read rfl (h := ?_)) | ((with_reducible refine g_len ?_); refine k_len rfl (h := ?_)) | ((with_reducible refine g_index ?_); refine k_idx rfl (h := ?_)) | ((with_reducible refine g_field ?_); refine k_fld rfl (h := ?_)) | ((with_reducible refine g_store ?_); refine wl_of rfl ?_; first | (refine k_sta hS rfl rfl rfl (h := ?_); clear hS; intro w' hS; simp only [List.take, List.drop, List.cons_append, List.nil_append, List.length_cons, List.length_nil] at hS) | (first | ((first | (refine k_st1 (v := .int _ _) hS rfl rfl rfl (h := ?_)) | (refine k_st1 (v := .bool _) hS rfl rfl rfl (h := ?_)) | (refine k_st1 (v := .string _) hS rfl rfl rfl (h := ?_)) | (refine k_st1 (v := .slice none 0 0) hS rfl rfl rfl (h := ?_))); clear hS; intro w' hS; simp only [List.set_cons_zero, List.set_cons_succ] at hS) | ((refine k_st1  hS rfl rfl rfl (h := ?_)); clear hS; intro w' hS; simp only [List.set_cons_zero, List.set_cons_succ] at hS; simp only [Act.eval, Array.getD_eq_getD_getElem?, List.getElem?_toArray, List.getElem?_cons_succ, List.getElem?_cons_zero, Option.getD_some] at hS)) | (first | (refine k_ste (v := .int _ _) hS rfl rfl rfl (h := ?_); clear hS; intro w' hS) | (refine k_ste (v := .bool _) hS rfl rfl rfl (h := ?_); clear hS; intro w' hS) | (refine k_ste (v := .string _) hS rfl rfl rfl (h := ?_); clear hS; intro w' hS))) | ((with_reducible refine g_alloc ?_); refine wl_of rfl ?_; refine wp_alloc hS rfl rfl rfl rfl ?_; clear hS; intro gb w1 hS) | ((with_reducible refine g_box ?_); refine wl_of rfl ?_; refine wp_box hS rfl rfl rfl ?_; clear hS; intro gb w1 hS) | ((with_reducible refine g_bs ?_); refine wl_of rfl ?_; (first | refine a_build1 (v := .int _ _) hS rfl rfl rfl rfl (by rfl) (by simp) ?_ | refine a_build1 (v := .string _) hS rfl rfl rfl rfl (by rfl) (by simp) ?_ | refine a_build1 (v := .bool _) hS rfl rfl rfl rfl (by rfl) (by simp) ?_ | refine a_build1 (v := .agg _) hS rfl rfl rfl rfl (by rfl) (by simp) ?_ | refine a_build1  hS rfl rfl rfl rfl (by rfl) (by simp) ?_); clear hS; intro v1 w' hS; simp only [List.length_cons, List.length_nil, Nat.zero_add] at hS; try simp only [Nat.reduceAdd] at hS) | ((with_reducible refine g_cut ?_); refine k_str rfl (h := ?_)) | ((with_reducible refine g_indexV ?_); refine k_six rfl (h := ?_)) | ((with_reducible refine g_bin ?_); refine k_cat rfl (h := ?_)) | ((with_reducible refine g_conv ?_); refine k_tos rfl (h := ?_)) | ((with_reducible refine wl_guard ?_); refine stop_mem rfl rfl ?_)))
            first
            | exact ⟨⟨m + 1, by omega, by go_num, by rw [E4.out], hS.pick⟩, by simp [intOf]; omega⟩
            | (go_round
               case rel => exact ⟨m + 1, by omega, by go_num, by rw [E4.out], hS.pick⟩
               case measure => simp [intOf]; omega)
          · obtain rfl : m = N2.all.length := by omega
            go_wp2_with (first | (go_at_call 15; refine (ln.out _ _ (hS.out (by (repeat (first | exact Out.here | apply Out.there))))).mono ?_; rintro e w' ⟨rfl, rfl⟩) | (first | ((with_reducible refine g_load ?_); refine k_read rfl (h := ?_)) | ((with_reducible refine g_len ?_); refine k_len rfl (h := ?_)) | ((with_reducible refine g_index ?_); refine k_idx rfl (h := ?_)) | ((with_reducible refine g_field ?_); refine k_fld rfl (h := ?_)) | ((with_reducible refine g_store ?_); refine wl_of rfl ?_; first | (refine k_sta hS rfl rfl rfl (h := ?_); clear hS; intro w' hS; simp only [List.take, List.drop, List.cons_append, List.nil_append, List.length_cons, List.length_nil] at hS) | (first | ((first | (refine k_st1 (v := .int _ _) hS rfl rfl rfl (h := ?_)) | (refine k_st1 (v := .bool _) hS rfl rfl rfl (h := ?_)) | (refine k_st1 (v := .string _) hS rfl rfl rfl (h := ?_)) | (refine k_st1 (v := .slice none 0 0) hS rfl rfl rfl (h := ?_))); clear hS; intro w' hS; simp only [List.set_cons_zero, List.set_cons_succ] at hS) | ((refine k_st1  hS rfl rfl rfl (h := ?_)); clear hS; intro w' hS; simp only [List.set_cons_zero, List.set_cons_succ] at hS; simp only [Act.eval, Array.getD_eq_getD_getElem?, List.getElem?_toArray, List.getElem?_cons_succ, List.getElem?_cons_zero, Option.getD_some] at hS)) | (first | (refine k_ste (v := .int _ _) hS rfl rfl rfl (h := ?_); clear hS; intro w' hS) | (refine k_ste (v := .bool _) hS rfl rfl rfl (h := ?_); clear hS; intro w' hS) | (refine k_ste (v := .string _) hS rfl rfl rfl (h := ?_); clear hS; intro w' hS))) | ((with_reducible refine g_alloc ?_); refine wl_of rfl ?_; refine wp_alloc hS rfl rfl rfl rfl ?_; clear hS; intro gb w1 hS) | ((with_reducible refine g_box ?_); refine wl_of rfl ?_; refine wp_box hS rfl rfl rfl ?_; clear hS; intro gb w1 hS) | ((with_reducible refine g_bs ?_); refine wl_of rfl ?_; (first | refine a_build1 (v := .int _ _) hS rfl rfl rfl rfl (by rfl) (by simp) ?_ | refine a_build1 (v := .string _) hS rfl rfl rfl rfl (by rfl) (by simp) ?_ | refine a_build1 (v := .bool _) hS rfl rfl rfl rfl (by rfl) (by simp) ?_ | refine a_build1 (v := .agg _) hS rfl rfl rfl rfl (by rfl) (by simp) ?_ | refine a_build1  hS rfl rfl rfl rfl (by rfl) (by simp) ?_); clear hS; intro v1 w' hS; simp only [List.length_cons, List.length_nil, Nat.zero_add] at hS; try simp only [Nat.reduceAdd] at hS) | ((with_reducible refine g_cut ?_); refine k_str rfl (h := ?_)) | ((with_reducible refine g_indexV ?_); refine k_six rfl (h := ?_)) | ((with_reducible refine g_bin ?_); refine k_cat rfl (h := ?_)) | ((with_reducible refine g_conv ?_); refine k_tos rfl (h := ?_)) | ((with_reducible refine wl_guard ?_); refine stop_mem rfl rfl ?_)))
            first
            | exact ⟨⟨j + 1, N2, by omega, by omega, by go_num, DN, hS⟩, by simp [intOf]; omega⟩
            | (go_round
               case rel => exact ⟨j + 1, N2, by omega, by omega, by go_num, DN, hS⟩
               case measure => simp [intOf]; omega)
      --CASE 5
      · have hq : N2 = N := by rw [← hN2]; unfold deed; rw [if_neg h1]; rw [if_neg h2]; rw [if_neg h3]; rw [if_neg h4]
        subst hq
        clear hN2
        have hb1 : (x.kind == 1) = false := by simpa using h1
        have hb2 : (x.kind == 2) = false := by simpa using h2
        have hb3 : (x.kind == 3) = false := by simpa using h3
        have hb4 : (x.kind == 4) = false := by simpa using h4
        go_wp2_with (first | ((with_reducible refine g_len ?_); refine wl_run rfl (a_len rfl rfl rfl (hS.old0 hL)) ?_) | ((with_reducible refine g_index ?_); refine wl_run rfl (a_index (u := vl) (j := (j : Int)) rfl rfl rfl rfl (hS.old0 hL) (by rfl) (by omega) (by omega)) ?_) | ((with_reducible refine g_load ?_); refine wl_run rfl (a_loadG (vs := [_, _, _, _, _, _, _, _, _]) rfl (hS.old0 hL) rfl rfl rfl (by rfl) (by intro _; rfl) hget (by rfl)) ?_) | (go_at_call 9; refine (C.out.who _ _ (hS.out (by (repeat (first | exact Out.here | apply Out.there))))).mono ?_; clear hS; rintro e w' ⟨rfl, hS⟩) | ((with_reducible refine g_load ?_); refine wl_run rfl (a_loadA (vs := [_, _, _]) hS rfl rfl rfl rfl (by (repeat (first | exact Ix.here | apply Ix.there))) 3 (by rfl) (by rfl) (by rfl)) ?_) | (first | ((with_reducible refine g_load ?_); refine k_read rfl (h := ?_)) | ((with_reducible refine g_len ?_); refine k_len rfl (h := ?_)) | ((with_reducible refine g_index ?_); refine k_idx rfl (h := ?_)) | ((with_reducible refine g_field ?_); refine k_fld rfl (h := ?_)) | ((with_reducible refine g_store ?_); refine wl_of rfl ?_; first | (refine k_sta hS rfl rfl rfl (h := ?_); clear hS; intro w' hS; simp only [List.take, List.drop, List.cons_append, List.nil_append, List.length_cons, List.length_nil] at hS) | (first | ((first | (refine k_st1 (v := .int _ _) hS rfl rfl rfl (h := ?_)) | (refine k_st1 (v := .bool _) hS rfl rfl rfl (h := ?_)) | (refine k_st1 (v := .string _) hS rfl rfl rfl (h := ?_)) | (refine k_st1 (v := .slice none 0 0) hS rfl rfl rfl (h := ?_))); clear hS; intro w' hS; simp only [List.set_cons_zero, List.set_cons_succ] at hS) | ((refine k_st1  hS rfl rfl rfl (h := ?_)); clear hS; intro w' hS; simp only [List.set_cons_zero, List.set_cons_succ] at hS; simp only [Act.eval, Array.getD_eq_getD_getElem?, List.getElem?_toArray, List.getElem?_cons_succ, List.getElem?_cons_zero, Option.getD_some] at hS)) | (first | (refine k_ste (v := .int _ _) hS rfl rfl rfl (h := ?_); clear hS; intro w' hS) | (refine k_ste (v := .bool _) hS rfl rfl rfl (h := ?_); clear hS; intro w' hS) | (refine k_ste (v := .string _) hS rfl rfl rfl (h := ?_); clear hS; intro w' hS))) | ((with_reducible refine g_alloc ?_); refine wl_of rfl ?_; refine wp_alloc hS rfl rfl rfl rfl ?_; clear hS; intro gb w1 hS) | ((with_reducible refine g_box ?_); refine wl_of rfl ?_; refine wp_box hS rfl rfl rfl ?_; clear hS; intro gb w1 hS) | ((with_reducible refine g_bs ?_); refine wl_of rfl ?_; (first | refine a_build1 (v := .int _ _) hS rfl rfl rfl rfl (by rfl) (by simp) ?_ | refine a_build1 (v := .string _) hS rfl rfl rfl rfl (by rfl) (by simp) ?_ | refine a_build1 (v := .bool _) hS rfl rfl rfl rfl (by rfl) (by simp) ?_ | refine a_build1 (v := .agg _) hS rfl rfl rfl rfl (by rfl) (by simp) ?_ | refine a_build1  hS rfl rfl rfl rfl (by rfl) (by simp) ?_); clear hS; intro v1 w' hS; simp only [List.length_cons, List.length_nil, Nat.zero_add] at hS; try simp only [Nat.reduceAdd] at hS) | ((with_reducible refine g_cut ?_); refine k_str rfl (h := ?_)) | ((with_reducible refine g_indexV ?_); refine k_six rfl (h := ?_)) | ((with_reducible refine g_bin ?_); refine k_cat rfl (h := ?_)) | ((with_reducible refine g_conv ?_); refine k_tos rfl (h := ?_)) | ((with_reducible refine wl_guard ?_); refine stop_mem rfl rfl ?_)))
        replace hS : St [] w _ [net g N2] := hS.pick
        have HG := Lib.hid DN.out.1
        have ln := Lib.hid (fun (W : World) (M : List Ent) (hS : St [] w W (net g N2 :: M)) => net_len hS)
        clear C hget
        try clear c1
        try simp only [hb1, hb2, hb3, hb4]
        go_loopw [7, 8] (fun la p wr => ∃ m : Nat, m ≤ N2.all.length ∧ p = .int .i64 m ∧ la = .int .i64 (lastOf N2 m) ∧ St [] w wr [net g N2]) (fun _ p _ => N2.all.length - (intOf p).toNat)
        case atStart => exact ⟨0, by omega, rfl, by simp [lastOf], hS⟩
        case round =>
          clear hS
          obtain ⟨m, hm, rfl, rfl, hS⟩ := hrel
          by_cases hlm : m < N2.all.length
          · have hl := last_lt HG.out hlm
            have e1 := place_at hlm
            have e2 := place_again hlm
            have e3 := look_at HG.out hlm
            have e4 := last_succ N2 m
            have hr := HG.out.ids _ (nth_mem hlm)
            have hr2 := HG.out.ok.last1
            rw [← e1] at e2 e3 e4 hl hr
            obtain ⟨lm, hlm2⟩ : ∃ lm, lastOf N2 m = lm := ⟨_, rfl⟩
            rw [hlm2] at hl ⊢
            have lk := fun (W : World) (M : List Ent) (hS : St [] w W (net g N2 :: M)) => net_look hS HG.out (N2.place (m : Int)) (by omega) (by omega)
            rw [e3] at lk
            simp only [Pk.letter] at lk
            have PL := Lib.hid (fun (W : World) (M : List Ent) (hS : St [] w W (net g N2 :: M)) (z : Int) => net_place hS HG.out.ok z)
            have LKK := Lib.hid lk
            have E4 := Lib.hid e4
            clear lk e1 e3 e4 hlm2 hr hr2
            have hlm1 : (m : Int) < (N2.all.length : Int) := by omega
            have hll := HG.out.ok.len
            go_wp2_with (first | (go_at_call 15; refine (ln.out _ _ (hS.out (by (repeat (first | exact Out.here | apply Out.there))))).mono ?_; rintro e w' ⟨rfl, rfl⟩) | (go_at_call 16; refine (PL.out _ _ (hS.out (by (repeat (first | exact Out.here | apply Out.there)))) _).mono ?_; rintro e w' ⟨rfl, rfl⟩) | (go_at_call 22; refine (LKK.out _ _ (hS.out (by (repeat (first | exact Out.here | apply Out.there))))).mono ?_; clear hS; rintro e w' ⟨rfl, hS⟩) | (first | ((with_reducible refine g_load ?_); refine k_read rfl (h := ?_)) | ((with_reducible refine g_len ?_); refine k_len rfl (h := ?_)) | ((with_reducible refine g_index ?_); refine k_idx rfl (h := ?_)) | ((with_reducible refine g_field ?_); refine k_fld rfl (h := ?_)) | ((with_reducible refine g_store ?_); refine wl_of rfl ?_; first | (refine k_sta hS rfl rfl rfl (h := ?_); clear hS; intro w' hS; simp only [List.take, List.drop, List.cons_append, List.nil_append, List.length_cons, List.length_nil] at hS) | (first | ((first | (refine k_st1 (v := .int _ _) hS rfl rfl rfl (h := ?_)) | (refine k_st1 (v := .bool _) hS rfl rfl rfl (h := ?_)) | (refine k_st1 (v := .string _) hS rfl rfl rfl (h := ?_)) | (refine k_st1 (v := .slice none 0 0) hS rfl rfl rfl (h := ?_))); clear hS; intro w' hS; simp only [List.set_cons_zero, List.set_cons_succ] at hS) | ((refine k_st1  hS rfl rfl rfl (h := ?_)); clear hS; intro w' hS; simp only [List.set_cons_zero, List.set_cons_succ] at hS; simp only [Act.eval, Array.getD_eq_getD_getElem?, List.getElem?_toArray, List.getElem?_cons_succ, List.getElem?_cons_zero, Option.getD_some] at hS)) | (first | (refine k_ste (v := .int _ _) hS rfl rfl rfl (h := ?_); clear hS; intro w' hS) | (refine k_ste (v := .bool _) hS rfl rfl rfl (h := ?_); clear hS; intro w' hS) | (refine k_ste (v := .string _) hS rfl rfl rfl (h := ?_); clear hS; intro w' hS))) | ((with_reducible refine g_alloc ?_); refine wl_of rfl ?_; refine wp_alloc hS rfl rfl rfl rfl ?_; clear hS; intro gb w1 hS) | ((with_reducible refine g_box ?_); refine wl_of rfl ?_; refine wp_box hS rfl rfl rfl ?_; clear hS; intro gb w1 hS) | ((with_reducible refine g_bs ?_); refine wl_of rfl ?_; (first | refine a_build1 (v := .int _ _) hS rfl rfl rfl rfl (by rfl) (by simp) ?_ | refine a_build1 (v := .string _) hS rfl rfl rfl rfl (by rfl) (by simp) ?_ | refine a_build1 (v := .bool _) hS rfl rfl rfl rfl (by rfl) (by simp) ?_ | refine a_build1 (v := .agg _) hS rfl rfl rfl rfl (by rfl) (by simp) ?_ | refine a_build1  hS rfl rfl rfl rfl (by rfl) (by simp) ?_); clear hS; intro v1 w' hS; simp only [List.length_cons, List.length_nil, Nat.zero_add] at hS; try simp only [Nat.reduceAdd] at hS) | ((with_reducible refine g_cut ?_); refine k_str rfl (h := ?_)) | ((with_reducible refine g_indexV ?_); refine k_six rfl (h := ?_)) | ((with_reducible refine g_bin ?_); refine k_cat rfl (h := ?_)) | ((with_reducible refine g_conv ?_); refine k_tos rfl (h := ?_)) | ((with_reducible refine wl_guard ?_); refine stop_mem rfl rfl ?_)))
            first
            | exact ⟨⟨m + 1, by omega, by go_num, by rw [E4.out], hS.pick⟩, by simp [intOf]; omega⟩
            | (go_round
               case rel => exact ⟨m + 1, by omega, by go_num, by rw [E4.out], hS.pick⟩
               case measure => simp [intOf]; omega)
          · obtain rfl : m = N2.all.length := by omega
            go_wp2_with (first | (go_at_call 15; refine (ln.out _ _ (hS.out (by (repeat (first | exact Out.here | apply Out.there))))).mono ?_; rintro e w' ⟨rfl, rfl⟩) | (first | ((with_reducible refine g_load ?_); refine k_read rfl (h := ?_)) | ((with_reducible refine g_len ?_); refine k_len rfl (h := ?_)) | ((with_reducible refine g_index ?_); refine k_idx rfl (h := ?_)) | ((with_reducible refine g_field ?_); refine k_fld rfl (h := ?_)) | ((with_reducible refine g_store ?_); refine wl_of rfl ?_; first | (refine k_sta hS rfl rfl rfl (h := ?_); clear hS; intro w' hS; simp only [List.take, List.drop, List.cons_append, List.nil_append, List.length_cons, List.length_nil] at hS) | (first | ((first | (refine k_st1 (v := .int _ _) hS rfl rfl rfl (h := ?_)) | (refine k_st1 (v := .bool _) hS rfl rfl rfl (h := ?_)) | (refine k_st1 (v := .string _) hS rfl rfl rfl (h := ?_)) | (refine k_st1 (v := .slice none 0 0) hS rfl rfl rfl (h := ?_))); clear hS; intro w' hS; simp only [List.set_cons_zero, List.set_cons_succ] at hS) | ((refine k_st1  hS rfl rfl rfl (h := ?_)); clear hS; intro w' hS; simp only [List.set_cons_zero, List.set_cons_succ] at hS; simp only [Act.eval, Array.getD_eq_getD_getElem?, List.getElem?_toArray, List.getElem?_cons_succ, List.getElem?_cons_zero, Option.getD_some] at hS)) | (first | (refine k_ste (v := .int _ _) hS rfl rfl rfl (h := ?_); clear hS; intro w' hS) | (refine k_ste (v := .bool _) hS rfl rfl rfl (h := ?_); clear hS; intro w' hS) | (refine k_ste (v := .string _) hS rfl rfl rfl (h := ?_); clear hS; intro w' hS))) | ((with_reducible refine g_alloc ?_); refine wl_of rfl ?_; refine wp_alloc hS rfl rfl rfl rfl ?_; clear hS; intro gb w1 hS) | ((with_reducible refine g_box ?_); refine wl_of rfl ?_; refine wp_box hS rfl rfl rfl ?_; clear hS; intro gb w1 hS) | ((with_reducible refine g_bs ?_); refine wl_of rfl ?_; (first | refine a_build1 (v := .int _ _) hS rfl rfl rfl rfl (by rfl) (by simp) ?_ | refine a_build1 (v := .string _) hS rfl rfl rfl rfl (by rfl) (by simp) ?_ | refine a_build1 (v := .bool _) hS rfl rfl rfl rfl (by rfl) (by simp) ?_ | refine a_build1 (v := .agg _) hS rfl rfl rfl rfl (by rfl) (by simp) ?_ | refine a_build1  hS rfl rfl rfl rfl (by rfl) (by simp) ?_); clear hS; intro v1 w' hS; simp only [List.length_cons, List.length_nil, Nat.zero_add] at hS; try simp only [Nat.reduceAdd] at hS) | ((with_reducible refine g_cut ?_); refine k_str rfl (h := ?_)) | ((with_reducible refine g_indexV ?_); refine k_six rfl (h := ?_)) | ((with_reducible refine g_bin ?_); refine k_cat rfl (h := ?_)) | ((with_reducible refine g_conv ?_); refine k_tos rfl (h := ?_)) | ((with_reducible refine wl_guard ?_); refine stop_mem rfl rfl ?_)))
            first
            | exact ⟨⟨j + 1, N2, by omega, by omega, by go_num, DN, hS⟩, by simp [intOf]; omega⟩
            | (go_round
               case rel => exact ⟨j + 1, N2, by omega, by omega, by go_num, DN, hS⟩
               case measure => simp [intOf]; omega)
    --END
    · by_cases hn : N.all.length = 0
      · have hp0 : N.place 0 = 0 := by unfold Nt.place; rw [if_pos hn]
        have hn0 : (N.all.length : Int) = 0 := by omega
        have hn1 : N.all = [] := List.eq_nil_of_length_eq_zero hn
        have c2 := fun (W : World) (M : List Ent) (hS : St [] w W (net g N :: M)) => net_place hS HK.out.1.ok 0
        rw [hp0] at c2
        have c3 := fun (W : World) (M : List Ent) (hS : St [] w W (net g N :: M)) => net_len hS
        rw [hn0] at c3
        by_cases hlt1 : (j : Int) < L.length
        all_goals
          try (have hlt2 : ¬ (j : Int) < 80 := by omega)
          go_wp2_with (first | ((with_reducible refine g_len ?_); refine wl_run rfl (a_len rfl rfl rfl (hS.old0 hL)) ?_) | (go_at_call 15; refine (c3 _ _ (hS.out (by (repeat (first | exact Out.here | apply Out.there))))).mono ?_; rintro e w' ⟨rfl, rfl⟩) | (go_at_call 16; refine (c2 _ _ (hS.out (by (repeat (first | exact Out.here | apply Out.there))))).mono ?_; rintro e w' ⟨rfl, rfl⟩) | (first | ((with_reducible refine g_load ?_); refine k_read rfl (h := ?_)) | ((with_reducible refine g_len ?_); refine k_len rfl (h := ?_)) | ((with_reducible refine g_index ?_); refine k_idx rfl (h := ?_)) | ((with_reducible refine g_field ?_); refine k_fld rfl (h := ?_)) | ((with_reducible refine g_store ?_); refine wl_of rfl ?_; first | (refine k_sta hS rfl rfl rfl (h := ?_); clear hS; intro w' hS; simp only [List.take, List.drop, List.cons_append, List.nil_append, List.length_cons, List.length_nil] at hS) | (first | ((first | (refine k_st1 (v := .int _ _) hS rfl rfl rfl (h := ?_)) | (refine k_st1 (v := .bool _) hS rfl rfl rfl (h := ?_)) | (refine k_st1 (v := .string _) hS rfl rfl rfl (h := ?_)) | (refine k_st1 (v := .slice none 0 0) hS rfl rfl rfl (h := ?_))); clear hS; intro w' hS; simp only [List.set_cons_zero, List.set_cons_succ] at hS) | ((refine k_st1  hS rfl rfl rfl (h := ?_)); clear hS; intro w' hS; simp only [List.set_cons_zero, List.set_cons_succ] at hS; simp only [Act.eval, Array.getD_eq_getD_getElem?, List.getElem?_toArray, List.getElem?_cons_succ, List.getElem?_cons_zero, Option.getD_some] at hS)) | (first | (refine k_ste (v := .int _ _) hS rfl rfl rfl (h := ?_); clear hS; intro w' hS) | (refine k_ste (v := .bool _) hS rfl rfl rfl (h := ?_); clear hS; intro w' hS) | (refine k_ste (v := .string _) hS rfl rfl rfl (h := ?_); clear hS; intro w' hS))) | ((with_reducible refine g_alloc ?_); refine wl_of rfl ?_; refine wp_alloc hS rfl rfl rfl rfl ?_; clear hS; intro gb w1 hS) | ((with_reducible refine g_box ?_); refine wl_of rfl ?_; refine wp_box hS rfl rfl rfl ?_; clear hS; intro gb w1 hS) | ((with_reducible refine g_bs ?_); refine wl_of rfl ?_; (first | refine a_build1 (v := .int _ _) hS rfl rfl rfl rfl (by rfl) (by simp) ?_ | refine a_build1 (v := .string _) hS rfl rfl rfl rfl (by rfl) (by simp) ?_ | refine a_build1 (v := .bool _) hS rfl rfl rfl rfl (by rfl) (by simp) ?_ | refine a_build1 (v := .agg _) hS rfl rfl rfl rfl (by rfl) (by simp) ?_ | refine a_build1  hS rfl rfl rfl rfl (by rfl) (by simp) ?_); clear hS; intro v1 w' hS; simp only [List.length_cons, List.length_nil, Nat.zero_add] at hS; try simp only [Nat.reduceAdd] at hS) | ((with_reducible refine g_cut ?_); refine k_str rfl (h := ?_)) | ((with_reducible refine g_indexV ?_); refine k_six rfl (h := ?_)) | ((with_reducible refine g_bin ?_); refine k_cat rfl (h := ?_)) | ((with_reducible refine g_conv ?_); refine k_tos rfl (h := ?_)) | ((with_reducible refine wl_guard ?_); refine stop_mem rfl rfl ?_)))
          go_ret
          exact ⟨rfl, hS.nil⟩
      · have hn0 : (0 : Int) < (N.all.length : Int) := by omega
        have c3 := fun (W : World) (M : List Ent) (hS : St [] w W (net g N :: M)) => net_len hS
        by_cases hlt1 : (j : Int) < L.length
        all_goals
          try (have hlt2 : ¬ (j : Int) < 80 := by omega)
          go_wp2_with (first | ((with_reducible refine g_len ?_); refine wl_run rfl (a_len rfl rfl rfl (hS.old0 hL)) ?_) | (go_at_call 15; refine (c3 _ _ (hS.out (by (repeat (first | exact Out.here | apply Out.there))))).mono ?_; rintro e w' ⟨rfl, rfl⟩) | (first | ((with_reducible refine g_load ?_); refine k_read rfl (h := ?_)) | ((with_reducible refine g_len ?_); refine k_len rfl (h := ?_)) | ((with_reducible refine g_index ?_); refine k_idx rfl (h := ?_)) | ((with_reducible refine g_field ?_); refine k_fld rfl (h := ?_)) | ((with_reducible refine g_store ?_); refine wl_of rfl ?_; first | (refine k_sta hS rfl rfl rfl (h := ?_); clear hS; intro w' hS; simp only [List.take, List.drop, List.cons_append, List.nil_append, List.length_cons, List.length_nil] at hS) | (first | ((first | (refine k_st1 (v := .int _ _) hS rfl rfl rfl (h := ?_)) | (refine k_st1 (v := .bool _) hS rfl rfl rfl (h := ?_)) | (refine k_st1 (v := .string _) hS rfl rfl rfl (h := ?_)) | (refine k_st1 (v := .slice none 0 0) hS rfl rfl rfl (h := ?_))); clear hS; intro w' hS; simp only [List.set_cons_zero, List.set_cons_succ] at hS) | ((refine k_st1  hS rfl rfl rfl (h := ?_)); clear hS; intro w' hS; simp only [List.set_cons_zero, List.set_cons_succ] at hS; simp only [Act.eval, Array.getD_eq_getD_getElem?, List.getElem?_toArray, List.getElem?_cons_succ, List.getElem?_cons_zero, Option.getD_some] at hS)) | (first | (refine k_ste (v := .int _ _) hS rfl rfl rfl (h := ?_); clear hS; intro w' hS) | (refine k_ste (v := .bool _) hS rfl rfl rfl (h := ?_); clear hS; intro w' hS) | (refine k_ste (v := .string _) hS rfl rfl rfl (h := ?_); clear hS; intro w' hS))) | ((with_reducible refine g_alloc ?_); refine wl_of rfl ?_; refine wp_alloc hS rfl rfl rfl rfl ?_; clear hS; intro gb w1 hS) | ((with_reducible refine g_box ?_); refine wl_of rfl ?_; refine wp_box hS rfl rfl rfl ?_; clear hS; intro gb w1 hS) | ((with_reducible refine g_bs ?_); refine wl_of rfl ?_; (first | refine a_build1 (v := .int _ _) hS rfl rfl rfl rfl (by rfl) (by simp) ?_ | refine a_build1 (v := .string _) hS rfl rfl rfl rfl (by rfl) (by simp) ?_ | refine a_build1 (v := .bool _) hS rfl rfl rfl rfl (by rfl) (by simp) ?_ | refine a_build1 (v := .agg _) hS rfl rfl rfl rfl (by rfl) (by simp) ?_ | refine a_build1  hS rfl rfl rfl rfl (by rfl) (by simp) ?_); clear hS; intro v1 w' hS; simp only [List.length_cons, List.length_nil, Nat.zero_add] at hS; try simp only [Nat.reduceAdd] at hS) | ((with_reducible refine g_cut ?_); refine k_str rfl (h := ?_)) | ((with_reducible refine g_indexV ?_); refine k_six rfl (h := ?_)) | ((with_reducible refine g_bin ?_); refine k_cat rfl (h := ?_)) | ((with_reducible refine g_conv ?_); refine k_tos rfl (h := ?_)) | ((with_reducible refine wl_guard ?_); refine stop_mem rfl rfl ?_)))
          go_ret
          exact ⟨rfl, hS.nil⟩
end Go.Proofs.Ytnkgfkioijlkaaa
