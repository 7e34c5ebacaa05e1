/-
  The document's net: its function that spoils a letter.
-/
import Derived.Test.YtnkgfkioijlkaaaNetRef1
namespace Go.Proofs.Ytnkgfkioijlkaaa
open Go.RowKit Go.Cmp

theorem set_cut8 : ∀ (s : List UInt8) (i : Nat) (x : UInt8), i < s.length → s.set i x = s.take i ++ [x] ++ s.drop (i + 1)
  | [], i, x, h => by simp at h
  | y :: s, 0, x, _ => by simp
  | y :: s, i + 1, x, h => by
    simp only [List.set_cons_succ, List.take_succ_cons, List.drop_succ_cons, List.cons_append]
    rw [set_cut8 s i x (by simpa using h)]

section
variable {S : List Nat} {w0 w : World} {M : List Ent} {g : Nat} {N : Nt}

set_option maxHeartbeats 4000000 in
theorem rspoil_bad (hS : St S w0 w (rnet g N :: M)) (hln : N.all.length ≤ 4096) (id at' mask : Int) (h : (N.spoil id at' mask).1 = 8 ∨ (N.spoil id at' mask).1 = 1) :
    Calls Try.prog 21 #[.pointer (some ⟨g, 0, none⟩), .int .i64 id, .int .i64 at', .int .i64 mask] w fun e w' => e = .returned (.int .i64 (N.spoil id at' mask).1) ∧ St S w0 w' (rnet g (N.spoil id at' mask).2 :: M) := by
  have HF := Lib.hid (fun (w : World) (M : List Ent) (hS : St S w0 w (rnet g N :: M)) => rnet_at hS hln id)
  have hr := pos_range id N.all
  by_cases hp : pos id N.all < 0
  · have e : N.spoil id at' mask = (8, N) := by unfold Nt.spoil; rw [if_pos hp]
    rw [e]
    clear e h
    (have hU := St.unpack hS; clear hS; obtain ⟨vs, _, hS⟩ := hU; simp only [List.cons_append, List.nil_append] at hS)
    (go_enter Try.func21, Try.ntmps21)
    go_wp2_with (first | (go_at_call 27; refine (HF.out _ M (St.packs vs hS)).mono ?_; rintro e w' ⟨rfl, rfl⟩) | (first | ((with_reducible refine g_load ?_); refine k_read rfl (h := ?_)) | ((with_reducible refine g_len ?_); refine k_len rfl (h := ?_)) | ((with_reducible refine g_index ?_); refine k_idx rfl (h := ?_)) | ((with_reducible refine g_field ?_); refine k_fld rfl (h := ?_)) | ((with_reducible refine g_store ?_); refine wl_of rfl ?_; first | (refine k_sta hS rfl rfl rfl (h := ?_); clear hS; intro w' hS; simp only [List.take, List.drop, List.cons_append, List.nil_append, List.length_cons, List.length_nil] at hS) | (first | ((first | (refine k_st1 (v := .int _ _) hS rfl rfl rfl (h := ?_)) | (refine k_st1 (v := .bool _) hS rfl rfl rfl (h := ?_)) | (refine k_st1 (v := .string _) hS rfl rfl rfl (h := ?_)) | (refine k_st1 (v := .slice none 0 0) hS rfl rfl rfl (h := ?_))); clear hS; intro w' hS; simp only [List.set_cons_zero, List.set_cons_succ] at hS) | ((refine k_st1  hS rfl rfl rfl (h := ?_)); clear hS; intro w' hS; simp only [List.set_cons_zero, List.set_cons_succ] at hS; simp only [Act.eval, Array.getD_eq_getD_getElem?, List.getElem?_toArray, List.getElem?_cons_succ, List.getElem?_cons_zero, Option.getD_some] at hS)) | (first | (refine k_ste (v := .int _ _) hS rfl rfl rfl (h := ?_); clear hS; intro w' hS) | (refine k_ste (v := .bool _) hS rfl rfl rfl (h := ?_); clear hS; intro w' hS) | (refine k_ste (v := .string _) hS rfl rfl rfl (h := ?_); clear hS; intro w' hS))) | ((with_reducible refine g_alloc ?_); refine wl_of rfl ?_; refine wp_alloc hS rfl rfl rfl rfl ?_; clear hS; intro gb w1 hS) | ((with_reducible refine g_box ?_); refine wl_of rfl ?_; refine wp_box hS rfl rfl rfl ?_; clear hS; intro gb w1 hS) | ((with_reducible refine g_bs ?_); refine wl_of rfl ?_; (first | refine a_build1 (v := .int _ _) hS rfl rfl rfl rfl (by rfl) (by simp) ?_ | refine a_build1 (v := .string _) hS rfl rfl rfl rfl (by rfl) (by simp) ?_ | refine a_build1 (v := .bool _) hS rfl rfl rfl rfl (by rfl) (by simp) ?_ | refine a_build1 (v := .agg _) hS rfl rfl rfl rfl (by rfl) (by simp) ?_ | refine a_build1  hS rfl rfl rfl rfl (by rfl) (by simp) ?_); clear hS; intro v1 w' hS; simp only [List.length_cons, List.length_nil, Nat.zero_add] at hS; try simp only [Nat.reduceAdd] at hS) | ((with_reducible refine g_cut ?_); refine k_str rfl (h := ?_)) | ((with_reducible refine g_indexV ?_); refine k_six rfl (h := ?_)) | ((with_reducible refine g_bin ?_); refine k_cat rfl (h := ?_)) | ((with_reducible refine g_conv ?_); refine k_tos rfl (h := ?_)) | ((with_reducible refine wl_guard ?_); refine stop_mem rfl rfl ?_)))
    go_ret
    exact ⟨rfl, St.packs vs hS⟩
  · have e : N.spoil id at' mask = if at' < 0 ∨ (nth N.all (pos id N.all).toNat).data.length ≤ at' ∨ mask < 1 ∨ 255 < mask then (1, N)
      else if (nth N.all (pos id N.all).toNat).marked = true then (7, N)
      else (0, ⟨N.last, N.all.set (pos id N.all).toNat { nth N.all (pos id N.all).toNat with data := turn8 (nth N.all (pos id N.all).toNat).data at'.toNat mask, marked := true }⟩) := by unfold Nt.spoil; rw [if_neg hp]
    rw [e] at h ⊢
    clear e
    obtain ⟨p, hp2⟩ := Int.eq_ofNat_of_zero_le (show 0 ≤ pos id N.all by omega)
    rw [hp2] at hr hp HF h ⊢
    rw [Int.toNat_natCast] at h ⊢
    have hpl : p < N.all.length := by omega
    have hget := get_lt (L := N.all) hpl
    obtain ⟨X, hX⟩ : ∃ X, nth N.all p = X := ⟨_, rfl⟩
    rw [hX] at hget h ⊢
    clear hX
    have hc : at' < 0 ∨ X.data.length ≤ at' ∨ mask < 1 ∨ 255 < mask := by
      by_cases hc : at' < 0 ∨ X.data.length ≤ at' ∨ mask < 1 ∨ 255 < mask
      · exact hc
      · rw [if_neg hc] at h
        split at h <;> simp at h
    rw [if_pos hc]
    clear h
    (have hU := St.unpack hS; clear hS; obtain ⟨vs, _, hS⟩ := hU; simp only [List.cons_append, List.nil_append] at hS)
    by_cases hneg : at' < 0
    · clear hc
      have hd : decide (at' < 0) = true := by simpa using hneg
      (go_enter Try.func21, Try.ntmps21)
      go_wp2_with (first | (go_at_call 27; refine (HF.out _ M (St.packs vs hS)).mono ?_; rintro e w' ⟨rfl, rfl⟩) | ((with_reducible refine g_load ?_); refine wl_run rfl (a_loadF (d := .string) (f := Pk.rcells) (k := 5) (j := p) (c := 3) rfl (hS.rdx (by (repeat (first | exact Ix.here | apply Ix.there)))) rfl rfl rfl (by intro _; rfl) hget (by rfl)) ?_) | (first | ((with_reducible refine g_load ?_); refine k_read rfl (h := ?_)) | ((with_reducible refine g_len ?_); refine k_len rfl (h := ?_)) | ((with_reducible refine g_index ?_); refine k_idx rfl (h := ?_)) | ((with_reducible refine g_field ?_); refine k_fld rfl (h := ?_)) | ((with_reducible refine g_store ?_); refine wl_of rfl ?_; first | (refine k_sta hS rfl rfl rfl (h := ?_); clear hS; intro w' hS; simp only [List.take, List.drop, List.cons_append, List.nil_append, List.length_cons, List.length_nil] at hS) | (first | ((first | (refine k_st1 (v := .int _ _) hS rfl rfl rfl (h := ?_)) | (refine k_st1 (v := .bool _) hS rfl rfl rfl (h := ?_)) | (refine k_st1 (v := .string _) hS rfl rfl rfl (h := ?_)) | (refine k_st1 (v := .slice none 0 0) hS rfl rfl rfl (h := ?_))); clear hS; intro w' hS; simp only [List.set_cons_zero, List.set_cons_succ] at hS) | ((refine k_st1  hS rfl rfl rfl (h := ?_)); clear hS; intro w' hS; simp only [List.set_cons_zero, List.set_cons_succ] at hS; simp only [Act.eval, Array.getD_eq_getD_getElem?, List.getElem?_toArray, List.getElem?_cons_succ, List.getElem?_cons_zero, Option.getD_some] at hS)) | (first | (refine k_ste (v := .int _ _) hS rfl rfl rfl (h := ?_); clear hS; intro w' hS) | (refine k_ste (v := .bool _) hS rfl rfl rfl (h := ?_); clear hS; intro w' hS) | (refine k_ste (v := .string _) hS rfl rfl rfl (h := ?_); clear hS; intro w' hS))) | ((with_reducible refine g_alloc ?_); refine wl_of rfl ?_; refine wp_alloc hS rfl rfl rfl rfl ?_; clear hS; intro gb w1 hS) | ((with_reducible refine g_box ?_); refine wl_of rfl ?_; refine wp_box hS rfl rfl rfl ?_; clear hS; intro gb w1 hS) | ((with_reducible refine g_bs ?_); refine wl_of rfl ?_; (first | refine a_build1 (v := .int _ _) hS rfl rfl rfl rfl (by rfl) (by simp) ?_ | refine a_build1 (v := .string _) hS rfl rfl rfl rfl (by rfl) (by simp) ?_ | refine a_build1 (v := .bool _) hS rfl rfl rfl rfl (by rfl) (by simp) ?_ | refine a_build1 (v := .agg _) hS rfl rfl rfl rfl (by rfl) (by simp) ?_ | refine a_build1  hS rfl rfl rfl rfl (by rfl) (by simp) ?_); clear hS; intro v1 w' hS; simp only [List.length_cons, List.length_nil, Nat.zero_add] at hS; try simp only [Nat.reduceAdd] at hS) | ((with_reducible refine g_cut ?_); refine k_str rfl (h := ?_)) | ((with_reducible refine g_indexV ?_); refine k_six rfl (h := ?_)) | ((with_reducible refine g_bin ?_); refine k_cat rfl (h := ?_)) | ((with_reducible refine g_conv ?_); refine k_tos rfl (h := ?_)) | ((with_reducible refine wl_guard ?_); refine stop_mem rfl rfl ?_)))
      go_ret
      exact ⟨rfl, St.packs vs hS⟩
    obtain ⟨q, rfl⟩ := Int.eq_ofNat_of_zero_le (show 0 ≤ at' by omega)
    have hcs : (X.data.length : Int) ≤ q ∨ ((q : Int) < X.data.length ∧ mask < 1) ∨ ((q : Int) < X.data.length ∧ 1 ≤ mask ∧ 255 < mask) := by omega
    clear hc hneg
    rcases hcs with c2 | ⟨c2, c3⟩ | ⟨c2, c3, c4⟩
    all_goals
      (go_enter Try.func21, Try.ntmps21)
      go_wp2_with (first | (go_at_call 27; refine (HF.out _ M (St.packs vs hS)).mono ?_; rintro e w' ⟨rfl, rfl⟩) | ((with_reducible refine g_load ?_); refine wl_run rfl (a_loadF (d := .string) (f := Pk.rcells) (k := 5) (j := p) (c := 3) rfl (hS.rdx (by (repeat (first | exact Ix.here | apply Ix.there)))) rfl rfl rfl (by intro _; rfl) hget (by rfl)) ?_) | (first | ((with_reducible refine g_load ?_); refine k_read rfl (h := ?_)) | ((with_reducible refine g_len ?_); refine k_len rfl (h := ?_)) | ((with_reducible refine g_index ?_); refine k_idx rfl (h := ?_)) | ((with_reducible refine g_field ?_); refine k_fld rfl (h := ?_)) | ((with_reducible refine g_store ?_); refine wl_of rfl ?_; first | (refine k_sta hS rfl rfl rfl (h := ?_); clear hS; intro w' hS; simp only [List.take, List.drop, List.cons_append, List.nil_append, List.length_cons, List.length_nil] at hS) | (first | ((first | (refine k_st1 (v := .int _ _) hS rfl rfl rfl (h := ?_)) | (refine k_st1 (v := .bool _) hS rfl rfl rfl (h := ?_)) | (refine k_st1 (v := .string _) hS rfl rfl rfl (h := ?_)) | (refine k_st1 (v := .slice none 0 0) hS rfl rfl rfl (h := ?_))); clear hS; intro w' hS; simp only [List.set_cons_zero, List.set_cons_succ] at hS) | ((refine k_st1  hS rfl rfl rfl (h := ?_)); clear hS; intro w' hS; simp only [List.set_cons_zero, List.set_cons_succ] at hS; simp only [Act.eval, Array.getD_eq_getD_getElem?, List.getElem?_toArray, List.getElem?_cons_succ, List.getElem?_cons_zero, Option.getD_some] at hS)) | (first | (refine k_ste (v := .int _ _) hS rfl rfl rfl (h := ?_); clear hS; intro w' hS) | (refine k_ste (v := .bool _) hS rfl rfl rfl (h := ?_); clear hS; intro w' hS) | (refine k_ste (v := .string _) hS rfl rfl rfl (h := ?_); clear hS; intro w' hS))) | ((with_reducible refine g_alloc ?_); refine wl_of rfl ?_; refine wp_alloc hS rfl rfl rfl rfl ?_; clear hS; intro gb w1 hS) | ((with_reducible refine g_box ?_); refine wl_of rfl ?_; refine wp_box hS rfl rfl rfl ?_; clear hS; intro gb w1 hS) | ((with_reducible refine g_bs ?_); refine wl_of rfl ?_; (first | refine a_build1 (v := .int _ _) hS rfl rfl rfl rfl (by rfl) (by simp) ?_ | refine a_build1 (v := .string _) hS rfl rfl rfl rfl (by rfl) (by simp) ?_ | refine a_build1 (v := .bool _) hS rfl rfl rfl rfl (by rfl) (by simp) ?_ | refine a_build1 (v := .agg _) hS rfl rfl rfl rfl (by rfl) (by simp) ?_ | refine a_build1  hS rfl rfl rfl rfl (by rfl) (by simp) ?_); clear hS; intro v1 w' hS; simp only [List.length_cons, List.length_nil, Nat.zero_add] at hS; try simp only [Nat.reduceAdd] at hS) | ((with_reducible refine g_cut ?_); refine k_str rfl (h := ?_)) | ((with_reducible refine g_indexV ?_); refine k_six rfl (h := ?_)) | ((with_reducible refine g_bin ?_); refine k_cat rfl (h := ?_)) | ((with_reducible refine g_conv ?_); refine k_tos rfl (h := ?_)) | ((with_reducible refine wl_guard ?_); refine stop_mem rfl rfl ?_)))
      go_ret
      exact ⟨rfl, St.packs vs hS⟩

set_option maxRecDepth 100000 in
set_option maxHeartbeats 4000000 in
theorem rspoil_in (hS : St S w0 w (rnet g N :: M)) (hln : N.all.length ≤ 4096) (id : Int) (p q : Nat) (d : UInt8) (X : Pk) (hp2 : pos id N.all = p) (hget : N.all[p]? = some X) (c2 : (q : Int) < X.data.length) (c3 : (1 : Int) ≤ (d.toNat : Int)) (c4 : (d.toNat : Int) ≤ 255) (hxl : X.data.length ≤ 4096) :
    Calls Try.prog 21 #[.pointer (some ⟨g, 0, none⟩), .int .i64 id, .int .i64 q, .int .i64 d.toNat] w fun e w' => e = .returned (.int .i64 (if X.marked = true then 7 else 0)) ∧ St S w0 w' (rnet g (if X.marked = true then N else ⟨N.last, N.all.set p { X with data := turn8 X.data q d.toNat, marked := true }⟩) :: M) := by
  have HF := Lib.hid (fun (w : World) (M : List Ent) (hS : St S w0 w (rnet g N :: M)) => rnet_at hS hln id)
  rw [hp2] at HF
  have hpl : p < N.all.length := (List.getElem?_eq_some_iff.1 hget).1
  (have hU := St.unpack hS; clear hS; obtain ⟨vs, _, hS⟩ := hU; simp only [List.cons_append, List.nil_append] at hS)
  by_cases hm : X.marked = true
  · rw [if_pos hm, if_pos hm]
    (go_enter Try.func21, Try.ntmps21)
    go_wp2_with (first | (go_at_call 27; refine (HF.out _ M (St.packs vs hS)).mono ?_; rintro e w' ⟨rfl, rfl⟩) | ((with_reducible refine g_load ?_); refine wl_run rfl (a_loadF (d := .string) (f := Pk.rcells) (k := 5) (j := p) (c := 3) rfl (hS.rdx (by (repeat (first | exact Ix.here | apply Ix.there)))) rfl rfl rfl (by intro _; rfl) hget (by rfl)) ?_) | (first | ((with_reducible refine g_load ?_); refine k_read rfl (h := ?_)) | ((with_reducible refine g_len ?_); refine k_len rfl (h := ?_)) | ((with_reducible refine g_index ?_); refine k_idx rfl (h := ?_)) | ((with_reducible refine g_field ?_); refine k_fld rfl (h := ?_)) | ((with_reducible refine g_store ?_); refine wl_of rfl ?_; first | (refine k_sta hS rfl rfl rfl (h := ?_); clear hS; intro w' hS; simp only [List.take, List.drop, List.cons_append, List.nil_append, List.length_cons, List.length_nil] at hS) | (first | ((first | (refine k_st1 (v := .int _ _) hS rfl rfl rfl (h := ?_)) | (refine k_st1 (v := .bool _) hS rfl rfl rfl (h := ?_)) | (refine k_st1 (v := .string _) hS rfl rfl rfl (h := ?_)) | (refine k_st1 (v := .slice none 0 0) hS rfl rfl rfl (h := ?_))); clear hS; intro w' hS; simp only [List.set_cons_zero, List.set_cons_succ] at hS) | ((refine k_st1  hS rfl rfl rfl (h := ?_)); clear hS; intro w' hS; simp only [List.set_cons_zero, List.set_cons_succ] at hS; simp only [Act.eval, Array.getD_eq_getD_getElem?, List.getElem?_toArray, List.getElem?_cons_succ, List.getElem?_cons_zero, Option.getD_some] at hS)) | (first | (refine k_ste (v := .int _ _) hS rfl rfl rfl (h := ?_); clear hS; intro w' hS) | (refine k_ste (v := .bool _) hS rfl rfl rfl (h := ?_); clear hS; intro w' hS) | (refine k_ste (v := .string _) hS rfl rfl rfl (h := ?_); clear hS; intro w' hS))) | ((with_reducible refine g_alloc ?_); refine wl_of rfl ?_; refine wp_alloc hS rfl rfl rfl rfl ?_; clear hS; intro gb w1 hS) | ((with_reducible refine g_box ?_); refine wl_of rfl ?_; refine wp_box hS rfl rfl rfl ?_; clear hS; intro gb w1 hS) | ((with_reducible refine g_bs ?_); refine wl_of rfl ?_; (first | refine a_build1 (v := .int _ _) hS rfl rfl rfl rfl (by rfl) (by simp) ?_ | refine a_build1 (v := .string _) hS rfl rfl rfl rfl (by rfl) (by simp) ?_ | refine a_build1 (v := .bool _) hS rfl rfl rfl rfl (by rfl) (by simp) ?_ | refine a_build1 (v := .agg _) hS rfl rfl rfl rfl (by rfl) (by simp) ?_ | refine a_build1  hS rfl rfl rfl rfl (by rfl) (by simp) ?_); clear hS; intro v1 w' hS; simp only [List.length_cons, List.length_nil, Nat.zero_add] at hS; try simp only [Nat.reduceAdd] at hS) | ((with_reducible refine g_cut ?_); refine k_str rfl (h := ?_)) | ((with_reducible refine g_indexV ?_); refine k_six rfl (h := ?_)) | ((with_reducible refine g_bin ?_); refine k_cat rfl (h := ?_)) | ((with_reducible refine g_conv ?_); refine k_tos rfl (h := ?_)) | ((with_reducible refine wl_guard ?_); refine stop_mem rfl rfl ?_)))
    all_goals
      first
      | (exfalso; simp_all; done)
      | (go_ret
         exact ⟨rfl, St.packs vs hS⟩)
  · rw [if_neg hm, if_neg hm]
    have hm : X.marked = false := by simpa using hm
    have hw8 : IntKind.u8.wrap (d.toNat : Int) = (d.toNat : Int) := by rw [IntKind.wrap_u8]; have := u8_range d; omega
    have hw9 : IntKind.i64.wrap ((q : Int) + 1) = (q : Int) + 1 := by rw [IntKind.wrap_i64]; omega
    obtain ⟨dat, hdat⟩ : ∃ dat, turn8 X.data q d.toNat = dat := ⟨_, rfl⟩
    have hcut : X.data.take (q : Int).toNat ++ [nth X.data (q : Int).toNat ^^^ d] ++ X.data.drop ((q : Int) + 1).toNat = dat := by
      rw [← hdat, Int.toNat_natCast, show ((q : Int) + 1).toNat = q + 1 by omega, ← set_cut8 X.data q _ (by omega)]
      simp [turn8]
    rw [hdat]
    have Hcut := Lib.hid hcut
    clear hcut hdat
    (go_enter Try.func21, Try.ntmps21)
    go_wp2_with (first | (go_at_call 27; refine (HF.out _ M (St.packs vs hS)).mono ?_; rintro e w' ⟨rfl, rfl⟩) | ((with_reducible refine g_load ?_); refine wl_run rfl (a_loadF (d := .string) (f := Pk.rcells) (k := 5) (j := p) (c := 3) rfl (hS.rdx (by (repeat (first | exact Ix.here | apply Ix.there)))) rfl rfl rfl (by intro _; rfl) hget (by rfl)) ?_) | (first | ((with_reducible refine g_load ?_); refine k_read rfl (h := ?_)) | ((with_reducible refine g_len ?_); refine k_len rfl (h := ?_)) | ((with_reducible refine g_index ?_); refine k_idx rfl (h := ?_)) | ((with_reducible refine g_field ?_); refine k_fld rfl (h := ?_)) | ((with_reducible refine g_store ?_); refine wl_of rfl ?_; first | (refine k_sta hS rfl rfl rfl (h := ?_); clear hS; intro w' hS; simp only [List.take, List.drop, List.cons_append, List.nil_append, List.length_cons, List.length_nil] at hS) | (first | ((first | (refine k_st1 (v := .int _ _) hS rfl rfl rfl (h := ?_)) | (refine k_st1 (v := .bool _) hS rfl rfl rfl (h := ?_)) | (refine k_st1 (v := .string _) hS rfl rfl rfl (h := ?_)) | (refine k_st1 (v := .slice none 0 0) hS rfl rfl rfl (h := ?_))); clear hS; intro w' hS; simp only [List.set_cons_zero, List.set_cons_succ] at hS) | ((refine k_st1  hS rfl rfl rfl (h := ?_)); clear hS; intro w' hS; simp only [List.set_cons_zero, List.set_cons_succ] at hS; simp only [Act.eval, Array.getD_eq_getD_getElem?, List.getElem?_toArray, List.getElem?_cons_succ, List.getElem?_cons_zero, Option.getD_some] at hS)) | (first | (refine k_ste (v := .int _ _) hS rfl rfl rfl (h := ?_); clear hS; intro w' hS) | (refine k_ste (v := .bool _) hS rfl rfl rfl (h := ?_); clear hS; intro w' hS) | (refine k_ste (v := .string _) hS rfl rfl rfl (h := ?_); clear hS; intro w' hS))) | ((with_reducible refine g_alloc ?_); refine wl_of rfl ?_; refine wp_alloc hS rfl rfl rfl rfl ?_; clear hS; intro gb w1 hS) | ((with_reducible refine g_box ?_); refine wl_of rfl ?_; refine wp_box hS rfl rfl rfl ?_; clear hS; intro gb w1 hS) | ((with_reducible refine g_bs ?_); refine wl_of rfl ?_; (first | refine a_build1 (v := .int _ _) hS rfl rfl rfl rfl (by rfl) (by simp) ?_ | refine a_build1 (v := .string _) hS rfl rfl rfl rfl (by rfl) (by simp) ?_ | refine a_build1 (v := .bool _) hS rfl rfl rfl rfl (by rfl) (by simp) ?_ | refine a_build1 (v := .agg _) hS rfl rfl rfl rfl (by rfl) (by simp) ?_ | refine a_build1  hS rfl rfl rfl rfl (by rfl) (by simp) ?_); clear hS; intro v1 w' hS; simp only [List.length_cons, List.length_nil, Nat.zero_add] at hS; try simp only [Nat.reduceAdd] at hS) | ((with_reducible refine g_cut ?_); refine k_str rfl (h := ?_)) | ((with_reducible refine g_indexV ?_); refine k_six rfl (h := ?_)) | ((with_reducible refine g_bin ?_); refine k_cat rfl (h := ?_)) | ((with_reducible refine g_conv ?_); refine k_tos rfl (h := ?_)) | ((with_reducible refine wl_guard ?_); refine stop_mem rfl rfl ?_)))
    refine region_end0 25 hS (by kernel_rfl) ?_
    clear hS
    intro wx hR hB hS
    (refine we_take 0 rfl rfl (by kernel_rfl) (by kernel_rfl) (by kernel_rfl) (fun _ _ _ h => h) (by kernel_rfl) rfl (fun W hW => (by (go_simp; try with_reducible rfl))) hS.base ?_; simp only [Act.put, List.setIfInBounds_toArray, List.set_cons_zero, List.set_cons_succ])
    (refine we_take 1 rfl rfl (by kernel_rfl) (by kernel_rfl) (by kernel_rfl) (fun _ _ _ h => h) (by kernel_rfl) rfl (fun W hW => (by (go_simp; try with_reducible rfl))) hS.base ?_; simp only [Act.put, List.setIfInBounds_toArray, List.set_cons_zero, List.set_cons_succ])
    (refine we_take 2 rfl rfl (by kernel_rfl) (by kernel_rfl) (by kernel_rfl) (fun _ _ _ h => h) (by kernel_rfl) rfl (fun W hW => (by (go_simp; try with_reducible rfl))) hS.base ?_; simp only [Act.put, List.setIfInBounds_toArray, List.set_cons_zero, List.set_cons_succ])
    (refine we_take 3 rfl rfl (by kernel_rfl) (by kernel_rfl) (by kernel_rfl) (fun _ _ _ h => h) (by kernel_rfl) rfl (fun W hW => (by (first | exact a_load1 (hR W hW) rfl rfl rfl rfl (by (repeat (first | exact Ix.here | apply Ix.there))) (by rfl) | exact a_loadE rfl (by (first | exact St.rdx (hR W hW) (by (repeat (first | exact Ix.here | apply Ix.there))) | exact Reads.at (by assumption) (hR W hW) (by (repeat (first | exact List.Sublist.refl _ | apply List.Sublist.cons))) | exact St.old0 (hR W hW) (by assumption))) rfl rfl rfl (by intro _; rfl) (by (first | assumption | exact get_lt (by first | omega | (simp; omega)))) (by rfl) | exact a_loadF rfl (by (first | exact St.rdx (hR W hW) (by (repeat (first | exact Ix.here | apply Ix.there))) | exact Reads.at (by assumption) (hR W hW) (by (repeat (first | exact List.Sublist.refl _ | apply List.Sublist.cons))) | exact St.old0 (hR W hW) (by assumption))) rfl rfl rfl (by intro _; rfl) (by (first | assumption | exact get_lt (by first | omega | (simp; omega)))) (by rfl) | exact a_loadG (vs := [_, _]) rfl (by (first | exact St.rdx (hR W hW) (by (repeat (first | exact Ix.here | apply Ix.there))) | exact Reads.at (by assumption) (hR W hW) (by (repeat (first | exact List.Sublist.refl _ | apply List.Sublist.cons))) | exact St.old0 (hR W hW) (by assumption))) rfl rfl rfl (by rfl) (by intro _; rfl) (by (first | assumption | exact get_lt (by first | omega | (simp; omega)))) (by rfl) | exact a_loadG (vs := [_, _, _]) rfl (by (first | exact St.rdx (hR W hW) (by (repeat (first | exact Ix.here | apply Ix.there))) | exact Reads.at (by assumption) (hR W hW) (by (repeat (first | exact List.Sublist.refl _ | apply List.Sublist.cons))) | exact St.old0 (hR W hW) (by assumption))) rfl rfl rfl (by rfl) (by intro _; rfl) (by (first | assumption | exact get_lt (by first | omega | (simp; omega)))) (by rfl) | exact a_loadG (vs := [_, _, _, _]) rfl (by (first | exact St.rdx (hR W hW) (by (repeat (first | exact Ix.here | apply Ix.there))) | exact Reads.at (by assumption) (hR W hW) (by (repeat (first | exact List.Sublist.refl _ | apply List.Sublist.cons))) | exact St.old0 (hR W hW) (by assumption))) rfl rfl rfl (by rfl) (by intro _; rfl) (by (first | assumption | exact get_lt (by first | omega | (simp; omega)))) (by rfl) | exact a_loadG (vs := [_, _, _, _, _]) rfl (by (first | exact St.rdx (hR W hW) (by (repeat (first | exact Ix.here | apply Ix.there))) | exact Reads.at (by assumption) (hR W hW) (by (repeat (first | exact List.Sublist.refl _ | apply List.Sublist.cons))) | exact St.old0 (hR W hW) (by assumption))) rfl rfl rfl (by rfl) (by intro _; rfl) (by (first | assumption | exact get_lt (by first | omega | (simp; omega)))) (by rfl) | exact a_loadR (hR W hW) rfl rfl rfl rfl (by (repeat (first | exact Ix.here | apply Ix.there))) (by rfl)))) hS.base ?_; simp only [Act.put, List.setIfInBounds_toArray, List.set_cons_zero, List.set_cons_succ])
    (refine we_take 4 rfl rfl (by kernel_rfl) (by kernel_rfl) (by kernel_rfl) (fun _ _ _ h => h) (by kernel_rfl) rfl (fun W hW => (by (go_simp; try with_reducible rfl))) hS.base ?_; simp only [Act.put, List.setIfInBounds_toArray, List.set_cons_zero, List.set_cons_succ])
    (refine we_take 5 rfl rfl (by kernel_rfl) (by kernel_rfl) (by kernel_rfl) (fun _ _ _ h => h) (by kernel_rfl) rfl (fun W hW => (by (go_simp; try with_reducible rfl))) hS.base ?_; simp only [Act.put, List.setIfInBounds_toArray, List.set_cons_zero, List.set_cons_succ])
    (refine we_take 6 rfl rfl (by kernel_rfl) (by kernel_rfl) (by kernel_rfl) (fun _ _ _ h => h) (by kernel_rfl) rfl (fun W hW => (by (go_simp; try with_reducible rfl))) hS.base ?_; simp only [Act.put, List.setIfInBounds_toArray, List.set_cons_zero, List.set_cons_succ])
    (refine we_take 7 rfl rfl (by kernel_rfl) (by kernel_rfl) (by kernel_rfl) (fun _ _ _ h => h) (by kernel_rfl) rfl (fun W hW => (by (first | exact a_strHi rfl rfl rfl rfl (by omega) (by omega) | exact a_strLo rfl rfl rfl rfl (by omega) (by omega) | exact a_strMid rfl rfl rfl rfl rfl (by omega) (by omega) (by omega)))) hS.base ?_; simp only [Act.put, List.setIfInBounds_toArray, List.set_cons_zero, List.set_cons_succ])
    (refine we_take 8 rfl rfl (by kernel_rfl) (by kernel_rfl) (by kernel_rfl) (fun _ _ _ h => h) (by kernel_rfl) rfl (fun W hW => (by (go_simp; try with_reducible rfl))) hS.base ?_; simp only [Act.put, List.setIfInBounds_toArray, List.set_cons_zero, List.set_cons_succ])
    (refine we_take 9 rfl rfl (by kernel_rfl) (by kernel_rfl) (by kernel_rfl) (fun _ _ _ h => h) (by kernel_rfl) rfl (fun W hW => (by (go_simp; try with_reducible rfl))) hS.base ?_; simp only [Act.put, List.setIfInBounds_toArray, List.set_cons_zero, List.set_cons_succ])
    (refine we_take 10 rfl rfl (by kernel_rfl) (by kernel_rfl) (by kernel_rfl) (fun _ _ _ h => h) (by kernel_rfl) rfl (fun W hW => (by exact a_strIndex rfl rfl rfl rfl (by omega) (by omega))) hS.base ?_; simp only [Act.put, List.setIfInBounds_toArray, List.set_cons_zero, List.set_cons_succ])
    (refine we_take 11 rfl rfl (by kernel_rfl) (by kernel_rfl) (by kernel_rfl) (fun _ _ _ h => h) (by kernel_rfl) rfl (fun W hW => (by (go_simp; try with_reducible rfl))) hS.base ?_; simp only [Act.put, List.setIfInBounds_toArray, List.set_cons_zero, List.set_cons_succ])
    (refine we_take (v := (.int .u8 (d.toNat : Int))) 12 rfl rfl (by kernel_rfl) (by kernel_rfl) (by kernel_rfl) (fun _ _ _ h => h) (by kernel_rfl) rfl (fun W hW => by (go_simp; try simp [hw8])) hS.base ?_; simp only [Act.put, List.setIfInBounds_toArray, List.set_cons_zero, List.set_cons_succ])
    (refine we_take 13 rfl rfl (by kernel_rfl) (by kernel_rfl) (by kernel_rfl) (fun _ _ _ h => h) (by kernel_rfl) rfl (fun W hW => (a_xor8 (d := d) rfl rfl rfl)) hS.base ?_; simp only [Act.put, List.setIfInBounds_toArray, List.set_cons_zero, List.set_cons_succ])
    (refine we_take 17 rfl rfl (by kernel_rfl) (by kernel_rfl) (by kernel_rfl) (fun _ _ _ h => h) (by kernel_rfl) rfl (fun W hW => (by (go_simp; try with_reducible rfl))) hS.base ?_; simp only [Act.put, List.setIfInBounds_toArray, List.set_cons_zero, List.set_cons_succ])
    (refine we_take 18 rfl rfl (by kernel_rfl) (by kernel_rfl) (by kernel_rfl) (fun _ _ _ h => h) (by kernel_rfl) rfl (fun W hW => (by (go_simp; try with_reducible rfl))) hS.base ?_; simp only [Act.put, List.setIfInBounds_toArray, List.set_cons_zero, List.set_cons_succ])
    (refine we_take (v := (.int .i64 ((q : Int) + 1))) 19 rfl rfl (by kernel_rfl) (by kernel_rfl) (by kernel_rfl) (fun _ _ _ h => h) (by kernel_rfl) rfl (fun W hW => by (go_simp; try simp [hw9])) hS.base ?_; simp only [Act.put, List.setIfInBounds_toArray, List.set_cons_zero, List.set_cons_succ])
    (refine we_take 20 rfl rfl (by kernel_rfl) (by kernel_rfl) (by kernel_rfl) (fun _ _ _ h => h) (by kernel_rfl) rfl (fun W hW => (by (first | exact a_strHi rfl rfl rfl rfl (by omega) (by omega) | exact a_strLo rfl rfl rfl rfl (by omega) (by omega) | exact a_strMid rfl rfl rfl rfl rfl (by omega) (by omega) (by omega)))) hS.base ?_; simp only [Act.put, List.setIfInBounds_toArray, List.set_cons_zero, List.set_cons_succ])
    (refine we_all (rs := [14]) (by kernel_rfl) (by simp) ?_; intro i hi; have hi := List.mem_singleton.1 hi; subst hi)
    refine wod_of rfl rfl rfl (a_build1 (v := .int _ _) hS rfl rfl rfl rfl (by rfl) (by simp) ?_)
    clear hS
    intro v1 w3 hS
    simp only [List.length_cons, List.length_nil, Nat.zero_add] at hS
    try simp only [Nat.reduceAdd] at hS
    (refine ⟨fun _ => hS.base, ?_⟩; simp only [Act.put, List.setIfInBounds_toArray, List.set_cons_zero, List.set_cons_succ])
    (refine we_all (rs := [15]) (by kernel_rfl) (by simp) ?_; intro i hi; have hi := List.mem_singleton.1 hi; subst hi)
    refine wod_of rfl rfl rfl (wp_run (a_toString2 (l := [nth X.data (q : Int).toNat ^^^ d]) rfl rfl rfl rfl rfl (by exact St.rdx hS (by (repeat (first | exact Ix.here | apply Ix.there))))) ?_)
    (refine ⟨fun _ => hS.base, ?_⟩; simp only [Act.put, List.setIfInBounds_toArray, List.set_cons_zero, List.set_cons_succ])
    have hl1 : (X.data.take (q : Int).toNat).length ≤ 4096 := by rw [List.length_take]; omega
    have hl2 : (X.data.drop ((q : Int) + 1).toNat).length ≤ 4096 := by rw [List.length_drop]; omega
    (refine we_take 16 rfl rfl (by kernel_rfl) (by kernel_rfl) (by kernel_rfl) (fun _ _ _ h => h) (by kernel_rfl) rfl (fun W hW => (by exact a_concat rfl rfl rfl (by first | omega | (simp; omega)))) hS.base ?_; simp only [Act.put, List.setIfInBounds_toArray, List.set_cons_zero, List.set_cons_succ])
    (refine we_take 21 rfl rfl (by kernel_rfl) (by kernel_rfl) (by kernel_rfl) (fun _ _ _ h => h) (by kernel_rfl) rfl (fun W hW => (by exact a_concat rfl rfl rfl (by first | omega | (simp; omega)))) hS.base ?_; simp only [Act.put, List.setIfInBounds_toArray, List.set_cons_zero, List.set_cons_succ])
    have hT := hB _ _ hS
    simp only [List.cons_append, List.nil_append] at hT
    (refine we_all (rs := [22]) (by kernel_rfl) (by simp) ?_; intro i hi; have hi := List.mem_singleton.1 hi; subst hi)
    refine wod_of rfl rfl rfl (wp_run (by (first | exact a_indexI 0 hT rfl rfl rfl rfl rfl (by rfl) (by omega) (by omega) | exact a_indexI 1 hT rfl rfl rfl rfl rfl (by rfl) (by omega) (by omega) | exact a_indexI 2 hT rfl rfl rfl rfl rfl (by rfl) (by omega) (by omega) | exact a_indexI 3 hT rfl rfl rfl rfl rfl (by rfl) (by omega) (by omega) | exact a_indexI 4 hT rfl rfl rfl rfl rfl (by rfl) (by omega) (by omega) | exact a_indexI 5 hT rfl rfl rfl rfl rfl (by rfl) (by omega) (by omega) | exact a_indexI 6 hT rfl rfl rfl rfl rfl (by rfl) (by omega) (by omega) | exact a_indexI 7 hT rfl rfl rfl rfl rfl (by rfl) (by omega) (by omega) | exact a_indexI 8 hT rfl rfl rfl rfl rfl (by rfl) (by omega) (by omega) | exact a_indexI 9 hT rfl rfl rfl rfl rfl (by rfl) (by omega) (by omega) | exact a_index rfl rfl rfl rfl (by (first | exact St.rdx hT (by (repeat (first | exact Ix.here | apply Ix.there))) | exact Reads.at (by assumption) hT (by (repeat (first | exact List.Sublist.refl _ | apply List.Sublist.cons))) | exact St.old0 hT (by assumption))) (by rfl) (by omega) (by omega))) ?_)
    (refine ⟨fun _ => hS.base, ?_⟩; simp only [Act.put, List.setIfInBounds_toArray, List.set_cons_zero, List.set_cons_succ])
    (refine we_all (rs := [23]) (by kernel_rfl) (by simp) ?_; intro i hi; have hi := List.mem_singleton.1 hi; subst hi)
    refine wod_of rfl rfl rfl (wp_run (by exact a_field rfl rfl (by (first | exact St.rdx hT (by (repeat (first | exact Ix.here | apply Ix.there))) | exact Reads.at (by assumption) hT (by (repeat (first | exact List.Sublist.refl _ | apply List.Sublist.cons))) | exact St.old0 hT (by assumption))) (by omega) rfl rfl rfl (by rfl)) ?_)
    (refine ⟨fun _ => hS.base, ?_⟩; simp only [Act.put, List.setIfInBounds_toArray, List.set_cons_zero, List.set_cons_succ])
    (refine we_all (rs := [24]) (by kernel_rfl) (by simp) ?_; intro i hi; have hi := List.mem_singleton.1 hi; subst hi)
    refine wod_of rfl rfl rfl (wp_run (by exact a_field rfl rfl (by (first | exact St.rdx hT (by (repeat (first | exact Ix.here | apply Ix.there))) | exact Reads.at (by assumption) hT (by (repeat (first | exact List.Sublist.refl _ | apply List.Sublist.cons))) | exact St.old0 hT (by assumption))) (by omega) rfl rfl rfl (by rfl)) ?_)
    (refine ⟨fun _ => hS.base, ?_⟩; simp only [Act.put, List.setIfInBounds_toArray, List.set_cons_zero, List.set_cons_succ])
    (refine we_all (rs := [25]) (by kernel_rfl) (by simp) ?_; intro i hi; have hi := List.mem_singleton.1 hi; subst hi)
    clear hS
    have hS := hT
    clear hT
    refine won_of rfl rfl rfl (a_storeF (v := .string _) (L := N.all) (j := p) (k := 5) (c := 3) (z := { X with data := X.data.take (q : Int).toNat ++ [nth X.data (q : Int).toNat ^^^ d] ++ X.data.drop ((q : Int) + 1).toNat }) hS rfl rfl rfl rfl rfl (by rfl) (by (repeat (first | exact Sw.here | apply Sw.there))) (by intro _; rfl) hget (by omega) (by rfl) ?_)
    clear hS
    intro w6 hS
    (refine ⟨fun h => absurd rfl h, ?_⟩; refine we_done (by kernel_rfl) ?_ _)
    rw [Hcut.out] at hS
    obtain ⟨L1, hL1⟩ : ∃ L1, N.all.set p { X with data := dat } = L1 := ⟨_, rfl⟩
    have l1 : L1.length = N.all.length := by rw [← hL1, List.length_set]
    have hg1 : L1[p]? = some { X with data := dat } := by rw [← hL1]; simp [hpl]
    rw [hL1] at hS
    go_wp2_with (first | ((with_reducible refine g_store ?_); refine wl_of rfl ?_; refine a_storeF (v := .bool _) (L := L1) (j := p) (k := 5) (c := 4) (z := { X with data := dat, marked := true }) hS rfl rfl rfl rfl rfl (by rfl) (by (repeat (first | exact Sw.here | apply Sw.there))) (by intro _; rfl) hg1 (by omega) (by rfl) ?_; clear hS; intro w' hS) | (first | ((with_reducible refine g_load ?_); refine k_read rfl (h := ?_)) | ((with_reducible refine g_len ?_); refine k_len rfl (h := ?_)) | ((with_reducible refine g_index ?_); refine k_idx rfl (h := ?_)) | ((with_reducible refine g_field ?_); refine k_fld rfl (h := ?_)) | ((with_reducible refine g_store ?_); refine wl_of rfl ?_; first | (refine k_sta hS rfl rfl rfl (h := ?_); clear hS; intro w' hS; simp only [List.take, List.drop, List.cons_append, List.nil_append, List.length_cons, List.length_nil] at hS) | (first | ((first | (refine k_st1 (v := .int _ _) hS rfl rfl rfl (h := ?_)) | (refine k_st1 (v := .bool _) hS rfl rfl rfl (h := ?_)) | (refine k_st1 (v := .string _) hS rfl rfl rfl (h := ?_)) | (refine k_st1 (v := .slice none 0 0) hS rfl rfl rfl (h := ?_))); clear hS; intro w' hS; simp only [List.set_cons_zero, List.set_cons_succ] at hS) | ((refine k_st1  hS rfl rfl rfl (h := ?_)); clear hS; intro w' hS; simp only [List.set_cons_zero, List.set_cons_succ] at hS; simp only [Act.eval, Array.getD_eq_getD_getElem?, List.getElem?_toArray, List.getElem?_cons_succ, List.getElem?_cons_zero, Option.getD_some] at hS)) | (first | (refine k_ste (v := .int _ _) hS rfl rfl rfl (h := ?_); clear hS; intro w' hS) | (refine k_ste (v := .bool _) hS rfl rfl rfl (h := ?_); clear hS; intro w' hS) | (refine k_ste (v := .string _) hS rfl rfl rfl (h := ?_); clear hS; intro w' hS))) | ((with_reducible refine g_alloc ?_); refine wl_of rfl ?_; refine wp_alloc hS rfl rfl rfl rfl ?_; clear hS; intro gb w1 hS) | ((with_reducible refine g_box ?_); refine wl_of rfl ?_; refine wp_box hS rfl rfl rfl ?_; clear hS; intro gb w1 hS) | ((with_reducible refine g_bs ?_); refine wl_of rfl ?_; (first | refine a_build1 (v := .int _ _) hS rfl rfl rfl rfl (by rfl) (by simp) ?_ | refine a_build1 (v := .string _) hS rfl rfl rfl rfl (by rfl) (by simp) ?_ | refine a_build1 (v := .bool _) hS rfl rfl rfl rfl (by rfl) (by simp) ?_ | refine a_build1 (v := .agg _) hS rfl rfl rfl rfl (by rfl) (by simp) ?_ | refine a_build1  hS rfl rfl rfl rfl (by rfl) (by simp) ?_); clear hS; intro v1 w' hS; simp only [List.length_cons, List.length_nil, Nat.zero_add] at hS; try simp only [Nat.reduceAdd] at hS) | ((with_reducible refine g_cut ?_); refine k_str rfl (h := ?_)) | ((with_reducible refine g_indexV ?_); refine k_six rfl (h := ?_)) | ((with_reducible refine g_bin ?_); refine k_cat rfl (h := ?_)) | ((with_reducible refine g_conv ?_); refine k_tos rfl (h := ?_)) | ((with_reducible refine wl_guard ?_); refine stop_mem rfl rfl ?_)))
    go_ret
    have e3 : N.all.set p { X with data := dat, marked := true } = L1.set p { X with data := dat, marked := true } := by rw [← hL1, List.set_set]
    rw [e3]
    exact ⟨rfl, St.packs vs hS⟩

theorem rnet_spoil (hS : St S w0 w (rnet g N :: M)) (hN : N.Good) (id at' mask : Int) :
    Calls Try.prog 21 #[.pointer (some ⟨g, 0, none⟩), .int .i64 id, .int .i64 at', .int .i64 mask] w fun e w' => e = .returned (.int .i64 (N.spoil id at' mask).1) ∧ St S w0 w' (rnet g (N.spoil id at' mask).2 :: M) := by
  have hln := hN.ok.len
  by_cases h : (N.spoil id at' mask).1 = 8 ∨ (N.spoil id at' mask).1 = 1
  · exact rspoil_bad hS hln id at' mask h
  · have hp : ¬ pos id N.all < 0 := by
      intro hp
      apply h
      left
      unfold Nt.spoil
      rw [if_pos hp]
    have hr := pos_range id N.all
    obtain ⟨p, hp2⟩ := Int.eq_ofNat_of_zero_le (show 0 ≤ pos id N.all by omega)
    have hpl : p < N.all.length := by omega
    have hget := get_lt (L := N.all) hpl
    have hxl := hN.small _ (nth_mem hpl)
    obtain ⟨X, hX⟩ : ∃ X, nth N.all p = X := ⟨_, rfl⟩
    rw [hX] at hget hxl
    have e : N.spoil id at' mask = if at' < 0 ∨ X.data.length ≤ at' ∨ mask < 1 ∨ 255 < mask then (1, N)
      else if X.marked = true then (7, N)
      else (0, ⟨N.last, N.all.set p { X with data := turn8 X.data at'.toNat mask, marked := true }⟩) := by unfold Nt.spoil; rw [if_neg hp, hp2, Int.toNat_natCast, hX]
    have hc : ¬ (at' < 0 ∨ X.data.length ≤ at' ∨ mask < 1 ∨ 255 < mask) := by
      intro hc
      apply h
      right
      rw [e, if_pos hc]
    rw [if_neg hc] at e
    obtain ⟨q, rfl⟩ := Int.eq_ofNat_of_zero_le (show 0 ≤ at' by omega)
    obtain ⟨d, rfl⟩ := u8_of (m := mask) (by omega) (by omega)
    refine (rspoil_in hS hln id p q d X hp2 hget (by omega) (by omega) (by omega) hxl).mono ?_
    rintro e' w' ⟨rfl, h2⟩
    rw [e]
    rw [Int.toNat_natCast]
    by_cases hm : X.marked = true
    · simp only [hm, if_true] at h2 ⊢
      refine ⟨?_, h2⟩
      first | rfl | trivial
    · simp only [hm, Bool.false_eq_true, if_false] at h2 ⊢
      refine ⟨?_, h2⟩
      first | rfl | trivial
end
end Go.Proofs.Ytnkgfkioijlkaaa
