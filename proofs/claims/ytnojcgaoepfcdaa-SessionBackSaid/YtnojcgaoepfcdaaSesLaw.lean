/-
  The chapter's example; a table with one session; the statement on verdicts: the walk.
-/
import Derived.Test.YtnojcgaoepfcdaaSes5
namespace Go.Proofs.Ytnojcgaoepfcdaa
open Go.RowKit Go.Cmp

def tab1 : List Ses := [⟨7, 1, 0, 1, []⟩]
def tab2 : List Ses := [⟨7, 1, 1, 2, [97]⟩]

set_option maxRecDepth 100000 in
set_option maxHeartbeats 4000000 in
theorem law_awake8 (w : World) : Calls Try.prog 8 #[] w fun e w' => e = .returned (.bool true) ∧ St [] w w' [] := by
  have hS := St.init w
  have e1 : sOpen [] 7 1 = (0, 0, tab1) := rfl
  have e2 : sNote tab1 7 1 2 [97] = (0, tab2) := rfl
  have v1 : sVerdict tab2 7 1 1 = 2 := rfl
  have v2 : sVerdict tab2 7 1 2 = 1 := rfl
  have v3 : sVerdict tab2 7 2 2 = 5 := rfl
  have v4 : sVerdict tab2 7 1 3 = 4 := rfl
  have rq : ∀ x ∈ tab2, 0 ≤ x.request ∧ x.request ≤ 72057594037927935 := by intro x hx; simp [tab2] at hx; subst hx; simp
  have c1 := fun (g : Nat) (W : World) (M : List Ent) (hS : St [] w W (ses g [] :: M)) => ses_open hS (show ([] : List Ses).length ≤ 3 by decide) 7 1
  have c2 := fun (g : Nat) (W : World) (M : List Ent) (hS : St [] w W (ses g tab1 :: M)) => ses_note hS (show tab1.length ≤ 1000000 by decide) 7 1 2 [97]
  rw [e1] at c1
  rw [e2] at c2
  have C1 := Lib.hid c1
  have C2 := Lib.hid c2
  have V1 := Lib.hid v1
  have V2 := Lib.hid v2
  have V3 := Lib.hid v3
  have V4 := Lib.hid v4
  clear e1 e2 v1 v2 v3 v4 c1 c2
  (go_enter Try.func8, Try.ntmps8)
  go_wp2_with (first | (go_at_call 11; refine (ses_new hS).mono ?_; clear hS; rintro e w' ⟨g, rfl, hS⟩) | (go_at_call 14; refine (C1.out _ _ _ (hS.out (by (repeat (first | exact Out.here | apply Out.there))))).mono ?_; clear hS; rintro e w' ⟨rfl, hS⟩) | (go_at_call 21; refine (C2.out _ _ _ (hS.out (by (repeat (first | exact Out.here | apply Out.there))))).mono ?_; clear hS; rintro e w' ⟨rfl, hS⟩) | (go_at_call 10; refine (ses_verdict (hS.out (by (repeat (first | exact Out.here | apply Out.there)))) (show tab2.length ≤ 1000000 by decide) _ _ _ rq (by omega) (by omega)).mono ?_; clear hS; rintro e w' ⟨rfl, hS⟩; simp only [V1.out, V2.out, V3.out, V4.out]) | (first | ((with_reducible refine g_load ?_); refine k_read rfl (h := ?_)) | ((with_reducible refine g_len ?_); refine k_len rfl (h := ?_)) | ((with_reducible refine g_index ?_); refine k_idx rfl (h := ?_)) | ((with_reducible refine g_field ?_); refine k_fld rfl (h := ?_)) | ((with_reducible refine g_store ?_); refine wl_of rfl ?_; first | (refine k_sta hS rfl rfl rfl (h := ?_); clear hS; intro w' hS; simp only [List.take, List.drop, List.cons_append, List.nil_append, List.length_cons, List.length_nil] at hS) | (first | ((first | (refine k_st1 (v := .int _ _) hS rfl rfl rfl (h := ?_)) | (refine k_st1 (v := .bool _) hS rfl rfl rfl (h := ?_)) | (refine k_st1 (v := .string _) hS rfl rfl rfl (h := ?_)) | (refine k_st1 (v := .slice none 0 0) hS rfl rfl rfl (h := ?_))); clear hS; intro w' hS; simp only [List.set_cons_zero, List.set_cons_succ] at hS) | ((refine k_st1  hS rfl rfl rfl (h := ?_)); clear hS; intro w' hS; simp only [List.set_cons_zero, List.set_cons_succ] at hS; simp only [Act.eval, Array.getD_eq_getD_getElem?, List.getElem?_toArray, List.getElem?_cons_succ, List.getElem?_cons_zero, Option.getD_some] at hS)) | (first | (refine k_ste (v := .int _ _) hS rfl rfl rfl (h := ?_); clear hS; intro w' hS) | (refine k_ste (v := .bool _) hS rfl rfl rfl (h := ?_); clear hS; intro w' hS) | (refine k_ste (v := .string _) hS rfl rfl rfl (h := ?_); clear hS; intro w' hS))) | ((with_reducible refine g_alloc ?_); refine wl_of rfl ?_; refine wp_alloc hS rfl rfl rfl rfl ?_; clear hS; intro gb w1 hS) | ((with_reducible refine g_box ?_); refine wl_of rfl ?_; refine wp_box hS rfl rfl rfl ?_; clear hS; intro gb w1 hS) | ((with_reducible refine g_bs ?_); refine wl_of rfl ?_; (first | refine a_build1 (v := .int _ _) hS rfl rfl rfl rfl (by rfl) (by simp) ?_ | refine a_build1 (v := .string _) hS rfl rfl rfl rfl (by rfl) (by simp) ?_ | refine a_build1 (v := .bool _) hS rfl rfl rfl rfl (by rfl) (by simp) ?_ | refine a_build1 (v := .agg _) hS rfl rfl rfl rfl (by rfl) (by simp) ?_ | refine a_build1  hS rfl rfl rfl rfl (by rfl) (by simp) ?_); clear hS; intro v1 w' hS; simp only [List.length_cons, List.length_nil, Nat.zero_add] at hS; try simp only [Nat.reduceAdd] at hS) | ((with_reducible refine g_cut ?_); refine k_str rfl (h := ?_)) | ((with_reducible refine g_indexV ?_); refine k_six rfl (h := ?_)) | ((with_reducible refine g_bin ?_); refine k_cat rfl (h := ?_)) | ((with_reducible refine g_conv ?_); refine k_tos rfl (h := ?_)) | ((with_reducible refine wl_guard ?_); refine stop_mem rfl rfl ?_)))
  go_ret
  exact ⟨rfl, hS.nil⟩

section
variable {c o l t : Int}
def One (c o l t : Int) : Prop := may c 1 = true ∧ may o 1 = true ∧ c < 72057594037927935 ∧ may l 0 = true ∧ may t 0 = true
theorem open_one (h1 : may c 1 = true) (h2 : may o 1 = true) : sOpen [] c o = (0, 0, [newSes c o]) := by
  unfold sOpen
  rw [if_neg (by simp [h1, h2]), if_neg (by simp [whose, idx]), if_neg (by simp)]
  rfl
theorem open_none (h : ¬ (may c 1 = true ∧ may o 1 = true)) : sOpen [] c o = (0, 1, []) := by
  unfold sOpen
  rw [if_pos]
  cases h1 : may c 1
  · exact .inl rfl
  · cases h2 : may o 1
    · exact .inr rfl
    · exact absurd ⟨h1, h2⟩ h
theorem whose_one (c : Int) (x : Ses) (h : x.client = c) : whose c [x] = 0 := by simp [whose, idx, h]
theorem note_one (h1 : may l 0 = true) (h2 : may t 0 = true) : sNote [newSes c o] c l t [] = (0, [⟨c, o, l, t, []⟩]) := by
  unfold sNote
  rw [whose_one c _ rfl, if_neg (by omega), if_neg (by simp [h1, h2]), if_neg (by simp)]
  rfl
theorem note_none (h : ¬ (may l 0 = true ∧ may t 0 = true)) : sNote [newSes c o] c l t [] = (1, [newSes c o]) := by
  unfold sNote
  rw [whose_one c _ rfl, if_neg (by omega), if_pos]
  cases h1 : may l 0
  · exact .inl rfl
  · cases h2 : may t 0
    · exact .inr rfl
    · exact absurd ⟨h1, h2⟩ h
theorem look_one (x : Ses) : sLook [x] x.client = (x, true) := by
  unfold sLook
  rw [whose_one _ x rfl, if_neg (by omega)]
  rfl
theorem look_other (x : Ses) {c : Int} (h : x.client ≠ c) : sLook [x] c = (zSes, false) := by
  unfold sLook
  rw [if_pos (by simp [whose, idx, h])]

set_option maxRecDepth 100000 in
set_option maxHeartbeats 4000000 in
theorem opened_not (c o l t : Int) (w : World) (h : ¬ One c o l t) : Calls Try.prog 9 #[.int .i64 c, .int .i64 o, .int .i64 l, .int .i64 t] w fun e w' => e = .returned (.pointer none) ∧ St [] w w' [] := by
  have hS := St.init w
  have c1 := fun (g : Nat) (W : World) (M : List Ent) (hS : St [] w W (ses g [] :: M)) => ses_open hS (show ([] : List Ses).length ≤ 3 by decide) c o
  by_cases h1 : may c 1 = true ∧ may o 1 = true
  · rw [open_one h1.1 h1.2] at c1
    have C1 := Lib.hid c1
    clear c1
    by_cases h2 : c < 72057594037927935
    · have h3 : ¬ (may l 0 = true ∧ may t 0 = true) := fun h3 => h ⟨h1.1, h1.2, h2, h3.1, h3.2⟩
      have c2 := fun (g : Nat) (W : World) (M : List Ent) (hS : St [] w W (ses g [newSes c o] :: M)) => ses_note hS (show [newSes c o].length ≤ 1000000 by simp) c l t []
      rw [note_none h3] at c2
      have C2 := Lib.hid c2
      clear c2 h1 h3 h
      (go_enter Try.func9, Try.ntmps9)
      go_wp2_with (first | (go_at_call 11; refine (ses_new hS).mono ?_; clear hS; rintro e w' ⟨g, rfl, hS⟩) | (go_at_call 14; refine (C1.out _ _ _ (hS.out (by (repeat (first | exact Out.here | apply Out.there))))).mono ?_; clear hS; rintro e w' ⟨rfl, hS⟩) | (go_at_call 21; refine (C2.out _ _ _ (hS.out (by (repeat (first | exact Out.here | apply Out.there))))).mono ?_; clear hS; rintro e w' ⟨rfl, hS⟩) | (first | ((with_reducible refine g_load ?_); refine k_read rfl (h := ?_)) | ((with_reducible refine g_len ?_); refine k_len rfl (h := ?_)) | ((with_reducible refine g_index ?_); refine k_idx rfl (h := ?_)) | ((with_reducible refine g_field ?_); refine k_fld rfl (h := ?_)) | ((with_reducible refine g_store ?_); refine wl_of rfl ?_; first | (refine k_sta hS rfl rfl rfl (h := ?_); clear hS; intro w' hS; simp only [List.take, List.drop, List.cons_append, List.nil_append, List.length_cons, List.length_nil] at hS) | (first | ((first | (refine k_st1 (v := .int _ _) hS rfl rfl rfl (h := ?_)) | (refine k_st1 (v := .bool _) hS rfl rfl rfl (h := ?_)) | (refine k_st1 (v := .string _) hS rfl rfl rfl (h := ?_)) | (refine k_st1 (v := .slice none 0 0) hS rfl rfl rfl (h := ?_))); clear hS; intro w' hS; simp only [List.set_cons_zero, List.set_cons_succ] at hS) | ((refine k_st1  hS rfl rfl rfl (h := ?_)); clear hS; intro w' hS; simp only [List.set_cons_zero, List.set_cons_succ] at hS; simp only [Act.eval, Array.getD_eq_getD_getElem?, List.getElem?_toArray, List.getElem?_cons_succ, List.getElem?_cons_zero, Option.getD_some] at hS)) | (first | (refine k_ste (v := .int _ _) hS rfl rfl rfl (h := ?_); clear hS; intro w' hS) | (refine k_ste (v := .bool _) hS rfl rfl rfl (h := ?_); clear hS; intro w' hS) | (refine k_ste (v := .string _) hS rfl rfl rfl (h := ?_); clear hS; intro w' hS))) | ((with_reducible refine g_alloc ?_); refine wl_of rfl ?_; refine wp_alloc hS rfl rfl rfl rfl ?_; clear hS; intro gb w1 hS) | ((with_reducible refine g_box ?_); refine wl_of rfl ?_; refine wp_box hS rfl rfl rfl ?_; clear hS; intro gb w1 hS) | ((with_reducible refine g_bs ?_); refine wl_of rfl ?_; (first | refine a_build1 (v := .int _ _) hS rfl rfl rfl rfl (by rfl) (by simp) ?_ | refine a_build1 (v := .string _) hS rfl rfl rfl rfl (by rfl) (by simp) ?_ | refine a_build1 (v := .bool _) hS rfl rfl rfl rfl (by rfl) (by simp) ?_ | refine a_build1 (v := .agg _) hS rfl rfl rfl rfl (by rfl) (by simp) ?_ | refine a_build1  hS rfl rfl rfl rfl (by rfl) (by simp) ?_); clear hS; intro v1 w' hS; simp only [List.length_cons, List.length_nil, Nat.zero_add] at hS; try simp only [Nat.reduceAdd] at hS) | ((with_reducible refine g_cut ?_); refine k_str rfl (h := ?_)) | ((with_reducible refine g_indexV ?_); refine k_six rfl (h := ?_)) | ((with_reducible refine g_bin ?_); refine k_cat rfl (h := ?_)) | ((with_reducible refine g_conv ?_); refine k_tos rfl (h := ?_)) | ((with_reducible refine wl_guard ?_); refine stop_mem rfl rfl ?_)))
      go_ret
      exact ⟨rfl, hS.nil⟩
    · clear h1 h
      (go_enter Try.func9, Try.ntmps9)
      go_wp2_with (first | (go_at_call 11; refine (ses_new hS).mono ?_; clear hS; rintro e w' ⟨g, rfl, hS⟩) | (go_at_call 14; refine (C1.out _ _ _ (hS.out (by (repeat (first | exact Out.here | apply Out.there))))).mono ?_; clear hS; rintro e w' ⟨rfl, hS⟩) | (first | ((with_reducible refine g_load ?_); refine k_read rfl (h := ?_)) | ((with_reducible refine g_len ?_); refine k_len rfl (h := ?_)) | ((with_reducible refine g_index ?_); refine k_idx rfl (h := ?_)) | ((with_reducible refine g_field ?_); refine k_fld rfl (h := ?_)) | ((with_reducible refine g_store ?_); refine wl_of rfl ?_; first | (refine k_sta hS rfl rfl rfl (h := ?_); clear hS; intro w' hS; simp only [List.take, List.drop, List.cons_append, List.nil_append, List.length_cons, List.length_nil] at hS) | (first | ((first | (refine k_st1 (v := .int _ _) hS rfl rfl rfl (h := ?_)) | (refine k_st1 (v := .bool _) hS rfl rfl rfl (h := ?_)) | (refine k_st1 (v := .string _) hS rfl rfl rfl (h := ?_)) | (refine k_st1 (v := .slice none 0 0) hS rfl rfl rfl (h := ?_))); clear hS; intro w' hS; simp only [List.set_cons_zero, List.set_cons_succ] at hS) | ((refine k_st1  hS rfl rfl rfl (h := ?_)); clear hS; intro w' hS; simp only [List.set_cons_zero, List.set_cons_succ] at hS; simp only [Act.eval, Array.getD_eq_getD_getElem?, List.getElem?_toArray, List.getElem?_cons_succ, List.getElem?_cons_zero, Option.getD_some] at hS)) | (first | (refine k_ste (v := .int _ _) hS rfl rfl rfl (h := ?_); clear hS; intro w' hS) | (refine k_ste (v := .bool _) hS rfl rfl rfl (h := ?_); clear hS; intro w' hS) | (refine k_ste (v := .string _) hS rfl rfl rfl (h := ?_); clear hS; intro w' hS))) | ((with_reducible refine g_alloc ?_); refine wl_of rfl ?_; refine wp_alloc hS rfl rfl rfl rfl ?_; clear hS; intro gb w1 hS) | ((with_reducible refine g_box ?_); refine wl_of rfl ?_; refine wp_box hS rfl rfl rfl ?_; clear hS; intro gb w1 hS) | ((with_reducible refine g_bs ?_); refine wl_of rfl ?_; (first | refine a_build1 (v := .int _ _) hS rfl rfl rfl rfl (by rfl) (by simp) ?_ | refine a_build1 (v := .string _) hS rfl rfl rfl rfl (by rfl) (by simp) ?_ | refine a_build1 (v := .bool _) hS rfl rfl rfl rfl (by rfl) (by simp) ?_ | refine a_build1 (v := .agg _) hS rfl rfl rfl rfl (by rfl) (by simp) ?_ | refine a_build1  hS rfl rfl rfl rfl (by rfl) (by simp) ?_); clear hS; intro v1 w' hS; simp only [List.length_cons, List.length_nil, Nat.zero_add] at hS; try simp only [Nat.reduceAdd] at hS) | ((with_reducible refine g_cut ?_); refine k_str rfl (h := ?_)) | ((with_reducible refine g_indexV ?_); refine k_six rfl (h := ?_)) | ((with_reducible refine g_bin ?_); refine k_cat rfl (h := ?_)) | ((with_reducible refine g_conv ?_); refine k_tos rfl (h := ?_)) | ((with_reducible refine wl_guard ?_); refine stop_mem rfl rfl ?_)))
      go_ret
      exact ⟨rfl, hS.nil⟩
  · rw [open_none h1] at c1
    have C1 := Lib.hid c1
    clear c1 h1 h
    (go_enter Try.func9, Try.ntmps9)
    go_wp2_with (first | (go_at_call 11; refine (ses_new hS).mono ?_; clear hS; rintro e w' ⟨g, rfl, hS⟩) | (go_at_call 14; refine (C1.out _ _ _ (hS.out (by (repeat (first | exact Out.here | apply Out.there))))).mono ?_; clear hS; rintro e w' ⟨rfl, hS⟩) | (first | ((with_reducible refine g_load ?_); refine k_read rfl (h := ?_)) | ((with_reducible refine g_len ?_); refine k_len rfl (h := ?_)) | ((with_reducible refine g_index ?_); refine k_idx rfl (h := ?_)) | ((with_reducible refine g_field ?_); refine k_fld rfl (h := ?_)) | ((with_reducible refine g_store ?_); refine wl_of rfl ?_; first | (refine k_sta hS rfl rfl rfl (h := ?_); clear hS; intro w' hS; simp only [List.take, List.drop, List.cons_append, List.nil_append, List.length_cons, List.length_nil] at hS) | (first | ((first | (refine k_st1 (v := .int _ _) hS rfl rfl rfl (h := ?_)) | (refine k_st1 (v := .bool _) hS rfl rfl rfl (h := ?_)) | (refine k_st1 (v := .string _) hS rfl rfl rfl (h := ?_)) | (refine k_st1 (v := .slice none 0 0) hS rfl rfl rfl (h := ?_))); clear hS; intro w' hS; simp only [List.set_cons_zero, List.set_cons_succ] at hS) | ((refine k_st1  hS rfl rfl rfl (h := ?_)); clear hS; intro w' hS; simp only [List.set_cons_zero, List.set_cons_succ] at hS; simp only [Act.eval, Array.getD_eq_getD_getElem?, List.getElem?_toArray, List.getElem?_cons_succ, List.getElem?_cons_zero, Option.getD_some] at hS)) | (first | (refine k_ste (v := .int _ _) hS rfl rfl rfl (h := ?_); clear hS; intro w' hS) | (refine k_ste (v := .bool _) hS rfl rfl rfl (h := ?_); clear hS; intro w' hS) | (refine k_ste (v := .string _) hS rfl rfl rfl (h := ?_); clear hS; intro w' hS))) | ((with_reducible refine g_alloc ?_); refine wl_of rfl ?_; refine wp_alloc hS rfl rfl rfl rfl ?_; clear hS; intro gb w1 hS) | ((with_reducible refine g_box ?_); refine wl_of rfl ?_; refine wp_box hS rfl rfl rfl ?_; clear hS; intro gb w1 hS) | ((with_reducible refine g_bs ?_); refine wl_of rfl ?_; (first | refine a_build1 (v := .int _ _) hS rfl rfl rfl rfl (by rfl) (by simp) ?_ | refine a_build1 (v := .string _) hS rfl rfl rfl rfl (by rfl) (by simp) ?_ | refine a_build1 (v := .bool _) hS rfl rfl rfl rfl (by rfl) (by simp) ?_ | refine a_build1 (v := .agg _) hS rfl rfl rfl rfl (by rfl) (by simp) ?_ | refine a_build1  hS rfl rfl rfl rfl (by rfl) (by simp) ?_); clear hS; intro v1 w' hS; simp only [List.length_cons, List.length_nil, Nat.zero_add] at hS; try simp only [Nat.reduceAdd] at hS) | ((with_reducible refine g_cut ?_); refine k_str rfl (h := ?_)) | ((with_reducible refine g_indexV ?_); refine k_six rfl (h := ?_)) | ((with_reducible refine g_bin ?_); refine k_cat rfl (h := ?_)) | ((with_reducible refine g_conv ?_); refine k_tos rfl (h := ?_)) | ((with_reducible refine wl_guard ?_); refine stop_mem rfl rfl ?_)))
    go_ret
    exact ⟨rfl, hS.nil⟩

set_option maxRecDepth 100000 in
set_option maxHeartbeats 4000000 in
theorem opened_one (c o l t : Int) (w : World) (h : One c o l t) : Calls Try.prog 9 #[.int .i64 c, .int .i64 o, .int .i64 l, .int .i64 t] w fun e w' => ∃ g, e = .returned (.pointer (some ⟨g, 0, none⟩)) ∧ St [] w w' [ses g [⟨c, o, l, t, []⟩]] := by
  have hS := St.init w
  obtain ⟨h1, h2, h3, h4, h5⟩ := h
  have c1 := fun (g : Nat) (W : World) (M : List Ent) (hS : St [] w W (ses g [] :: M)) => ses_open hS (show ([] : List Ses).length ≤ 3 by decide) c o
  rw [open_one h1 h2] at c1
  have C1 := Lib.hid c1
  have c2 := fun (g : Nat) (W : World) (M : List Ent) (hS : St [] w W (ses g [newSes c o] :: M)) => ses_note hS (show [newSes c o].length ≤ 1000000 by simp) c l t []
  rw [note_one h4 h5] at c2
  have C2 := Lib.hid c2
  clear c1 c2 h1 h2 h4 h5
  (go_enter Try.func9, Try.ntmps9)
  go_wp2_with (first | (go_at_call 11; refine (ses_new hS).mono ?_; clear hS; rintro e w' ⟨g, rfl, hS⟩) | (go_at_call 14; refine (C1.out _ _ _ (hS.out (by (repeat (first | exact Out.here | apply Out.there))))).mono ?_; clear hS; rintro e w' ⟨rfl, hS⟩) | (go_at_call 21; refine (C2.out _ _ _ (hS.out (by (repeat (first | exact Out.here | apply Out.there))))).mono ?_; clear hS; rintro e w' ⟨rfl, hS⟩) | (first | ((with_reducible refine g_load ?_); refine k_read rfl (h := ?_)) | ((with_reducible refine g_len ?_); refine k_len rfl (h := ?_)) | ((with_reducible refine g_index ?_); refine k_idx rfl (h := ?_)) | ((with_reducible refine g_field ?_); refine k_fld rfl (h := ?_)) | ((with_reducible refine g_store ?_); refine wl_of rfl ?_; first | (refine k_sta hS rfl rfl rfl (h := ?_); clear hS; intro w' hS; simp only [List.take, List.drop, List.cons_append, List.nil_append, List.length_cons, List.length_nil] at hS) | (first | ((first | (refine k_st1 (v := .int _ _) hS rfl rfl rfl (h := ?_)) | (refine k_st1 (v := .bool _) hS rfl rfl rfl (h := ?_)) | (refine k_st1 (v := .string _) hS rfl rfl rfl (h := ?_)) | (refine k_st1 (v := .slice none 0 0) hS rfl rfl rfl (h := ?_))); clear hS; intro w' hS; simp only [List.set_cons_zero, List.set_cons_succ] at hS) | ((refine k_st1  hS rfl rfl rfl (h := ?_)); clear hS; intro w' hS; simp only [List.set_cons_zero, List.set_cons_succ] at hS; simp only [Act.eval, Array.getD_eq_getD_getElem?, List.getElem?_toArray, List.getElem?_cons_succ, List.getElem?_cons_zero, Option.getD_some] at hS)) | (first | (refine k_ste (v := .int _ _) hS rfl rfl rfl (h := ?_); clear hS; intro w' hS) | (refine k_ste (v := .bool _) hS rfl rfl rfl (h := ?_); clear hS; intro w' hS) | (refine k_ste (v := .string _) hS rfl rfl rfl (h := ?_); clear hS; intro w' hS))) | ((with_reducible refine g_alloc ?_); refine wl_of rfl ?_; refine wp_alloc hS rfl rfl rfl rfl ?_; clear hS; intro gb w1 hS) | ((with_reducible refine g_box ?_); refine wl_of rfl ?_; refine wp_box hS rfl rfl rfl ?_; clear hS; intro gb w1 hS) | ((with_reducible refine g_bs ?_); refine wl_of rfl ?_; (first | refine a_build1 (v := .int _ _) hS rfl rfl rfl rfl (by rfl) (by simp) ?_ | refine a_build1 (v := .string _) hS rfl rfl rfl rfl (by rfl) (by simp) ?_ | refine a_build1 (v := .bool _) hS rfl rfl rfl rfl (by rfl) (by simp) ?_ | refine a_build1 (v := .agg _) hS rfl rfl rfl rfl (by rfl) (by simp) ?_ | refine a_build1  hS rfl rfl rfl rfl (by rfl) (by simp) ?_); clear hS; intro v1 w' hS; simp only [List.length_cons, List.length_nil, Nat.zero_add] at hS; try simp only [Nat.reduceAdd] at hS) | ((with_reducible refine g_cut ?_); refine k_str rfl (h := ?_)) | ((with_reducible refine g_indexV ?_); refine k_six rfl (h := ?_)) | ((with_reducible refine g_bin ?_); refine k_cat rfl (h := ?_)) | ((with_reducible refine g_conv ?_); refine k_tos rfl (h := ?_)) | ((with_reducible refine wl_guard ?_); refine stop_mem rfl rfl ?_)))
  go_ret
  exact ⟨g, rfl, hS.pick⟩
end

set_option maxRecDepth 100000 in
set_option maxHeartbeats 8000000 in
theorem law_verdicts (c o l t s r : Int) (w : World) (hr1 : -9223372036854775808 ≤ r) (hr2 : r ≤ 9223372036854775807) : Calls Try.prog 3 #[.int .i64 c, .int .i64 o, .int .i64 l, .int .i64 t, .int .i64 s, .int .i64 r] w fun e w' => e = .returned (.bool true) ∧ St [] w w' [] := by
  have hS := St.init w
  by_cases h : One c o l t
  · have hm := h.2.2.2.1
    have hcm := h.1
    have hc := h.2.2.1
    have hl0 : 0 ≤ l ∧ l ≤ 72057594037927935 := by simpa [may] using hm
    have hc0 : 1 ≤ c := by have := hcm; simp [may] at this; omega
    have O := Lib.hid (fun (w : World) => opened_one c o l t w h)
    clear h hm hcm
    obtain ⟨hl1, hl2⟩ := hl0
    have rq : ∀ x ∈ [(⟨c, o, l, t, []⟩ : Ses)], 0 ≤ x.request ∧ x.request ≤ 72057594037927935 := by intro x hx; simp only [List.mem_singleton] at hx; subst hx; exact ⟨hl1, hl2⟩
    have hv : ∀ r' : Int, sVerdict [⟨c, o, l, t, []⟩] c o r' = if r' = l then 2 else if r' < l then 3 else if r' - 1 = l then 1 else 4 := by
      intro r'
      have e := look_one ⟨c, o, l, t, []⟩
      simp only at e
      unfold sVerdict
      rw [e, if_neg (by simp)]
    have hv5 : ∀ c' s' r' : Int, (c ≠ c' ∨ o ≠ s') → sVerdict [⟨c, o, l, t, []⟩] c' s' r' = 5 := by
      intro c' s' r' h
      unfold sVerdict
      by_cases hcc : c = c'
      · subst hcc
        have e := look_one ⟨c, o, l, t, []⟩
        simp only at e
        rw [e, if_pos (.inr (by rcases h with h | h; exact absurd rfl h; exact h))]
      · rw [look_other _ (by exact hcc), if_pos (.inl rfl)]
    by_cases hs : s = o
    · subst hs
      by_cases k1 : r = l
      · subst k1
        have V1 := Lib.hid (hv r)
        rw [if_pos rfl] at V1
        clear hv hv5
        (go_enter Try.func3, Try.ntmps3)
        go_wp2_with (first | (go_at_call 8; refine (law_awake8 _).mono ?_; rintro e w' ⟨rfl, h⟩; replace hS := hS.call h; clear h) | (go_at_call 9; refine (O.out _).mono ?_; rintro e w' ⟨g, rfl, h⟩; replace hS := hS.call h; clear h; simp only [List.cons_append, List.nil_append] at hS) | (go_at_call 10; refine (ses_verdict (hS.out (by (repeat (first | exact Out.here | apply Out.there)))) (by simp) _ _ _ rq (by omega) (by omega)).mono ?_; clear hS; rintro e w' ⟨rfl, hS⟩; simp only [V1.out]) | (first | ((with_reducible refine g_load ?_); refine k_read rfl (h := ?_)) | ((with_reducible refine g_len ?_); refine k_len rfl (h := ?_)) | ((with_reducible refine g_index ?_); refine k_idx rfl (h := ?_)) | ((with_reducible refine g_field ?_); refine k_fld rfl (h := ?_)) | ((with_reducible refine g_store ?_); refine wl_of rfl ?_; first | (refine k_sta hS rfl rfl rfl (h := ?_); clear hS; intro w' hS; simp only [List.take, List.drop, List.cons_append, List.nil_append, List.length_cons, List.length_nil] at hS) | (first | ((first | (refine k_st1 (v := .int _ _) hS rfl rfl rfl (h := ?_)) | (refine k_st1 (v := .bool _) hS rfl rfl rfl (h := ?_)) | (refine k_st1 (v := .string _) hS rfl rfl rfl (h := ?_)) | (refine k_st1 (v := .slice none 0 0) hS rfl rfl rfl (h := ?_))); clear hS; intro w' hS; simp only [List.set_cons_zero, List.set_cons_succ] at hS) | ((refine k_st1  hS rfl rfl rfl (h := ?_)); clear hS; intro w' hS; simp only [List.set_cons_zero, List.set_cons_succ] at hS; simp only [Act.eval, Array.getD_eq_getD_getElem?, List.getElem?_toArray, List.getElem?_cons_succ, List.getElem?_cons_zero, Option.getD_some] at hS)) | (first | (refine k_ste (v := .int _ _) hS rfl rfl rfl (h := ?_); clear hS; intro w' hS) | (refine k_ste (v := .bool _) hS rfl rfl rfl (h := ?_); clear hS; intro w' hS) | (refine k_ste (v := .string _) hS rfl rfl rfl (h := ?_); clear hS; intro w' hS))) | ((with_reducible refine g_alloc ?_); refine wl_of rfl ?_; refine wp_alloc hS rfl rfl rfl rfl ?_; clear hS; intro gb w1 hS) | ((with_reducible refine g_box ?_); refine wl_of rfl ?_; refine wp_box hS rfl rfl rfl ?_; clear hS; intro gb w1 hS) | ((with_reducible refine g_bs ?_); refine wl_of rfl ?_; (first | refine a_build1 (v := .int _ _) hS rfl rfl rfl rfl (by rfl) (by simp) ?_ | refine a_build1 (v := .string _) hS rfl rfl rfl rfl (by rfl) (by simp) ?_ | refine a_build1 (v := .bool _) hS rfl rfl rfl rfl (by rfl) (by simp) ?_ | refine a_build1 (v := .agg _) hS rfl rfl rfl rfl (by rfl) (by simp) ?_ | refine a_build1  hS rfl rfl rfl rfl (by rfl) (by simp) ?_); clear hS; intro v1 w' hS; simp only [List.length_cons, List.length_nil, Nat.zero_add] at hS; try simp only [Nat.reduceAdd] at hS) | ((with_reducible refine g_cut ?_); refine k_str rfl (h := ?_)) | ((with_reducible refine g_indexV ?_); refine k_six rfl (h := ?_)) | ((with_reducible refine g_bin ?_); refine k_cat rfl (h := ?_)) | ((with_reducible refine g_conv ?_); refine k_tos rfl (h := ?_)) | ((with_reducible refine wl_guard ?_); refine stop_mem rfl rfl ?_)))
        go_ret
        exact ⟨by first | rfl | simp_all, hS.nil⟩
      · by_cases k2 : r < l
        · have V1 := Lib.hid (hv r)
          rw [if_neg k1, if_pos k2] at V1
          clear hv hv5
          (go_enter Try.func3, Try.ntmps3)
          go_wp2_with (first | (go_at_call 8; refine (law_awake8 _).mono ?_; rintro e w' ⟨rfl, h⟩; replace hS := hS.call h; clear h) | (go_at_call 9; refine (O.out _).mono ?_; rintro e w' ⟨g, rfl, h⟩; replace hS := hS.call h; clear h; simp only [List.cons_append, List.nil_append] at hS) | (go_at_call 10; refine (ses_verdict (hS.out (by (repeat (first | exact Out.here | apply Out.there)))) (by simp) _ _ _ rq (by omega) (by omega)).mono ?_; clear hS; rintro e w' ⟨rfl, hS⟩; simp only [V1.out]) | (first | ((with_reducible refine g_load ?_); refine k_read rfl (h := ?_)) | ((with_reducible refine g_len ?_); refine k_len rfl (h := ?_)) | ((with_reducible refine g_index ?_); refine k_idx rfl (h := ?_)) | ((with_reducible refine g_field ?_); refine k_fld rfl (h := ?_)) | ((with_reducible refine g_store ?_); refine wl_of rfl ?_; first | (refine k_sta hS rfl rfl rfl (h := ?_); clear hS; intro w' hS; simp only [List.take, List.drop, List.cons_append, List.nil_append, List.length_cons, List.length_nil] at hS) | (first | ((first | (refine k_st1 (v := .int _ _) hS rfl rfl rfl (h := ?_)) | (refine k_st1 (v := .bool _) hS rfl rfl rfl (h := ?_)) | (refine k_st1 (v := .string _) hS rfl rfl rfl (h := ?_)) | (refine k_st1 (v := .slice none 0 0) hS rfl rfl rfl (h := ?_))); clear hS; intro w' hS; simp only [List.set_cons_zero, List.set_cons_succ] at hS) | ((refine k_st1  hS rfl rfl rfl (h := ?_)); clear hS; intro w' hS; simp only [List.set_cons_zero, List.set_cons_succ] at hS; simp only [Act.eval, Array.getD_eq_getD_getElem?, List.getElem?_toArray, List.getElem?_cons_succ, List.getElem?_cons_zero, Option.getD_some] at hS)) | (first | (refine k_ste (v := .int _ _) hS rfl rfl rfl (h := ?_); clear hS; intro w' hS) | (refine k_ste (v := .bool _) hS rfl rfl rfl (h := ?_); clear hS; intro w' hS) | (refine k_ste (v := .string _) hS rfl rfl rfl (h := ?_); clear hS; intro w' hS))) | ((with_reducible refine g_alloc ?_); refine wl_of rfl ?_; refine wp_alloc hS rfl rfl rfl rfl ?_; clear hS; intro gb w1 hS) | ((with_reducible refine g_box ?_); refine wl_of rfl ?_; refine wp_box hS rfl rfl rfl ?_; clear hS; intro gb w1 hS) | ((with_reducible refine g_bs ?_); refine wl_of rfl ?_; (first | refine a_build1 (v := .int _ _) hS rfl rfl rfl rfl (by rfl) (by simp) ?_ | refine a_build1 (v := .string _) hS rfl rfl rfl rfl (by rfl) (by simp) ?_ | refine a_build1 (v := .bool _) hS rfl rfl rfl rfl (by rfl) (by simp) ?_ | refine a_build1 (v := .agg _) hS rfl rfl rfl rfl (by rfl) (by simp) ?_ | refine a_build1  hS rfl rfl rfl rfl (by rfl) (by simp) ?_); clear hS; intro v1 w' hS; simp only [List.length_cons, List.length_nil, Nat.zero_add] at hS; try simp only [Nat.reduceAdd] at hS) | ((with_reducible refine g_cut ?_); refine k_str rfl (h := ?_)) | ((with_reducible refine g_indexV ?_); refine k_six rfl (h := ?_)) | ((with_reducible refine g_bin ?_); refine k_cat rfl (h := ?_)) | ((with_reducible refine g_conv ?_); refine k_tos rfl (h := ?_)) | ((with_reducible refine wl_guard ?_); refine stop_mem rfl rfl ?_)))
          go_ret
          exact ⟨by first | rfl | simp_all, hS.nil⟩
        · by_cases k3 : r - 1 = l
          · obtain rfl : r = l + 1 := by omega
            have V1 := Lib.hid (hv (l + 1))
            rw [if_neg k1, if_neg k2, if_pos k3] at V1
            have V2 := Lib.hid (hv l)
            rw [if_pos rfl] at V2
            clear hv hv5
            (go_enter Try.func3, Try.ntmps3)
            go_wp2_with (first | (go_at_call 8; refine (law_awake8 _).mono ?_; rintro e w' ⟨rfl, h⟩; replace hS := hS.call h; clear h) | (go_at_call 9; refine (O.out _).mono ?_; rintro e w' ⟨g, rfl, h⟩; replace hS := hS.call h; clear h; simp only [List.cons_append, List.nil_append] at hS) | (go_at_call 10; refine (ses_verdict (hS.out (by (repeat (first | exact Out.here | apply Out.there)))) (by simp) _ _ _ rq (by omega) (by omega)).mono ?_; clear hS; rintro e w' ⟨rfl, hS⟩; simp only [V1.out, V2.out]) | (first | ((with_reducible refine g_load ?_); refine k_read rfl (h := ?_)) | ((with_reducible refine g_len ?_); refine k_len rfl (h := ?_)) | ((with_reducible refine g_index ?_); refine k_idx rfl (h := ?_)) | ((with_reducible refine g_field ?_); refine k_fld rfl (h := ?_)) | ((with_reducible refine g_store ?_); refine wl_of rfl ?_; first | (refine k_sta hS rfl rfl rfl (h := ?_); clear hS; intro w' hS; simp only [List.take, List.drop, List.cons_append, List.nil_append, List.length_cons, List.length_nil] at hS) | (first | ((first | (refine k_st1 (v := .int _ _) hS rfl rfl rfl (h := ?_)) | (refine k_st1 (v := .bool _) hS rfl rfl rfl (h := ?_)) | (refine k_st1 (v := .string _) hS rfl rfl rfl (h := ?_)) | (refine k_st1 (v := .slice none 0 0) hS rfl rfl rfl (h := ?_))); clear hS; intro w' hS; simp only [List.set_cons_zero, List.set_cons_succ] at hS) | ((refine k_st1  hS rfl rfl rfl (h := ?_)); clear hS; intro w' hS; simp only [List.set_cons_zero, List.set_cons_succ] at hS; simp only [Act.eval, Array.getD_eq_getD_getElem?, List.getElem?_toArray, List.getElem?_cons_succ, List.getElem?_cons_zero, Option.getD_some] at hS)) | (first | (refine k_ste (v := .int _ _) hS rfl rfl rfl (h := ?_); clear hS; intro w' hS) | (refine k_ste (v := .bool _) hS rfl rfl rfl (h := ?_); clear hS; intro w' hS) | (refine k_ste (v := .string _) hS rfl rfl rfl (h := ?_); clear hS; intro w' hS))) | ((with_reducible refine g_alloc ?_); refine wl_of rfl ?_; refine wp_alloc hS rfl rfl rfl rfl ?_; clear hS; intro gb w1 hS) | ((with_reducible refine g_box ?_); refine wl_of rfl ?_; refine wp_box hS rfl rfl rfl ?_; clear hS; intro gb w1 hS) | ((with_reducible refine g_bs ?_); refine wl_of rfl ?_; (first | refine a_build1 (v := .int _ _) hS rfl rfl rfl rfl (by rfl) (by simp) ?_ | refine a_build1 (v := .string _) hS rfl rfl rfl rfl (by rfl) (by simp) ?_ | refine a_build1 (v := .bool _) hS rfl rfl rfl rfl (by rfl) (by simp) ?_ | refine a_build1 (v := .agg _) hS rfl rfl rfl rfl (by rfl) (by simp) ?_ | refine a_build1  hS rfl rfl rfl rfl (by rfl) (by simp) ?_); clear hS; intro v1 w' hS; simp only [List.length_cons, List.length_nil, Nat.zero_add] at hS; try simp only [Nat.reduceAdd] at hS) | ((with_reducible refine g_cut ?_); refine k_str rfl (h := ?_)) | ((with_reducible refine g_indexV ?_); refine k_six rfl (h := ?_)) | ((with_reducible refine g_bin ?_); refine k_cat rfl (h := ?_)) | ((with_reducible refine g_conv ?_); refine k_tos rfl (h := ?_)) | ((with_reducible refine wl_guard ?_); refine stop_mem rfl rfl ?_)))
            go_ret
            exact ⟨by first | rfl | simp_all, hS.nil⟩
          · have V1 := Lib.hid (hv r)
            rw [if_neg k1, if_neg k2, if_neg k3] at V1
            have hne : ∃ z, z ≠ 2 ∧ sVerdict [⟨c, s, l, t, []⟩] c s (r - 1) = z := ⟨_, by rw [hv, if_neg k3]; split; omega; split <;> omega, rfl⟩
            obtain ⟨z, hz, hz2⟩ := hne
            have V2 := Lib.hid hz2
            clear hv hv5 hz2
            (go_enter Try.func3, Try.ntmps3)
            go_wp2_with (first | (go_at_call 8; refine (law_awake8 _).mono ?_; rintro e w' ⟨rfl, h⟩; replace hS := hS.call h; clear h) | (go_at_call 9; refine (O.out _).mono ?_; rintro e w' ⟨g, rfl, h⟩; replace hS := hS.call h; clear h; simp only [List.cons_append, List.nil_append] at hS) | (go_at_call 10; refine (ses_verdict (hS.out (by (repeat (first | exact Out.here | apply Out.there)))) (by simp) _ _ _ rq (by omega) (by omega)).mono ?_; clear hS; rintro e w' ⟨rfl, hS⟩; simp only [V1.out, V2.out]) | (first | ((with_reducible refine g_load ?_); refine k_read rfl (h := ?_)) | ((with_reducible refine g_len ?_); refine k_len rfl (h := ?_)) | ((with_reducible refine g_index ?_); refine k_idx rfl (h := ?_)) | ((with_reducible refine g_field ?_); refine k_fld rfl (h := ?_)) | ((with_reducible refine g_store ?_); refine wl_of rfl ?_; first | (refine k_sta hS rfl rfl rfl (h := ?_); clear hS; intro w' hS; simp only [List.take, List.drop, List.cons_append, List.nil_append, List.length_cons, List.length_nil] at hS) | (first | ((first | (refine k_st1 (v := .int _ _) hS rfl rfl rfl (h := ?_)) | (refine k_st1 (v := .bool _) hS rfl rfl rfl (h := ?_)) | (refine k_st1 (v := .string _) hS rfl rfl rfl (h := ?_)) | (refine k_st1 (v := .slice none 0 0) hS rfl rfl rfl (h := ?_))); clear hS; intro w' hS; simp only [List.set_cons_zero, List.set_cons_succ] at hS) | ((refine k_st1  hS rfl rfl rfl (h := ?_)); clear hS; intro w' hS; simp only [List.set_cons_zero, List.set_cons_succ] at hS; simp only [Act.eval, Array.getD_eq_getD_getElem?, List.getElem?_toArray, List.getElem?_cons_succ, List.getElem?_cons_zero, Option.getD_some] at hS)) | (first | (refine k_ste (v := .int _ _) hS rfl rfl rfl (h := ?_); clear hS; intro w' hS) | (refine k_ste (v := .bool _) hS rfl rfl rfl (h := ?_); clear hS; intro w' hS) | (refine k_ste (v := .string _) hS rfl rfl rfl (h := ?_); clear hS; intro w' hS))) | ((with_reducible refine g_alloc ?_); refine wl_of rfl ?_; refine wp_alloc hS rfl rfl rfl rfl ?_; clear hS; intro gb w1 hS) | ((with_reducible refine g_box ?_); refine wl_of rfl ?_; refine wp_box hS rfl rfl rfl ?_; clear hS; intro gb w1 hS) | ((with_reducible refine g_bs ?_); refine wl_of rfl ?_; (first | refine a_build1 (v := .int _ _) hS rfl rfl rfl rfl (by rfl) (by simp) ?_ | refine a_build1 (v := .string _) hS rfl rfl rfl rfl (by rfl) (by simp) ?_ | refine a_build1 (v := .bool _) hS rfl rfl rfl rfl (by rfl) (by simp) ?_ | refine a_build1 (v := .agg _) hS rfl rfl rfl rfl (by rfl) (by simp) ?_ | refine a_build1  hS rfl rfl rfl rfl (by rfl) (by simp) ?_); clear hS; intro v1 w' hS; simp only [List.length_cons, List.length_nil, Nat.zero_add] at hS; try simp only [Nat.reduceAdd] at hS) | ((with_reducible refine g_cut ?_); refine k_str rfl (h := ?_)) | ((with_reducible refine g_indexV ?_); refine k_six rfl (h := ?_)) | ((with_reducible refine g_bin ?_); refine k_cat rfl (h := ?_)) | ((with_reducible refine g_conv ?_); refine k_tos rfl (h := ?_)) | ((with_reducible refine wl_guard ?_); refine stop_mem rfl rfl ?_)))
            go_ret
            exact ⟨by first | rfl | simp_all, hS.nil⟩
    · have V1 := Lib.hid (hv5 c s r (.inr (fun h => hs h.symm)))
      have V2 := Lib.hid (hv5 (c + 1) o r (.inl (by omega)))
      clear hv hv5
      (go_enter Try.func3, Try.ntmps3)
      go_wp2_with (first | (go_at_call 8; refine (law_awake8 _).mono ?_; rintro e w' ⟨rfl, h⟩; replace hS := hS.call h; clear h) | (go_at_call 9; refine (O.out _).mono ?_; rintro e w' ⟨g, rfl, h⟩; replace hS := hS.call h; clear h; simp only [List.cons_append, List.nil_append] at hS) | (go_at_call 10; refine (ses_verdict (hS.out (by (repeat (first | exact Out.here | apply Out.there)))) (by simp) _ _ _ rq (by omega) (by omega)).mono ?_; clear hS; rintro e w' ⟨rfl, hS⟩; simp only [V1.out, V2.out]) | (first | ((with_reducible refine g_load ?_); refine k_read rfl (h := ?_)) | ((with_reducible refine g_len ?_); refine k_len rfl (h := ?_)) | ((with_reducible refine g_index ?_); refine k_idx rfl (h := ?_)) | ((with_reducible refine g_field ?_); refine k_fld rfl (h := ?_)) | ((with_reducible refine g_store ?_); refine wl_of rfl ?_; first | (refine k_sta hS rfl rfl rfl (h := ?_); clear hS; intro w' hS; simp only [List.take, List.drop, List.cons_append, List.nil_append, List.length_cons, List.length_nil] at hS) | (first | ((first | (refine k_st1 (v := .int _ _) hS rfl rfl rfl (h := ?_)) | (refine k_st1 (v := .bool _) hS rfl rfl rfl (h := ?_)) | (refine k_st1 (v := .string _) hS rfl rfl rfl (h := ?_)) | (refine k_st1 (v := .slice none 0 0) hS rfl rfl rfl (h := ?_))); clear hS; intro w' hS; simp only [List.set_cons_zero, List.set_cons_succ] at hS) | ((refine k_st1  hS rfl rfl rfl (h := ?_)); clear hS; intro w' hS; simp only [List.set_cons_zero, List.set_cons_succ] at hS; simp only [Act.eval, Array.getD_eq_getD_getElem?, List.getElem?_toArray, List.getElem?_cons_succ, List.getElem?_cons_zero, Option.getD_some] at hS)) | (first | (refine k_ste (v := .int _ _) hS rfl rfl rfl (h := ?_); clear hS; intro w' hS) | (refine k_ste (v := .bool _) hS rfl rfl rfl (h := ?_); clear hS; intro w' hS) | (refine k_ste (v := .string _) hS rfl rfl rfl (h := ?_); clear hS; intro w' hS))) | ((with_reducible refine g_alloc ?_); refine wl_of rfl ?_; refine wp_alloc hS rfl rfl rfl rfl ?_; clear hS; intro gb w1 hS) | ((with_reducible refine g_box ?_); refine wl_of rfl ?_; refine wp_box hS rfl rfl rfl ?_; clear hS; intro gb w1 hS) | ((with_reducible refine g_bs ?_); refine wl_of rfl ?_; (first | refine a_build1 (v := .int _ _) hS rfl rfl rfl rfl (by rfl) (by simp) ?_ | refine a_build1 (v := .string _) hS rfl rfl rfl rfl (by rfl) (by simp) ?_ | refine a_build1 (v := .bool _) hS rfl rfl rfl rfl (by rfl) (by simp) ?_ | refine a_build1 (v := .agg _) hS rfl rfl rfl rfl (by rfl) (by simp) ?_ | refine a_build1  hS rfl rfl rfl rfl (by rfl) (by simp) ?_); clear hS; intro v1 w' hS; simp only [List.length_cons, List.length_nil, Nat.zero_add] at hS; try simp only [Nat.reduceAdd] at hS) | ((with_reducible refine g_cut ?_); refine k_str rfl (h := ?_)) | ((with_reducible refine g_indexV ?_); refine k_six rfl (h := ?_)) | ((with_reducible refine g_bin ?_); refine k_cat rfl (h := ?_)) | ((with_reducible refine g_conv ?_); refine k_tos rfl (h := ?_)) | ((with_reducible refine wl_guard ?_); refine stop_mem rfl rfl ?_)))
      go_ret
      exact ⟨by first | rfl | simp_all, hS.nil⟩
  · have O := Lib.hid (fun (w : World) => opened_not c o l t w h)
    clear h
    (go_enter Try.func3, Try.ntmps3)
    go_wp2_with (first | (go_at_call 8; refine (law_awake8 _).mono ?_; rintro e w' ⟨rfl, h⟩; replace hS := hS.call h; clear h) | (go_at_call 9; refine (O.out _).mono ?_; rintro e w' ⟨rfl, h⟩; replace hS := hS.call h; clear h) | (first | ((with_reducible refine g_load ?_); refine k_read rfl (h := ?_)) | ((with_reducible refine g_len ?_); refine k_len rfl (h := ?_)) | ((with_reducible refine g_index ?_); refine k_idx rfl (h := ?_)) | ((with_reducible refine g_field ?_); refine k_fld rfl (h := ?_)) | ((with_reducible refine g_store ?_); refine wl_of rfl ?_; first | (refine k_sta hS rfl rfl rfl (h := ?_); clear hS; intro w' hS; simp only [List.take, List.drop, List.cons_append, List.nil_append, List.length_cons, List.length_nil] at hS) | (first | ((first | (refine k_st1 (v := .int _ _) hS rfl rfl rfl (h := ?_)) | (refine k_st1 (v := .bool _) hS rfl rfl rfl (h := ?_)) | (refine k_st1 (v := .string _) hS rfl rfl rfl (h := ?_)) | (refine k_st1 (v := .slice none 0 0) hS rfl rfl rfl (h := ?_))); clear hS; intro w' hS; simp only [List.set_cons_zero, List.set_cons_succ] at hS) | ((refine k_st1  hS rfl rfl rfl (h := ?_)); clear hS; intro w' hS; simp only [List.set_cons_zero, List.set_cons_succ] at hS; simp only [Act.eval, Array.getD_eq_getD_getElem?, List.getElem?_toArray, List.getElem?_cons_succ, List.getElem?_cons_zero, Option.getD_some] at hS)) | (first | (refine k_ste (v := .int _ _) hS rfl rfl rfl (h := ?_); clear hS; intro w' hS) | (refine k_ste (v := .bool _) hS rfl rfl rfl (h := ?_); clear hS; intro w' hS) | (refine k_ste (v := .string _) hS rfl rfl rfl (h := ?_); clear hS; intro w' hS))) | ((with_reducible refine g_alloc ?_); refine wl_of rfl ?_; refine wp_alloc hS rfl rfl rfl rfl ?_; clear hS; intro gb w1 hS) | ((with_reducible refine g_box ?_); refine wl_of rfl ?_; refine wp_box hS rfl rfl rfl ?_; clear hS; intro gb w1 hS) | ((with_reducible refine g_bs ?_); refine wl_of rfl ?_; (first | refine a_build1 (v := .int _ _) hS rfl rfl rfl rfl (by rfl) (by simp) ?_ | refine a_build1 (v := .string _) hS rfl rfl rfl rfl (by rfl) (by simp) ?_ | refine a_build1 (v := .bool _) hS rfl rfl rfl rfl (by rfl) (by simp) ?_ | refine a_build1 (v := .agg _) hS rfl rfl rfl rfl (by rfl) (by simp) ?_ | refine a_build1  hS rfl rfl rfl rfl (by rfl) (by simp) ?_); clear hS; intro v1 w' hS; simp only [List.length_cons, List.length_nil, Nat.zero_add] at hS; try simp only [Nat.reduceAdd] at hS) | ((with_reducible refine g_cut ?_); refine k_str rfl (h := ?_)) | ((with_reducible refine g_indexV ?_); refine k_six rfl (h := ?_)) | ((with_reducible refine g_bin ?_); refine k_cat rfl (h := ?_)) | ((with_reducible refine g_conv ?_); refine k_tos rfl (h := ?_)) | ((with_reducible refine wl_guard ?_); refine stop_mem rfl rfl ?_)))
    go_ret
    exact ⟨rfl, hS.nil⟩
end Go.Proofs.Ytnojcgaoepfcdaa
