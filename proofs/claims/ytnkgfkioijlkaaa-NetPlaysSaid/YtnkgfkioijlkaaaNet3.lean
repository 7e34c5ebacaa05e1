/-
  The net's functions that find a letter by its number.
-/
import Derived.Test.YtnkgfkioijlkaaaNet2
namespace Go.Proofs.Ytnkgfkioijlkaaa
open Go.RowKit Go.Cmp

set_option maxHeartbeats 1000000 in
theorem net_delete {α : Type} {f : α → List Value} (hf : ∀ x, (f x).length = 5) (ho1 : ∀ x, ∀ u ∈ f x, u.oneCell' = true) {S : List Nat} {w0 w : World} {M : List Ent} {v : Value} {L : List α} (hS : St S w0 w (.vec v 55 5 L.length (L.flatMap f) :: M)) (i : Nat) (hi : i < L.length) (hl : L.length ≤ 1000000000) :
    Calls Try.prog 26 #[v, .int .i64 (i : Int), .int .i64 ((i : Int) + 1)] w fun e w' => e = .returned (cutSl v 5 0 (L.eraseIdx i).length) ∧ St S w0 w' (.vec (cutSl v 5 0 (L.eraseIdx i).length) 55 5 (L.eraseIdx i).length ((L.eraseIdx i).flatMap f) :: M) := by
  have hel : (L.eraseIdx i).length = i + (L.length - (i + 1)) := by rw [List.length_eraseIdx_of_lt hi]; omega
  have HF := Lib.hid (flat_erase hf L i hi)
  have H1 : Hid (∀ u ∈ L.flatMap f, u.oneCell' = true) := Lib.hid (by
    intro u hu
    obtain ⟨x, _, hx⟩ := List.mem_flatMap.1 hu
    exact ho1 x u hx)
  rw [hel]
  have hne : ¬ (i : Int) = (i : Int) + 1 := by omega
  clear hf ho1 hel
  (go_enter Try.func26, Try.ntmps26)
  go_wp2_with (first | ((with_reducible refine g_cut ?_); refine wl_cut3 hS rfl rfl i (i + 1) (by (repeat (first | exact Ix.here | apply Ix.there))) rfl rfl rfl rfl rfl (by rfl) (by omega) (by omega) (by omega) ?_; intro u3) | (first | ((with_reducible refine g_load ?_); refine k_read rfl (h := ?_)) | ((with_reducible refine g_len ?_); refine k_len rfl (h := ?_)) | ((with_reducible refine g_index ?_); refine k_idx rfl (h := ?_)) | ((with_reducible refine g_field ?_); refine k_fld rfl (h := ?_)) | ((with_reducible refine g_store ?_); refine wl_of rfl ?_; first | (refine k_sta hS rfl rfl rfl (h := ?_); clear hS; intro w' hS; simp only [List.take, List.drop, List.cons_append, List.nil_append, List.length_cons, List.length_nil] at hS) | (first | ((first | (refine k_st1 (v := .int _ _) hS rfl rfl rfl (h := ?_)) | (refine k_st1 (v := .bool _) hS rfl rfl rfl (h := ?_)) | (refine k_st1 (v := .string _) hS rfl rfl rfl (h := ?_)) | (refine k_st1 (v := .slice none 0 0) hS rfl rfl rfl (h := ?_))); clear hS; intro w' hS; simp only [List.set_cons_zero, List.set_cons_succ] at hS) | ((refine k_st1  hS rfl rfl rfl (h := ?_)); clear hS; intro w' hS; simp only [List.set_cons_zero, List.set_cons_succ] at hS; simp only [Act.eval, Array.getD_eq_getD_getElem?, List.getElem?_toArray, List.getElem?_cons_succ, List.getElem?_cons_zero, Option.getD_some] at hS)) | (first | (refine k_ste (v := .int _ _) hS rfl rfl rfl (h := ?_); clear hS; intro w' hS) | (refine k_ste (v := .bool _) hS rfl rfl rfl (h := ?_); clear hS; intro w' hS) | (refine k_ste (v := .string _) hS rfl rfl rfl (h := ?_); clear hS; intro w' hS))) | ((with_reducible refine g_alloc ?_); refine wl_of rfl ?_; refine wp_alloc hS rfl rfl rfl rfl ?_; clear hS; intro gb w1 hS) | ((with_reducible refine g_box ?_); refine wl_of rfl ?_; refine wp_box hS rfl rfl rfl ?_; clear hS; intro gb w1 hS) | ((with_reducible refine g_bs ?_); refine wl_of rfl ?_; (first | refine a_build1 (v := .int _ _) hS rfl rfl rfl rfl (by rfl) (by simp) ?_ | refine a_build1 (v := .string _) hS rfl rfl rfl rfl (by rfl) (by simp) ?_ | refine a_build1 (v := .bool _) hS rfl rfl rfl rfl (by rfl) (by simp) ?_ | refine a_build1 (v := .agg _) hS rfl rfl rfl rfl (by rfl) (by simp) ?_ | refine a_build1  hS rfl rfl rfl rfl (by rfl) (by simp) ?_); clear hS; intro v1 w' hS; simp only [List.length_cons, List.length_nil, Nat.zero_add] at hS; try simp only [Nat.reduceAdd] at hS) | ((with_reducible refine g_cut ?_); refine k_str rfl (h := ?_)) | ((with_reducible refine g_indexV ?_); refine k_six rfl (h := ?_)) | ((with_reducible refine g_bin ?_); refine k_cat rfl (h := ?_)) | ((with_reducible refine g_conv ?_); refine k_tos rfl (h := ?_)) | ((with_reducible refine wl_guard ?_); refine stop_mem rfl rfl ?_)))
  refine wp_region_tail 6 (by kernel_rfl) (by kernel_rfl) hS ?_
  clear hS
  intro w2 hS
  simp only [List.take_succ_cons, List.take_zero, List.drop_succ_cons, List.drop_zero]
  iterate 2 (still_step)
  refine ws_run rfl (x_cutHi rfl (hS.rdv (i := 0) rfl) rfl rfl rfl rfl rfl (by omega) (by omega)) ?_
  simp only [Act.put, List.setIfInBounds_toArray, List.set_cons_zero, List.set_cons_succ]
  iterate 2 (still_step)
  refine ws_run rfl (x_cutLo rfl (hS.rdv (i := 0) rfl) rfl rfl rfl rfl rfl (by omega) (by omega)) ?_
  simp only [Act.put, List.setIfInBounds_toArray, List.set_cons_zero, List.set_cons_succ]
  refine wpStill_nil ?_
  refine wl_of rfl (a_delApp hS rfl i (i + 1) (by (repeat (first | exact Sw.here | apply Sw.there))) rfl rfl rfl (by rfl) H1.out (by omega) (by omega) (by omega) rfl ?_)
  clear hS
  intro w3 hS
  have hlt : i + (L.length - (i + 1)) < L.length := by omega
  have hRn : Rd w3 5 (cutSl v 5 0 (i + (L.length - (i + 1)))) (i + (L.length - (i + 1))) ((((L.flatMap f).take (i * 5) ++ (L.flatMap f).drop ((i + 1) * 5) ++ (L.flatMap f).drop ((i + (L.length - (i + 1))) * 5)).take ((i + (L.length - (i + 1))) * 5)).drop (0 * 5)) := (hS.rdv (i := 0) rfl).cut 0 _ (by omega) (by omega)
  go_wp2_with (first | ((with_reducible refine g_len ?_); refine wl_run rfl (a_len rfl rfl rfl hRn) ?_) | ((with_reducible refine g_cut ?_); refine wl_run rfl (x_cutBeyond hS rfl (i + (L.length - (i + 1))) (by (repeat (first | exact Ix.here | apply Ix.there))) rfl rfl rfl rfl (by rfl) hlt) ?_) | ((with_reducible refine g_clear ?_); refine wl_of rfl ?_; refine a_clear hS rfl (i + (L.length - (i + 1))) (by (repeat (first | exact Out.here | apply Out.there))) rfl rfl (by rfl) hlt ?_; clear hS; intro w4 hS) | (first | ((with_reducible refine g_load ?_); refine k_read rfl (h := ?_)) | ((with_reducible refine g_len ?_); refine k_len rfl (h := ?_)) | ((with_reducible refine g_index ?_); refine k_idx rfl (h := ?_)) | ((with_reducible refine g_field ?_); refine k_fld rfl (h := ?_)) | ((with_reducible refine g_store ?_); refine wl_of rfl ?_; first | (refine k_sta hS rfl rfl rfl (h := ?_); clear hS; intro w' hS; simp only [List.take, List.drop, List.cons_append, List.nil_append, List.length_cons, List.length_nil] at hS) | (first | ((first | (refine k_st1 (v := .int _ _) hS rfl rfl rfl (h := ?_)) | (refine k_st1 (v := .bool _) hS rfl rfl rfl (h := ?_)) | (refine k_st1 (v := .string _) hS rfl rfl rfl (h := ?_)) | (refine k_st1 (v := .slice none 0 0) hS rfl rfl rfl (h := ?_))); clear hS; intro w' hS; simp only [List.set_cons_zero, List.set_cons_succ] at hS) | ((refine k_st1  hS rfl rfl rfl (h := ?_)); clear hS; intro w' hS; simp only [List.set_cons_zero, List.set_cons_succ] at hS; simp only [Act.eval, Array.getD_eq_getD_getElem?, List.getElem?_toArray, List.getElem?_cons_succ, List.getElem?_cons_zero, Option.getD_some] at hS)) | (first | (refine k_ste (v := .int _ _) hS rfl rfl rfl (h := ?_); clear hS; intro w' hS) | (refine k_ste (v := .bool _) hS rfl rfl rfl (h := ?_); clear hS; intro w' hS) | (refine k_ste (v := .string _) hS rfl rfl rfl (h := ?_); clear hS; intro w' hS))) | ((with_reducible refine g_alloc ?_); refine wl_of rfl ?_; refine wp_alloc hS rfl rfl rfl rfl ?_; clear hS; intro gb w1 hS) | ((with_reducible refine g_box ?_); refine wl_of rfl ?_; refine wp_box hS rfl rfl rfl ?_; clear hS; intro gb w1 hS) | ((with_reducible refine g_bs ?_); refine wl_of rfl ?_; (first | refine a_build1 (v := .int _ _) hS rfl rfl rfl rfl (by rfl) (by simp) ?_ | refine a_build1 (v := .string _) hS rfl rfl rfl rfl (by rfl) (by simp) ?_ | refine a_build1 (v := .bool _) hS rfl rfl rfl rfl (by rfl) (by simp) ?_ | refine a_build1 (v := .agg _) hS rfl rfl rfl rfl (by rfl) (by simp) ?_ | refine a_build1  hS rfl rfl rfl rfl (by rfl) (by simp) ?_); clear hS; intro v1 w' hS; simp only [List.length_cons, List.length_nil, Nat.zero_add] at hS; try simp only [Nat.reduceAdd] at hS) | ((with_reducible refine g_cut ?_); refine k_str rfl (h := ?_)) | ((with_reducible refine g_indexV ?_); refine k_six rfl (h := ?_)) | ((with_reducible refine g_bin ?_); refine k_cat rfl (h := ?_)) | ((with_reducible refine g_conv ?_); refine k_tos rfl (h := ?_)) | ((with_reducible refine wl_guard ?_); refine stop_mem rfl rfl ?_)))
  go_ret
  refine ⟨rfl, ?_⟩
  rw [HF.out] at hS
  exact hS

section
variable {S : List Nat} {w0 w : World} {M : List Ent} {g : Nat} {N : Nt}

set_option maxHeartbeats 1000000 in
theorem net_find (hS : St S w0 w (net g N :: M)) (hN : N.Good) (id : Int) (h1 : -9223372036854775808 ≤ id) (h2 : id ≤ 9223372036854775807) :
    Calls Try.prog 25 #[.pointer (some ⟨g, 0, none⟩), .int .i64 id] w fun e w' => e = .returned (.int .i64 (pos id N.all)) ∧ St S w0 w' (net g N :: M) := by
  have hl := hN.ok.len
  have hr : ∀ x ∈ N.all, 1 ≤ x.id ∧ x.id ≤ 1000000000 := fun x hx => by have := hN.ids x hx; have := hN.ok.last1; omega
  have hi := hN.inc
  have H : ∀ (w : World) (v : Value) (M' : List Ent) , St S w0 w M' → Reads S w0 M' 5 v N.all.length (N.all.flatMap Pk.cells) → Calls Try.prog 28 #[v, .int .i64 id, .func (.func 29) #[] #[]] w fun e w' => FoundAt N.all id e ∧ St S w0 w' M' := by
    intro w v M' h3 h4
    by_cases hid : id < 1
    · exact search_wild v N.all id h3 h4 hl hr hid h1
    · exact search_less v N.all id h3 h4 hl hi hr (by omega) h2
  have HH := Lib.hid H
  clear hl hr hi H hN
  (have hU := St.unpack hS; clear hS; obtain ⟨vs, _, hS⟩ := hU; simp only [List.cons_append, List.nil_append] at hS)
  (go_enter Try.func25, Try.ntmps25)
  go_wp2_with (first | (go_at_call 28; refine (HH.out _ _ _ hS (fun W hW => hW.rdv (i := 1) rfl)).mono ?_; clear hS; rintro e w' ⟨⟨i, b, rfl, hf⟩, hS⟩) | (first | ((with_reducible refine g_load ?_); refine k_read rfl (h := ?_)) | ((with_reducible refine g_len ?_); refine k_len rfl (h := ?_)) | ((with_reducible refine g_index ?_); refine k_idx rfl (h := ?_)) | ((with_reducible refine g_field ?_); refine k_fld rfl (h := ?_)) | ((with_reducible refine g_store ?_); refine wl_of rfl ?_; first | (refine k_sta hS rfl rfl rfl (h := ?_); clear hS; intro w' hS; simp only [List.take, List.drop, List.cons_append, List.nil_append, List.length_cons, List.length_nil] at hS) | (first | ((first | (refine k_st1 (v := .int _ _) hS rfl rfl rfl (h := ?_)) | (refine k_st1 (v := .bool _) hS rfl rfl rfl (h := ?_)) | (refine k_st1 (v := .string _) hS rfl rfl rfl (h := ?_)) | (refine k_st1 (v := .slice none 0 0) hS rfl rfl rfl (h := ?_))); clear hS; intro w' hS; simp only [List.set_cons_zero, List.set_cons_succ] at hS) | ((refine k_st1  hS rfl rfl rfl (h := ?_)); clear hS; intro w' hS; simp only [List.set_cons_zero, List.set_cons_succ] at hS; simp only [Act.eval, Array.getD_eq_getD_getElem?, List.getElem?_toArray, List.getElem?_cons_succ, List.getElem?_cons_zero, Option.getD_some] at hS)) | (first | (refine k_ste (v := .int _ _) hS rfl rfl rfl (h := ?_); clear hS; intro w' hS) | (refine k_ste (v := .bool _) hS rfl rfl rfl (h := ?_); clear hS; intro w' hS) | (refine k_ste (v := .string _) hS rfl rfl rfl (h := ?_); clear hS; intro w' hS))) | ((with_reducible refine g_alloc ?_); refine wl_of rfl ?_; refine wp_alloc hS rfl rfl rfl rfl ?_; clear hS; intro gb w1 hS) | ((with_reducible refine g_box ?_); refine wl_of rfl ?_; refine wp_box hS rfl rfl rfl ?_; clear hS; intro gb w1 hS) | ((with_reducible refine g_bs ?_); refine wl_of rfl ?_; (first | refine a_build1 (v := .int _ _) hS rfl rfl rfl rfl (by rfl) (by simp) ?_ | refine a_build1 (v := .string _) hS rfl rfl rfl rfl (by rfl) (by simp) ?_ | refine a_build1 (v := .bool _) hS rfl rfl rfl rfl (by rfl) (by simp) ?_ | refine a_build1 (v := .agg _) hS rfl rfl rfl rfl (by rfl) (by simp) ?_ | refine a_build1  hS rfl rfl rfl rfl (by rfl) (by simp) ?_); clear hS; intro v1 w' hS; simp only [List.length_cons, List.length_nil, Nat.zero_add] at hS; try simp only [Nat.reduceAdd] at hS) | ((with_reducible refine g_cut ?_); refine k_str rfl (h := ?_)) | ((with_reducible refine g_indexV ?_); refine k_six rfl (h := ?_)) | ((with_reducible refine g_bin ?_); refine k_cat rfl (h := ?_)) | ((with_reducible refine g_conv ?_); refine k_tos rfl (h := ?_)) | ((with_reducible refine wl_guard ?_); refine stop_mem rfl rfl ?_)))
  · rename_i hb
    obtain rfl : b = false := by simpa using hb
    go_ret
    have hp : pos id N.all = -1 := by simpa [Found] using hf
    rw [hp]
    exact ⟨rfl, St.packs vs hS⟩
  · rename_i hb
    obtain rfl : b = true := by simpa using hb
    go_ret
    have hp : (i : Int) = pos id N.all := by simpa [Found] using hf
    rw [← hp]
    exact ⟨rfl, St.packs vs hS⟩
end
end Go.Proofs.Ytnkgfkioijlkaaa
