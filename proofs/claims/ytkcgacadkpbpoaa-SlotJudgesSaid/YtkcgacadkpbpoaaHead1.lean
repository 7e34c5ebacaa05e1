/-
  A header's numbers: where they stand.
-/
import Derived.Test.YtkcgacadkpbpoaaHeadSpec
set_option linter.unusedSimpArgs false
set_option linter.unusedVariables false
set_option linter.unusedSectionVars false
namespace Go.Proofs.Ytkcgacadkpbpoaa
open Go.RowKit Go.Cmp
set_option maxRecDepth 100000

section
variable {S : List Nat} {w0 w : World} {M : List Ent} {g : Nat} {cs : List Value}
def ptrs (g : Nat) (l : List Nat) : List Value := l.map fun i => .pointer (some ⟨g, i, none⟩)
theorem ptrs_one (g : Nat) (l : List Nat) : ∀ u ∈ ptrs g l, u.oneCell' = true := by
  intro u hu
  obtain ⟨i, _, rfl⟩ := List.mem_map.1 hu
  rfl
set_option maxHeartbeats 2000000 in
theorem headSmall_any (hS : St S w0 w M) :
    Calls Try.prog 73 #[.pointer (some ⟨g, 0, none⟩)] w fun e w' => e = .returned (.agg (ptrs g [0, 1, 2]).toArray) ∧ St S w0 w' M := by
  (go_enter Try.func73, Try.ntmps73)
  go_wp2_with (first | ((with_reducible refine g_load ?_); refine k_read rfl (h := ?_)) | ((with_reducible refine g_len ?_); refine k_len rfl (h := ?_)) | ((with_reducible refine g_index ?_); refine k_idx rfl (h := ?_)) | ((with_reducible refine g_field ?_); refine k_fld rfl (h := ?_)) | ((with_reducible refine g_store ?_); refine wl_of rfl ?_; first | (refine k_sta hS rfl rfl rfl (h := ?_); clear hS; intro w' hS; simp only [List.take, List.drop, List.cons_append, List.nil_append, List.length_cons, List.length_nil] at hS) | (first | ((first | (refine k_st1 (v := .int _ _) hS rfl rfl rfl (h := ?_)) | (refine k_st1 (v := .bool _) hS rfl rfl rfl (h := ?_)) | (refine k_st1 (v := .string _) hS rfl rfl rfl (h := ?_)) | (refine k_st1 (v := .slice none 0 0) hS rfl rfl rfl (h := ?_))); clear hS; intro w' hS; simp only [List.set_cons_zero, List.set_cons_succ] at hS) | ((refine k_st1  hS rfl rfl rfl (h := ?_)); clear hS; intro w' hS; simp only [List.set_cons_zero, List.set_cons_succ] at hS; simp only [Act.eval, Array.getD_eq_getD_getElem?, List.getElem?_toArray, List.getElem?_cons_succ, List.getElem?_cons_zero, Option.getD_some] at hS)) | (first | (refine k_ste (v := .int _ _) hS rfl rfl rfl (h := ?_); clear hS; intro w' hS) | (refine k_ste (v := .bool _) hS rfl rfl rfl (h := ?_); clear hS; intro w' hS) | (refine k_ste (v := .string _) hS rfl rfl rfl (h := ?_); clear hS; intro w' hS))) | ((with_reducible refine g_alloc ?_); refine wl_of rfl ?_; refine wp_alloc hS rfl rfl rfl rfl ?_; clear hS; intro gb w1 hS) | ((with_reducible refine g_box ?_); refine wl_of rfl ?_; refine wp_box hS rfl rfl rfl ?_; clear hS; intro gb w1 hS) | ((with_reducible refine g_bs ?_); refine wl_of rfl ?_; (first | refine a_build1 (v := .int _ _) hS rfl rfl rfl rfl (by rfl) (by simp) ?_ | refine a_build1 (v := .string _) hS rfl rfl rfl rfl (by rfl) (by simp) ?_ | refine a_build1 (v := .bool _) hS rfl rfl rfl rfl (by rfl) (by simp) ?_ | refine a_build1 (v := .agg _) hS rfl rfl rfl rfl (by rfl) (by simp) ?_ | refine a_build1  hS rfl rfl rfl rfl (by rfl) (by simp) ?_); clear hS; intro v1 w' hS; simp only [List.length_cons, List.length_nil, Nat.zero_add] at hS; try simp only [Nat.reduceAdd] at hS) | ((with_reducible refine g_cut ?_); refine k_str rfl (h := ?_)) | ((with_reducible refine g_indexV ?_); refine k_six rfl (h := ?_)) | ((with_reducible refine g_bin ?_); refine k_cat rfl (h := ?_)) | ((with_reducible refine g_conv ?_); refine k_tos rfl (h := ?_)) | ((with_reducible refine wl_guard ?_); refine stop_mem rfl rfl ?_))
  refine region_end0 10 hS (by kernel_rfl) ?_
  clear hS
  intro wx hR hB hS
  (refine we_take 0 rfl rfl (by kernel_rfl) (by kernel_rfl) (by kernel_rfl) (fun _ _ _ h => h) (by kernel_rfl) rfl (fun W hW => (by (go_simp; try with_reducible rfl))) hS.base ?_; simp only [Act.put, List.setIfInBounds_toArray, List.set_cons_zero, List.set_cons_succ])
  (refine we_take 1 rfl rfl (by kernel_rfl) (by kernel_rfl) (by kernel_rfl) (fun _ _ _ h => h) (by kernel_rfl) rfl (fun W hW => (by (go_simp; try with_reducible rfl))) hS.base ?_; simp only [Act.put, List.setIfInBounds_toArray, List.set_cons_zero, List.set_cons_succ])
  (refine we_take 2 rfl rfl (by kernel_rfl) (by kernel_rfl) (by kernel_rfl) (fun _ _ _ h => h) (by kernel_rfl) rfl (fun W hW => (by (go_simp; try with_reducible rfl))) hS.base ?_; simp only [Act.put, List.setIfInBounds_toArray, List.set_cons_zero, List.set_cons_succ])
  (refine we_take 3 rfl rfl (by kernel_rfl) (by kernel_rfl) (by kernel_rfl) (fun _ _ _ h => h) (by kernel_rfl) rfl (fun W hW => (by (go_simp; try with_reducible rfl))) hS.base ?_; simp only [Act.put, List.setIfInBounds_toArray, List.set_cons_zero, List.set_cons_succ])
  (refine we_take 4 rfl rfl (by kernel_rfl) (by kernel_rfl) (by kernel_rfl) (fun _ _ _ h => h) (by kernel_rfl) rfl (fun W hW => (by (go_simp; try with_reducible rfl))) hS.base ?_; simp only [Act.put, List.setIfInBounds_toArray, List.set_cons_zero, List.set_cons_succ])
  (refine we_take 5 rfl rfl (by kernel_rfl) (by kernel_rfl) (by kernel_rfl) (fun _ _ _ h => h) (by kernel_rfl) rfl (fun W hW => (by (go_simp; try with_reducible rfl))) hS.base ?_; simp only [Act.put, List.setIfInBounds_toArray, List.set_cons_zero, List.set_cons_succ])
  (refine we_take 6 rfl rfl (by kernel_rfl) (by kernel_rfl) (by kernel_rfl) (fun _ _ _ h => h) (by kernel_rfl) rfl (fun W hW => (by (go_simp; try with_reducible rfl))) hS.base ?_; simp only [Act.put, List.setIfInBounds_toArray, List.set_cons_zero, List.set_cons_succ])
  (refine we_take 7 rfl rfl (by kernel_rfl) (by kernel_rfl) (by kernel_rfl) (fun _ _ _ h => h) (by kernel_rfl) rfl (fun W hW => (by (go_simp; try with_reducible rfl))) hS.base ?_; simp only [Act.put, List.setIfInBounds_toArray, List.set_cons_zero, List.set_cons_succ])
  (refine we_take 8 rfl rfl (by kernel_rfl) (by kernel_rfl) (by kernel_rfl) (fun _ _ _ h => h) (by kernel_rfl) rfl (fun W hW => (by (go_simp; try with_reducible rfl))) hS.base ?_; simp only [Act.put, List.setIfInBounds_toArray, List.set_cons_zero, List.set_cons_succ])
  (refine we_take 9 rfl rfl (by kernel_rfl) (by kernel_rfl) (by kernel_rfl) (fun _ _ _ h => h) (by kernel_rfl) rfl (fun W hW => (by (go_simp; try with_reducible rfl))) hS.base ?_; simp only [Act.put, List.setIfInBounds_toArray, List.set_cons_zero, List.set_cons_succ])
  (refine we_all (rs := [10]) (by kernel_rfl) (by simp) ?_; intro i hi; have hi := List.mem_singleton.1 hi; subst hi)
  replace hS := hB _ _ hS
  simp only [List.cons_append, List.nil_append] at hS
  refine won_of rfl rfl rfl (a_storeA (vs := ptrs g [0, 1, 2]) (cs' := ptrs g [0, 1, 2]) hS rfl rfl rfl (by rfl) (ptrs_one g _) Sw.here (by simp [ptrs]) (by rfl) ?_)
  clear hS
  intro w6 hS
  (refine ⟨fun h => absurd rfl h, ?_⟩; refine we_done (by kernel_rfl) ?_ _)
  go_wp2_with (fail)
  exact end_cell hS rfl rfl 0 rfl rfl rfl rfl rfl ⟨rfl, hS.tail⟩
set_option maxHeartbeats 4000000 in
theorem headNumbers_any (hS : St S w0 w M) :
    Calls Try.prog 74 #[.pointer (some ⟨g, 0, none⟩)] w fun e w' => e = .returned (.agg (ptrs g [3, 4, 5, 6, 7, 8, 9, 10]).toArray) ∧ St S w0 w' M := by
  (go_enter Try.func74, Try.ntmps74)
  go_wp2_with (first | ((with_reducible refine g_load ?_); refine k_read rfl (h := ?_)) | ((with_reducible refine g_len ?_); refine k_len rfl (h := ?_)) | ((with_reducible refine g_index ?_); refine k_idx rfl (h := ?_)) | ((with_reducible refine g_field ?_); refine k_fld rfl (h := ?_)) | ((with_reducible refine g_store ?_); refine wl_of rfl ?_; first | (refine k_sta hS rfl rfl rfl (h := ?_); clear hS; intro w' hS; simp only [List.take, List.drop, List.cons_append, List.nil_append, List.length_cons, List.length_nil] at hS) | (first | ((first | (refine k_st1 (v := .int _ _) hS rfl rfl rfl (h := ?_)) | (refine k_st1 (v := .bool _) hS rfl rfl rfl (h := ?_)) | (refine k_st1 (v := .string _) hS rfl rfl rfl (h := ?_)) | (refine k_st1 (v := .slice none 0 0) hS rfl rfl rfl (h := ?_))); clear hS; intro w' hS; simp only [List.set_cons_zero, List.set_cons_succ] at hS) | ((refine k_st1  hS rfl rfl rfl (h := ?_)); clear hS; intro w' hS; simp only [List.set_cons_zero, List.set_cons_succ] at hS; simp only [Act.eval, Array.getD_eq_getD_getElem?, List.getElem?_toArray, List.getElem?_cons_succ, List.getElem?_cons_zero, Option.getD_some] at hS)) | (first | (refine k_ste (v := .int _ _) hS rfl rfl rfl (h := ?_); clear hS; intro w' hS) | (refine k_ste (v := .bool _) hS rfl rfl rfl (h := ?_); clear hS; intro w' hS) | (refine k_ste (v := .string _) hS rfl rfl rfl (h := ?_); clear hS; intro w' hS))) | ((with_reducible refine g_alloc ?_); refine wl_of rfl ?_; refine wp_alloc hS rfl rfl rfl rfl ?_; clear hS; intro gb w1 hS) | ((with_reducible refine g_box ?_); refine wl_of rfl ?_; refine wp_box hS rfl rfl rfl ?_; clear hS; intro gb w1 hS) | ((with_reducible refine g_bs ?_); refine wl_of rfl ?_; (first | refine a_build1 (v := .int _ _) hS rfl rfl rfl rfl (by rfl) (by simp) ?_ | refine a_build1 (v := .string _) hS rfl rfl rfl rfl (by rfl) (by simp) ?_ | refine a_build1 (v := .bool _) hS rfl rfl rfl rfl (by rfl) (by simp) ?_ | refine a_build1 (v := .agg _) hS rfl rfl rfl rfl (by rfl) (by simp) ?_ | refine a_build1  hS rfl rfl rfl rfl (by rfl) (by simp) ?_); clear hS; intro v1 w' hS; simp only [List.length_cons, List.length_nil, Nat.zero_add] at hS; try simp only [Nat.reduceAdd] at hS) | ((with_reducible refine g_cut ?_); refine k_str rfl (h := ?_)) | ((with_reducible refine g_indexV ?_); refine k_six rfl (h := ?_)) | ((with_reducible refine g_bin ?_); refine k_cat rfl (h := ?_)) | ((with_reducible refine g_conv ?_); refine k_tos rfl (h := ?_)) | ((with_reducible refine wl_guard ?_); refine stop_mem rfl rfl ?_))
  refine region_end0 25 hS (by kernel_rfl) ?_
  clear hS
  intro wx hR hB hS
  (refine we_take 0 rfl rfl (by kernel_rfl) (by kernel_rfl) (by kernel_rfl) (fun _ _ _ h => h) (by kernel_rfl) rfl (fun W hW => (by (go_simp; try with_reducible rfl))) hS.base ?_; simp only [Act.put, List.setIfInBounds_toArray, List.set_cons_zero, List.set_cons_succ])
  (refine we_take 1 rfl rfl (by kernel_rfl) (by kernel_rfl) (by kernel_rfl) (fun _ _ _ h => h) (by kernel_rfl) rfl (fun W hW => (by (go_simp; try with_reducible rfl))) hS.base ?_; simp only [Act.put, List.setIfInBounds_toArray, List.set_cons_zero, List.set_cons_succ])
  (refine we_take 2 rfl rfl (by kernel_rfl) (by kernel_rfl) (by kernel_rfl) (fun _ _ _ h => h) (by kernel_rfl) rfl (fun W hW => (by (go_simp; try with_reducible rfl))) hS.base ?_; simp only [Act.put, List.setIfInBounds_toArray, List.set_cons_zero, List.set_cons_succ])
  (refine we_take 3 rfl rfl (by kernel_rfl) (by kernel_rfl) (by kernel_rfl) (fun _ _ _ h => h) (by kernel_rfl) rfl (fun W hW => (by (go_simp; try with_reducible rfl))) hS.base ?_; simp only [Act.put, List.setIfInBounds_toArray, List.set_cons_zero, List.set_cons_succ])
  (refine we_take 4 rfl rfl (by kernel_rfl) (by kernel_rfl) (by kernel_rfl) (fun _ _ _ h => h) (by kernel_rfl) rfl (fun W hW => (by (go_simp; try with_reducible rfl))) hS.base ?_; simp only [Act.put, List.setIfInBounds_toArray, List.set_cons_zero, List.set_cons_succ])
  (refine we_take 5 rfl rfl (by kernel_rfl) (by kernel_rfl) (by kernel_rfl) (fun _ _ _ h => h) (by kernel_rfl) rfl (fun W hW => (by (go_simp; try with_reducible rfl))) hS.base ?_; simp only [Act.put, List.setIfInBounds_toArray, List.set_cons_zero, List.set_cons_succ])
  (refine we_take 6 rfl rfl (by kernel_rfl) (by kernel_rfl) (by kernel_rfl) (fun _ _ _ h => h) (by kernel_rfl) rfl (fun W hW => (by (go_simp; try with_reducible rfl))) hS.base ?_; simp only [Act.put, List.setIfInBounds_toArray, List.set_cons_zero, List.set_cons_succ])
  (refine we_take 7 rfl rfl (by kernel_rfl) (by kernel_rfl) (by kernel_rfl) (fun _ _ _ h => h) (by kernel_rfl) rfl (fun W hW => (by (go_simp; try with_reducible rfl))) hS.base ?_; simp only [Act.put, List.setIfInBounds_toArray, List.set_cons_zero, List.set_cons_succ])
  (refine we_take 8 rfl rfl (by kernel_rfl) (by kernel_rfl) (by kernel_rfl) (fun _ _ _ h => h) (by kernel_rfl) rfl (fun W hW => (by (go_simp; try with_reducible rfl))) hS.base ?_; simp only [Act.put, List.setIfInBounds_toArray, List.set_cons_zero, List.set_cons_succ])
  (refine we_take 9 rfl rfl (by kernel_rfl) (by kernel_rfl) (by kernel_rfl) (fun _ _ _ h => h) (by kernel_rfl) rfl (fun W hW => (by (go_simp; try with_reducible rfl))) hS.base ?_; simp only [Act.put, List.setIfInBounds_toArray, List.set_cons_zero, List.set_cons_succ])
  (refine we_take 10 rfl rfl (by kernel_rfl) (by kernel_rfl) (by kernel_rfl) (fun _ _ _ h => h) (by kernel_rfl) rfl (fun W hW => (by (go_simp; try with_reducible rfl))) hS.base ?_; simp only [Act.put, List.setIfInBounds_toArray, List.set_cons_zero, List.set_cons_succ])
  (refine we_take 11 rfl rfl (by kernel_rfl) (by kernel_rfl) (by kernel_rfl) (fun _ _ _ h => h) (by kernel_rfl) rfl (fun W hW => (by (go_simp; try with_reducible rfl))) hS.base ?_; simp only [Act.put, List.setIfInBounds_toArray, List.set_cons_zero, List.set_cons_succ])
  (refine we_take 12 rfl rfl (by kernel_rfl) (by kernel_rfl) (by kernel_rfl) (fun _ _ _ h => h) (by kernel_rfl) rfl (fun W hW => (by (go_simp; try with_reducible rfl))) hS.base ?_; simp only [Act.put, List.setIfInBounds_toArray, List.set_cons_zero, List.set_cons_succ])
  (refine we_take 13 rfl rfl (by kernel_rfl) (by kernel_rfl) (by kernel_rfl) (fun _ _ _ h => h) (by kernel_rfl) rfl (fun W hW => (by (go_simp; try with_reducible rfl))) hS.base ?_; simp only [Act.put, List.setIfInBounds_toArray, List.set_cons_zero, List.set_cons_succ])
  (refine we_take 14 rfl rfl (by kernel_rfl) (by kernel_rfl) (by kernel_rfl) (fun _ _ _ h => h) (by kernel_rfl) rfl (fun W hW => (by (go_simp; try with_reducible rfl))) hS.base ?_; simp only [Act.put, List.setIfInBounds_toArray, List.set_cons_zero, List.set_cons_succ])
  (refine we_take 15 rfl rfl (by kernel_rfl) (by kernel_rfl) (by kernel_rfl) (fun _ _ _ h => h) (by kernel_rfl) rfl (fun W hW => (by (go_simp; try with_reducible rfl))) hS.base ?_; simp only [Act.put, List.setIfInBounds_toArray, List.set_cons_zero, List.set_cons_succ])
  (refine we_take 16 rfl rfl (by kernel_rfl) (by kernel_rfl) (by kernel_rfl) (fun _ _ _ h => h) (by kernel_rfl) rfl (fun W hW => (by (go_simp; try with_reducible rfl))) hS.base ?_; simp only [Act.put, List.setIfInBounds_toArray, List.set_cons_zero, List.set_cons_succ])
  (refine we_take 17 rfl rfl (by kernel_rfl) (by kernel_rfl) (by kernel_rfl) (fun _ _ _ h => h) (by kernel_rfl) rfl (fun W hW => (by (go_simp; try with_reducible rfl))) hS.base ?_; simp only [Act.put, List.setIfInBounds_toArray, List.set_cons_zero, List.set_cons_succ])
  (refine we_take 18 rfl rfl (by kernel_rfl) (by kernel_rfl) (by kernel_rfl) (fun _ _ _ h => h) (by kernel_rfl) rfl (fun W hW => (by (go_simp; try with_reducible rfl))) hS.base ?_; simp only [Act.put, List.setIfInBounds_toArray, List.set_cons_zero, List.set_cons_succ])
  (refine we_take 19 rfl rfl (by kernel_rfl) (by kernel_rfl) (by kernel_rfl) (fun _ _ _ h => h) (by kernel_rfl) rfl (fun W hW => (by (go_simp; try with_reducible rfl))) hS.base ?_; simp only [Act.put, List.setIfInBounds_toArray, List.set_cons_zero, List.set_cons_succ])
  (refine we_take 20 rfl rfl (by kernel_rfl) (by kernel_rfl) (by kernel_rfl) (fun _ _ _ h => h) (by kernel_rfl) rfl (fun W hW => (by (go_simp; try with_reducible rfl))) hS.base ?_; simp only [Act.put, List.setIfInBounds_toArray, List.set_cons_zero, List.set_cons_succ])
  (refine we_take 21 rfl rfl (by kernel_rfl) (by kernel_rfl) (by kernel_rfl) (fun _ _ _ h => h) (by kernel_rfl) rfl (fun W hW => (by (go_simp; try with_reducible rfl))) hS.base ?_; simp only [Act.put, List.setIfInBounds_toArray, List.set_cons_zero, List.set_cons_succ])
  (refine we_take 22 rfl rfl (by kernel_rfl) (by kernel_rfl) (by kernel_rfl) (fun _ _ _ h => h) (by kernel_rfl) rfl (fun W hW => (by (go_simp; try with_reducible rfl))) hS.base ?_; simp only [Act.put, List.setIfInBounds_toArray, List.set_cons_zero, List.set_cons_succ])
  (refine we_take 23 rfl rfl (by kernel_rfl) (by kernel_rfl) (by kernel_rfl) (fun _ _ _ h => h) (by kernel_rfl) rfl (fun W hW => (by (go_simp; try with_reducible rfl))) hS.base ?_; simp only [Act.put, List.setIfInBounds_toArray, List.set_cons_zero, List.set_cons_succ])
  (refine we_take 24 rfl rfl (by kernel_rfl) (by kernel_rfl) (by kernel_rfl) (fun _ _ _ h => h) (by kernel_rfl) rfl (fun W hW => (by (go_simp; try with_reducible rfl))) hS.base ?_; simp only [Act.put, List.setIfInBounds_toArray, List.set_cons_zero, List.set_cons_succ])
  (refine we_all (rs := [25]) (by kernel_rfl) (by simp) ?_; intro i hi; have hi := List.mem_singleton.1 hi; subst hi)
  replace hS := hB _ _ hS
  simp only [List.cons_append, List.nil_append] at hS
  refine won_of rfl rfl rfl (a_storeA (vs := ptrs g [3, 4, 5, 6, 7, 8, 9, 10]) (cs' := ptrs g [3, 4, 5, 6, 7, 8, 9, 10]) hS rfl rfl rfl (by rfl) (ptrs_one g _) Sw.here (by simp [ptrs]) (by rfl) ?_)
  clear hS
  intro w6 hS
  (refine ⟨fun h => absurd rfl h, ?_⟩; refine we_done (by kernel_rfl) ?_ _)
  go_wp2_with (fail)
  exact end_cell hS rfl rfl 0 rfl rfl rfl rfl rfl ⟨rfl, hS.tail⟩
end
end Go.Proofs.Ytkcgacadkpbpoaa
