/-
  The program's ledger: the lists; the bytes.
-/
import Derived.Test.YtggngdjncokanaaLed5
import Derived.Test.YtggngdjncokanaaEqNil
set_option linter.unusedSimpArgs false
set_option linter.unusedVariables false
set_option linter.unusedSectionVars false
namespace Go.Proofs.Ytggngdjncokanaa
open Go.RowKit Go.Cmp
set_option maxRecDepth 100000

section
variable {S : List Nat} {w0 w : World} {M : List Ent} {g : Nat} {D : Led}

theorem clone_acc (v : Value) (L : List Acc) (hS : St S w0 w M) (hV : Reads S w0 M 4 v L.length (L.flatMap Acc.cells)) (hl : L.length ≤ 1000) (hn : v = .slice none 0 0 ∨ ∃ g n cap, v = .slice (some ⟨g, 0, none⟩) n cap) :
    Calls Try.prog 53 #[v] w fun e w' => ∃ u, e = .returned u ∧ St S w0 w' (.vec u 47 4 L.length (L.flatMap Acc.cells) :: M) := by
  rcases hn with rfl | ⟨g, n, cap, rfl⟩
  · have h0 : L = [] := by
      obtain ⟨h1, p, c, h2, h3, _⟩ := hV w hS
      simp only [Value.slice.injEq] at h2
      exact List.eq_nil_of_length_eq_zero (by omega)
    subst h0
    (go_enter Try.func53, Try.ntmps53)
    go_wp2_with (first | ((with_reducible refine g_eql ?_); refine wl_run rfl (x_eqnil rfl rfl rfl rfl) ?_) | (first | ((with_reducible refine g_load ?_); refine k_read rfl (h := ?_)) | ((with_reducible refine g_len ?_); refine k_len rfl (h := ?_)) | ((with_reducible refine g_index ?_); refine k_idx rfl (h := ?_)) | ((with_reducible refine g_field ?_); refine k_fld rfl (h := ?_)) | ((with_reducible refine g_store ?_); refine wl_of rfl ?_; first | (refine k_sta hS rfl rfl rfl (h := ?_); clear hS; intro w' hS; simp only [List.take, List.drop, List.cons_append, List.nil_append, List.length_cons, List.length_nil] at hS) | (first | ((first | (refine k_st1 (v := .int _ _) hS rfl rfl rfl (h := ?_)) | (refine k_st1 (v := .bool _) hS rfl rfl rfl (h := ?_)) | (refine k_st1 (v := .string _) hS rfl rfl rfl (h := ?_)) | (refine k_st1 (v := .slice none 0 0) hS rfl rfl rfl (h := ?_))); clear hS; intro w' hS; simp only [List.set_cons_zero, List.set_cons_succ] at hS) | ((refine k_st1  hS rfl rfl rfl (h := ?_)); clear hS; intro w' hS; simp only [List.set_cons_zero, List.set_cons_succ] at hS; simp only [Act.eval, Array.getD_eq_getD_getElem?, List.getElem?_toArray, List.getElem?_cons_succ, List.getElem?_cons_zero, Option.getD_some] at hS)) | (first | (refine k_ste (v := .int _ _) hS rfl rfl rfl (h := ?_); clear hS; intro w' hS) | (refine k_ste (v := .bool _) hS rfl rfl rfl (h := ?_); clear hS; intro w' hS) | (refine k_ste (v := .string _) hS rfl rfl rfl (h := ?_); clear hS; intro w' hS))) | ((with_reducible refine g_alloc ?_); refine wl_of rfl ?_; refine wp_alloc hS rfl rfl rfl rfl ?_; clear hS; intro gb w1 hS) | ((with_reducible refine g_box ?_); refine wl_of rfl ?_; refine wp_box hS rfl rfl rfl ?_; clear hS; intro gb w1 hS) | ((with_reducible refine g_bs ?_); refine wl_of rfl ?_; (first | refine a_build1 (v := .int _ _) hS rfl rfl rfl rfl (by rfl) (by simp) ?_ | refine a_build1 (v := .string _) hS rfl rfl rfl rfl (by rfl) (by simp) ?_ | refine a_build1 (v := .bool _) hS rfl rfl rfl rfl (by rfl) (by simp) ?_ | refine a_build1 (v := .agg _) hS rfl rfl rfl rfl (by rfl) (by simp) ?_ | refine a_build1  hS rfl rfl rfl rfl (by rfl) (by simp) ?_); clear hS; intro v1 w' hS; simp only [List.length_cons, List.length_nil, Nat.zero_add] at hS; try simp only [Nat.reduceAdd] at hS) | ((with_reducible refine g_cut ?_); refine k_str rfl (h := ?_)) | ((with_reducible refine g_indexV ?_); refine k_six rfl (h := ?_)) | ((with_reducible refine g_bin ?_); refine k_cat rfl (h := ?_)) | ((with_reducible refine g_conv ?_); refine k_tos rfl (h := ?_)) | ((with_reducible refine wl_guard ?_); refine stop_mem rfl rfl ?_)))
    go_ret
    exact ⟨_, rfl, hS.addNil _ _⟩
  · have H1 : Hid (∀ u ∈ L.flatMap Acc.cells, u.oneCell' = true) := Lib.hid (by
      intro u hu
      obtain ⟨x, _, hx⟩ := List.mem_flatMap.1 hu
      exact Acc.ones x u hx)
    (go_enter Try.func53, Try.ntmps53)
    go_wp2_with (first | ((with_reducible refine g_eql ?_); refine wl_run rfl (x_eqnil rfl rfl rfl rfl) ?_) | ((with_reducible refine g_bs ?_); refine wl_of rfl ?_; refine a_build0 (k := 4) hS rfl rfl (by rfl) ?_; clear hS; intro v1 w' hS) | ((with_reducible refine g_append ?_); refine wl_of rfl ?_; refine a_append hS rfl rfl rfl rfl (by (repeat (first | exact Out.here | apply Out.there))) (by (first | exact St.rdx hS (by (repeat (first | exact Ix.here | apply Ix.there))) | exact Reads.at (by assumption) hS (by (repeat (first | exact List.Sublist.refl _ | apply List.Sublist.cons))) | exact St.old0 hS (by assumption))) (by rfl) (by rfl) (by omega) H1.out ?_; clear hS; intro v9 w9 hS hv9) | (first | ((with_reducible refine g_load ?_); refine k_read rfl (h := ?_)) | ((with_reducible refine g_len ?_); refine k_len rfl (h := ?_)) | ((with_reducible refine g_index ?_); refine k_idx rfl (h := ?_)) | ((with_reducible refine g_field ?_); refine k_fld rfl (h := ?_)) | ((with_reducible refine g_store ?_); refine wl_of rfl ?_; first | (refine k_sta hS rfl rfl rfl (h := ?_); clear hS; intro w' hS; simp only [List.take, List.drop, List.cons_append, List.nil_append, List.length_cons, List.length_nil] at hS) | (first | ((first | (refine k_st1 (v := .int _ _) hS rfl rfl rfl (h := ?_)) | (refine k_st1 (v := .bool _) hS rfl rfl rfl (h := ?_)) | (refine k_st1 (v := .string _) hS rfl rfl rfl (h := ?_)) | (refine k_st1 (v := .slice none 0 0) hS rfl rfl rfl (h := ?_))); clear hS; intro w' hS; simp only [List.set_cons_zero, List.set_cons_succ] at hS) | ((refine k_st1  hS rfl rfl rfl (h := ?_)); clear hS; intro w' hS; simp only [List.set_cons_zero, List.set_cons_succ] at hS; simp only [Act.eval, Array.getD_eq_getD_getElem?, List.getElem?_toArray, List.getElem?_cons_succ, List.getElem?_cons_zero, Option.getD_some] at hS)) | (first | (refine k_ste (v := .int _ _) hS rfl rfl rfl (h := ?_); clear hS; intro w' hS) | (refine k_ste (v := .bool _) hS rfl rfl rfl (h := ?_); clear hS; intro w' hS) | (refine k_ste (v := .string _) hS rfl rfl rfl (h := ?_); clear hS; intro w' hS))) | ((with_reducible refine g_alloc ?_); refine wl_of rfl ?_; refine wp_alloc hS rfl rfl rfl rfl ?_; clear hS; intro gb w1 hS) | ((with_reducible refine g_box ?_); refine wl_of rfl ?_; refine wp_box hS rfl rfl rfl ?_; clear hS; intro gb w1 hS) | ((with_reducible refine g_bs ?_); refine wl_of rfl ?_; (first | refine a_build1 (v := .int _ _) hS rfl rfl rfl rfl (by rfl) (by simp) ?_ | refine a_build1 (v := .string _) hS rfl rfl rfl rfl (by rfl) (by simp) ?_ | refine a_build1 (v := .bool _) hS rfl rfl rfl rfl (by rfl) (by simp) ?_ | refine a_build1 (v := .agg _) hS rfl rfl rfl rfl (by rfl) (by simp) ?_ | refine a_build1  hS rfl rfl rfl rfl (by rfl) (by simp) ?_); clear hS; intro v1 w' hS; simp only [List.length_cons, List.length_nil, Nat.zero_add] at hS; try simp only [Nat.reduceAdd] at hS) | ((with_reducible refine g_cut ?_); refine k_str rfl (h := ?_)) | ((with_reducible refine g_indexV ?_); refine k_six rfl (h := ?_)) | ((with_reducible refine g_bin ?_); refine k_cat rfl (h := ?_)) | ((with_reducible refine g_conv ?_); refine k_tos rfl (h := ?_)) | ((with_reducible refine wl_guard ?_); refine stop_mem rfl rfl ?_)))
    go_ret
    refine ⟨_, rfl, ?_⟩
    rw [Nat.zero_add, List.nil_append] at hS
    exact hS

theorem clone_tra (v : Value) (L : List Tra) (hS : St S w0 w M) (hV : Reads S w0 M 4 v L.length (L.flatMap Tra.cells)) (hl : L.length ≤ 1000) (hn : v = .slice none 0 0 ∨ ∃ g n cap, v = .slice (some ⟨g, 0, none⟩) n cap) :
    Calls Try.prog 54 #[v] w fun e w' => ∃ u, e = .returned u ∧ St S w0 w' (.vec u 45 4 L.length (L.flatMap Tra.cells) :: M) := by
  rcases hn with rfl | ⟨g, n, cap, rfl⟩
  · have h0 : L = [] := by
      obtain ⟨h1, p, c, h2, h3, _⟩ := hV w hS
      simp only [Value.slice.injEq] at h2
      exact List.eq_nil_of_length_eq_zero (by omega)
    subst h0
    (go_enter Try.func54, Try.ntmps54)
    go_wp2_with (first | ((with_reducible refine g_eql ?_); refine wl_run rfl (x_eqnil rfl rfl rfl rfl) ?_) | (first | ((with_reducible refine g_load ?_); refine k_read rfl (h := ?_)) | ((with_reducible refine g_len ?_); refine k_len rfl (h := ?_)) | ((with_reducible refine g_index ?_); refine k_idx rfl (h := ?_)) | ((with_reducible refine g_field ?_); refine k_fld rfl (h := ?_)) | ((with_reducible refine g_store ?_); refine wl_of rfl ?_; first | (refine k_sta hS rfl rfl rfl (h := ?_); clear hS; intro w' hS; simp only [List.take, List.drop, List.cons_append, List.nil_append, List.length_cons, List.length_nil] at hS) | (first | ((first | (refine k_st1 (v := .int _ _) hS rfl rfl rfl (h := ?_)) | (refine k_st1 (v := .bool _) hS rfl rfl rfl (h := ?_)) | (refine k_st1 (v := .string _) hS rfl rfl rfl (h := ?_)) | (refine k_st1 (v := .slice none 0 0) hS rfl rfl rfl (h := ?_))); clear hS; intro w' hS; simp only [List.set_cons_zero, List.set_cons_succ] at hS) | ((refine k_st1  hS rfl rfl rfl (h := ?_)); clear hS; intro w' hS; simp only [List.set_cons_zero, List.set_cons_succ] at hS; simp only [Act.eval, Array.getD_eq_getD_getElem?, List.getElem?_toArray, List.getElem?_cons_succ, List.getElem?_cons_zero, Option.getD_some] at hS)) | (first | (refine k_ste (v := .int _ _) hS rfl rfl rfl (h := ?_); clear hS; intro w' hS) | (refine k_ste (v := .bool _) hS rfl rfl rfl (h := ?_); clear hS; intro w' hS) | (refine k_ste (v := .string _) hS rfl rfl rfl (h := ?_); clear hS; intro w' hS))) | ((with_reducible refine g_alloc ?_); refine wl_of rfl ?_; refine wp_alloc hS rfl rfl rfl rfl ?_; clear hS; intro gb w1 hS) | ((with_reducible refine g_box ?_); refine wl_of rfl ?_; refine wp_box hS rfl rfl rfl ?_; clear hS; intro gb w1 hS) | ((with_reducible refine g_bs ?_); refine wl_of rfl ?_; (first | refine a_build1 (v := .int _ _) hS rfl rfl rfl rfl (by rfl) (by simp) ?_ | refine a_build1 (v := .string _) hS rfl rfl rfl rfl (by rfl) (by simp) ?_ | refine a_build1 (v := .bool _) hS rfl rfl rfl rfl (by rfl) (by simp) ?_ | refine a_build1 (v := .agg _) hS rfl rfl rfl rfl (by rfl) (by simp) ?_ | refine a_build1  hS rfl rfl rfl rfl (by rfl) (by simp) ?_); clear hS; intro v1 w' hS; simp only [List.length_cons, List.length_nil, Nat.zero_add] at hS; try simp only [Nat.reduceAdd] at hS) | ((with_reducible refine g_cut ?_); refine k_str rfl (h := ?_)) | ((with_reducible refine g_indexV ?_); refine k_six rfl (h := ?_)) | ((with_reducible refine g_bin ?_); refine k_cat rfl (h := ?_)) | ((with_reducible refine g_conv ?_); refine k_tos rfl (h := ?_)) | ((with_reducible refine wl_guard ?_); refine stop_mem rfl rfl ?_)))
    go_ret
    exact ⟨_, rfl, hS.addNil _ _⟩
  · have H1 : Hid (∀ u ∈ L.flatMap Tra.cells, u.oneCell' = true) := Lib.hid (by
      intro u hu
      obtain ⟨x, _, hx⟩ := List.mem_flatMap.1 hu
      exact Tra.ones x u hx)
    (go_enter Try.func54, Try.ntmps54)
    go_wp2_with (first | ((with_reducible refine g_eql ?_); refine wl_run rfl (x_eqnil rfl rfl rfl rfl) ?_) | ((with_reducible refine g_bs ?_); refine wl_of rfl ?_; refine a_build0 (k := 4) hS rfl rfl (by rfl) ?_; clear hS; intro v1 w' hS) | ((with_reducible refine g_append ?_); refine wl_of rfl ?_; refine a_append hS rfl rfl rfl rfl (by (repeat (first | exact Out.here | apply Out.there))) (by (first | exact St.rdx hS (by (repeat (first | exact Ix.here | apply Ix.there))) | exact Reads.at (by assumption) hS (by (repeat (first | exact List.Sublist.refl _ | apply List.Sublist.cons))) | exact St.old0 hS (by assumption))) (by rfl) (by rfl) (by omega) H1.out ?_; clear hS; intro v9 w9 hS hv9) | (first | ((with_reducible refine g_load ?_); refine k_read rfl (h := ?_)) | ((with_reducible refine g_len ?_); refine k_len rfl (h := ?_)) | ((with_reducible refine g_index ?_); refine k_idx rfl (h := ?_)) | ((with_reducible refine g_field ?_); refine k_fld rfl (h := ?_)) | ((with_reducible refine g_store ?_); refine wl_of rfl ?_; first | (refine k_sta hS rfl rfl rfl (h := ?_); clear hS; intro w' hS; simp only [List.take, List.drop, List.cons_append, List.nil_append, List.length_cons, List.length_nil] at hS) | (first | ((first | (refine k_st1 (v := .int _ _) hS rfl rfl rfl (h := ?_)) | (refine k_st1 (v := .bool _) hS rfl rfl rfl (h := ?_)) | (refine k_st1 (v := .string _) hS rfl rfl rfl (h := ?_)) | (refine k_st1 (v := .slice none 0 0) hS rfl rfl rfl (h := ?_))); clear hS; intro w' hS; simp only [List.set_cons_zero, List.set_cons_succ] at hS) | ((refine k_st1  hS rfl rfl rfl (h := ?_)); clear hS; intro w' hS; simp only [List.set_cons_zero, List.set_cons_succ] at hS; simp only [Act.eval, Array.getD_eq_getD_getElem?, List.getElem?_toArray, List.getElem?_cons_succ, List.getElem?_cons_zero, Option.getD_some] at hS)) | (first | (refine k_ste (v := .int _ _) hS rfl rfl rfl (h := ?_); clear hS; intro w' hS) | (refine k_ste (v := .bool _) hS rfl rfl rfl (h := ?_); clear hS; intro w' hS) | (refine k_ste (v := .string _) hS rfl rfl rfl (h := ?_); clear hS; intro w' hS))) | ((with_reducible refine g_alloc ?_); refine wl_of rfl ?_; refine wp_alloc hS rfl rfl rfl rfl ?_; clear hS; intro gb w1 hS) | ((with_reducible refine g_box ?_); refine wl_of rfl ?_; refine wp_box hS rfl rfl rfl ?_; clear hS; intro gb w1 hS) | ((with_reducible refine g_bs ?_); refine wl_of rfl ?_; (first | refine a_build1 (v := .int _ _) hS rfl rfl rfl rfl (by rfl) (by simp) ?_ | refine a_build1 (v := .string _) hS rfl rfl rfl rfl (by rfl) (by simp) ?_ | refine a_build1 (v := .bool _) hS rfl rfl rfl rfl (by rfl) (by simp) ?_ | refine a_build1 (v := .agg _) hS rfl rfl rfl rfl (by rfl) (by simp) ?_ | refine a_build1  hS rfl rfl rfl rfl (by rfl) (by simp) ?_); clear hS; intro v1 w' hS; simp only [List.length_cons, List.length_nil, Nat.zero_add] at hS; try simp only [Nat.reduceAdd] at hS) | ((with_reducible refine g_cut ?_); refine k_str rfl (h := ?_)) | ((with_reducible refine g_indexV ?_); refine k_six rfl (h := ?_)) | ((with_reducible refine g_bin ?_); refine k_cat rfl (h := ?_)) | ((with_reducible refine g_conv ?_); refine k_tos rfl (h := ?_)) | ((with_reducible refine wl_guard ?_); refine stop_mem rfl rfl ?_)))
    go_ret
    refine ⟨_, rfl, ?_⟩
    rw [Nat.zero_add, List.nil_append] at hS
    exact hS

theorem ledg_accounts (hS : St S w0 w (ledg g D :: M)) (hl : D.A.length ≤ 1000) : Calls Try.prog 19 #[.pointer (some ⟨g, 0, none⟩)] w fun e w' => ∃ u, e = .returned u ∧ St S w0 w' (.vec u 47 4 D.A.length (D.A.flatMap Acc.cells) :: ledg g D :: M) := by
  (have hU := St.unpack hS; clear hS; obtain ⟨⟨xa, xt⟩, _, hS⟩ := hU; simp only [List.cons_append, List.nil_append] at hS)
  have hn : xa = .slice none 0 0 ∨ ∃ g n cap, xa = .slice (some ⟨g, 0, none⟩) n cap := by
    rcases (hS.vec (i := 1) rfl).2 with ⟨h, _⟩ | ⟨g, cap, _, _, h, _⟩
    · exact .inl h
    · exact .inr ⟨g, _, cap, h⟩
  have HN := Lib.hid hn
  clear hn
  (go_enter Try.func19, Try.ntmps19)
  go_wp2_with (first | (go_at_call 53; refine (clone_acc xa D.A hS (fun W hW => hW.rdx (by (repeat (first | exact Ix.here | apply Ix.there)))) hl HN.out).mono ?_; clear hS; rintro e w' ⟨u, rfl, hS⟩) | (first | ((with_reducible refine g_load ?_); refine k_read rfl (h := ?_)) | ((with_reducible refine g_len ?_); refine k_len rfl (h := ?_)) | ((with_reducible refine g_index ?_); refine k_idx rfl (h := ?_)) | ((with_reducible refine g_field ?_); refine k_fld rfl (h := ?_)) | ((with_reducible refine g_store ?_); refine wl_of rfl ?_; first | (refine k_sta hS rfl rfl rfl (h := ?_); clear hS; intro w' hS; simp only [List.take, List.drop, List.cons_append, List.nil_append, List.length_cons, List.length_nil] at hS) | (first | ((first | (refine k_st1 (v := .int _ _) hS rfl rfl rfl (h := ?_)) | (refine k_st1 (v := .bool _) hS rfl rfl rfl (h := ?_)) | (refine k_st1 (v := .string _) hS rfl rfl rfl (h := ?_)) | (refine k_st1 (v := .slice none 0 0) hS rfl rfl rfl (h := ?_))); clear hS; intro w' hS; simp only [List.set_cons_zero, List.set_cons_succ] at hS) | ((refine k_st1  hS rfl rfl rfl (h := ?_)); clear hS; intro w' hS; simp only [List.set_cons_zero, List.set_cons_succ] at hS; simp only [Act.eval, Array.getD_eq_getD_getElem?, List.getElem?_toArray, List.getElem?_cons_succ, List.getElem?_cons_zero, Option.getD_some] at hS)) | (first | (refine k_ste (v := .int _ _) hS rfl rfl rfl (h := ?_); clear hS; intro w' hS) | (refine k_ste (v := .bool _) hS rfl rfl rfl (h := ?_); clear hS; intro w' hS) | (refine k_ste (v := .string _) hS rfl rfl rfl (h := ?_); clear hS; intro w' hS))) | ((with_reducible refine g_alloc ?_); refine wl_of rfl ?_; refine wp_alloc hS rfl rfl rfl rfl ?_; clear hS; intro gb w1 hS) | ((with_reducible refine g_box ?_); refine wl_of rfl ?_; refine wp_box hS rfl rfl rfl ?_; clear hS; intro gb w1 hS) | ((with_reducible refine g_bs ?_); refine wl_of rfl ?_; (first | refine a_build1 (v := .int _ _) hS rfl rfl rfl rfl (by rfl) (by simp) ?_ | refine a_build1 (v := .string _) hS rfl rfl rfl rfl (by rfl) (by simp) ?_ | refine a_build1 (v := .bool _) hS rfl rfl rfl rfl (by rfl) (by simp) ?_ | refine a_build1 (v := .agg _) hS rfl rfl rfl rfl (by rfl) (by simp) ?_ | refine a_build1  hS rfl rfl rfl rfl (by rfl) (by simp) ?_); clear hS; intro v1 w' hS; simp only [List.length_cons, List.length_nil, Nat.zero_add] at hS; try simp only [Nat.reduceAdd] at hS) | ((with_reducible refine g_cut ?_); refine k_str rfl (h := ?_)) | ((with_reducible refine g_indexV ?_); refine k_six rfl (h := ?_)) | ((with_reducible refine g_bin ?_); refine k_cat rfl (h := ?_)) | ((with_reducible refine g_conv ?_); refine k_tos rfl (h := ?_)) | ((with_reducible refine wl_guard ?_); refine stop_mem rfl rfl ?_)))
  go_ret
  refine ⟨u, rfl, ?_⟩
  have hS := (St.packs (xa, xt) hS : St S w0 _ (ledg g D :: .vec u 47 4 D.A.length (D.A.flatMap Acc.cells) :: M))
  exact hS.pick
theorem ledg_transfers (hS : St S w0 w (ledg g D :: M)) (hl : D.T.length ≤ 1000) : Calls Try.prog 20 #[.pointer (some ⟨g, 0, none⟩)] w fun e w' => ∃ u, e = .returned u ∧ St S w0 w' (.vec u 45 4 D.T.length (D.T.flatMap Tra.cells) :: ledg g D :: M) := by
  (have hU := St.unpack hS; clear hS; obtain ⟨⟨xa, xt⟩, _, hS⟩ := hU; simp only [List.cons_append, List.nil_append] at hS)
  have hn : xt = .slice none 0 0 ∨ ∃ g n cap, xt = .slice (some ⟨g, 0, none⟩) n cap := by
    rcases (hS.vec (i := 2) rfl).2 with ⟨h, _⟩ | ⟨g, cap, _, _, h, _⟩
    · exact .inl h
    · exact .inr ⟨g, _, cap, h⟩
  have HN := Lib.hid hn
  clear hn
  (go_enter Try.func20, Try.ntmps20)
  go_wp2_with (first | (go_at_call 54; refine (clone_tra xt D.T hS (fun W hW => hW.rdx (by (repeat (first | exact Ix.here | apply Ix.there)))) hl HN.out).mono ?_; clear hS; rintro e w' ⟨u, rfl, hS⟩) | (first | ((with_reducible refine g_load ?_); refine k_read rfl (h := ?_)) | ((with_reducible refine g_len ?_); refine k_len rfl (h := ?_)) | ((with_reducible refine g_index ?_); refine k_idx rfl (h := ?_)) | ((with_reducible refine g_field ?_); refine k_fld rfl (h := ?_)) | ((with_reducible refine g_store ?_); refine wl_of rfl ?_; first | (refine k_sta hS rfl rfl rfl (h := ?_); clear hS; intro w' hS; simp only [List.take, List.drop, List.cons_append, List.nil_append, List.length_cons, List.length_nil] at hS) | (first | ((first | (refine k_st1 (v := .int _ _) hS rfl rfl rfl (h := ?_)) | (refine k_st1 (v := .bool _) hS rfl rfl rfl (h := ?_)) | (refine k_st1 (v := .string _) hS rfl rfl rfl (h := ?_)) | (refine k_st1 (v := .slice none 0 0) hS rfl rfl rfl (h := ?_))); clear hS; intro w' hS; simp only [List.set_cons_zero, List.set_cons_succ] at hS) | ((refine k_st1  hS rfl rfl rfl (h := ?_)); clear hS; intro w' hS; simp only [List.set_cons_zero, List.set_cons_succ] at hS; simp only [Act.eval, Array.getD_eq_getD_getElem?, List.getElem?_toArray, List.getElem?_cons_succ, List.getElem?_cons_zero, Option.getD_some] at hS)) | (first | (refine k_ste (v := .int _ _) hS rfl rfl rfl (h := ?_); clear hS; intro w' hS) | (refine k_ste (v := .bool _) hS rfl rfl rfl (h := ?_); clear hS; intro w' hS) | (refine k_ste (v := .string _) hS rfl rfl rfl (h := ?_); clear hS; intro w' hS))) | ((with_reducible refine g_alloc ?_); refine wl_of rfl ?_; refine wp_alloc hS rfl rfl rfl rfl ?_; clear hS; intro gb w1 hS) | ((with_reducible refine g_box ?_); refine wl_of rfl ?_; refine wp_box hS rfl rfl rfl ?_; clear hS; intro gb w1 hS) | ((with_reducible refine g_bs ?_); refine wl_of rfl ?_; (first | refine a_build1 (v := .int _ _) hS rfl rfl rfl rfl (by rfl) (by simp) ?_ | refine a_build1 (v := .string _) hS rfl rfl rfl rfl (by rfl) (by simp) ?_ | refine a_build1 (v := .bool _) hS rfl rfl rfl rfl (by rfl) (by simp) ?_ | refine a_build1 (v := .agg _) hS rfl rfl rfl rfl (by rfl) (by simp) ?_ | refine a_build1  hS rfl rfl rfl rfl (by rfl) (by simp) ?_); clear hS; intro v1 w' hS; simp only [List.length_cons, List.length_nil, Nat.zero_add] at hS; try simp only [Nat.reduceAdd] at hS) | ((with_reducible refine g_cut ?_); refine k_str rfl (h := ?_)) | ((with_reducible refine g_indexV ?_); refine k_six rfl (h := ?_)) | ((with_reducible refine g_bin ?_); refine k_cat rfl (h := ?_)) | ((with_reducible refine g_conv ?_); refine k_tos rfl (h := ?_)) | ((with_reducible refine wl_guard ?_); refine stop_mem rfl rfl ?_)))
  go_ret
  refine ⟨u, rfl, ?_⟩
  have hS := (St.packs (xa, xt) hS : St S w0 _ (ledg g D :: .vec u 45 4 D.T.length (D.T.flatMap Tra.cells) :: M))
  exact hS.pick

def aBytes (l : List Acc) : List UInt8 := l.flatMap fun a => (putW a).1
theorem u8_of (n : Nat) (h : n < 256) : IntKind.u8.wrap (n : Int) = (n : Int) := by
  simp only [IntKind.wrap, IntKind.bits, IntKind.signed]
  simp
  omega

set_option maxRecDepth 100000 in
set_option maxHeartbeats 8000000 in
theorem ledg_pack (hS : St S w0 w (ledg g D :: M)) (hD : D.Ok) :
    Calls Try.prog 15 #[.pointer (some ⟨g, 0, none⟩)] w fun e w' => e = .returned (.string ⟨(lPack D).toArray⟩) ∧ St S w0 w' (ledg g D :: M) := by
  obtain ⟨A, T⟩ := D
  obtain ⟨hDa, hDt, hDl, hDm⟩ := hD
  simp only at hDa hDt hDl hDm
  have HA := Lib.hid hDa
  have HT := Lib.hid hDt
  have e0 : lPack ⟨A, T⟩ = ([UInt8.ofNat A.length] ++ aBytes A ++ [UInt8.ofNat T.length]) ++ T.flatMap traB := rfl
  have HE0 := Lib.hid e0
  have hw1 := u8_of A.length (by omega)
  have hw2 := u8_of T.length (by omega)
  have b1 : [Value.int .u8 (A.length : Int)] = [UInt8.ofNat A.length].flatMap byt := by simp [byt]; omega
  have b2 : [Value.int .u8 (T.length : Int)] = [UInt8.ofNat T.length].flatMap byt := by simp [byt]; omega
  have B1 := Lib.hid b1
  have B2 := Lib.hid b2
  clear e0 b1 b2 hDa hDt
  (have hU := St.unpack hS; clear hS; obtain ⟨⟨xa, xt⟩, _, hS⟩ := hU; simp only [List.cons_append, List.nil_append] at hS)
  (go_enter Try.func15, Try.ntmps15)
  go_wp2_with (first | ((with_reducible refine g_conv ?_); rw [B1.out] at hS; refine wl_run rfl (a_toString2 (l := [UInt8.ofNat A.length]) rfl rfl rfl rfl rfl (by exact St.rdx hS Ix.here)) ?_) | (first | ((with_reducible refine g_load ?_); refine k_read rfl (h := ?_)) | ((with_reducible refine g_len ?_); refine k_len rfl (h := ?_)) | ((with_reducible refine g_index ?_); refine k_idx rfl (h := ?_)) | ((with_reducible refine g_field ?_); refine k_fld rfl (h := ?_)) | ((with_reducible refine g_store ?_); refine wl_of rfl ?_; first | (refine k_sta hS rfl rfl rfl (h := ?_); clear hS; intro w' hS; simp only [List.take, List.drop, List.cons_append, List.nil_append, List.length_cons, List.length_nil] at hS) | (first | ((first | (refine k_st1 (v := .int _ _) hS rfl rfl rfl (h := ?_)) | (refine k_st1 (v := .bool _) hS rfl rfl rfl (h := ?_)) | (refine k_st1 (v := .string _) hS rfl rfl rfl (h := ?_)) | (refine k_st1 (v := .slice none 0 0) hS rfl rfl rfl (h := ?_))); clear hS; intro w' hS; simp only [List.set_cons_zero, List.set_cons_succ] at hS) | ((refine k_st1  hS rfl rfl rfl (h := ?_)); clear hS; intro w' hS; simp only [List.set_cons_zero, List.set_cons_succ] at hS; simp only [Act.eval, Array.getD_eq_getD_getElem?, List.getElem?_toArray, List.getElem?_cons_succ, List.getElem?_cons_zero, Option.getD_some] at hS)) | (first | (refine k_ste (v := .int _ _) hS rfl rfl rfl (h := ?_); clear hS; intro w' hS) | (refine k_ste (v := .bool _) hS rfl rfl rfl (h := ?_); clear hS; intro w' hS) | (refine k_ste (v := .string _) hS rfl rfl rfl (h := ?_); clear hS; intro w' hS))) | ((with_reducible refine g_alloc ?_); refine wl_of rfl ?_; refine wp_alloc hS rfl rfl rfl rfl ?_; clear hS; intro gb w1 hS) | ((with_reducible refine g_box ?_); refine wl_of rfl ?_; refine wp_box hS rfl rfl rfl ?_; clear hS; intro gb w1 hS) | ((with_reducible refine g_bs ?_); refine wl_of rfl ?_; (first | refine a_build1 (v := .int _ _) hS rfl rfl rfl rfl (by rfl) (by simp) ?_ | refine a_build1 (v := .string _) hS rfl rfl rfl rfl (by rfl) (by simp) ?_ | refine a_build1 (v := .bool _) hS rfl rfl rfl rfl (by rfl) (by simp) ?_ | refine a_build1 (v := .agg _) hS rfl rfl rfl rfl (by rfl) (by simp) ?_ | refine a_build1  hS rfl rfl rfl rfl (by rfl) (by simp) ?_); clear hS; intro v1 w' hS; simp only [List.length_cons, List.length_nil, Nat.zero_add] at hS; try simp only [Nat.reduceAdd] at hS) | ((with_reducible refine g_cut ?_); refine k_str rfl (h := ?_)) | ((with_reducible refine g_indexV ?_); refine k_six rfl (h := ?_)) | ((with_reducible refine g_bin ?_); refine k_cat rfl (h := ?_)) | ((with_reducible refine g_conv ?_); refine k_tos rfl (h := ?_)) | ((with_reducible refine wl_guard ?_); refine stop_mem rfl rfl ?_)))
  replace hS := hS.tail
  go_loopw [3, 26] (fun s k wr => ∃ j : Nat, j ≤ A.length ∧ s = .string ⟨([UInt8.ofNat A.length] ++ aBytes (A.take j)).toArray⟩ ∧ k = .int .i64 j ∧ St S w0 wr (.row g [xa, xt] 80 (0, 0) :: .vec xa 47 4 A.length (A.flatMap Acc.cells) :: .vec xt 45 4 T.length (T.flatMap Tra.cells) :: M)) (fun _ k _ => A.length - (intOf k).toNat)
  case atStart => exact ⟨0, by omega, by simp [aBytes], rfl, hS⟩
  case round =>
    clear hS
    obtain ⟨j, hj, rfl, rfl, hS⟩ := hrel
    by_cases hlt : j < A.length
    · have hlt1 : (j : Int) < A.length := by omega
      have hget := get_lt (L := A) hlt
      have hx := HA.out _ (nth_mem hlt)
      have htk := take_nth hlt
      have hlen : (aBytes (A.take j)).length ≤ 25 * 8 := by
        have h1 := flat_le (fun x => putW_len x) (A.take j)
        have h2 : (A.take j).length ≤ 8 := by rw [List.length_take]; omega
        unfold aBytes
        omega
      obtain ⟨x, hX⟩ : ∃ x, nth A j = x := ⟨_, rfl⟩
      rw [hX] at hget htk hx
      have HE : Hid ([UInt8.ofNat A.length] ++ aBytes (A.take (j + 1)) = ([UInt8.ofNat A.length] ++ aBytes (A.take j)) ++ (putW x).1) := Lib.hid (by rw [htk]; unfold aBytes; rw [List.flatMap_append]; simp)
      obtain ⟨s, hs⟩ : ∃ s, [UInt8.ofNat A.length] ++ aBytes (A.take j) = s := ⟨_, rfl⟩
      have hsl : s.length ≤ 201 := by rw [← hs]; simp only [List.length_append, List.length_singleton]; omega
      have hz := putW_len x
      have HP := Lib.hid (fun w => putWhole_any x hx w)
      rw [hs] at HE ⊢
      clear hX hs hlen htk hx
      generalize (putW x).1 = z at HP HE hz
      generalize (putW x).2 = z2 at HP
      obtain ⟨x1, x2, x3, x4⟩ := x
      simp only [Acc.cells] at HP
      go_wp2_with (first | (go_at_call 40; refine (HP.out _).mono ?_; rintro e w' ⟨rfl, h⟩; replace hS := hS.call h; clear h) | (first | ((with_reducible refine g_load ?_); refine k_read rfl (h := ?_)) | ((with_reducible refine g_len ?_); refine k_len rfl (h := ?_)) | ((with_reducible refine g_index ?_); refine k_idx rfl (h := ?_)) | ((with_reducible refine g_field ?_); refine k_fld rfl (h := ?_)) | ((with_reducible refine g_store ?_); refine wl_of rfl ?_; first | (refine k_sta hS rfl rfl rfl (h := ?_); clear hS; intro w' hS; simp only [List.take, List.drop, List.cons_append, List.nil_append, List.length_cons, List.length_nil] at hS) | (first | ((first | (refine k_st1 (v := .int _ _) hS rfl rfl rfl (h := ?_)) | (refine k_st1 (v := .bool _) hS rfl rfl rfl (h := ?_)) | (refine k_st1 (v := .string _) hS rfl rfl rfl (h := ?_)) | (refine k_st1 (v := .slice none 0 0) hS rfl rfl rfl (h := ?_))); clear hS; intro w' hS; simp only [List.set_cons_zero, List.set_cons_succ] at hS) | ((refine k_st1  hS rfl rfl rfl (h := ?_)); clear hS; intro w' hS; simp only [List.set_cons_zero, List.set_cons_succ] at hS; simp only [Act.eval, Array.getD_eq_getD_getElem?, List.getElem?_toArray, List.getElem?_cons_succ, List.getElem?_cons_zero, Option.getD_some] at hS)) | (first | (refine k_ste (v := .int _ _) hS rfl rfl rfl (h := ?_); clear hS; intro w' hS) | (refine k_ste (v := .bool _) hS rfl rfl rfl (h := ?_); clear hS; intro w' hS) | (refine k_ste (v := .string _) hS rfl rfl rfl (h := ?_); clear hS; intro w' hS))) | ((with_reducible refine g_alloc ?_); refine wl_of rfl ?_; refine wp_alloc hS rfl rfl rfl rfl ?_; clear hS; intro gb w1 hS) | ((with_reducible refine g_box ?_); refine wl_of rfl ?_; refine wp_box hS rfl rfl rfl ?_; clear hS; intro gb w1 hS) | ((with_reducible refine g_bs ?_); refine wl_of rfl ?_; (first | refine a_build1 (v := .int _ _) hS rfl rfl rfl rfl (by rfl) (by simp) ?_ | refine a_build1 (v := .string _) hS rfl rfl rfl rfl (by rfl) (by simp) ?_ | refine a_build1 (v := .bool _) hS rfl rfl rfl rfl (by rfl) (by simp) ?_ | refine a_build1 (v := .agg _) hS rfl rfl rfl rfl (by rfl) (by simp) ?_ | refine a_build1  hS rfl rfl rfl rfl (by rfl) (by simp) ?_); clear hS; intro v1 w' hS; simp only [List.length_cons, List.length_nil, Nat.zero_add] at hS; try simp only [Nat.reduceAdd] at hS) | ((with_reducible refine g_cut ?_); refine k_str rfl (h := ?_)) | ((with_reducible refine g_indexV ?_); refine k_six rfl (h := ?_)) | ((with_reducible refine g_bin ?_); refine k_cat rfl (h := ?_)) | ((with_reducible refine g_conv ?_); refine k_tos rfl (h := ?_)) | ((with_reducible refine wl_guard ?_); refine stop_mem rfl rfl ?_)))
      refine ⟨⟨j + 1, by omega, ?_, by go_num, hS.pick⟩, by simp [intOf]; omega⟩
      rw [HE.out]
    · obtain rfl : j = A.length := by omega
      rw [List.take_length]
      obtain ⟨s, hs⟩ : ∃ s, [UInt8.ofNat A.length] ++ aBytes A = s := ⟨_, rfl⟩
      have hsl : s.length ≤ 201 := by
        have h1 := flat_le (fun x => putW_len x) A
        rw [← hs]
        unfold aBytes
        simp only [List.length_append, List.length_singleton]
        omega
      rw [hs] at HE0 ⊢
      clear hs
      go_wp2_with (first | ((with_reducible refine g_conv ?_); rw [B2.out] at hS; refine wl_run rfl (a_toString2 (l := [UInt8.ofNat T.length]) rfl rfl rfl rfl rfl (by exact St.rdx hS Ix.here)) ?_) | (first | ((with_reducible refine g_load ?_); refine k_read rfl (h := ?_)) | ((with_reducible refine g_len ?_); refine k_len rfl (h := ?_)) | ((with_reducible refine g_index ?_); refine k_idx rfl (h := ?_)) | ((with_reducible refine g_field ?_); refine k_fld rfl (h := ?_)) | ((with_reducible refine g_store ?_); refine wl_of rfl ?_; first | (refine k_sta hS rfl rfl rfl (h := ?_); clear hS; intro w' hS; simp only [List.take, List.drop, List.cons_append, List.nil_append, List.length_cons, List.length_nil] at hS) | (first | ((first | (refine k_st1 (v := .int _ _) hS rfl rfl rfl (h := ?_)) | (refine k_st1 (v := .bool _) hS rfl rfl rfl (h := ?_)) | (refine k_st1 (v := .string _) hS rfl rfl rfl (h := ?_)) | (refine k_st1 (v := .slice none 0 0) hS rfl rfl rfl (h := ?_))); clear hS; intro w' hS; simp only [List.set_cons_zero, List.set_cons_succ] at hS) | ((refine k_st1  hS rfl rfl rfl (h := ?_)); clear hS; intro w' hS; simp only [List.set_cons_zero, List.set_cons_succ] at hS; simp only [Act.eval, Array.getD_eq_getD_getElem?, List.getElem?_toArray, List.getElem?_cons_succ, List.getElem?_cons_zero, Option.getD_some] at hS)) | (first | (refine k_ste (v := .int _ _) hS rfl rfl rfl (h := ?_); clear hS; intro w' hS) | (refine k_ste (v := .bool _) hS rfl rfl rfl (h := ?_); clear hS; intro w' hS) | (refine k_ste (v := .string _) hS rfl rfl rfl (h := ?_); clear hS; intro w' hS))) | ((with_reducible refine g_alloc ?_); refine wl_of rfl ?_; refine wp_alloc hS rfl rfl rfl rfl ?_; clear hS; intro gb w1 hS) | ((with_reducible refine g_box ?_); refine wl_of rfl ?_; refine wp_box hS rfl rfl rfl ?_; clear hS; intro gb w1 hS) | ((with_reducible refine g_bs ?_); refine wl_of rfl ?_; (first | refine a_build1 (v := .int _ _) hS rfl rfl rfl rfl (by rfl) (by simp) ?_ | refine a_build1 (v := .string _) hS rfl rfl rfl rfl (by rfl) (by simp) ?_ | refine a_build1 (v := .bool _) hS rfl rfl rfl rfl (by rfl) (by simp) ?_ | refine a_build1 (v := .agg _) hS rfl rfl rfl rfl (by rfl) (by simp) ?_ | refine a_build1  hS rfl rfl rfl rfl (by rfl) (by simp) ?_); clear hS; intro v1 w' hS; simp only [List.length_cons, List.length_nil, Nat.zero_add] at hS; try simp only [Nat.reduceAdd] at hS) | ((with_reducible refine g_cut ?_); refine k_str rfl (h := ?_)) | ((with_reducible refine g_indexV ?_); refine k_six rfl (h := ?_)) | ((with_reducible refine g_bin ?_); refine k_cat rfl (h := ?_)) | ((with_reducible refine g_conv ?_); refine k_tos rfl (h := ?_)) | ((with_reducible refine wl_guard ?_); refine stop_mem rfl rfl ?_)))
      replace hS := hS.tail
      obtain ⟨s2, hs2⟩ : ∃ s2, s ++ [UInt8.ofNat T.length] = s2 := ⟨_, rfl⟩
      have hsl2 : s2.length ≤ 202 := by rw [← hs2]; simp only [List.length_append, List.length_singleton]; omega
      rw [hs2] at HE0
      try rw [hs2]
      clear hs2
      replace hS : St S w0 _ (.vec xt 45 4 T.length (T.flatMap Tra.cells) :: .row g [xa, xt] 80 (0, 0) :: .vec xa 47 4 A.length (A.flatMap Acc.cells) :: M) := hS.pick
      go_loopw [3, 54] (fun s k wr => ∃ j : Nat, j ≤ T.length ∧ s = .string ⟨(s2 ++ (T.take j).flatMap traB).toArray⟩ ∧ k = .int .i64 j ∧ St S w0 wr (.vec xt 45 4 T.length (T.flatMap Tra.cells) :: .row g [xa, xt] 80 (0, 0) :: .vec xa 47 4 A.length (A.flatMap Acc.cells) :: M)) (fun _ k _ => T.length - (intOf k).toNat)
      case atStart => exact ⟨0, by omega, by simp, rfl, hS⟩
      case round =>
        clear hS
        obtain ⟨j, hj, rfl, rfl, hS⟩ := hrel
        by_cases hlt : j < T.length
        · have hlt1 : (j : Int) < T.length := by omega
          have hx := HT.out _ (nth_mem hlt)
          have htk := take_nth hlt
          have hone := fun (v : Value) (w : World) (hR : Rd w 4 v T.length (T.flatMap Tra.cells)) => Rd.cut1 (f := Tra.cells) (fun _ => rfl) hR hlt
          have hlen : ((T.take j).flatMap traB).length ≤ 32 * 16 := by
            have h1 := flat_le (fun x => Nat.le_of_eq (traB_len x)) (T.take j)
            have h2 : (T.take j).length ≤ 16 := by rw [List.length_take]; omega
            omega
          obtain ⟨x, hX⟩ : ∃ x, nth T j = x := ⟨_, rfl⟩
          rw [hX] at htk hx hone
          have HE : Hid (s2 ++ (T.take (j + 1)).flatMap traB = (s2 ++ (T.take j).flatMap traB) ++ traB x) := Lib.hid (by rw [htk, List.flatMap_append]; simp)
          obtain ⟨s, hs⟩ : ∃ s, s2 ++ (T.take j).flatMap traB = s := ⟨_, rfl⟩
          have hsl3 : s.length ≤ 714 := by rw [← hs]; simp only [List.length_append]; omega
          have hz := traB_len x
          have HP := Lib.hid (fun (v : Value) (w : World) (h : Rd w 4 v 1 ([x].flatMap Tra.cells)) => putTransfers_any [x] v 1 w rfl (by intro y hy; simp only [List.mem_singleton] at hy; subst hy; exact hx) h)
          have e : putS byTra [x] = (traB x, 0) := by simp [putS, cat, byTra, traB]
          rw [e] at HP
          have HO := Lib.hid hone
          rw [hs] at HE ⊢
          clear hX hs hlen htk hx e hone
          generalize traB x = z at HP HE hz
          go_wp2_with (first | ((with_reducible refine g_cut ?_); refine wl_run rfl (x_cut (ti := Try.t45) rfl (hS.rdx (by (repeat (first | exact Ix.here | apply Ix.there)))) rfl rfl rfl rfl rfl rfl (by omega) (by omega) (by omega)) ?_) | (go_at_call 13; refine (HP.out _ _ (HO.out _ _ (hS.rdx Ix.here))).mono ?_; rintro e w' ⟨rfl, h⟩; replace hS := hS.call h; clear h) | (first | ((with_reducible refine g_load ?_); refine k_read rfl (h := ?_)) | ((with_reducible refine g_len ?_); refine k_len rfl (h := ?_)) | ((with_reducible refine g_index ?_); refine k_idx rfl (h := ?_)) | ((with_reducible refine g_field ?_); refine k_fld rfl (h := ?_)) | ((with_reducible refine g_store ?_); refine wl_of rfl ?_; first | (refine k_sta hS rfl rfl rfl (h := ?_); clear hS; intro w' hS; simp only [List.take, List.drop, List.cons_append, List.nil_append, List.length_cons, List.length_nil] at hS) | (first | ((first | (refine k_st1 (v := .int _ _) hS rfl rfl rfl (h := ?_)) | (refine k_st1 (v := .bool _) hS rfl rfl rfl (h := ?_)) | (refine k_st1 (v := .string _) hS rfl rfl rfl (h := ?_)) | (refine k_st1 (v := .slice none 0 0) hS rfl rfl rfl (h := ?_))); clear hS; intro w' hS; simp only [List.set_cons_zero, List.set_cons_succ] at hS) | ((refine k_st1  hS rfl rfl rfl (h := ?_)); clear hS; intro w' hS; simp only [List.set_cons_zero, List.set_cons_succ] at hS; simp only [Act.eval, Array.getD_eq_getD_getElem?, List.getElem?_toArray, List.getElem?_cons_succ, List.getElem?_cons_zero, Option.getD_some] at hS)) | (first | (refine k_ste (v := .int _ _) hS rfl rfl rfl (h := ?_); clear hS; intro w' hS) | (refine k_ste (v := .bool _) hS rfl rfl rfl (h := ?_); clear hS; intro w' hS) | (refine k_ste (v := .string _) hS rfl rfl rfl (h := ?_); clear hS; intro w' hS))) | ((with_reducible refine g_alloc ?_); refine wl_of rfl ?_; refine wp_alloc hS rfl rfl rfl rfl ?_; clear hS; intro gb w1 hS) | ((with_reducible refine g_box ?_); refine wl_of rfl ?_; refine wp_box hS rfl rfl rfl ?_; clear hS; intro gb w1 hS) | ((with_reducible refine g_bs ?_); refine wl_of rfl ?_; (first | refine a_build1 (v := .int _ _) hS rfl rfl rfl rfl (by rfl) (by simp) ?_ | refine a_build1 (v := .string _) hS rfl rfl rfl rfl (by rfl) (by simp) ?_ | refine a_build1 (v := .bool _) hS rfl rfl rfl rfl (by rfl) (by simp) ?_ | refine a_build1 (v := .agg _) hS rfl rfl rfl rfl (by rfl) (by simp) ?_ | refine a_build1  hS rfl rfl rfl rfl (by rfl) (by simp) ?_); clear hS; intro v1 w' hS; simp only [List.length_cons, List.length_nil, Nat.zero_add] at hS; try simp only [Nat.reduceAdd] at hS) | ((with_reducible refine g_cut ?_); refine k_str rfl (h := ?_)) | ((with_reducible refine g_indexV ?_); refine k_six rfl (h := ?_)) | ((with_reducible refine g_bin ?_); refine k_cat rfl (h := ?_)) | ((with_reducible refine g_conv ?_); refine k_tos rfl (h := ?_)) | ((with_reducible refine wl_guard ?_); refine stop_mem rfl rfl ?_)))
          refine ⟨⟨j + 1, by omega, ?_, by go_num, hS.pick⟩, by simp [intOf]; omega⟩
          rw [HE.out]
        · obtain rfl : j = T.length := by omega
          rw [List.take_length]
          go_wp2_with (first | ((with_reducible refine g_load ?_); refine k_read rfl (h := ?_)) | ((with_reducible refine g_len ?_); refine k_len rfl (h := ?_)) | ((with_reducible refine g_index ?_); refine k_idx rfl (h := ?_)) | ((with_reducible refine g_field ?_); refine k_fld rfl (h := ?_)) | ((with_reducible refine g_store ?_); refine wl_of rfl ?_; first | (refine k_sta hS rfl rfl rfl (h := ?_); clear hS; intro w' hS; simp only [List.take, List.drop, List.cons_append, List.nil_append, List.length_cons, List.length_nil] at hS) | (first | ((first | (refine k_st1 (v := .int _ _) hS rfl rfl rfl (h := ?_)) | (refine k_st1 (v := .bool _) hS rfl rfl rfl (h := ?_)) | (refine k_st1 (v := .string _) hS rfl rfl rfl (h := ?_)) | (refine k_st1 (v := .slice none 0 0) hS rfl rfl rfl (h := ?_))); clear hS; intro w' hS; simp only [List.set_cons_zero, List.set_cons_succ] at hS) | ((refine k_st1  hS rfl rfl rfl (h := ?_)); clear hS; intro w' hS; simp only [List.set_cons_zero, List.set_cons_succ] at hS; simp only [Act.eval, Array.getD_eq_getD_getElem?, List.getElem?_toArray, List.getElem?_cons_succ, List.getElem?_cons_zero, Option.getD_some] at hS)) | (first | (refine k_ste (v := .int _ _) hS rfl rfl rfl (h := ?_); clear hS; intro w' hS) | (refine k_ste (v := .bool _) hS rfl rfl rfl (h := ?_); clear hS; intro w' hS) | (refine k_ste (v := .string _) hS rfl rfl rfl (h := ?_); clear hS; intro w' hS))) | ((with_reducible refine g_alloc ?_); refine wl_of rfl ?_; refine wp_alloc hS rfl rfl rfl rfl ?_; clear hS; intro gb w1 hS) | ((with_reducible refine g_box ?_); refine wl_of rfl ?_; refine wp_box hS rfl rfl rfl ?_; clear hS; intro gb w1 hS) | ((with_reducible refine g_bs ?_); refine wl_of rfl ?_; (first | refine a_build1 (v := .int _ _) hS rfl rfl rfl rfl (by rfl) (by simp) ?_ | refine a_build1 (v := .string _) hS rfl rfl rfl rfl (by rfl) (by simp) ?_ | refine a_build1 (v := .bool _) hS rfl rfl rfl rfl (by rfl) (by simp) ?_ | refine a_build1 (v := .agg _) hS rfl rfl rfl rfl (by rfl) (by simp) ?_ | refine a_build1  hS rfl rfl rfl rfl (by rfl) (by simp) ?_); clear hS; intro v1 w' hS; simp only [List.length_cons, List.length_nil, Nat.zero_add] at hS; try simp only [Nat.reduceAdd] at hS) | ((with_reducible refine g_cut ?_); refine k_str rfl (h := ?_)) | ((with_reducible refine g_indexV ?_); refine k_six rfl (h := ?_)) | ((with_reducible refine g_bin ?_); refine k_cat rfl (h := ?_)) | ((with_reducible refine g_conv ?_); refine k_tos rfl (h := ?_)) | ((with_reducible refine wl_guard ?_); refine stop_mem rfl rfl ?_))
          go_ret
          rw [HE0.out]
          exact ⟨rfl, (St.packs (xa, xt) hS : St S w0 _ (ledg g ⟨A, T⟩ :: _)).pick⟩
end
end Go.Proofs.Ytggngdjncokanaa
