/-
  The statement on any bytes: the walk.
-/
import Derived.Test.YtggngdjncokanaaLedUnp4
import Derived.Test.YtggngdjncokanaaLedC
set_option linter.unusedSimpArgs false
set_option linter.unusedVariables false
set_option linter.unusedSectionVars false
namespace Go.Proofs.Ytggngdjncokanaa
open Go.RowKit Go.Cmp

set_option maxRecDepth 100000 in
set_option maxHeartbeats 16000000 in
theorem law_unpacks7 (s : List UInt8) (w : World) :
    Calls Try.prog 9 #[.string ⟨s.toArray⟩] w fun e w' => e = .returned (.bool true) ∧ St [] w w' [] := by
  have hS := St.init w
  by_cases hs : 2000 < s.length
  · have hs1 : (2000 : Int) < s.length := by omega
    (go_enter Try.func9, Try.ntmps9)
    go_wp2_with (first | (go_at_call 10; refine (awake7 _).mono ?_; rintro e w' ⟨rfl, h⟩; replace hS := hS.call h; clear h) | (first | ((with_reducible refine g_load ?_); refine k_read rfl (h := ?_)) | ((with_reducible refine g_len ?_); refine k_len rfl (h := ?_)) | ((with_reducible refine g_index ?_); refine k_idx rfl (h := ?_)) | ((with_reducible refine g_field ?_); refine k_fld rfl (h := ?_)) | ((with_reducible refine g_store ?_); refine wl_of rfl ?_; first | (refine k_sta hS rfl rfl rfl (h := ?_); clear hS; intro w' hS; simp only [List.take, List.drop, List.cons_append, List.nil_append, List.length_cons, List.length_nil] at hS) | (first | ((first | (refine k_st1 (v := .int _ _) hS rfl rfl rfl (h := ?_)) | (refine k_st1 (v := .bool _) hS rfl rfl rfl (h := ?_)) | (refine k_st1 (v := .string _) hS rfl rfl rfl (h := ?_)) | (refine k_st1 (v := .slice none 0 0) hS rfl rfl rfl (h := ?_))); clear hS; intro w' hS; simp only [List.set_cons_zero, List.set_cons_succ] at hS) | ((refine k_st1  hS rfl rfl rfl (h := ?_)); clear hS; intro w' hS; simp only [List.set_cons_zero, List.set_cons_succ] at hS; simp only [Act.eval, Array.getD_eq_getD_getElem?, List.getElem?_toArray, List.getElem?_cons_succ, List.getElem?_cons_zero, Option.getD_some] at hS)) | (first | (refine k_ste (v := .int _ _) hS rfl rfl rfl (h := ?_); clear hS; intro w' hS) | (refine k_ste (v := .bool _) hS rfl rfl rfl (h := ?_); clear hS; intro w' hS) | (refine k_ste (v := .string _) hS rfl rfl rfl (h := ?_); clear hS; intro w' hS))) | ((with_reducible refine g_alloc ?_); refine wl_of rfl ?_; refine wp_alloc hS rfl rfl rfl rfl ?_; clear hS; intro gb w1 hS) | ((with_reducible refine g_box ?_); refine wl_of rfl ?_; refine wp_box hS rfl rfl rfl ?_; clear hS; intro gb w1 hS) | ((with_reducible refine g_bs ?_); refine wl_of rfl ?_; (first | refine a_build1 (v := .int _ _) hS rfl rfl rfl rfl (by rfl) (by simp) ?_ | refine a_build1 (v := .string _) hS rfl rfl rfl rfl (by rfl) (by simp) ?_ | refine a_build1 (v := .bool _) hS rfl rfl rfl rfl (by rfl) (by simp) ?_ | refine a_build1 (v := .agg _) hS rfl rfl rfl rfl (by rfl) (by simp) ?_ | refine a_build1  hS rfl rfl rfl rfl (by rfl) (by simp) ?_); clear hS; intro v1 w' hS; simp only [List.length_cons, List.length_nil, Nat.zero_add] at hS; try simp only [Nat.reduceAdd] at hS) | ((with_reducible refine g_cut ?_); refine k_str rfl (h := ?_)) | ((with_reducible refine g_indexV ?_); refine k_six rfl (h := ?_)) | ((with_reducible refine g_bin ?_); refine k_cat rfl (h := ?_)) | ((with_reducible refine g_conv ?_); refine k_tos rfl (h := ?_)) | ((with_reducible refine wl_guard ?_); refine stop_mem rfl rfl ?_)))
    go_ret
    exact ⟨rfl, hS.nil⟩
  have hs1 : ¬ (2000 : Int) < s.length := by omega
  have hu := fun w => ledUnp_any s (by omega) w
  have hr := fun w => refUnp_any s (by omega) w
  have hpk := fun D h => pack_unp (s := s) (D := D) h
  obtain ⟨U, hU⟩ : ∃ U, unpS s = U := ⟨_, rfl⟩
  simp only [hU] at hu hr hpk
  clear hU
  cases U with
  | none =>
    simp only [UnpAt] at hu hr
    have HU := Lib.hid hu
    have HR := Lib.hid hr
    clear hu hr hpk
    (go_enter Try.func9, Try.ntmps9)
    go_wp2_with (first | (go_at_call 10; refine (awake7 _).mono ?_; rintro e w' ⟨rfl, h⟩; replace hS := hS.call h; clear h) | (go_at_call 25; refine (HU.out _).mono ?_; rintro e w' ⟨rfl, h⟩; replace hS := hS.call h; clear h) | (go_at_call 17; refine (HR.out _).mono ?_; rintro e w' ⟨rfl, h⟩; replace hS := hS.call h; clear h) | (first | ((with_reducible refine g_load ?_); refine k_read rfl (h := ?_)) | ((with_reducible refine g_len ?_); refine k_len rfl (h := ?_)) | ((with_reducible refine g_index ?_); refine k_idx rfl (h := ?_)) | ((with_reducible refine g_field ?_); refine k_fld rfl (h := ?_)) | ((with_reducible refine g_store ?_); refine wl_of rfl ?_; first | (refine k_sta hS rfl rfl rfl (h := ?_); clear hS; intro w' hS; simp only [List.take, List.drop, List.cons_append, List.nil_append, List.length_cons, List.length_nil] at hS) | (first | ((first | (refine k_st1 (v := .int _ _) hS rfl rfl rfl (h := ?_)) | (refine k_st1 (v := .bool _) hS rfl rfl rfl (h := ?_)) | (refine k_st1 (v := .string _) hS rfl rfl rfl (h := ?_)) | (refine k_st1 (v := .slice none 0 0) hS rfl rfl rfl (h := ?_))); clear hS; intro w' hS; simp only [List.set_cons_zero, List.set_cons_succ] at hS) | ((refine k_st1  hS rfl rfl rfl (h := ?_)); clear hS; intro w' hS; simp only [List.set_cons_zero, List.set_cons_succ] at hS; simp only [Act.eval, Array.getD_eq_getD_getElem?, List.getElem?_toArray, List.getElem?_cons_succ, List.getElem?_cons_zero, Option.getD_some] at hS)) | (first | (refine k_ste (v := .int _ _) hS rfl rfl rfl (h := ?_); clear hS; intro w' hS) | (refine k_ste (v := .bool _) hS rfl rfl rfl (h := ?_); clear hS; intro w' hS) | (refine k_ste (v := .string _) hS rfl rfl rfl (h := ?_); clear hS; intro w' hS))) | ((with_reducible refine g_alloc ?_); refine wl_of rfl ?_; refine wp_alloc hS rfl rfl rfl rfl ?_; clear hS; intro gb w1 hS) | ((with_reducible refine g_box ?_); refine wl_of rfl ?_; refine wp_box hS rfl rfl rfl ?_; clear hS; intro gb w1 hS) | ((with_reducible refine g_bs ?_); refine wl_of rfl ?_; (first | refine a_build1 (v := .int _ _) hS rfl rfl rfl rfl (by rfl) (by simp) ?_ | refine a_build1 (v := .string _) hS rfl rfl rfl rfl (by rfl) (by simp) ?_ | refine a_build1 (v := .bool _) hS rfl rfl rfl rfl (by rfl) (by simp) ?_ | refine a_build1 (v := .agg _) hS rfl rfl rfl rfl (by rfl) (by simp) ?_ | refine a_build1  hS rfl rfl rfl rfl (by rfl) (by simp) ?_); clear hS; intro v1 w' hS; simp only [List.length_cons, List.length_nil, Nat.zero_add] at hS; try simp only [Nat.reduceAdd] at hS) | ((with_reducible refine g_cut ?_); refine k_str rfl (h := ?_)) | ((with_reducible refine g_indexV ?_); refine k_six rfl (h := ?_)) | ((with_reducible refine g_bin ?_); refine k_cat rfl (h := ?_)) | ((with_reducible refine g_conv ?_); refine k_tos rfl (h := ?_)) | ((with_reducible refine wl_guard ?_); refine stop_mem rfl rfl ?_)))
    refine region_calm (by kernel_rfl) (by kernel_rfl) hS ?_
    (refine Calm.pure rfl (h := ?_); simp only [Act.put, List.setIfInBounds_toArray, List.set_cons_zero, List.set_cons_succ])
    (refine Calm.pure rfl (h := ?_); simp only [Act.put, List.setIfInBounds_toArray, List.set_cons_zero, List.set_cons_succ])
    (refine Calm.pure rfl (h := ?_); simp only [Act.put, List.setIfInBounds_toArray, List.set_cons_zero, List.set_cons_succ])
    iterate 22 ((refine Calm.skip rfl ?_; simp only [Act.put, List.setIfInBounds_toArray, List.set_cons_zero, List.set_cons_succ]))
    (refine Calm.pure rfl (h := ?_); simp only [Act.put, List.setIfInBounds_toArray, List.set_cons_zero, List.set_cons_succ])
    (refine Calm.pure rfl (h := ?_); simp only [Act.put, List.setIfInBounds_toArray, List.set_cons_zero, List.set_cons_succ])
    (refine Calm.nil ?_; clear hS; intro w8 hS)
    go_wp2_with (fail)
    go_ret
    exact ⟨rfl, hS.nil⟩
  | some D =>
    simp only [UnpAt] at hu hr
    obtain ⟨hp, hok, _⟩ := hpk D rfl
    have HU := Lib.hid hu
    have HR := Lib.hid hr
    have hA8 := hok.la
    have hT16 := hok.lt
    obtain ⟨A, T⟩ := D
    simp only at hA8 hT16
    have hpa := fun (F : List Nat) (w0 W : World) (M : List Ent) (g : Nat) (hS : St F w0 W (ledg g ⟨A, T⟩ :: M)) => ledg_pack hS hok
    rw [hp] at hpa
    have HPA := Lib.hid hpa
    have HLA := Lib.hid (fun (F : List Nat) (w0 W : World) (M : List Ent) (g : Nat) (hS : St F w0 W (ledg g ⟨A, T⟩ :: M)) => ledg_accounts hS (show A.length ≤ 1000 by omega))
    have HLT := Lib.hid (fun (F : List Nat) (w0 W : World) (M : List Ent) (g : Nat) (hS : St F w0 W (ledg g ⟨A, T⟩ :: M)) => ledg_transfers hS (show T.length ≤ 1000 by omega))
    clear hu hr hpk hp hpa hok
    (go_enter Try.func9, Try.ntmps9)
    go_wp2_with (first | (go_at_call 10; refine (awake7 _).mono ?_; rintro e w' ⟨rfl, h⟩; replace hS := hS.call h; clear h) | (go_at_call 25; refine (HU.out _).mono ?_; rintro e w' ⟨gl, rfl, h⟩; replace hS := hS.call h; clear h; simp only [List.cons_append, List.nil_append] at hS) | (go_at_call 17; refine (HR.out _).mono ?_; rintro e w' ⟨gr, rfl, h⟩; replace hS := hS.call h; clear h; simp only [List.cons_append, List.nil_append] at hS) | (first | ((with_reducible refine g_load ?_); refine k_read rfl (h := ?_)) | ((with_reducible refine g_len ?_); refine k_len rfl (h := ?_)) | ((with_reducible refine g_index ?_); refine k_idx rfl (h := ?_)) | ((with_reducible refine g_field ?_); refine k_fld rfl (h := ?_)) | ((with_reducible refine g_store ?_); refine wl_of rfl ?_; first | (refine k_sta hS rfl rfl rfl (h := ?_); clear hS; intro w' hS; simp only [List.take, List.drop, List.cons_append, List.nil_append, List.length_cons, List.length_nil] at hS) | (first | ((first | (refine k_st1 (v := .int _ _) hS rfl rfl rfl (h := ?_)) | (refine k_st1 (v := .bool _) hS rfl rfl rfl (h := ?_)) | (refine k_st1 (v := .string _) hS rfl rfl rfl (h := ?_)) | (refine k_st1 (v := .slice none 0 0) hS rfl rfl rfl (h := ?_))); clear hS; intro w' hS; simp only [List.set_cons_zero, List.set_cons_succ] at hS) | ((refine k_st1  hS rfl rfl rfl (h := ?_)); clear hS; intro w' hS; simp only [List.set_cons_zero, List.set_cons_succ] at hS; simp only [Act.eval, Array.getD_eq_getD_getElem?, List.getElem?_toArray, List.getElem?_cons_succ, List.getElem?_cons_zero, Option.getD_some] at hS)) | (first | (refine k_ste (v := .int _ _) hS rfl rfl rfl (h := ?_); clear hS; intro w' hS) | (refine k_ste (v := .bool _) hS rfl rfl rfl (h := ?_); clear hS; intro w' hS) | (refine k_ste (v := .string _) hS rfl rfl rfl (h := ?_); clear hS; intro w' hS))) | ((with_reducible refine g_alloc ?_); refine wl_of rfl ?_; refine wp_alloc hS rfl rfl rfl rfl ?_; clear hS; intro gb w1 hS) | ((with_reducible refine g_box ?_); refine wl_of rfl ?_; refine wp_box hS rfl rfl rfl ?_; clear hS; intro gb w1 hS) | ((with_reducible refine g_bs ?_); refine wl_of rfl ?_; (first | refine a_build1 (v := .int _ _) hS rfl rfl rfl rfl (by rfl) (by simp) ?_ | refine a_build1 (v := .string _) hS rfl rfl rfl rfl (by rfl) (by simp) ?_ | refine a_build1 (v := .bool _) hS rfl rfl rfl rfl (by rfl) (by simp) ?_ | refine a_build1 (v := .agg _) hS rfl rfl rfl rfl (by rfl) (by simp) ?_ | refine a_build1  hS rfl rfl rfl rfl (by rfl) (by simp) ?_); clear hS; intro v1 w' hS; simp only [List.length_cons, List.length_nil, Nat.zero_add] at hS; try simp only [Nat.reduceAdd] at hS) | ((with_reducible refine g_cut ?_); refine k_str rfl (h := ?_)) | ((with_reducible refine g_indexV ?_); refine k_six rfl (h := ?_)) | ((with_reducible refine g_bin ?_); refine k_cat rfl (h := ?_)) | ((with_reducible refine g_conv ?_); refine k_tos rfl (h := ?_)) | ((with_reducible refine wl_guard ?_); refine stop_mem rfl rfl ?_)))
    replace hS : St [] w _ (rledg gr ⟨A, T⟩ :: [ledg gl ⟨A, T⟩]) := hS.pick
    (have hU := St.unpack hS; clear hS; obtain ⟨⟨xa, xt⟩, _, hS⟩ := hU; simp only [List.cons_append, List.nil_append] at hS)
    refine region_held [.row gr [xa, xt] 51 (0, 0), .vec xa 47 4 A.length (A.flatMap Acc.cells), .vec xt 45 4 T.length (T.flatMap Tra.cells), ledg gl ⟨A, T⟩] [] hS.pick (by kernel_rfl) ?_
    clear hS HU HR
    intro F wx hR hB hS
    refine held_mono (C' := fun W => St F wx W [.row gr [xa, xt] 51 (0, 0), .vec xa 47 4 A.length (A.flatMap Acc.cells), .vec xt 45 4 T.length (T.flatMap Tra.cells), ledg gl ⟨A, T⟩]) (fun W h => h.base) _ _ _ _ ?_
    (refine whd_take 0 rfl rfl (by kernel_rfl) (by kernel_rfl) (by kernel_rfl) (fun _ _ _ h => h) rfl (fun W hW => (by (go_simp; try with_reducible rfl))) hS ?_; simp only [Act.put, List.setIfInBounds_toArray, List.set_cons_zero, List.set_cons_succ])
    (refine whd_take 1 rfl rfl (by kernel_rfl) (by kernel_rfl) (by kernel_rfl) (fun _ _ _ h => h) rfl (fun W hW => (by (go_simp; try with_reducible rfl))) hS ?_; simp only [Act.put, List.setIfInBounds_toArray, List.set_cons_zero, List.set_cons_succ])
    (refine whd_take 2 rfl rfl (by kernel_rfl) (by kernel_rfl) (by kernel_rfl) (fun _ _ _ h => h) rfl (fun W hW => (by (go_simp; try with_reducible rfl))) hS ?_; simp only [Act.put, List.setIfInBounds_toArray, List.set_cons_zero, List.set_cons_succ])
    (refine whd_take 3 rfl rfl (by kernel_rfl) (by kernel_rfl) (by kernel_rfl) (fun _ _ _ h => h) rfl (fun W hW => (by (go_simp; try with_reducible rfl))) hS ?_; simp only [Act.put, List.setIfInBounds_toArray, List.set_cons_zero, List.set_cons_succ])
    (refine whd_take 5 rfl rfl (by kernel_rfl) (by kernel_rfl) (by kernel_rfl) (fun _ _ _ h => h) rfl (fun W hW => (by (go_simp; try with_reducible rfl))) hS ?_; simp only [Act.put, List.setIfInBounds_toArray, List.set_cons_zero, List.set_cons_succ])
    (refine wpAnyH_all (rs := [4]) (by kernel_rfl) (by simp) ?_; intro i hi; have hi := List.mem_singleton.1 hi; subst hi)
    refine wod_of rfl rfl rfl (wp_call (by go_simp) (HPA.out F wx _ _ gl (hS.out (by (repeat (first | exact Out.here | apply Out.there))))) ?_)
    clear hS
    rintro e w10 ⟨rfl, hS⟩
    refine ⟨_, rfl, hS.pick, ?_⟩
    simp only [Act.put, List.setIfInBounds_toArray, List.set_cons_zero, List.set_cons_succ]
    replace hS : St F wx w10 [.row gr [xa, xt] 51 (0, 0), .vec xa 47 4 A.length (A.flatMap Acc.cells), .vec xt 45 4 T.length (T.flatMap Tra.cells), ledg gl ⟨A, T⟩] := hS.pick
    (refine whd_take 6 rfl rfl (by kernel_rfl) (by kernel_rfl) (by kernel_rfl) (fun _ _ _ h => h) rfl (fun W hW => (by (go_simp; try with_reducible rfl))) hS ?_; simp only [Act.put, List.setIfInBounds_toArray, List.set_cons_zero, List.set_cons_succ])
    (refine whd_take 7 rfl rfl (by kernel_rfl) (by kernel_rfl) (by kernel_rfl) (fun _ _ _ h => h) rfl (fun W hW => (by (go_simp; try with_reducible rfl))) hS ?_; simp only [Act.put, List.setIfInBounds_toArray, List.set_cons_zero, List.set_cons_succ])
    (refine whd_take 8 rfl rfl (by kernel_rfl) (by kernel_rfl) (by kernel_rfl) (fun _ _ _ h => h) rfl (fun W hW => (by (go_simp; try with_reducible rfl))) hS ?_; simp only [Act.put, List.setIfInBounds_toArray, List.set_cons_zero, List.set_cons_succ])
    (refine whd_take 10 rfl rfl (by kernel_rfl) (by kernel_rfl) (by kernel_rfl) (fun _ _ _ h => h) rfl (fun W hW => (by (go_simp; try with_reducible rfl))) hS ?_; simp only [Act.put, List.setIfInBounds_toArray, List.set_cons_zero, List.set_cons_succ])
    (refine whd_take 11 rfl rfl (by kernel_rfl) (by kernel_rfl) (by kernel_rfl) (fun _ _ _ h => h) rfl (fun W hW => (by (go_simp; try with_reducible rfl))) hS ?_; simp only [Act.put, List.setIfInBounds_toArray, List.set_cons_zero, List.set_cons_succ])
    (refine whd_take 12 rfl rfl (by kernel_rfl) (by kernel_rfl) (by kernel_rfl) (fun _ _ _ h => h) rfl (fun W hW => (by (go_simp; try with_reducible rfl))) hS ?_; simp only [Act.put, List.setIfInBounds_toArray, List.set_cons_zero, List.set_cons_succ])
    (refine whd_take 13 rfl rfl (by kernel_rfl) (by kernel_rfl) (by kernel_rfl) (fun _ _ _ h => h) rfl (fun W hW => (by (first | exact a_load1 hW rfl rfl rfl rfl (by (repeat (first | exact Ix.here | apply Ix.there))) (by rfl) | exact a_loadE rfl (by (first | exact St.rdx hW (by (repeat (first | exact Ix.here | apply Ix.there))) | exact Reads.at (by assumption) hW (by (repeat (first | exact List.Sublist.refl _ | apply List.Sublist.cons))) | exact St.old0 hW (by assumption))) rfl rfl rfl (by intro _; rfl) (by (first | assumption | exact get_lt (by first | omega | (simp; omega)))) (by rfl) | exact a_loadF rfl (by (first | exact St.rdx hW (by (repeat (first | exact Ix.here | apply Ix.there))) | exact Reads.at (by assumption) hW (by (repeat (first | exact List.Sublist.refl _ | apply List.Sublist.cons))) | exact St.old0 hW (by assumption))) rfl rfl rfl (by intro _; rfl) (by (first | assumption | exact get_lt (by first | omega | (simp; omega)))) (by rfl) | exact a_loadG (vs := [_, _]) rfl (by (first | exact St.rdx hW (by (repeat (first | exact Ix.here | apply Ix.there))) | exact Reads.at (by assumption) hW (by (repeat (first | exact List.Sublist.refl _ | apply List.Sublist.cons))) | exact St.old0 hW (by assumption))) rfl rfl rfl (by rfl) (by intro _; rfl) (by (first | assumption | exact get_lt (by first | omega | (simp; omega)))) (by rfl) | exact a_loadG (vs := [_, _, _]) rfl (by (first | exact St.rdx hW (by (repeat (first | exact Ix.here | apply Ix.there))) | exact Reads.at (by assumption) hW (by (repeat (first | exact List.Sublist.refl _ | apply List.Sublist.cons))) | exact St.old0 hW (by assumption))) rfl rfl rfl (by rfl) (by intro _; rfl) (by (first | assumption | exact get_lt (by first | omega | (simp; omega)))) (by rfl) | exact a_loadG (vs := [_, _, _, _]) rfl (by (first | exact St.rdx hW (by (repeat (first | exact Ix.here | apply Ix.there))) | exact Reads.at (by assumption) hW (by (repeat (first | exact List.Sublist.refl _ | apply List.Sublist.cons))) | exact St.old0 hW (by assumption))) rfl rfl rfl (by rfl) (by intro _; rfl) (by (first | assumption | exact get_lt (by first | omega | (simp; omega)))) (by rfl) | exact a_loadG (vs := [_, _, _, _, _]) rfl (by (first | exact St.rdx hW (by (repeat (first | exact Ix.here | apply Ix.there))) | exact Reads.at (by assumption) hW (by (repeat (first | exact List.Sublist.refl _ | apply List.Sublist.cons))) | exact St.old0 hW (by assumption))) rfl rfl rfl (by rfl) (by intro _; rfl) (by (first | assumption | exact get_lt (by first | omega | (simp; omega)))) (by rfl) | exact a_loadR hW rfl rfl rfl rfl (by (repeat (first | exact Ix.here | apply Ix.there))) (by rfl)))) hS ?_; simp only [Act.put, List.setIfInBounds_toArray, List.set_cons_zero, List.set_cons_succ])
    (refine wpAnyH_all (rs := [9]) (by kernel_rfl) (by simp) ?_; intro i hi; have hi := List.mem_singleton.1 hi; subst hi)
    refine wod_of rfl rfl rfl (wp_call (by go_simp) (HLA.out F wx _ _ gl (hS.out (by (repeat (first | exact Out.here | apply Out.there))))) ?_)
    clear hS
    rintro e w11 ⟨u1, rfl, hS⟩
    refine ⟨_, rfl, hS.pick, ?_⟩
    simp only [Act.put, List.setIfInBounds_toArray, List.set_cons_zero, List.set_cons_succ]
    (refine wpAnyH_all (rs := [14]) (by kernel_rfl) (by simp) ?_; intro i hi; have hi := List.mem_singleton.1 hi; subst hi)
    refine wod_of rfl rfl rfl (wp_call (by go_simp) (sameAccounts_any A A u1 xa _ _ _ rfl rfl (hS.rdx (by (repeat (first | exact Ix.here | apply Ix.there)))) (hS.rdx (by (repeat (first | exact Ix.here | apply Ix.there))))) ?_)
    rintro e w12 ⟨rfl, h⟩
    replace hS := hS.call h
    clear h
    replace hS : St F wx w12 [.row gr [xa, xt] 51 (0, 0), .vec xa 47 4 A.length (A.flatMap Acc.cells), .vec xt 45 4 T.length (T.flatMap Tra.cells), ledg gl ⟨A, T⟩] := hS.pick
    refine ⟨_, rfl, hS, ?_⟩
    simp only [Act.put, List.setIfInBounds_toArray, List.set_cons_zero, List.set_cons_succ]
    simp only [decide_true]
    (refine whd_take 15 rfl rfl (by kernel_rfl) (by kernel_rfl) (by kernel_rfl) (fun _ _ _ h => h) rfl (fun W hW => (by (go_simp; try with_reducible rfl))) hS ?_; simp only [Act.put, List.setIfInBounds_toArray, List.set_cons_zero, List.set_cons_succ])
    (refine whd_take 16 rfl rfl (by kernel_rfl) (by kernel_rfl) (by kernel_rfl) (fun _ _ _ h => h) rfl (fun W hW => (by (go_simp; try with_reducible rfl))) hS ?_; simp only [Act.put, List.setIfInBounds_toArray, List.set_cons_zero, List.set_cons_succ])
    (refine whd_take 17 rfl rfl (by kernel_rfl) (by kernel_rfl) (by kernel_rfl) (fun _ _ _ h => h) rfl (fun W hW => (by (go_simp; try with_reducible rfl))) hS ?_; simp only [Act.put, List.setIfInBounds_toArray, List.set_cons_zero, List.set_cons_succ])
    (refine whd_take 19 rfl rfl (by kernel_rfl) (by kernel_rfl) (by kernel_rfl) (fun _ _ _ h => h) rfl (fun W hW => (by (go_simp; try with_reducible rfl))) hS ?_; simp only [Act.put, List.setIfInBounds_toArray, List.set_cons_zero, List.set_cons_succ])
    (refine whd_take 20 rfl rfl (by kernel_rfl) (by kernel_rfl) (by kernel_rfl) (fun _ _ _ h => h) rfl (fun W hW => (by (go_simp; try with_reducible rfl))) hS ?_; simp only [Act.put, List.setIfInBounds_toArray, List.set_cons_zero, List.set_cons_succ])
    (refine whd_take 21 rfl rfl (by kernel_rfl) (by kernel_rfl) (by kernel_rfl) (fun _ _ _ h => h) rfl (fun W hW => (by (go_simp; try with_reducible rfl))) hS ?_; simp only [Act.put, List.setIfInBounds_toArray, List.set_cons_zero, List.set_cons_succ])
    (refine whd_take 22 rfl rfl (by kernel_rfl) (by kernel_rfl) (by kernel_rfl) (fun _ _ _ h => h) rfl (fun W hW => (by (first | exact a_load1 hW rfl rfl rfl rfl (by (repeat (first | exact Ix.here | apply Ix.there))) (by rfl) | exact a_loadE rfl (by (first | exact St.rdx hW (by (repeat (first | exact Ix.here | apply Ix.there))) | exact Reads.at (by assumption) hW (by (repeat (first | exact List.Sublist.refl _ | apply List.Sublist.cons))) | exact St.old0 hW (by assumption))) rfl rfl rfl (by intro _; rfl) (by (first | assumption | exact get_lt (by first | omega | (simp; omega)))) (by rfl) | exact a_loadF rfl (by (first | exact St.rdx hW (by (repeat (first | exact Ix.here | apply Ix.there))) | exact Reads.at (by assumption) hW (by (repeat (first | exact List.Sublist.refl _ | apply List.Sublist.cons))) | exact St.old0 hW (by assumption))) rfl rfl rfl (by intro _; rfl) (by (first | assumption | exact get_lt (by first | omega | (simp; omega)))) (by rfl) | exact a_loadG (vs := [_, _]) rfl (by (first | exact St.rdx hW (by (repeat (first | exact Ix.here | apply Ix.there))) | exact Reads.at (by assumption) hW (by (repeat (first | exact List.Sublist.refl _ | apply List.Sublist.cons))) | exact St.old0 hW (by assumption))) rfl rfl rfl (by rfl) (by intro _; rfl) (by (first | assumption | exact get_lt (by first | omega | (simp; omega)))) (by rfl) | exact a_loadG (vs := [_, _, _]) rfl (by (first | exact St.rdx hW (by (repeat (first | exact Ix.here | apply Ix.there))) | exact Reads.at (by assumption) hW (by (repeat (first | exact List.Sublist.refl _ | apply List.Sublist.cons))) | exact St.old0 hW (by assumption))) rfl rfl rfl (by rfl) (by intro _; rfl) (by (first | assumption | exact get_lt (by first | omega | (simp; omega)))) (by rfl) | exact a_loadG (vs := [_, _, _, _]) rfl (by (first | exact St.rdx hW (by (repeat (first | exact Ix.here | apply Ix.there))) | exact Reads.at (by assumption) hW (by (repeat (first | exact List.Sublist.refl _ | apply List.Sublist.cons))) | exact St.old0 hW (by assumption))) rfl rfl rfl (by rfl) (by intro _; rfl) (by (first | assumption | exact get_lt (by first | omega | (simp; omega)))) (by rfl) | exact a_loadG (vs := [_, _, _, _, _]) rfl (by (first | exact St.rdx hW (by (repeat (first | exact Ix.here | apply Ix.there))) | exact Reads.at (by assumption) hW (by (repeat (first | exact List.Sublist.refl _ | apply List.Sublist.cons))) | exact St.old0 hW (by assumption))) rfl rfl rfl (by rfl) (by intro _; rfl) (by (first | assumption | exact get_lt (by first | omega | (simp; omega)))) (by rfl) | exact a_loadR hW rfl rfl rfl rfl (by (repeat (first | exact Ix.here | apply Ix.there))) (by rfl)))) hS ?_; simp only [Act.put, List.setIfInBounds_toArray, List.set_cons_zero, List.set_cons_succ])
    (refine wpAnyH_all (rs := [18]) (by kernel_rfl) (by simp) ?_; intro i hi; have hi := List.mem_singleton.1 hi; subst hi)
    refine wod_of rfl rfl rfl (wp_call (by go_simp) (HLT.out F wx _ _ gl (hS.out (by (repeat (first | exact Out.here | apply Out.there))))) ?_)
    clear hS
    rintro e w13 ⟨u2, rfl, hS⟩
    refine ⟨_, rfl, hS.pick, ?_⟩
    simp only [Act.put, List.setIfInBounds_toArray, List.set_cons_zero, List.set_cons_succ]
    (refine wpAnyH_all (rs := [23]) (by kernel_rfl) (by simp) ?_; intro i hi; have hi := List.mem_singleton.1 hi; subst hi)
    refine wod_of rfl rfl rfl (wp_call (by go_simp) (sameTransfers_any T T u2 xt _ _ _ rfl rfl (hS.rdx (by (repeat (first | exact Ix.here | apply Ix.there)))) (hS.rdx (by (repeat (first | exact Ix.here | apply Ix.there))))) ?_)
    rintro e w14 ⟨rfl, h⟩
    replace hS := hS.call h
    clear h
    replace hS : St F wx w14 [.row gr [xa, xt] 51 (0, 0), .vec xa 47 4 A.length (A.flatMap Acc.cells), .vec xt 45 4 T.length (T.flatMap Tra.cells), ledg gl ⟨A, T⟩] := hS.pick
    refine ⟨_, rfl, hS, ?_⟩
    simp only [Act.put, List.setIfInBounds_toArray, List.set_cons_zero, List.set_cons_succ]
    simp only [decide_true]
    (refine whd_take 24 rfl rfl (by kernel_rfl) (by kernel_rfl) (by kernel_rfl) (fun _ _ _ h => h) rfl (fun W hW => (by (go_simp; try with_reducible rfl))) hS ?_; simp only [Act.put, List.setIfInBounds_toArray, List.set_cons_zero, List.set_cons_succ])
    (refine whd_take 25 rfl rfl (by kernel_rfl) (by kernel_rfl) (by kernel_rfl) (fun _ _ _ h => h) rfl (fun W hW => (by (go_simp; try with_reducible rfl))) hS ?_; simp only [Act.put, List.setIfInBounds_toArray, List.set_cons_zero, List.set_cons_succ])
    (refine whd_take 26 rfl rfl (by kernel_rfl) (by kernel_rfl) (by kernel_rfl) (fun _ _ _ h => h) rfl (fun W hW => (by (go_simp; try with_reducible rfl))) hS ?_; simp only [Act.put, List.setIfInBounds_toArray, List.set_cons_zero, List.set_cons_succ])
    (refine wpAnyH_done (by kernel_rfl) ?_ _)
    replace hS := hB _ _ hS
    go_wp2_with (fail)
    go_ret
    exact ⟨rfl, hS.nil⟩
end Go.Proofs.Ytggngdjncokanaa
