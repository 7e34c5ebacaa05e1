/-
  The document's ledger: the bytes.
-/
import Derived.Test.YtggngdjncokanaaLedRef3
set_option linter.unusedSimpArgs false
set_option linter.unusedVariables false
set_option linter.unusedSectionVars false
namespace Go.Proofs.Ytggngdjncokanaa
open Go.RowKit Go.Cmp

section
variable {S : List Nat} {w0 w : World} {M : List Ent} {g : Nat} {D : Led}

theorem byteN_any (n : Nat) (h : n < 256) (w : World) : Calls Try.prog 47 #[.int .i64 (n : Int)] w fun e w' => e = .returned (.string ⟨[UInt8.ofNat n].toArray⟩) ∧ St [] w w' [] := by
  have h := byte7_any (n : Int) (by omega) (by omega) w
  rw [Int.toNat_natCast] at h
  exact h

set_option maxRecDepth 100000 in
set_option maxHeartbeats 8000000 in
theorem rledg_packO {xa xt : Value} {A : List Acc} {T : List Tra} (hS : St S w0 w (.row g [xa, xt] 51 (0, 0) :: .vec xa 47 4 A.length (A.flatMap Acc.cells) :: .vec xt 45 4 T.length (T.flatMap Tra.cells) :: M)) (hD : Led.Ok ⟨A, T⟩) :
    Calls Try.prog 24 #[.pointer (some ⟨g, 0, none⟩)] w fun e w' => e = .returned (.string ⟨(lPack ⟨A, T⟩).toArray⟩) ∧ St S w0 w' (.row g [xa, xt] 51 (0, 0) :: .vec xa 47 4 A.length (A.flatMap Acc.cells) :: .vec xt 45 4 T.length (T.flatMap Tra.cells) :: M) := by
  obtain ⟨hDa, hDt, hDl, hDm⟩ := hD
  simp only at hDa hDt hDl hDm
  have HA := Lib.hid hDa
  have HT := Lib.hid hDt
  have e0 : lPack ⟨A, T⟩ = ([UInt8.ofNat A.length] ++ aBytes A ++ [UInt8.ofNat T.length]) ++ T.flatMap traB := rfl
  have HE0 := Lib.hid e0
  have HBA := Lib.hid (fun w => byteN_any A.length (by omega) w)
  have HBT := Lib.hid (fun w => byteN_any T.length (by omega) w)
  clear e0 hDa hDt
  (go_enter Try.func24, Try.ntmps24)
  go_wp2_with (first | (go_at_call 47; refine (HBA.out _).mono ?_; rintro e w' ⟨rfl, h⟩; replace hS := hS.call h; clear h) | (first | ((with_reducible refine g_load ?_); refine k_read rfl (h := ?_)) | ((with_reducible refine g_len ?_); refine k_len rfl (h := ?_)) | ((with_reducible refine g_index ?_); refine k_idx rfl (h := ?_)) | ((with_reducible refine g_field ?_); refine k_fld rfl (h := ?_)) | ((with_reducible refine g_store ?_); refine wl_of rfl ?_; first | (refine k_sta hS rfl rfl rfl (h := ?_); clear hS; intro w' hS; simp only [List.take, List.drop, List.cons_append, List.nil_append, List.length_cons, List.length_nil] at hS) | (first | ((first | (refine k_st1 (v := .int _ _) hS rfl rfl rfl (h := ?_)) | (refine k_st1 (v := .bool _) hS rfl rfl rfl (h := ?_)) | (refine k_st1 (v := .string _) hS rfl rfl rfl (h := ?_)) | (refine k_st1 (v := .slice none 0 0) hS rfl rfl rfl (h := ?_))); clear hS; intro w' hS; simp only [List.set_cons_zero, List.set_cons_succ] at hS) | ((refine k_st1  hS rfl rfl rfl (h := ?_)); clear hS; intro w' hS; simp only [List.set_cons_zero, List.set_cons_succ] at hS; simp only [Act.eval, Array.getD_eq_getD_getElem?, List.getElem?_toArray, List.getElem?_cons_succ, List.getElem?_cons_zero, Option.getD_some] at hS)) | (first | (refine k_ste (v := .int _ _) hS rfl rfl rfl (h := ?_); clear hS; intro w' hS) | (refine k_ste (v := .bool _) hS rfl rfl rfl (h := ?_); clear hS; intro w' hS) | (refine k_ste (v := .string _) hS rfl rfl rfl (h := ?_); clear hS; intro w' hS))) | ((with_reducible refine g_alloc ?_); refine wl_of rfl ?_; refine wp_alloc hS rfl rfl rfl rfl ?_; clear hS; intro gb w1 hS) | ((with_reducible refine g_box ?_); refine wl_of rfl ?_; refine wp_box hS rfl rfl rfl ?_; clear hS; intro gb w1 hS) | ((with_reducible refine g_bs ?_); refine wl_of rfl ?_; (first | refine a_build1 (v := .int _ _) hS rfl rfl rfl rfl (by rfl) (by simp) ?_ | refine a_build1 (v := .string _) hS rfl rfl rfl rfl (by rfl) (by simp) ?_ | refine a_build1 (v := .bool _) hS rfl rfl rfl rfl (by rfl) (by simp) ?_ | refine a_build1 (v := .agg _) hS rfl rfl rfl rfl (by rfl) (by simp) ?_ | refine a_build1  hS rfl rfl rfl rfl (by rfl) (by simp) ?_); clear hS; intro v1 w' hS; simp only [List.length_cons, List.length_nil, Nat.zero_add] at hS; try simp only [Nat.reduceAdd] at hS) | ((with_reducible refine g_cut ?_); refine k_str rfl (h := ?_)) | ((with_reducible refine g_indexV ?_); refine k_six rfl (h := ?_)) | ((with_reducible refine g_bin ?_); refine k_cat rfl (h := ?_)) | ((with_reducible refine g_conv ?_); refine k_tos rfl (h := ?_)) | ((with_reducible refine wl_guard ?_); refine stop_mem rfl rfl ?_)))
  clear HBA
  replace hS : St S w0 _ (.row g [xa, xt] 51 (0, 0) :: .vec xa 47 4 A.length (A.flatMap Acc.cells) :: .vec xt 45 4 T.length (T.flatMap Tra.cells) :: M) := hS.pick
  go_loopw [3, 4] (fun s k wr => ∃ j : Nat, j ≤ A.length ∧ s = .string ⟨([UInt8.ofNat A.length] ++ aBytes (A.take j)).toArray⟩ ∧ k = .int .i64 j ∧ St S w0 wr (.row g [xa, xt] 51 (0, 0) :: .vec xa 47 4 A.length (A.flatMap Acc.cells) :: .vec xt 45 4 T.length (T.flatMap Tra.cells) :: M)) (fun _ k _ => A.length - (intOf k).toNat)
  case atStart => exact ⟨0, by omega, by simp [aBytes], rfl, hS⟩
  case round =>
    clear hS
    obtain ⟨j, hj, rfl, rfl, hS⟩ := hrel
    by_cases hlt : j < A.length
    · have hlt1 : (j : Int) < A.length := by omega
      have hget := get_lt (L := A) hlt
      have hx := HA.out _ (nth_mem hlt)
      have htk := take_nth hlt
      have hlen : (aBytes (A.take j)).length ≤ 25 * 8 := by
        have h1 := flat_le (fun x => putW_len x) (A.take j)
        have h2 : (A.take j).length ≤ 8 := by rw [List.length_take]; omega
        unfold aBytes
        omega
      obtain ⟨x, hX⟩ : ∃ x, nth A j = x := ⟨_, rfl⟩
      rw [hX] at hget htk hx
      have HE : Hid ([UInt8.ofNat A.length] ++ aBytes (A.take (j + 1)) = ([UInt8.ofNat A.length] ++ aBytes (A.take j)) ++ (putW x).1) := Lib.hid (by rw [htk]; unfold aBytes; rw [List.flatMap_append]; simp)
      obtain ⟨s, hs⟩ : ∃ s, [UInt8.ofNat A.length] ++ aBytes (A.take j) = s := ⟨_, rfl⟩
      have hsl : s.length ≤ 201 := by rw [← hs]; simp only [List.length_append, List.length_singleton]; omega
      have hz := putW_len x
      have HP := Lib.hid (fun w => refPutWhole_any x hx w)
      rw [hs] at HE ⊢
      clear hX hs hlen htk hx
      generalize (putW x).1 = z at HP HE hz
      generalize (putW x).2 = z2 at HP
      obtain ⟨x1, x2, x3, x4⟩ := x
      simp only [Acc.cells] at HP
      go_wp2_with (first | (go_at_call 55; refine (HP.out _).mono ?_; rintro e w' ⟨rfl, h⟩; replace hS := hS.call h; clear h) | (first | ((with_reducible refine g_load ?_); refine k_read rfl (h := ?_)) | ((with_reducible refine g_len ?_); refine k_len rfl (h := ?_)) | ((with_reducible refine g_index ?_); refine k_idx rfl (h := ?_)) | ((with_reducible refine g_field ?_); refine k_fld rfl (h := ?_)) | ((with_reducible refine g_store ?_); refine wl_of rfl ?_; first | (refine k_sta hS rfl rfl rfl (h := ?_); clear hS; intro w' hS; simp only [List.take, List.drop, List.cons_append, List.nil_append, List.length_cons, List.length_nil] at hS) | (first | ((first | (refine k_st1 (v := .int _ _) hS rfl rfl rfl (h := ?_)) | (refine k_st1 (v := .bool _) hS rfl rfl rfl (h := ?_)) | (refine k_st1 (v := .string _) hS rfl rfl rfl (h := ?_)) | (refine k_st1 (v := .slice none 0 0) hS rfl rfl rfl (h := ?_))); clear hS; intro w' hS; simp only [List.set_cons_zero, List.set_cons_succ] at hS) | ((refine k_st1  hS rfl rfl rfl (h := ?_)); clear hS; intro w' hS; simp only [List.set_cons_zero, List.set_cons_succ] at hS; simp only [Act.eval, Array.getD_eq_getD_getElem?, List.getElem?_toArray, List.getElem?_cons_succ, List.getElem?_cons_zero, Option.getD_some] at hS)) | (first | (refine k_ste (v := .int _ _) hS rfl rfl rfl (h := ?_); clear hS; intro w' hS) | (refine k_ste (v := .bool _) hS rfl rfl rfl (h := ?_); clear hS; intro w' hS) | (refine k_ste (v := .string _) hS rfl rfl rfl (h := ?_); clear hS; intro w' hS))) | ((with_reducible refine g_alloc ?_); refine wl_of rfl ?_; refine wp_alloc hS rfl rfl rfl rfl ?_; clear hS; intro gb w1 hS) | ((with_reducible refine g_box ?_); refine wl_of rfl ?_; refine wp_box hS rfl rfl rfl ?_; clear hS; intro gb w1 hS) | ((with_reducible refine g_bs ?_); refine wl_of rfl ?_; (first | refine a_build1 (v := .int _ _) hS rfl rfl rfl rfl (by rfl) (by simp) ?_ | refine a_build1 (v := .string _) hS rfl rfl rfl rfl (by rfl) (by simp) ?_ | refine a_build1 (v := .bool _) hS rfl rfl rfl rfl (by rfl) (by simp) ?_ | refine a_build1 (v := .agg _) hS rfl rfl rfl rfl (by rfl) (by simp) ?_ | refine a_build1  hS rfl rfl rfl rfl (by rfl) (by simp) ?_); clear hS; intro v1 w' hS; simp only [List.length_cons, List.length_nil, Nat.zero_add] at hS; try simp only [Nat.reduceAdd] at hS) | ((with_reducible refine g_cut ?_); refine k_str rfl (h := ?_)) | ((with_reducible refine g_indexV ?_); refine k_six rfl (h := ?_)) | ((with_reducible refine g_bin ?_); refine k_cat rfl (h := ?_)) | ((with_reducible refine g_conv ?_); refine k_tos rfl (h := ?_)) | ((with_reducible refine wl_guard ?_); refine stop_mem rfl rfl ?_)))
      refine ⟨⟨j + 1, by omega, ?_, by go_num, hS.pick⟩, by simp [intOf]; omega⟩
      rw [HE.out]
    · obtain rfl : j = A.length := by omega
      rw [List.take_length]
      obtain ⟨s, hs⟩ : ∃ s, [UInt8.ofNat A.length] ++ aBytes A = s := ⟨_, rfl⟩
      have hsl : s.length ≤ 201 := by
        have h1 := flat_le (fun x => putW_len x) A
        rw [← hs]
        unfold aBytes
        simp only [List.length_append, List.length_singleton]
        omega
      rw [hs] at HE0 ⊢
      clear hs
      go_wp2_with (first | (go_at_call 47; refine (HBT.out _).mono ?_; rintro e w' ⟨rfl, h⟩; replace hS := hS.call h; clear h) | (first | ((with_reducible refine g_load ?_); refine k_read rfl (h := ?_)) | ((with_reducible refine g_len ?_); refine k_len rfl (h := ?_)) | ((with_reducible refine g_index ?_); refine k_idx rfl (h := ?_)) | ((with_reducible refine g_field ?_); refine k_fld rfl (h := ?_)) | ((with_reducible refine g_store ?_); refine wl_of rfl ?_; first | (refine k_sta hS rfl rfl rfl (h := ?_); clear hS; intro w' hS; simp only [List.take, List.drop, List.cons_append, List.nil_append, List.length_cons, List.length_nil] at hS) | (first | ((first | (refine k_st1 (v := .int _ _) hS rfl rfl rfl (h := ?_)) | (refine k_st1 (v := .bool _) hS rfl rfl rfl (h := ?_)) | (refine k_st1 (v := .string _) hS rfl rfl rfl (h := ?_)) | (refine k_st1 (v := .slice none 0 0) hS rfl rfl rfl (h := ?_))); clear hS; intro w' hS; simp only [List.set_cons_zero, List.set_cons_succ] at hS) | ((refine k_st1  hS rfl rfl rfl (h := ?_)); clear hS; intro w' hS; simp only [List.set_cons_zero, List.set_cons_succ] at hS; simp only [Act.eval, Array.getD_eq_getD_getElem?, List.getElem?_toArray, List.getElem?_cons_succ, List.getElem?_cons_zero, Option.getD_some] at hS)) | (first | (refine k_ste (v := .int _ _) hS rfl rfl rfl (h := ?_); clear hS; intro w' hS) | (refine k_ste (v := .bool _) hS rfl rfl rfl (h := ?_); clear hS; intro w' hS) | (refine k_ste (v := .string _) hS rfl rfl rfl (h := ?_); clear hS; intro w' hS))) | ((with_reducible refine g_alloc ?_); refine wl_of rfl ?_; refine wp_alloc hS rfl rfl rfl rfl ?_; clear hS; intro gb w1 hS) | ((with_reducible refine g_box ?_); refine wl_of rfl ?_; refine wp_box hS rfl rfl rfl ?_; clear hS; intro gb w1 hS) | ((with_reducible refine g_bs ?_); refine wl_of rfl ?_; (first | refine a_build1 (v := .int _ _) hS rfl rfl rfl rfl (by rfl) (by simp) ?_ | refine a_build1 (v := .string _) hS rfl rfl rfl rfl (by rfl) (by simp) ?_ | refine a_build1 (v := .bool _) hS rfl rfl rfl rfl (by rfl) (by simp) ?_ | refine a_build1 (v := .agg _) hS rfl rfl rfl rfl (by rfl) (by simp) ?_ | refine a_build1  hS rfl rfl rfl rfl (by rfl) (by simp) ?_); clear hS; intro v1 w' hS; simp only [List.length_cons, List.length_nil, Nat.zero_add] at hS; try simp only [Nat.reduceAdd] at hS) | ((with_reducible refine g_cut ?_); refine k_str rfl (h := ?_)) | ((with_reducible refine g_indexV ?_); refine k_six rfl (h := ?_)) | ((with_reducible refine g_bin ?_); refine k_cat rfl (h := ?_)) | ((with_reducible refine g_conv ?_); refine k_tos rfl (h := ?_)) | ((with_reducible refine wl_guard ?_); refine stop_mem rfl rfl ?_)))
      obtain ⟨s2, hs2⟩ : ∃ s2, s ++ [UInt8.ofNat T.length] = s2 := ⟨_, rfl⟩
      have hsl2 : s2.length ≤ 202 := by rw [← hs2]; simp only [List.length_append, List.length_singleton]; omega
      rw [hs2] at HE0
      try rw [hs2]
      clear hs2 HBT
      replace hS : St S w0 _ (.vec xt 45 4 T.length (T.flatMap Tra.cells) :: .row g [xa, xt] 51 (0, 0) :: .vec xa 47 4 A.length (A.flatMap Acc.cells) :: M) := hS.pick
      go_loopw [3, 7] (fun s k wr => ∃ j : Nat, j ≤ T.length ∧ s = .string ⟨(s2 ++ (T.take j).flatMap traB).toArray⟩ ∧ k = .int .i64 j ∧ St S w0 wr (.vec xt 45 4 T.length (T.flatMap Tra.cells) :: .row g [xa, xt] 51 (0, 0) :: .vec xa 47 4 A.length (A.flatMap Acc.cells) :: M)) (fun _ k _ => T.length - (intOf k).toNat)
      case atStart => exact ⟨0, by omega, by simp, rfl, hS⟩
      case round =>
        clear hS
        obtain ⟨j, hj, rfl, rfl, hS⟩ := hrel
        by_cases hlt : j < T.length
        · have hlt1 : (j : Int) < T.length := by omega
          have hx := HT.out _ (nth_mem hlt)
          have htk := take_nth hlt
          have hone := fun (v : Value) (w : World) (hR : Rd w 4 v T.length (T.flatMap Tra.cells)) => Rd.cut1 (f := Tra.cells) (fun _ => rfl) hR hlt
          have hlen : ((T.take j).flatMap traB).length ≤ 32 * 16 := by
            have h1 := flat_le (fun x => Nat.le_of_eq (traB_len x)) (T.take j)
            have h2 : (T.take j).length ≤ 16 := by rw [List.length_take]; omega
            omega
          obtain ⟨x, hX⟩ : ∃ x, nth T j = x := ⟨_, rfl⟩
          rw [hX] at htk hx hone
          have HE : Hid (s2 ++ (T.take (j + 1)).flatMap traB = (s2 ++ (T.take j).flatMap traB) ++ traB x) := Lib.hid (by rw [htk, List.flatMap_append]; simp)
          obtain ⟨s, hs⟩ : ∃ s, s2 ++ (T.take j).flatMap traB = s := ⟨_, rfl⟩
          have hsl3 : s.length ≤ 714 := by rw [← hs]; simp only [List.length_append]; omega
          have hz := traB_len x
          have HP := Lib.hid (fun (v : Value) (w : World) (h : Rd w 4 v 1 ([x].flatMap Tra.cells)) => refPutTransfers_any [x] v 1 w rfl (by intro y hy; simp only [List.mem_singleton] at hy; subst hy; exact hx) h)
          have e : putS byTra [x] = (traB x, 0) := by simp [putS, cat, byTra, traB]
          rw [e] at HP
          have HO := Lib.hid hone
          rw [hs] at HE ⊢
          clear hX hs hlen htk hx e hone
          generalize traB x = z at HP HE hz
          go_wp2_with (first | ((with_reducible refine g_cut ?_); refine wl_run rfl (x_cut (ti := Try.t45) rfl (hS.rdx (by (repeat (first | exact Ix.here | apply Ix.there)))) rfl rfl rfl rfl rfl rfl (by omega) (by omega) (by omega)) ?_) | (go_at_call 56; refine (HP.out _ _ (HO.out _ _ (hS.rdx Ix.here))).mono ?_; rintro e w' ⟨rfl, h⟩; replace hS := hS.call h; clear h) | (first | ((with_reducible refine g_load ?_); refine k_read rfl (h := ?_)) | ((with_reducible refine g_len ?_); refine k_len rfl (h := ?_)) | ((with_reducible refine g_index ?_); refine k_idx rfl (h := ?_)) | ((with_reducible refine g_field ?_); refine k_fld rfl (h := ?_)) | ((with_reducible refine g_store ?_); refine wl_of rfl ?_; first | (refine k_sta hS rfl rfl rfl (h := ?_); clear hS; intro w' hS; simp only [List.take, List.drop, List.cons_append, List.nil_append, List.length_cons, List.length_nil] at hS) | (first | ((first | (refine k_st1 (v := .int _ _) hS rfl rfl rfl (h := ?_)) | (refine k_st1 (v := .bool _) hS rfl rfl rfl (h := ?_)) | (refine k_st1 (v := .string _) hS rfl rfl rfl (h := ?_)) | (refine k_st1 (v := .slice none 0 0) hS rfl rfl rfl (h := ?_))); clear hS; intro w' hS; simp only [List.set_cons_zero, List.set_cons_succ] at hS) | ((refine k_st1  hS rfl rfl rfl (h := ?_)); clear hS; intro w' hS; simp only [List.set_cons_zero, List.set_cons_succ] at hS; simp only [Act.eval, Array.getD_eq_getD_getElem?, List.getElem?_toArray, List.getElem?_cons_succ, List.getElem?_cons_zero, Option.getD_some] at hS)) | (first | (refine k_ste (v := .int _ _) hS rfl rfl rfl (h := ?_); clear hS; intro w' hS) | (refine k_ste (v := .bool _) hS rfl rfl rfl (h := ?_); clear hS; intro w' hS) | (refine k_ste (v := .string _) hS rfl rfl rfl (h := ?_); clear hS; intro w' hS))) | ((with_reducible refine g_alloc ?_); refine wl_of rfl ?_; refine wp_alloc hS rfl rfl rfl rfl ?_; clear hS; intro gb w1 hS) | ((with_reducible refine g_box ?_); refine wl_of rfl ?_; refine wp_box hS rfl rfl rfl ?_; clear hS; intro gb w1 hS) | ((with_reducible refine g_bs ?_); refine wl_of rfl ?_; (first | refine a_build1 (v := .int _ _) hS rfl rfl rfl rfl (by rfl) (by simp) ?_ | refine a_build1 (v := .string _) hS rfl rfl rfl rfl (by rfl) (by simp) ?_ | refine a_build1 (v := .bool _) hS rfl rfl rfl rfl (by rfl) (by simp) ?_ | refine a_build1 (v := .agg _) hS rfl rfl rfl rfl (by rfl) (by simp) ?_ | refine a_build1  hS rfl rfl rfl rfl (by rfl) (by simp) ?_); clear hS; intro v1 w' hS; simp only [List.length_cons, List.length_nil, Nat.zero_add] at hS; try simp only [Nat.reduceAdd] at hS) | ((with_reducible refine g_cut ?_); refine k_str rfl (h := ?_)) | ((with_reducible refine g_indexV ?_); refine k_six rfl (h := ?_)) | ((with_reducible refine g_bin ?_); refine k_cat rfl (h := ?_)) | ((with_reducible refine g_conv ?_); refine k_tos rfl (h := ?_)) | ((with_reducible refine wl_guard ?_); refine stop_mem rfl rfl ?_)))
          refine ⟨⟨j + 1, by omega, ?_, by go_num, hS.pick⟩, by simp [intOf]; omega⟩
          rw [HE.out]
        · obtain rfl : j = T.length := by omega
          rw [List.take_length]
          go_wp2_with (first | ((with_reducible refine g_load ?_); refine k_read rfl (h := ?_)) | ((with_reducible refine g_len ?_); refine k_len rfl (h := ?_)) | ((with_reducible refine g_index ?_); refine k_idx rfl (h := ?_)) | ((with_reducible refine g_field ?_); refine k_fld rfl (h := ?_)) | ((with_reducible refine g_store ?_); refine wl_of rfl ?_; first | (refine k_sta hS rfl rfl rfl (h := ?_); clear hS; intro w' hS; simp only [List.take, List.drop, List.cons_append, List.nil_append, List.length_cons, List.length_nil] at hS) | (first | ((first | (refine k_st1 (v := .int _ _) hS rfl rfl rfl (h := ?_)) | (refine k_st1 (v := .bool _) hS rfl rfl rfl (h := ?_)) | (refine k_st1 (v := .string _) hS rfl rfl rfl (h := ?_)) | (refine k_st1 (v := .slice none 0 0) hS rfl rfl rfl (h := ?_))); clear hS; intro w' hS; simp only [List.set_cons_zero, List.set_cons_succ] at hS) | ((refine k_st1  hS rfl rfl rfl (h := ?_)); clear hS; intro w' hS; simp only [List.set_cons_zero, List.set_cons_succ] at hS; simp only [Act.eval, Array.getD_eq_getD_getElem?, List.getElem?_toArray, List.getElem?_cons_succ, List.getElem?_cons_zero, Option.getD_some] at hS)) | (first | (refine k_ste (v := .int _ _) hS rfl rfl rfl (h := ?_); clear hS; intro w' hS) | (refine k_ste (v := .bool _) hS rfl rfl rfl (h := ?_); clear hS; intro w' hS) | (refine k_ste (v := .string _) hS rfl rfl rfl (h := ?_); clear hS; intro w' hS))) | ((with_reducible refine g_alloc ?_); refine wl_of rfl ?_; refine wp_alloc hS rfl rfl rfl rfl ?_; clear hS; intro gb w1 hS) | ((with_reducible refine g_box ?_); refine wl_of rfl ?_; refine wp_box hS rfl rfl rfl ?_; clear hS; intro gb w1 hS) | ((with_reducible refine g_bs ?_); refine wl_of rfl ?_; (first | refine a_build1 (v := .int _ _) hS rfl rfl rfl rfl (by rfl) (by simp) ?_ | refine a_build1 (v := .string _) hS rfl rfl rfl rfl (by rfl) (by simp) ?_ | refine a_build1 (v := .bool _) hS rfl rfl rfl rfl (by rfl) (by simp) ?_ | refine a_build1 (v := .agg _) hS rfl rfl rfl rfl (by rfl) (by simp) ?_ | refine a_build1  hS rfl rfl rfl rfl (by rfl) (by simp) ?_); clear hS; intro v1 w' hS; simp only [List.length_cons, List.length_nil, Nat.zero_add] at hS; try simp only [Nat.reduceAdd] at hS) | ((with_reducible refine g_cut ?_); refine k_str rfl (h := ?_)) | ((with_reducible refine g_indexV ?_); refine k_six rfl (h := ?_)) | ((with_reducible refine g_bin ?_); refine k_cat rfl (h := ?_)) | ((with_reducible refine g_conv ?_); refine k_tos rfl (h := ?_)) | ((with_reducible refine wl_guard ?_); refine stop_mem rfl rfl ?_))
          go_ret
          rw [HE0.out]
          exact ⟨rfl, hS.pick⟩
theorem rledg_pack (hS : St S w0 w (rledg g D :: M)) (hD : D.Ok) :
    Calls Try.prog 24 #[.pointer (some ⟨g, 0, none⟩)] w fun e w' => e = .returned (.string ⟨(lPack D).toArray⟩) ∧ St S w0 w' (rledg g D :: M) := by
  (have hU := St.unpack hS; clear hS; obtain ⟨⟨xa, xt⟩, _, hS⟩ := hU; simp only [List.cons_append, List.nil_append] at hS)
  refine (rledg_packO hS hD).mono ?_
  rintro e w' ⟨rfl, hS⟩
  exact ⟨rfl, St.packs (xa, xt) hS⟩
end
end Go.Proofs.Ytggngdjncokanaa
