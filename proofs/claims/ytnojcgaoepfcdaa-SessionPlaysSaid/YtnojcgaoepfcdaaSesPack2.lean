/-
  The bytes of sessions: the document's Pack.
-/
import Derived.Test.YtnojcgaoepfcdaaSesPack1
import Derived.Test.YtnojcgaoepfcdaaCodecR
import Derived.Test.YtnojcgaoepfcdaaAppStr
namespace Go.Proofs.Ytnojcgaoepfcdaa
open Go.RowKit Go.Cmp

section
variable {S : List Nat} {w0 w : World} {M : List Ent} {g : Nat} {T : List Ses}

theorem u64_id {x : Int} (h0 : 0 ≤ x) (h1 : x ≤ 72057594037927935) : IntKind.u64.wrap x = x := by
  simp only [IntKind.wrap, IntKind.bits, IntKind.signed]
  simp
  omega
theorem rputT {v : Value} {l : List UInt8} (hS : St S w0 w (.vec v 5 1 l.length (l.flatMap byt) :: M)) (t : List UInt8) (ht : t.length ≤ 200) (hl : l.length ≤ 100000000) :
    Calls Try.prog 38 #[v, .string ⟨t.toArray⟩] w fun e w' => ∃ v', e = .returned (.tuple #[v', .int .i64 0]) ∧ St S w0 w' (.vec v' 5 1 (l ++ txt t).length ((l ++ txt t).flatMap byt) :: M) := by
  have h := ref_putText (v := v) (l := l) hS t (by omega) (by omega) (fun W hW => hW.rdx (by (repeat (first | exact Ix.here | apply Ix.there))))
  refine h.mono ?_
  rintro e w' ⟨v', rfl, hS⟩
  exact ⟨v', rfl, hS.pick⟩

set_option maxRecDepth 100000 in
set_option maxHeartbeats 8000000 in
theorem rses_packO {vs : Value} (hS : St S w0 w (.row g [vs] 45 (0, 0) :: .vec vs 39 5 T.length (T.flatMap Ses.cells) :: M)) (hl : T.length ≤ 3) (hf : SFit T) :
    Calls Try.prog 20 #[.pointer (some ⟨g, 0, none⟩)] w fun e w' => e = .returned (.string ⟨(sPack T).toArray⟩) ∧ St S w0 w' (.row g [vs] 45 (0, 0) :: .vec vs 39 5 T.length (T.flatMap Ses.cells) :: M) := by
  have HF := Lib.hid hf
  clear hf
  have hl1 : (T.length : Int) ≤ 3 := by omega
  (go_enter Try.func20, Try.ntmps20)
  go_wp2_with (first | ((with_reducible refine g_load ?_); refine k_read rfl (h := ?_)) | ((with_reducible refine g_len ?_); refine k_len rfl (h := ?_)) | ((with_reducible refine g_index ?_); refine k_idx rfl (h := ?_)) | ((with_reducible refine g_field ?_); refine k_fld rfl (h := ?_)) | ((with_reducible refine g_store ?_); refine wl_of rfl ?_; first | (refine k_sta hS rfl rfl rfl (h := ?_); clear hS; intro w' hS; simp only [List.take, List.drop, List.cons_append, List.nil_append, List.length_cons, List.length_nil] at hS) | (first | ((first | (refine k_st1 (v := .int _ _) hS rfl rfl rfl (h := ?_)) | (refine k_st1 (v := .bool _) hS rfl rfl rfl (h := ?_)) | (refine k_st1 (v := .string _) hS rfl rfl rfl (h := ?_)) | (refine k_st1 (v := .slice none 0 0) hS rfl rfl rfl (h := ?_))); clear hS; intro w' hS; simp only [List.set_cons_zero, List.set_cons_succ] at hS) | ((refine k_st1  hS rfl rfl rfl (h := ?_)); clear hS; intro w' hS; simp only [List.set_cons_zero, List.set_cons_succ] at hS; simp only [Act.eval, Array.getD_eq_getD_getElem?, List.getElem?_toArray, List.getElem?_cons_succ, List.getElem?_cons_zero, Option.getD_some] at hS)) | (first | (refine k_ste (v := .int _ _) hS rfl rfl rfl (h := ?_); clear hS; intro w' hS) | (refine k_ste (v := .bool _) hS rfl rfl rfl (h := ?_); clear hS; intro w' hS) | (refine k_ste (v := .string _) hS rfl rfl rfl (h := ?_); clear hS; intro w' hS))) | ((with_reducible refine g_alloc ?_); refine wl_of rfl ?_; refine wp_alloc hS rfl rfl rfl rfl ?_; clear hS; intro gb w1 hS) | ((with_reducible refine g_box ?_); refine wl_of rfl ?_; refine wp_box hS rfl rfl rfl ?_; clear hS; intro gb w1 hS) | ((with_reducible refine g_bs ?_); refine wl_of rfl ?_; (first | refine a_build1 (v := .int _ _) hS rfl rfl rfl rfl (by rfl) (by simp) ?_ | refine a_build1 (v := .string _) hS rfl rfl rfl rfl (by rfl) (by simp) ?_ | refine a_build1 (v := .bool _) hS rfl rfl rfl rfl (by rfl) (by simp) ?_ | refine a_build1 (v := .agg _) hS rfl rfl rfl rfl (by rfl) (by simp) ?_ | refine a_build1  hS rfl rfl rfl rfl (by rfl) (by simp) ?_); clear hS; intro v1 w' hS; simp only [List.length_cons, List.length_nil, Nat.zero_add] at hS; try simp only [Nat.reduceAdd] at hS) | ((with_reducible refine g_cut ?_); refine k_str rfl (h := ?_)) | ((with_reducible refine g_indexV ?_); refine k_six rfl (h := ?_)) | ((with_reducible refine g_bin ?_); refine k_cat rfl (h := ?_)) | ((with_reducible refine g_conv ?_); refine k_tos rfl (h := ?_)) | ((with_reducible refine wl_guard ?_); refine stop_mem rfl rfl ?_))
  have e1 : [Value.int .u8 (T.length : Int)] = ([UInt8.ofNat T.length] ++ (T.take 0).flatMap sBytes).flatMap byt := by simp [byt]; omega
  rw [e1] at hS
  replace hS : St S w0 w' (.vec v1 5 1 ([UInt8.ofNat T.length] ++ (T.take 0).flatMap sBytes).length (([UInt8.ofNat T.length] ++ (T.take 0).flatMap sBytes).flatMap byt) :: .row g [vs] 45 (0, 0) :: .vec vs 39 5 T.length (T.flatMap Ses.cells) :: M) := by simpa using hS
  clear e1
  go_loopw [3, 4] (fun b k wr => ∃ (j : Nat), j ≤ T.length ∧ k = .int .i64 j ∧ St S w0 wr (.vec b 5 1 ([UInt8.ofNat T.length] ++ (T.take j).flatMap sBytes).length (([UInt8.ofNat T.length] ++ (T.take j).flatMap sBytes).flatMap byt) :: .row g [vs] 45 (0, 0) :: .vec vs 39 5 T.length (T.flatMap Ses.cells) :: M)) (fun _ k _ => T.length - (intOf k).toNat)
  case atStart => exact ⟨0, by omega, rfl, hS⟩
  case round =>
    clear hS
    obtain ⟨j, hj, rfl, hS⟩ := hrel
    by_cases hlt : j < T.length
    · have hlt1 : (j : Int) < T.length := by omega
      have hget := get_lt (L := T) hlt
      have hx := HF.out _ (nth_mem hlt)
      have hle := sBytes_le HF.out j hj
      have hn := take_nth hlt
      have HN := Lib.hid hn
      obtain ⟨x, hX⟩ : ∃ X, nth T j = X := ⟨_, rfl⟩
      rw [hX] at hget hx HN
      obtain ⟨acc, hacc⟩ : ∃ acc, (T.take j).flatMap sBytes = acc := ⟨_, rfl⟩
      have HE : Hid ((T.take (j + 1)).flatMap sBytes = acc ++ sBytes x) := Lib.hid (by rw [HN.out, List.flatMap_append, hacc]; simp)
      rw [hacc] at hS hle
      clear hX hn hacc HN
      obtain ⟨pre, hpre⟩ : ∃ pre, [UInt8.ofNat T.length] ++ acc = pre := ⟨_, rfl⟩
      have hpl : pre.length ≤ 10000 := by rw [← hpre]; simp; omega
      rw [hpre] at hS
      have HPRE := Lib.hid hpre
      clear hpre hle
      obtain ⟨f1, f2, f3, f4, f5⟩ := hx
      obtain ⟨ca, cb, cc, cd, ce⟩ := x
      simp only at f1 f2 f3 f4 f5
      obtain ⟨a1, a2⟩ := f1
      obtain ⟨b1, b2⟩ := f2
      obtain ⟨c1, c2⟩ := f3
      obtain ⟨d1, d2⟩ := f4
      have E1 := Lib.hid (ref_eight ca a1 (by omega))
      have E2 := Lib.hid (ref_eight cb b1 (by omega))
      have E3 := Lib.hid (ref_eight cc c1 (by omega))
      have E4 := Lib.hid (ref_eight cd d1 (by omega))
      have u1 := u64_id a1 a2
      have u2 := u64_id b1 b2
      have u3 := u64_id c1 c2
      have u4 := u64_id d1 d2
      go_wp2_with (first | ((with_reducible refine g_load ?_); refine k_read rfl (h := ?_)) | ((with_reducible refine g_len ?_); refine k_len rfl (h := ?_)) | ((with_reducible refine g_index ?_); refine k_idx rfl (h := ?_)) | ((with_reducible refine g_field ?_); refine k_fld rfl (h := ?_)) | ((with_reducible refine g_store ?_); refine wl_of rfl ?_; first | (refine k_sta hS rfl rfl rfl (h := ?_); clear hS; intro w' hS; simp only [List.take, List.drop, List.cons_append, List.nil_append, List.length_cons, List.length_nil] at hS) | (first | ((first | (refine k_st1 (v := .int _ _) hS rfl rfl rfl (h := ?_)) | (refine k_st1 (v := .bool _) hS rfl rfl rfl (h := ?_)) | (refine k_st1 (v := .string _) hS rfl rfl rfl (h := ?_)) | (refine k_st1 (v := .slice none 0 0) hS rfl rfl rfl (h := ?_))); clear hS; intro w' hS; simp only [List.set_cons_zero, List.set_cons_succ] at hS) | ((refine k_st1  hS rfl rfl rfl (h := ?_)); clear hS; intro w' hS; simp only [List.set_cons_zero, List.set_cons_succ] at hS; simp only [Act.eval, Array.getD_eq_getD_getElem?, List.getElem?_toArray, List.getElem?_cons_succ, List.getElem?_cons_zero, Option.getD_some] at hS)) | (first | (refine k_ste (v := .int _ _) hS rfl rfl rfl (h := ?_); clear hS; intro w' hS) | (refine k_ste (v := .bool _) hS rfl rfl rfl (h := ?_); clear hS; intro w' hS) | (refine k_ste (v := .string _) hS rfl rfl rfl (h := ?_); clear hS; intro w' hS))) | ((with_reducible refine g_alloc ?_); refine wl_of rfl ?_; refine wp_alloc hS rfl rfl rfl rfl ?_; clear hS; intro gb w1 hS) | ((with_reducible refine g_box ?_); refine wl_of rfl ?_; refine wp_box hS rfl rfl rfl ?_; clear hS; intro gb w1 hS) | ((with_reducible refine g_bs ?_); refine wl_of rfl ?_; (first | refine a_build1 (v := .int _ _) hS rfl rfl rfl rfl (by rfl) (by simp) ?_ | refine a_build1 (v := .string _) hS rfl rfl rfl rfl (by rfl) (by simp) ?_ | refine a_build1 (v := .bool _) hS rfl rfl rfl rfl (by rfl) (by simp) ?_ | refine a_build1 (v := .agg _) hS rfl rfl rfl rfl (by rfl) (by simp) ?_ | refine a_build1  hS rfl rfl rfl rfl (by rfl) (by simp) ?_); clear hS; intro v1 w' hS; simp only [List.length_cons, List.length_nil, Nat.zero_add] at hS; try simp only [Nat.reduceAdd] at hS) | ((with_reducible refine g_cut ?_); refine k_str rfl (h := ?_)) | ((with_reducible refine g_indexV ?_); refine k_six rfl (h := ?_)) | ((with_reducible refine g_bin ?_); refine k_cat rfl (h := ?_)) | ((with_reducible refine g_conv ?_); refine k_tos rfl (h := ?_)) | ((with_reducible refine wl_guard ?_); refine stop_mem rfl rfl ?_))
      refine region_calm (by kernel_rfl) (by kernel_rfl) hS ?_
      (refine Calm.pure rfl (h := ?_); simp only [Act.put, List.setIfInBounds_toArray, List.set_cons_zero, List.set_cons_succ])
      (refine Calm.read rfl (h := ?_); simp only [Act.put, List.setIfInBounds_toArray, List.set_cons_zero, List.set_cons_succ])
      (refine Calm.pure rfl (h := ?_); simp only [Act.put, List.setIfInBounds_toArray, List.set_cons_zero, List.set_cons_succ])
      (refine Calm.call2 (calm_makes E1.out) rfl (h := ?_); simp only [Act.put, List.setIfInBounds_toArray, List.set_cons_zero, List.set_cons_succ])
      (refine Calm.pure rfl (h := ?_); simp only [Act.put, List.setIfInBounds_toArray, List.set_cons_zero, List.set_cons_succ])
      (refine Calm.read rfl (h := ?_); simp only [Act.put, List.setIfInBounds_toArray, List.set_cons_zero, List.set_cons_succ])
      (refine Calm.pure rfl (h := ?_); simp only [Act.put, List.setIfInBounds_toArray, List.set_cons_zero, List.set_cons_succ])
      (refine Calm.call2 (calm_makes E2.out) rfl (h := ?_); simp only [Act.put, List.setIfInBounds_toArray, List.set_cons_zero, List.set_cons_succ])
      (refine Calm.run rfl (fun W hW => by exact a_concat rfl rfl rfl (by simp [leB_length])) ?_; simp only [Act.put, List.setIfInBounds_toArray, List.set_cons_zero, List.set_cons_succ])
      (refine Calm.pure rfl (h := ?_); simp only [Act.put, List.setIfInBounds_toArray, List.set_cons_zero, List.set_cons_succ])
      (refine Calm.read rfl (h := ?_); simp only [Act.put, List.setIfInBounds_toArray, List.set_cons_zero, List.set_cons_succ])
      (refine Calm.pure rfl (h := ?_); simp only [Act.put, List.setIfInBounds_toArray, List.set_cons_zero, List.set_cons_succ])
      (refine Calm.call2 (calm_makes E3.out) rfl (h := ?_); simp only [Act.put, List.setIfInBounds_toArray, List.set_cons_zero, List.set_cons_succ])
      (refine Calm.run rfl (fun W hW => by exact a_concat rfl rfl rfl (by simp [leB_length])) ?_; simp only [Act.put, List.setIfInBounds_toArray, List.set_cons_zero, List.set_cons_succ])
      (refine Calm.pure rfl (h := ?_); simp only [Act.put, List.setIfInBounds_toArray, List.set_cons_zero, List.set_cons_succ])
      (refine Calm.read rfl (h := ?_); simp only [Act.put, List.setIfInBounds_toArray, List.set_cons_zero, List.set_cons_succ])
      (refine Calm.pure rfl (h := ?_); simp only [Act.put, List.setIfInBounds_toArray, List.set_cons_zero, List.set_cons_succ])
      (refine Calm.call2 (calm_makes E4.out) rfl (h := ?_); simp only [Act.put, List.setIfInBounds_toArray, List.set_cons_zero, List.set_cons_succ])
      (refine Calm.run rfl (fun W hW => by exact a_concat rfl rfl rfl (by simp [leB_length])) ?_; simp only [Act.put, List.setIfInBounds_toArray, List.set_cons_zero, List.set_cons_succ])
      (refine Calm.pure rfl (h := ?_); simp only [Act.put, List.setIfInBounds_toArray, List.set_cons_zero, List.set_cons_succ])
      (refine Calm.nil ?_; clear hS; intro w8 hS)
      clear u1 u2 u3 u4
      obtain ⟨q4, hq4⟩ : ∃ q4, leB 8 ca.toNat ++ (leB 8 cb.toNat ++ (leB 8 cc.toNat ++ leB 8 cd.toNat)) = q4 := ⟨_, rfl⟩
      rw [hq4]
      have hfq : sFour ⟨ca, cb, cc, cd, ce⟩ = q4 := by rw [← hq4]; simp [sFour]
      have HL4 := sFour_length ⟨ca, cb, cc, cd, ce⟩
      rw [hfq] at HL4
      have HQ4 := Lib.hid hfq
      have hq4l : q4.length ≤ 32 := by omega
      have hal : (pre ++ q4).length ≤ 100000000 := by rw [List.length_append]; omega
      clear hfq hq4 HL4
      go_wp2_with (first | ((with_reducible refine g_append ?_); refine wl_of rfl ?_; refine k_appS (L := pre) (l := q4) hS rfl rfl rfl rfl rfl (h := ?_); clear hS; intro v2 w' hS) | (go_at_call 38; refine (rputT (hS.out (by (repeat (first | exact Out.here | apply Out.there)))) _ f5 hal).mono ?_; clear hS; rintro e w' ⟨v', rfl, hS⟩) | (first | ((with_reducible refine g_load ?_); refine k_read rfl (h := ?_)) | ((with_reducible refine g_len ?_); refine k_len rfl (h := ?_)) | ((with_reducible refine g_index ?_); refine k_idx rfl (h := ?_)) | ((with_reducible refine g_field ?_); refine k_fld rfl (h := ?_)) | ((with_reducible refine g_store ?_); refine wl_of rfl ?_; first | (refine k_sta hS rfl rfl rfl (h := ?_); clear hS; intro w' hS; simp only [List.take, List.drop, List.cons_append, List.nil_append, List.length_cons, List.length_nil] at hS) | (first | ((first | (refine k_st1 (v := .int _ _) hS rfl rfl rfl (h := ?_)) | (refine k_st1 (v := .bool _) hS rfl rfl rfl (h := ?_)) | (refine k_st1 (v := .string _) hS rfl rfl rfl (h := ?_)) | (refine k_st1 (v := .slice none 0 0) hS rfl rfl rfl (h := ?_))); clear hS; intro w' hS; simp only [List.set_cons_zero, List.set_cons_succ] at hS) | ((refine k_st1  hS rfl rfl rfl (h := ?_)); clear hS; intro w' hS; simp only [List.set_cons_zero, List.set_cons_succ] at hS; simp only [Act.eval, Array.getD_eq_getD_getElem?, List.getElem?_toArray, List.getElem?_cons_succ, List.getElem?_cons_zero, Option.getD_some] at hS)) | (first | (refine k_ste (v := .int _ _) hS rfl rfl rfl (h := ?_); clear hS; intro w' hS) | (refine k_ste (v := .bool _) hS rfl rfl rfl (h := ?_); clear hS; intro w' hS) | (refine k_ste (v := .string _) hS rfl rfl rfl (h := ?_); clear hS; intro w' hS))) | ((with_reducible refine g_alloc ?_); refine wl_of rfl ?_; refine wp_alloc hS rfl rfl rfl rfl ?_; clear hS; intro gb w1 hS) | ((with_reducible refine g_box ?_); refine wl_of rfl ?_; refine wp_box hS rfl rfl rfl ?_; clear hS; intro gb w1 hS) | ((with_reducible refine g_bs ?_); refine wl_of rfl ?_; (first | refine a_build1 (v := .int _ _) hS rfl rfl rfl rfl (by rfl) (by simp) ?_ | refine a_build1 (v := .string _) hS rfl rfl rfl rfl (by rfl) (by simp) ?_ | refine a_build1 (v := .bool _) hS rfl rfl rfl rfl (by rfl) (by simp) ?_ | refine a_build1 (v := .agg _) hS rfl rfl rfl rfl (by rfl) (by simp) ?_ | refine a_build1  hS rfl rfl rfl rfl (by rfl) (by simp) ?_); clear hS; intro v1 w' hS; simp only [List.length_cons, List.length_nil, Nat.zero_add] at hS; try simp only [Nat.reduceAdd] at hS) | ((with_reducible refine g_cut ?_); refine k_str rfl (h := ?_)) | ((with_reducible refine g_indexV ?_); refine k_six rfl (h := ?_)) | ((with_reducible refine g_bin ?_); refine k_cat rfl (h := ?_)) | ((with_reducible refine g_conv ?_); refine k_tos rfl (h := ?_)) | ((with_reducible refine wl_guard ?_); refine stop_mem rfl rfl ?_)))
      refine ⟨⟨j + 1, by omega, by go_num, ?_⟩, by simp [intOf]; omega⟩
      rw [HE.out, ← List.append_assoc, HPRE.out]
      unfold sBytes
      rw [HQ4.out, ← List.append_assoc]
      exact hS.pick
    · obtain rfl : j = T.length := by omega
      rw [List.take_length] at hS
      go_wp2_with (first | ((with_reducible refine g_conv ?_); refine wl_run rfl (a_toString2 (l := sPack T) rfl rfl rfl rfl rfl (by exact St.rdx hS (by (repeat (first | exact Ix.here | apply Ix.there))))) ?_) | (first | ((with_reducible refine g_load ?_); refine k_read rfl (h := ?_)) | ((with_reducible refine g_len ?_); refine k_len rfl (h := ?_)) | ((with_reducible refine g_index ?_); refine k_idx rfl (h := ?_)) | ((with_reducible refine g_field ?_); refine k_fld rfl (h := ?_)) | ((with_reducible refine g_store ?_); refine wl_of rfl ?_; first | (refine k_sta hS rfl rfl rfl (h := ?_); clear hS; intro w' hS; simp only [List.take, List.drop, List.cons_append, List.nil_append, List.length_cons, List.length_nil] at hS) | (first | ((first | (refine k_st1 (v := .int _ _) hS rfl rfl rfl (h := ?_)) | (refine k_st1 (v := .bool _) hS rfl rfl rfl (h := ?_)) | (refine k_st1 (v := .string _) hS rfl rfl rfl (h := ?_)) | (refine k_st1 (v := .slice none 0 0) hS rfl rfl rfl (h := ?_))); clear hS; intro w' hS; simp only [List.set_cons_zero, List.set_cons_succ] at hS) | ((refine k_st1  hS rfl rfl rfl (h := ?_)); clear hS; intro w' hS; simp only [List.set_cons_zero, List.set_cons_succ] at hS; simp only [Act.eval, Array.getD_eq_getD_getElem?, List.getElem?_toArray, List.getElem?_cons_succ, List.getElem?_cons_zero, Option.getD_some] at hS)) | (first | (refine k_ste (v := .int _ _) hS rfl rfl rfl (h := ?_); clear hS; intro w' hS) | (refine k_ste (v := .bool _) hS rfl rfl rfl (h := ?_); clear hS; intro w' hS) | (refine k_ste (v := .string _) hS rfl rfl rfl (h := ?_); clear hS; intro w' hS))) | ((with_reducible refine g_alloc ?_); refine wl_of rfl ?_; refine wp_alloc hS rfl rfl rfl rfl ?_; clear hS; intro gb w1 hS) | ((with_reducible refine g_box ?_); refine wl_of rfl ?_; refine wp_box hS rfl rfl rfl ?_; clear hS; intro gb w1 hS) | ((with_reducible refine g_bs ?_); refine wl_of rfl ?_; (first | refine a_build1 (v := .int _ _) hS rfl rfl rfl rfl (by rfl) (by simp) ?_ | refine a_build1 (v := .string _) hS rfl rfl rfl rfl (by rfl) (by simp) ?_ | refine a_build1 (v := .bool _) hS rfl rfl rfl rfl (by rfl) (by simp) ?_ | refine a_build1 (v := .agg _) hS rfl rfl rfl rfl (by rfl) (by simp) ?_ | refine a_build1  hS rfl rfl rfl rfl (by rfl) (by simp) ?_); clear hS; intro v1 w' hS; simp only [List.length_cons, List.length_nil, Nat.zero_add] at hS; try simp only [Nat.reduceAdd] at hS) | ((with_reducible refine g_cut ?_); refine k_str rfl (h := ?_)) | ((with_reducible refine g_indexV ?_); refine k_six rfl (h := ?_)) | ((with_reducible refine g_bin ?_); refine k_cat rfl (h := ?_)) | ((with_reducible refine g_conv ?_); refine k_tos rfl (h := ?_)) | ((with_reducible refine wl_guard ?_); refine stop_mem rfl rfl ?_)))
      go_ret
      exact ⟨rfl, hS.tail⟩
theorem rses_pack (hS : St S w0 w (rses g T :: M)) (hl : T.length ≤ 3) (hf : SFit T) :
    Calls Try.prog 20 #[.pointer (some ⟨g, 0, none⟩)] w fun e w' => e = .returned (.string ⟨(sPack T).toArray⟩) ∧ St S w0 w' (rses g T :: M) := by
  (have hU := St.unpack hS; clear hS; obtain ⟨vs, _, hS⟩ := hU; simp only [List.cons_append, List.nil_append] at hS)
  refine (rses_packO hS hl hf).mono ?_
  rintro e w' ⟨rfl, hS⟩
  exact ⟨rfl, (St.packs vs hS : St S w0 _ (rses g T :: M))⟩
end
end Go.Proofs.Ytnojcgaoepfcdaa
