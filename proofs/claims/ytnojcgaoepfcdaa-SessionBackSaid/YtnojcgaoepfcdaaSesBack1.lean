/-
  The program's reading of one session of bytes in which it was laid.
-/
import Derived.Test.YtnojcgaoepfcdaaSesPack1
import Derived.Test.YtnojcgaoepfcdaaCodecT
namespace Go.Proofs.Ytnojcgaoepfcdaa
open Go.RowKit Go.Cmp

section
variable {S : List Nat} {w0 w : World} {M : List Ent}

set_option maxRecDepth 100000 in
set_option maxHeartbeats 8000000 in
theorem one_back (hS : St S w0 w M) {v : Value} {l : List UInt8} (hR : Reads S w0 M 1 v l.length (l.flatMap byt)) (hl : l.length ≤ 100000000) (pre post : List UInt8) (x : Ses) (hx : x.Fits) (e : l = pre ++ sBytes x ++ post) :
    Calls Try.prog 39 #[v, .int .i64 pre.length] w fun e w' => e = .returned (.tuple #[.agg x.cells.toArray, .int .i64 ((pre.length : Int) + (sBytes x).length), .bool true]) ∧ St S w0 w' M := by
  obtain ⟨f1, f2, f3, f4, f5⟩ := hx
  obtain ⟨ca, cb, cc, cd, ce⟩ := x
  simp only at f1 f2 f3 f4 f5
  have hlen : pre.length + 34 + ce.length ≤ l.length := by
    rw [e]; simp only [List.length_append, sBytes_length]; omega
  have hpl : pre.length ≤ 100000000 := by omega
  have HT := Lib.hid (fun (i : Nat) (W : World) (N : List Ent) (hS : St S w0 W N) (hr : Rd W 1 v l.length (l.flatMap byt)) => num_take hS i 8 (by omega) (by omega) (show l.length ≤ 140737488355328 by omega) hr)
  have HX := Lib.hid (fun (W : World) (N : List Ent) (hS : St S w0 W N) (hr : Reads S w0 N 1 v l.length (l.flatMap byt)) => num_takeText hS (pre.length + 8 * 4) 200 (show l.length ≤ 140737488355328 by omega) (by omega) hr)
  have p8 : ∀ {n : Int}, Fit n → n.toNat < 256 ^ 8 := by intro n h; have := h.1; have := h.2; omega
  have e8 : ∀ {n : Int}, Fit n → ((n.toNat : Nat) : Int) = n := fun h => Int.toNat_of_nonneg h.1
  have T1 : takeN l (pre.length + 8 * 0) 8 = (ca.toNat, 0) := by
    have := takeN_at pre (leB 8 cb.toNat ++ leB 8 cc.toNat ++ leB 8 cd.toNat ++ txt ce ++ post) 8 ca.toNat (p8 f1)
    rw [e]; simp only [sBytes, sFour, List.append_assoc, Nat.mul_zero, Nat.add_zero] at this ⊢; exact this
  have T2 : takeN l (pre.length + 8 * 1) 8 = (cb.toNat, 0) := by
    have := takeN_at (pre ++ leB 8 ca.toNat) (leB 8 cc.toNat ++ leB 8 cd.toNat ++ txt ce ++ post) 8 cb.toNat (p8 f2)
    rw [List.length_append, leB_length] at this
    rw [e]; simp only [sBytes, sFour, List.append_assoc] at this ⊢; exact this
  have T3 : takeN l (pre.length + 8 * 2) 8 = (cc.toNat, 0) := by
    have := takeN_at (pre ++ leB 8 ca.toNat ++ leB 8 cb.toNat) (leB 8 cd.toNat ++ txt ce ++ post) 8 cc.toNat (p8 f3)
    rw [List.length_append, List.length_append, leB_length, leB_length, Nat.add_assoc] at this
    rw [e]; simp only [sBytes, sFour, List.append_assoc] at this ⊢; exact this
  have T4 : takeN l (pre.length + 8 * 3) 8 = (cd.toNat, 0) := by
    have := takeN_at (pre ++ leB 8 ca.toNat ++ leB 8 cb.toNat ++ leB 8 cc.toNat) (txt ce ++ post) 8 cd.toNat (p8 f4)
    rw [List.length_append, List.length_append, List.length_append, leB_length, leB_length, leB_length, Nat.add_assoc, Nat.add_assoc] at this
    rw [e]; simp only [sBytes, sFour, List.append_assoc] at this ⊢; exact this
  have T5 : takeT l (pre.length + 8 * 4) 200 = (ce, (pre.length : Int) + 34 + ce.length, 0) := by
    have := takeT_at (pre ++ sFour ⟨ca, cb, cc, cd, ce⟩) post ce 200 (by omega) (by omega)
    rw [List.length_append, sFour_length] at this
    rw [e]; simp only [sBytes, List.append_assoc] at this ⊢; rw [this]
    refine Prod.ext rfl (Prod.ext ?_ rfl)
    show ((pre.length + 32 : Nat) : Int) + 2 + ce.length = (pre.length : Int) + 34 + ce.length
    omega
  have h1 := HT.out (pre.length + 8 * 0)
  have h2 := HT.out (pre.length + 8 * 1)
  have h3 := HT.out (pre.length + 8 * 2)
  have h4 := HT.out (pre.length + 8 * 3)
  have h5 := HX.out
  simp only [T1, T2, T3, T4, e8 f1, e8 f2, e8 f3, e8 f4] at h1 h2 h3 h4
  simp only [T5] at h5
  have H1 := Lib.hid h1
  have H2 := Lib.hid h2
  have H3 := Lib.hid h3
  have H4 := Lib.hid h4
  have H5 := Lib.hid h5
  have HE : Hid ((sBytes ⟨ca, cb, cc, cd, ce⟩).length = 34 + ce.length) := Lib.hid (sBytes_length _)
  clear h1 h2 h3 h4 h5 T1 T2 T3 T4 T5 HT HX e e8 p8
  obtain ⟨a1, a2⟩ := f1
  obtain ⟨b1, b2⟩ := f2
  obtain ⟨c1, c2⟩ := f3
  obtain ⟨d1, d2⟩ := f4
  (go_enter Try.func39, Try.ntmps39)
  go_wp2_with (first | (go_at_call 34; refine (ses_numbers hS _).mono ?_; clear hS; rintro e w' ⟨rfl, hS⟩) | (first | ((with_reducible refine g_load ?_); refine k_read rfl (h := ?_)) | ((with_reducible refine g_len ?_); refine k_len rfl (h := ?_)) | ((with_reducible refine g_index ?_); refine k_idx rfl (h := ?_)) | ((with_reducible refine g_field ?_); refine k_fld rfl (h := ?_)) | ((with_reducible refine g_store ?_); refine wl_of rfl ?_; first | (refine k_sta hS rfl rfl rfl (h := ?_); clear hS; intro w' hS; simp only [List.take, List.drop, List.cons_append, List.nil_append, List.length_cons, List.length_nil] at hS) | (first | ((first | (refine k_st1 (v := .int _ _) hS rfl rfl rfl (h := ?_)) | (refine k_st1 (v := .bool _) hS rfl rfl rfl (h := ?_)) | (refine k_st1 (v := .string _) hS rfl rfl rfl (h := ?_)) | (refine k_st1 (v := .slice none 0 0) hS rfl rfl rfl (h := ?_))); clear hS; intro w' hS; simp only [List.set_cons_zero, List.set_cons_succ] at hS) | ((refine k_st1  hS rfl rfl rfl (h := ?_)); clear hS; intro w' hS; simp only [List.set_cons_zero, List.set_cons_succ] at hS; simp only [Act.eval, Array.getD_eq_getD_getElem?, List.getElem?_toArray, List.getElem?_cons_succ, List.getElem?_cons_zero, Option.getD_some] at hS)) | (first | (refine k_ste (v := .int _ _) hS rfl rfl rfl (h := ?_); clear hS; intro w' hS) | (refine k_ste (v := .bool _) hS rfl rfl rfl (h := ?_); clear hS; intro w' hS) | (refine k_ste (v := .string _) hS rfl rfl rfl (h := ?_); clear hS; intro w' hS))) | ((with_reducible refine g_alloc ?_); refine wl_of rfl ?_; refine wp_alloc hS rfl rfl rfl rfl ?_; clear hS; intro gb w1 hS) | ((with_reducible refine g_box ?_); refine wl_of rfl ?_; refine wp_box hS rfl rfl rfl ?_; clear hS; intro gb w1 hS) | ((with_reducible refine g_bs ?_); refine wl_of rfl ?_; (first | refine a_build1 (v := .int _ _) hS rfl rfl rfl rfl (by rfl) (by simp) ?_ | refine a_build1 (v := .string _) hS rfl rfl rfl rfl (by rfl) (by simp) ?_ | refine a_build1 (v := .bool _) hS rfl rfl rfl rfl (by rfl) (by simp) ?_ | refine a_build1 (v := .agg _) hS rfl rfl rfl rfl (by rfl) (by simp) ?_ | refine a_build1  hS rfl rfl rfl rfl (by rfl) (by simp) ?_); clear hS; intro v1 w' hS; simp only [List.length_cons, List.length_nil, Nat.zero_add] at hS; try simp only [Nat.reduceAdd] at hS) | ((with_reducible refine g_cut ?_); refine k_str rfl (h := ?_)) | ((with_reducible refine g_indexV ?_); refine k_six rfl (h := ?_)) | ((with_reducible refine g_bin ?_); refine k_cat rfl (h := ?_)) | ((with_reducible refine g_conv ?_); refine k_tos rfl (h := ?_)) | ((with_reducible refine wl_guard ?_); refine stop_mem rfl rfl ?_)))
  obtain ⟨gs, rfl⟩ : ∃ gs, gs = gb := ⟨_, rfl⟩
  obtain ⟨R, hReq, hS⟩ := hS.gen
  obtain ⟨cs, hcs⟩ : ∃ cs : Nat → List Value, cs = fun i => ([Value.int .i64 ca, .int .i64 cb, .int .i64 cc, .int .i64 cd].take i ++ [Value.int .i64 0, .int .i64 0, .int .i64 0, .int .i64 0].drop i) ++ [.string ⟨#[]⟩] := ⟨_, rfl⟩
  have q0 : [Value.int .i64 0, .int .i64 0, .int .i64 0, .int .i64 0, .string ⟨#[]⟩] = cs 0 := by rw [hcs]; rfl
  have q1 : cs 1 = [Value.int .i64 ca, .int .i64 0, .int .i64 0, .int .i64 0, .string ⟨#[]⟩] := by rw [hcs]; rfl
  have q2 : cs 2 = [Value.int .i64 ca, .int .i64 cb, .int .i64 0, .int .i64 0, .string ⟨#[]⟩] := by rw [hcs]; rfl
  have q3 : cs 3 = [Value.int .i64 ca, .int .i64 cb, .int .i64 cc, .int .i64 0, .string ⟨#[]⟩] := by rw [hcs]; rfl
  have q4 : cs 4 = [Value.int .i64 ca, .int .i64 cb, .int .i64 cc, .int .i64 cd, .string ⟨#[]⟩] := by rw [hcs]; rfl
  have Q0 := Lib.hid q0.symm
  have Q1 := Lib.hid q1
  have Q2 := Lib.hid q2
  have Q3 := Lib.hid q3
  have Q4 := Lib.hid q4
  rw [q0] at hS
  clear hcs q0 q1 q2 q3 q4
  have RR : Hid (Reads S w0 R 1 v l.length (l.flatMap byt)) := Lib.hid (fun W hW => hR W (by rw [← hReq] at hW; exact hW.tail))
  have HRQ := Lib.hid hReq
  clear hReq
  go_loopw [1, 16] (fun p k wr => ∃ i : Nat, i ≤ 4 ∧ p = .int .i64 ((pre.length + 8 * i : Nat) : Int) ∧ k = .int .i64 i ∧ St S w0 wr (.row gs (cs i) 39 (0, 0) :: R)) (fun _ k _ => 4 - (intOf k).toNat)
  case atStart => exact ⟨0, by omega, rfl, rfl, hS⟩
  case round =>
    clear hS
    obtain ⟨i, hi, rfl, rfl, hS⟩ := hrel
    by_cases hi4 : i < 4
    · have hi41 : (i : Int) < 4 := by omega
      rcases (show i = 0 ∨ i = 1 ∨ i = 2 ∨ i = 3 by omega) with rfl | rfl | rfl | rfl
      · rw [Q0.out] at hS
        have H := H1
        obtain ⟨p, hp⟩ : ∃ p, pre.length + 8 * 0 = p := ⟨_, rfl⟩
        rw [hp] at H ⊢
        have hpb : (p : Int) ≤ 100000100 := by omega
        have hpn : pre.length + 8 * 1 = p + 8 := by omega
        clear hp
        go_wp2_with (first | (go_at_call 46; refine (H.out _ _ hS (RR.out _ hS.tail)).mono ?_; clear hS; rintro e w' ⟨rfl, hS⟩) | ((with_reducible refine g_indexV ?_); refine wl_run rfl (x_indexA rfl rfl rfl rfl rfl rfl rfl rfl (by omega) (by omega) (by rfl)) ?_) | (first | ((with_reducible refine g_load ?_); refine k_read rfl (h := ?_)) | ((with_reducible refine g_len ?_); refine k_len rfl (h := ?_)) | ((with_reducible refine g_index ?_); refine k_idx rfl (h := ?_)) | ((with_reducible refine g_field ?_); refine k_fld rfl (h := ?_)) | ((with_reducible refine g_store ?_); refine wl_of rfl ?_; first | (refine k_sta hS rfl rfl rfl (h := ?_); clear hS; intro w' hS; simp only [List.take, List.drop, List.cons_append, List.nil_append, List.length_cons, List.length_nil] at hS) | (first | ((first | (refine k_st1 (v := .int _ _) hS rfl rfl rfl (h := ?_)) | (refine k_st1 (v := .bool _) hS rfl rfl rfl (h := ?_)) | (refine k_st1 (v := .string _) hS rfl rfl rfl (h := ?_)) | (refine k_st1 (v := .slice none 0 0) hS rfl rfl rfl (h := ?_))); clear hS; intro w' hS; simp only [List.set_cons_zero, List.set_cons_succ] at hS) | ((refine k_st1  hS rfl rfl rfl (h := ?_)); clear hS; intro w' hS; simp only [List.set_cons_zero, List.set_cons_succ] at hS; simp only [Act.eval, Array.getD_eq_getD_getElem?, List.getElem?_toArray, List.getElem?_cons_succ, List.getElem?_cons_zero, Option.getD_some] at hS)) | (first | (refine k_ste (v := .int _ _) hS rfl rfl rfl (h := ?_); clear hS; intro w' hS) | (refine k_ste (v := .bool _) hS rfl rfl rfl (h := ?_); clear hS; intro w' hS) | (refine k_ste (v := .string _) hS rfl rfl rfl (h := ?_); clear hS; intro w' hS))) | ((with_reducible refine g_alloc ?_); refine wl_of rfl ?_; refine wp_alloc hS rfl rfl rfl rfl ?_; clear hS; intro gb w1 hS) | ((with_reducible refine g_box ?_); refine wl_of rfl ?_; refine wp_box hS rfl rfl rfl ?_; clear hS; intro gb w1 hS) | ((with_reducible refine g_bs ?_); refine wl_of rfl ?_; (first | refine a_build1 (v := .int _ _) hS rfl rfl rfl rfl (by rfl) (by simp) ?_ | refine a_build1 (v := .string _) hS rfl rfl rfl rfl (by rfl) (by simp) ?_ | refine a_build1 (v := .bool _) hS rfl rfl rfl rfl (by rfl) (by simp) ?_ | refine a_build1 (v := .agg _) hS rfl rfl rfl rfl (by rfl) (by simp) ?_ | refine a_build1  hS rfl rfl rfl rfl (by rfl) (by simp) ?_); clear hS; intro v1 w' hS; simp only [List.length_cons, List.length_nil, Nat.zero_add] at hS; try simp only [Nat.reduceAdd] at hS) | ((with_reducible refine g_cut ?_); refine k_str rfl (h := ?_)) | ((with_reducible refine g_indexV ?_); refine k_six rfl (h := ?_)) | ((with_reducible refine g_bin ?_); refine k_cat rfl (h := ?_)) | ((with_reducible refine g_conv ?_); refine k_tos rfl (h := ?_)) | ((with_reducible refine wl_guard ?_); refine stop_mem rfl rfl ?_)))
        refine ⟨⟨1, by omega, by rw [hpn]; first | go_num | (push_cast; rfl), by go_num, by rw [Q1.out]; exact hS⟩, by simp [intOf]⟩
      · rw [Q1.out] at hS
        have H := H2
        obtain ⟨p, hp⟩ : ∃ p, pre.length + 8 * 1 = p := ⟨_, rfl⟩
        rw [hp] at H ⊢
        have hpb : (p : Int) ≤ 100000100 := by omega
        have hpn : pre.length + 8 * 2 = p + 8 := by omega
        clear hp
        go_wp2_with (first | (go_at_call 46; refine (H.out _ _ hS (RR.out _ hS.tail)).mono ?_; clear hS; rintro e w' ⟨rfl, hS⟩) | ((with_reducible refine g_indexV ?_); refine wl_run rfl (x_indexA rfl rfl rfl rfl rfl rfl rfl rfl (by omega) (by omega) (by rfl)) ?_) | (first | ((with_reducible refine g_load ?_); refine k_read rfl (h := ?_)) | ((with_reducible refine g_len ?_); refine k_len rfl (h := ?_)) | ((with_reducible refine g_index ?_); refine k_idx rfl (h := ?_)) | ((with_reducible refine g_field ?_); refine k_fld rfl (h := ?_)) | ((with_reducible refine g_store ?_); refine wl_of rfl ?_; first | (refine k_sta hS rfl rfl rfl (h := ?_); clear hS; intro w' hS; simp only [List.take, List.drop, List.cons_append, List.nil_append, List.length_cons, List.length_nil] at hS) | (first | ((first | (refine k_st1 (v := .int _ _) hS rfl rfl rfl (h := ?_)) | (refine k_st1 (v := .bool _) hS rfl rfl rfl (h := ?_)) | (refine k_st1 (v := .string _) hS rfl rfl rfl (h := ?_)) | (refine k_st1 (v := .slice none 0 0) hS rfl rfl rfl (h := ?_))); clear hS; intro w' hS; simp only [List.set_cons_zero, List.set_cons_succ] at hS) | ((refine k_st1  hS rfl rfl rfl (h := ?_)); clear hS; intro w' hS; simp only [List.set_cons_zero, List.set_cons_succ] at hS; simp only [Act.eval, Array.getD_eq_getD_getElem?, List.getElem?_toArray, List.getElem?_cons_succ, List.getElem?_cons_zero, Option.getD_some] at hS)) | (first | (refine k_ste (v := .int _ _) hS rfl rfl rfl (h := ?_); clear hS; intro w' hS) | (refine k_ste (v := .bool _) hS rfl rfl rfl (h := ?_); clear hS; intro w' hS) | (refine k_ste (v := .string _) hS rfl rfl rfl (h := ?_); clear hS; intro w' hS))) | ((with_reducible refine g_alloc ?_); refine wl_of rfl ?_; refine wp_alloc hS rfl rfl rfl rfl ?_; clear hS; intro gb w1 hS) | ((with_reducible refine g_box ?_); refine wl_of rfl ?_; refine wp_box hS rfl rfl rfl ?_; clear hS; intro gb w1 hS) | ((with_reducible refine g_bs ?_); refine wl_of rfl ?_; (first | refine a_build1 (v := .int _ _) hS rfl rfl rfl rfl (by rfl) (by simp) ?_ | refine a_build1 (v := .string _) hS rfl rfl rfl rfl (by rfl) (by simp) ?_ | refine a_build1 (v := .bool _) hS rfl rfl rfl rfl (by rfl) (by simp) ?_ | refine a_build1 (v := .agg _) hS rfl rfl rfl rfl (by rfl) (by simp) ?_ | refine a_build1  hS rfl rfl rfl rfl (by rfl) (by simp) ?_); clear hS; intro v1 w' hS; simp only [List.length_cons, List.length_nil, Nat.zero_add] at hS; try simp only [Nat.reduceAdd] at hS) | ((with_reducible refine g_cut ?_); refine k_str rfl (h := ?_)) | ((with_reducible refine g_indexV ?_); refine k_six rfl (h := ?_)) | ((with_reducible refine g_bin ?_); refine k_cat rfl (h := ?_)) | ((with_reducible refine g_conv ?_); refine k_tos rfl (h := ?_)) | ((with_reducible refine wl_guard ?_); refine stop_mem rfl rfl ?_)))
        refine ⟨⟨2, by omega, by rw [hpn]; first | go_num | (push_cast; rfl), by go_num, by rw [Q2.out]; exact hS⟩, by simp [intOf]⟩
      · rw [Q2.out] at hS
        have H := H3
        obtain ⟨p, hp⟩ : ∃ p, pre.length + 8 * 2 = p := ⟨_, rfl⟩
        rw [hp] at H ⊢
        have hpb : (p : Int) ≤ 100000100 := by omega
        have hpn : pre.length + 8 * 3 = p + 8 := by omega
        clear hp
        go_wp2_with (first | (go_at_call 46; refine (H.out _ _ hS (RR.out _ hS.tail)).mono ?_; clear hS; rintro e w' ⟨rfl, hS⟩) | ((with_reducible refine g_indexV ?_); refine wl_run rfl (x_indexA rfl rfl rfl rfl rfl rfl rfl rfl (by omega) (by omega) (by rfl)) ?_) | (first | ((with_reducible refine g_load ?_); refine k_read rfl (h := ?_)) | ((with_reducible refine g_len ?_); refine k_len rfl (h := ?_)) | ((with_reducible refine g_index ?_); refine k_idx rfl (h := ?_)) | ((with_reducible refine g_field ?_); refine k_fld rfl (h := ?_)) | ((with_reducible refine g_store ?_); refine wl_of rfl ?_; first | (refine k_sta hS rfl rfl rfl (h := ?_); clear hS; intro w' hS; simp only [List.take, List.drop, List.cons_append, List.nil_append, List.length_cons, List.length_nil] at hS) | (first | ((first | (refine k_st1 (v := .int _ _) hS rfl rfl rfl (h := ?_)) | (refine k_st1 (v := .bool _) hS rfl rfl rfl (h := ?_)) | (refine k_st1 (v := .string _) hS rfl rfl rfl (h := ?_)) | (refine k_st1 (v := .slice none 0 0) hS rfl rfl rfl (h := ?_))); clear hS; intro w' hS; simp only [List.set_cons_zero, List.set_cons_succ] at hS) | ((refine k_st1  hS rfl rfl rfl (h := ?_)); clear hS; intro w' hS; simp only [List.set_cons_zero, List.set_cons_succ] at hS; simp only [Act.eval, Array.getD_eq_getD_getElem?, List.getElem?_toArray, List.getElem?_cons_succ, List.getElem?_cons_zero, Option.getD_some] at hS)) | (first | (refine k_ste (v := .int _ _) hS rfl rfl rfl (h := ?_); clear hS; intro w' hS) | (refine k_ste (v := .bool _) hS rfl rfl rfl (h := ?_); clear hS; intro w' hS) | (refine k_ste (v := .string _) hS rfl rfl rfl (h := ?_); clear hS; intro w' hS))) | ((with_reducible refine g_alloc ?_); refine wl_of rfl ?_; refine wp_alloc hS rfl rfl rfl rfl ?_; clear hS; intro gb w1 hS) | ((with_reducible refine g_box ?_); refine wl_of rfl ?_; refine wp_box hS rfl rfl rfl ?_; clear hS; intro gb w1 hS) | ((with_reducible refine g_bs ?_); refine wl_of rfl ?_; (first | refine a_build1 (v := .int _ _) hS rfl rfl rfl rfl (by rfl) (by simp) ?_ | refine a_build1 (v := .string _) hS rfl rfl rfl rfl (by rfl) (by simp) ?_ | refine a_build1 (v := .bool _) hS rfl rfl rfl rfl (by rfl) (by simp) ?_ | refine a_build1 (v := .agg _) hS rfl rfl rfl rfl (by rfl) (by simp) ?_ | refine a_build1  hS rfl rfl rfl rfl (by rfl) (by simp) ?_); clear hS; intro v1 w' hS; simp only [List.length_cons, List.length_nil, Nat.zero_add] at hS; try simp only [Nat.reduceAdd] at hS) | ((with_reducible refine g_cut ?_); refine k_str rfl (h := ?_)) | ((with_reducible refine g_indexV ?_); refine k_six rfl (h := ?_)) | ((with_reducible refine g_bin ?_); refine k_cat rfl (h := ?_)) | ((with_reducible refine g_conv ?_); refine k_tos rfl (h := ?_)) | ((with_reducible refine wl_guard ?_); refine stop_mem rfl rfl ?_)))
        refine ⟨⟨3, by omega, by rw [hpn]; first | go_num | (push_cast; rfl), by go_num, by rw [Q3.out]; exact hS⟩, by simp [intOf]⟩
      · rw [Q3.out] at hS
        have H := H4
        obtain ⟨p, hp⟩ : ∃ p, pre.length + 8 * 3 = p := ⟨_, rfl⟩
        rw [hp] at H ⊢
        have hpb : (p : Int) ≤ 100000100 := by omega
        have hpn : pre.length + 8 * 4 = p + 8 := by omega
        clear hp
        go_wp2_with (first | (go_at_call 46; refine (H.out _ _ hS (RR.out _ hS.tail)).mono ?_; clear hS; rintro e w' ⟨rfl, hS⟩) | ((with_reducible refine g_indexV ?_); refine wl_run rfl (x_indexA rfl rfl rfl rfl rfl rfl rfl rfl (by omega) (by omega) (by rfl)) ?_) | (first | ((with_reducible refine g_load ?_); refine k_read rfl (h := ?_)) | ((with_reducible refine g_len ?_); refine k_len rfl (h := ?_)) | ((with_reducible refine g_index ?_); refine k_idx rfl (h := ?_)) | ((with_reducible refine g_field ?_); refine k_fld rfl (h := ?_)) | ((with_reducible refine g_store ?_); refine wl_of rfl ?_; first | (refine k_sta hS rfl rfl rfl (h := ?_); clear hS; intro w' hS; simp only [List.take, List.drop, List.cons_append, List.nil_append, List.length_cons, List.length_nil] at hS) | (first | ((first | (refine k_st1 (v := .int _ _) hS rfl rfl rfl (h := ?_)) | (refine k_st1 (v := .bool _) hS rfl rfl rfl (h := ?_)) | (refine k_st1 (v := .string _) hS rfl rfl rfl (h := ?_)) | (refine k_st1 (v := .slice none 0 0) hS rfl rfl rfl (h := ?_))); clear hS; intro w' hS; simp only [List.set_cons_zero, List.set_cons_succ] at hS) | ((refine k_st1  hS rfl rfl rfl (h := ?_)); clear hS; intro w' hS; simp only [List.set_cons_zero, List.set_cons_succ] at hS; simp only [Act.eval, Array.getD_eq_getD_getElem?, List.getElem?_toArray, List.getElem?_cons_succ, List.getElem?_cons_zero, Option.getD_some] at hS)) | (first | (refine k_ste (v := .int _ _) hS rfl rfl rfl (h := ?_); clear hS; intro w' hS) | (refine k_ste (v := .bool _) hS rfl rfl rfl (h := ?_); clear hS; intro w' hS) | (refine k_ste (v := .string _) hS rfl rfl rfl (h := ?_); clear hS; intro w' hS))) | ((with_reducible refine g_alloc ?_); refine wl_of rfl ?_; refine wp_alloc hS rfl rfl rfl rfl ?_; clear hS; intro gb w1 hS) | ((with_reducible refine g_box ?_); refine wl_of rfl ?_; refine wp_box hS rfl rfl rfl ?_; clear hS; intro gb w1 hS) | ((with_reducible refine g_bs ?_); refine wl_of rfl ?_; (first | refine a_build1 (v := .int _ _) hS rfl rfl rfl rfl (by rfl) (by simp) ?_ | refine a_build1 (v := .string _) hS rfl rfl rfl rfl (by rfl) (by simp) ?_ | refine a_build1 (v := .bool _) hS rfl rfl rfl rfl (by rfl) (by simp) ?_ | refine a_build1 (v := .agg _) hS rfl rfl rfl rfl (by rfl) (by simp) ?_ | refine a_build1  hS rfl rfl rfl rfl (by rfl) (by simp) ?_); clear hS; intro v1 w' hS; simp only [List.length_cons, List.length_nil, Nat.zero_add] at hS; try simp only [Nat.reduceAdd] at hS) | ((with_reducible refine g_cut ?_); refine k_str rfl (h := ?_)) | ((with_reducible refine g_indexV ?_); refine k_six rfl (h := ?_)) | ((with_reducible refine g_bin ?_); refine k_cat rfl (h := ?_)) | ((with_reducible refine g_conv ?_); refine k_tos rfl (h := ?_)) | ((with_reducible refine wl_guard ?_); refine stop_mem rfl rfl ?_)))
        refine ⟨⟨4, by omega, by rw [hpn]; first | go_num | (push_cast; rfl), by go_num, by rw [Q4.out]; exact hS⟩, by simp [intOf]⟩
    · obtain rfl : i = 4 := by omega
      rw [Q4.out] at hS
      have H := H5
      obtain ⟨p, hp⟩ : ∃ p, pre.length + 8 * 4 = p := ⟨_, rfl⟩
      rw [hp] at H ⊢
      clear hp
      go_wp2_with (first | (go_at_call 47; refine (H.out _ _ hS (fun W hW => RR.out _ hW.tail)).mono ?_; clear hS; rintro e w' ⟨rfl, hS⟩; rw [← HRQ.out] at hS) | (first | ((with_reducible refine g_load ?_); refine k_read rfl (h := ?_)) | ((with_reducible refine g_len ?_); refine k_len rfl (h := ?_)) | ((with_reducible refine g_index ?_); refine k_idx rfl (h := ?_)) | ((with_reducible refine g_field ?_); refine k_fld rfl (h := ?_)) | ((with_reducible refine g_store ?_); refine wl_of rfl ?_; first | (refine k_sta hS rfl rfl rfl (h := ?_); clear hS; intro w' hS; simp only [List.take, List.drop, List.cons_append, List.nil_append, List.length_cons, List.length_nil] at hS) | (first | ((first | (refine k_st1 (v := .int _ _) hS rfl rfl rfl (h := ?_)) | (refine k_st1 (v := .bool _) hS rfl rfl rfl (h := ?_)) | (refine k_st1 (v := .string _) hS rfl rfl rfl (h := ?_)) | (refine k_st1 (v := .slice none 0 0) hS rfl rfl rfl (h := ?_))); clear hS; intro w' hS; simp only [List.set_cons_zero, List.set_cons_succ] at hS) | ((refine k_st1  hS rfl rfl rfl (h := ?_)); clear hS; intro w' hS; simp only [List.set_cons_zero, List.set_cons_succ] at hS; simp only [Act.eval, Array.getD_eq_getD_getElem?, List.getElem?_toArray, List.getElem?_cons_succ, List.getElem?_cons_zero, Option.getD_some] at hS)) | (first | (refine k_ste (v := .int _ _) hS rfl rfl rfl (h := ?_); clear hS; intro w' hS) | (refine k_ste (v := .bool _) hS rfl rfl rfl (h := ?_); clear hS; intro w' hS) | (refine k_ste (v := .string _) hS rfl rfl rfl (h := ?_); clear hS; intro w' hS))) | ((with_reducible refine g_alloc ?_); refine wl_of rfl ?_; refine wp_alloc hS rfl rfl rfl rfl ?_; clear hS; intro gb w1 hS) | ((with_reducible refine g_box ?_); refine wl_of rfl ?_; refine wp_box hS rfl rfl rfl ?_; clear hS; intro gb w1 hS) | ((with_reducible refine g_bs ?_); refine wl_of rfl ?_; (first | refine a_build1 (v := .int _ _) hS rfl rfl rfl rfl (by rfl) (by simp) ?_ | refine a_build1 (v := .string _) hS rfl rfl rfl rfl (by rfl) (by simp) ?_ | refine a_build1 (v := .bool _) hS rfl rfl rfl rfl (by rfl) (by simp) ?_ | refine a_build1 (v := .agg _) hS rfl rfl rfl rfl (by rfl) (by simp) ?_ | refine a_build1  hS rfl rfl rfl rfl (by rfl) (by simp) ?_); clear hS; intro v1 w' hS; simp only [List.length_cons, List.length_nil, Nat.zero_add] at hS; try simp only [Nat.reduceAdd] at hS) | ((with_reducible refine g_cut ?_); refine k_str rfl (h := ?_)) | ((with_reducible refine g_indexV ?_); refine k_six rfl (h := ?_)) | ((with_reducible refine g_bin ?_); refine k_cat rfl (h := ?_)) | ((with_reducible refine g_conv ?_); refine k_tos rfl (h := ?_)) | ((with_reducible refine wl_guard ?_); refine stop_mem rfl rfl ?_)))
      refine end_cell3 hS rfl rfl rfl rfl rfl rfl rfl (h := ⟨?_, hS.tail.tail⟩)
      rw [HE.out]
      simp [Ses.cells]
      try omega
end
end Go.Proofs.Ytnojcgaoepfcdaa
