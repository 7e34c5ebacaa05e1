/-
  Numbers and texts behind bytes: what the program's num says, of bytes that are told by entries.
-/
import Derived.Test.YtnojcgaoepfcdaaNumPut
import Derived.Test.YtnojcgaoepfcdaaNumTake
import Derived.Test.YtnojcgaoepfcdaaAuto
namespace Go.Cmp
open Go.RowKit
/-- A text, its length ahead. -/
def txt (t : List UInt8) : List UInt8 := leB 2 t.length ++ t
theorem txt_length (t : List UInt8) : (txt t).length = t.length + 2 := by unfold txt; rw [List.length_append, leB_length]; omega
/-- A number from a place on. -/
def takeN (l : List UInt8) (i k : Nat) : Nat × Int := if l.length < i + k then (0, 3) else (leN ((l.drop i).take k), 0)
/-- A text from a place on, and the place behind it. -/
def takeT (l : List UInt8) (i : Nat) (most : Int) : List UInt8 × Int × Int :=
  if l.length < i + 2 then ([], 0, 3)
  else if most < leN ((l.drop i).take 2) then ([], 0, 5)
  else if l.length < i + 2 + leN ((l.drop i).take 2) then ([], 0, 3)
  else ((l.drop (i + 2)).take (leN ((l.drop i).take 2)), i + 2 + leN ((l.drop i).take 2), 0)
end Go.Cmp
namespace Go.Proofs.Ytnojcgaoepfcdaa
open Go.RowKit Go.Cmp

theorem Rd_seg {α : Type} {f : α → List Value} {w : World} {k : Nat} {v : Value} {L : List α} (h : Rd w k v L.length (L.flatMap f)) (hf : ∀ x, (f x).length = k) (a b : Nat) (h1 : a ≤ b) (h2 : b ≤ L.length) :
    Rd w k (cutSl v k a b) ((L.drop a).take (b - a)).length (((L.drop a).take (b - a)).flatMap f) := by
  have h3 := h.cut a b h1 h2
  rw [flat_take hf, flat_drop hf, List.drop_take] at h3
  have e : ((L.drop a).take (b - a)).length = b - a := by simp; omega
  rw [e]
  exact h3

section
variable {S : List Nat} {w0 w : World} {M : List Ent}

theorem num_put (hS : St S w0 w M) {v : Value} {l : List UInt8} (x : Int) (k : Nat) (hk1 : 1 ≤ k) (hk : k ≤ 8) (h0 : 0 ≤ x) (hx : x < 256 ^ k) (hl : l.length + 8 ≤ 140737488355328) (hR : Rd w 1 v l.length (l.flatMap byt)) :
    Calls Try.prog 35 #[v, .int .u64 x, .int .i64 k] w fun e w' => ∃ v', e = .returned (.tuple #[v', .int .i64 0]) ∧ St S w0 w' (.vec v' 5 1 (l ++ leB k x.toNat).length ((l ++ leB k x.toNat).flatMap byt) :: M) := by
  obtain ⟨n, rfl⟩ := Int.eq_ofNat_of_zero_le h0
  rw [← B_flat] at hR
  refine (put_in l v n k w hk1 hk (by rw [← Int.ofNat_lt, Int.natCast_pow]; exact hx) hl hR).mono ?_
  rintro e w' ⟨v', rfl, h⟩
  have h2 := hS.call h
  refine ⟨v', rfl, ?_⟩
  rw [Int.toNat_natCast, ← B_flat, List.length_append, leB_length]
  exact h2

theorem len_bytes (n : Nat) (h : n ≤ 65535) : leB 2 n = [UInt8.ofNat (n % 256), UInt8.ofNat (n / 256)] := by
  show [UInt8.ofNat (n % 256), UInt8.ofNat (n / 256 % 256)] = _
  rw [show n / 256 % 256 = n / 256 by omega]

set_option maxHeartbeats 1000000 in
theorem num_putText (hS : St S w0 w M) {v : Value} {l : List UInt8} (t : List UInt8) (ht : t.length ≤ 65535) (hl : l.length ≤ 100000000000000) (hR : Reads S w0 M 1 v l.length (l.flatMap byt)) :
    Calls Try.prog 36 #[v, .string ⟨t.toArray⟩] w fun e w' => ∃ v', e = .returned (.tuple #[v', .int .i64 0]) ∧ St S w0 w' (.vec v' 5 1 (l ++ txt t).length ((l ++ txt t).flatMap byt) :: M) := by
  have ht1 : (t.length : Int) ≤ 65535 := by omega
  have htm : t.length ≤ maxLen := by unfold maxLen; omega
  (go_enter Try.func36, Try.ntmps36)
  have hb : ∀ u ∈ [Value.int .u8 ((t.length : Int) % 256), Value.int .u8 ((t.length : Int) / 256)], u.cells = #[u] := by
    intro u hu
    simp only [List.mem_cons, List.not_mem_nil, or_false] at hu
    rcases hu with rfl | rfl <;> rfl
  have hb2 : [Value.int .u8 ((t.length : Int) % 256), Value.int .u8 ((t.length : Int) / 256)] = (leB 2 t.length).flatMap byt := by
    rw [len_bytes _ ht]
    simp [byt]
    omega
  have HB2 := Lib.hid hb2
  clear hb2
  have hS0 := hS
  clear hS
  have hS := hS0
  clear hS0
  go_wp2_with (first
    | ((with_reducible refine g_bs ?_); refine wl_of rfl ?_; refine wp_buildSlice1 (vs := [Value.int .u8 ((t.length : Int) % 256), Value.int .u8 ((t.length : Int) / 256)]) hS rfl rfl rfl rfl rfl rfl (by decide) ⟨rfl, hb⟩ ?_; clear hS; intro vb w1 hS; rw [HB2.out] at hS)
    | ((with_reducible refine g_conv ?_); refine wl_of rfl ?_; refine a_toBytes hS rfl rfl rfl rfl rfl htm ?_; clear hS; intro vt w1 hS)
    | ((with_reducible refine g_bs ?_); refine wl_of rfl ?_; refine wp_buildSlice1 (vs := [v, vb, vt]) hS rfl rfl rfl rfl rfl rfl (by decide) ⟨rfl, ?_⟩ ?_; rotate_left; clear hS; intro vs w1 hS)
    | (first | ((with_reducible refine g_load ?_); refine k_read rfl (h := ?_)) | ((with_reducible refine g_len ?_); refine k_len rfl (h := ?_)) | ((with_reducible refine g_index ?_); refine k_idx rfl (h := ?_)) | ((with_reducible refine g_field ?_); refine k_fld rfl (h := ?_)) | ((with_reducible refine g_store ?_); refine wl_of rfl ?_; first | (refine k_sta hS rfl rfl rfl (h := ?_); clear hS; intro w' hS; simp only [List.take, List.drop, List.cons_append, List.nil_append, List.length_cons, List.length_nil] at hS) | (first | ((first | (refine k_st1 (v := .int _ _) hS rfl rfl rfl (h := ?_)) | (refine k_st1 (v := .bool _) hS rfl rfl rfl (h := ?_)) | (refine k_st1 (v := .string _) hS rfl rfl rfl (h := ?_)) | (refine k_st1 (v := .slice none 0 0) hS rfl rfl rfl (h := ?_))); clear hS; intro w' hS; simp only [List.set_cons_zero, List.set_cons_succ] at hS) | ((refine k_st1  hS rfl rfl rfl (h := ?_)); clear hS; intro w' hS; simp only [List.set_cons_zero, List.set_cons_succ] at hS; simp only [Act.eval, Array.getD_eq_getD_getElem?, List.getElem?_toArray, List.getElem?_cons_succ, List.getElem?_cons_zero, Option.getD_some] at hS)) | (first | (refine k_ste (v := .int _ _) hS rfl rfl rfl (h := ?_); clear hS; intro w' hS) | (refine k_ste (v := .bool _) hS rfl rfl rfl (h := ?_); clear hS; intro w' hS) | (refine k_ste (v := .string _) hS rfl rfl rfl (h := ?_); clear hS; intro w' hS))) | ((with_reducible refine g_alloc ?_); refine wl_of rfl ?_; refine wp_alloc hS rfl rfl rfl rfl ?_; clear hS; intro gb w1 hS) | ((with_reducible refine g_box ?_); refine wl_of rfl ?_; refine wp_box hS rfl rfl rfl ?_; clear hS; intro gb w1 hS) | ((with_reducible refine g_bs ?_); refine wl_of rfl ?_; (first | refine a_build1 (v := .int _ _) hS rfl rfl rfl rfl (by rfl) (by simp) ?_ | refine a_build1 (v := .string _) hS rfl rfl rfl rfl (by rfl) (by simp) ?_ | refine a_build1 (v := .bool _) hS rfl rfl rfl rfl (by rfl) (by simp) ?_ | refine a_build1 (v := .agg _) hS rfl rfl rfl rfl (by rfl) (by simp) ?_ | refine a_build1  hS rfl rfl rfl rfl (by rfl) (by simp) ?_); clear hS; intro v1 w' hS; simp only [List.length_cons, List.length_nil, Nat.zero_add] at hS; try simp only [Nat.reduceAdd] at hS) | ((with_reducible refine g_cut ?_); refine k_str rfl (h := ?_)) | ((with_reducible refine g_indexV ?_); refine k_six rfl (h := ?_)) | ((with_reducible refine g_bin ?_); refine k_cat rfl (h := ?_)) | ((with_reducible refine g_conv ?_); refine k_tos rfl (h := ?_)) | ((with_reducible refine wl_guard ?_); refine stop_mem rfl rfl ?_)))
  case refine_1 =>
    intro u hu
    simp only [List.mem_cons, List.not_mem_nil, or_false] at hu
    rcases hu with rfl | rfl | rfl
    · exact (hR.at hS (by (repeat (first | exact List.Sublist.refl _ | apply List.Sublist.cons)))).cells
    · exact (hS.rdx (by (repeat (first | exact Ix.here | apply Ix.there)))).cells
    · exact (hS.rdx (by (repeat (first | exact Ix.here | apply Ix.there)))).cells
  refine (join_any [l, leB 2 t.length, t] [v, vb, vt] vs 3 _ rfl (by omega) (by omega) (hS.rdx (by (repeat (first | exact Ix.here | apply Ix.there)))) (parts3 (by rw [B_flat]; exact hR.at hS (by (repeat (first | exact List.Sublist.refl _ | apply List.Sublist.cons)))) (by rw [B_flat]; exact hS.rdx (by (repeat (first | exact Ix.here | apply Ix.there)))) (by rw [B_flat]; exact hS.rdx (by (repeat (first | exact Ix.here | apply Ix.there))))) (by simp [leB_length]; omega)).mono ?_
  rintro e w' ⟨v', rfl, h⟩
  have h2 := hS.call h
  go_wp2
  go_ret2
  refine ⟨v', rfl, ?_⟩
  have e9 : [l, leB 2 t.length, t].flatten = l ++ txt t := by simp [txt]
  rw [e9, B_flat] at h2
  exact h2.pick

theorem num_take (hS : St S w0 w M) {v : Value} {l : List UInt8} (i k : Nat) (hk1 : 1 ≤ k) (hk : k ≤ 8) (hl : l.length ≤ 140737488355328) (hR : Rd w 1 v l.length (l.flatMap byt)) :
    Calls Try.prog 46 #[v, .int .i64 i, .int .i64 k] w fun e w' => e = .returned (.tuple #[.int .u64 ((takeN l i k).1 : Nat), .int .i64 (takeN l i k).2]) ∧ St S w0 w' M := by
  rw [← B_flat] at hR
  unfold takeN
  split
  · refine (take_short l v i k w hk1 hk (by assumption) hR).mono ?_
    rintro e w' ⟨rfl, h⟩
    exact ⟨rfl, hS.call h⟩
  · refine (take_in l v i k w hk1 hk (by omega) hl hR).mono ?_
    rintro e w' ⟨rfl, h⟩
    exact ⟨rfl, hS.call h⟩

set_option maxRecDepth 100000 in
set_option maxHeartbeats 1000000 in
theorem num_takeText (hS : St S w0 w M) {v : Value} {l : List UInt8} (i : Nat) (most : Int) (hl : l.length ≤ 140737488355328) (hi : i ≤ 140737488355328) (hR : Reads S w0 M 1 v l.length (l.flatMap byt)) :
    Calls Try.prog 47 #[v, .int .i64 i, .int .i64 most] w fun e w' => e = .returned (.tuple #[.string ⟨(takeT l i most).1.toArray⟩, .int .i64 (takeT l i most).2.1, .int .i64 (takeT l i most).2.2]) ∧ St S w0 w' M := by
  have HT := Lib.hid (fun (w : World) (hS : St S w0 w M) => num_take hS i 2 (by omega) (by omega) hl (hR w hS))
  by_cases h1 : l.length < i + 2
  · have e1 : takeN l i 2 = (0, 3) := by unfold takeN; rw [if_pos h1]
    have e2 : takeT l i most = ([], 0, 3) := by unfold takeT; rw [if_pos h1]
    rw [e1] at HT
    rw [e2]
    clear e1 e2
    (go_enter Try.func47, Try.ntmps47)
    go_wp2_with (first | (go_at_call 46; refine (HT.out _ hS).mono ?_; clear hS; rintro e w' ⟨rfl, hS⟩) | (first | ((with_reducible refine g_load ?_); refine k_read rfl (h := ?_)) | ((with_reducible refine g_len ?_); refine k_len rfl (h := ?_)) | ((with_reducible refine g_index ?_); refine k_idx rfl (h := ?_)) | ((with_reducible refine g_field ?_); refine k_fld rfl (h := ?_)) | ((with_reducible refine g_store ?_); refine wl_of rfl ?_; first | (refine k_sta hS rfl rfl rfl (h := ?_); clear hS; intro w' hS; simp only [List.take, List.drop, List.cons_append, List.nil_append, List.length_cons, List.length_nil] at hS) | (first | ((first | (refine k_st1 (v := .int _ _) hS rfl rfl rfl (h := ?_)) | (refine k_st1 (v := .bool _) hS rfl rfl rfl (h := ?_)) | (refine k_st1 (v := .string _) hS rfl rfl rfl (h := ?_)) | (refine k_st1 (v := .slice none 0 0) hS rfl rfl rfl (h := ?_))); clear hS; intro w' hS; simp only [List.set_cons_zero, List.set_cons_succ] at hS) | ((refine k_st1  hS rfl rfl rfl (h := ?_)); clear hS; intro w' hS; simp only [List.set_cons_zero, List.set_cons_succ] at hS; simp only [Act.eval, Array.getD_eq_getD_getElem?, List.getElem?_toArray, List.getElem?_cons_succ, List.getElem?_cons_zero, Option.getD_some] at hS)) | (first | (refine k_ste (v := .int _ _) hS rfl rfl rfl (h := ?_); clear hS; intro w' hS) | (refine k_ste (v := .bool _) hS rfl rfl rfl (h := ?_); clear hS; intro w' hS) | (refine k_ste (v := .string _) hS rfl rfl rfl (h := ?_); clear hS; intro w' hS))) | ((with_reducible refine g_alloc ?_); refine wl_of rfl ?_; refine wp_alloc hS rfl rfl rfl rfl ?_; clear hS; intro gb w1 hS) | ((with_reducible refine g_box ?_); refine wl_of rfl ?_; refine wp_box hS rfl rfl rfl ?_; clear hS; intro gb w1 hS) | ((with_reducible refine g_bs ?_); refine wl_of rfl ?_; (first | refine a_build1 (v := .int _ _) hS rfl rfl rfl rfl (by rfl) (by simp) ?_ | refine a_build1 (v := .string _) hS rfl rfl rfl rfl (by rfl) (by simp) ?_ | refine a_build1 (v := .bool _) hS rfl rfl rfl rfl (by rfl) (by simp) ?_ | refine a_build1 (v := .agg _) hS rfl rfl rfl rfl (by rfl) (by simp) ?_ | refine a_build1  hS rfl rfl rfl rfl (by rfl) (by simp) ?_); clear hS; intro v1 w' hS; simp only [List.length_cons, List.length_nil, Nat.zero_add] at hS; try simp only [Nat.reduceAdd] at hS) | ((with_reducible refine g_cut ?_); refine k_str rfl (h := ?_)) | ((with_reducible refine g_indexV ?_); refine k_six rfl (h := ?_)) | ((with_reducible refine g_bin ?_); refine k_cat rfl (h := ?_)) | ((with_reducible refine g_conv ?_); refine k_tos rfl (h := ?_)) | ((with_reducible refine wl_guard ?_); refine stop_mem rfl rfl ?_)))
    go_ret3
    exact ⟨rfl, hS⟩
  have e1 : takeN l i 2 = (leN ((l.drop i).take 2), 0) := by unfold takeN; rw [if_neg h1]
  rw [e1] at HT
  obtain ⟨n, hn⟩ : ∃ n, leN ((l.drop i).take 2) = n := ⟨_, rfl⟩
  have hn2 : n < 65536 := by
    have := leN_lt ((l.drop i).take 2)
    have h3 : ((l.drop i).take 2).length = 2 := by simp; omega
    rw [h3, hn] at this
    omega
  have eT : takeT l i most = if most < (n : Int) then ([], 0, 5) else if l.length < i + 2 + n then ([], 0, 3) else ((l.drop (i + 2)).take n, (i : Int) + 2 + n, 0) := by unfold takeT; rw [if_neg h1, hn]
  rw [hn] at HT
  rw [eT]
  clear eT e1 hn
  have hn3 : (n : Int) < 65536 := by omega
  by_cases h2 : most < (n : Int)
  · rw [if_pos h2]
    (go_enter Try.func47, Try.ntmps47)
    go_wp2_with (first | (go_at_call 46; refine (HT.out _ hS).mono ?_; clear hS; rintro e w' ⟨rfl, hS⟩) | ((with_reducible refine g_len ?_); refine wl_run rfl (a_len rfl rfl rfl (hR _ hS)) ?_) | (first | ((with_reducible refine g_load ?_); refine k_read rfl (h := ?_)) | ((with_reducible refine g_len ?_); refine k_len rfl (h := ?_)) | ((with_reducible refine g_index ?_); refine k_idx rfl (h := ?_)) | ((with_reducible refine g_field ?_); refine k_fld rfl (h := ?_)) | ((with_reducible refine g_store ?_); refine wl_of rfl ?_; first | (refine k_sta hS rfl rfl rfl (h := ?_); clear hS; intro w' hS; simp only [List.take, List.drop, List.cons_append, List.nil_append, List.length_cons, List.length_nil] at hS) | (first | ((first | (refine k_st1 (v := .int _ _) hS rfl rfl rfl (h := ?_)) | (refine k_st1 (v := .bool _) hS rfl rfl rfl (h := ?_)) | (refine k_st1 (v := .string _) hS rfl rfl rfl (h := ?_)) | (refine k_st1 (v := .slice none 0 0) hS rfl rfl rfl (h := ?_))); clear hS; intro w' hS; simp only [List.set_cons_zero, List.set_cons_succ] at hS) | ((refine k_st1  hS rfl rfl rfl (h := ?_)); clear hS; intro w' hS; simp only [List.set_cons_zero, List.set_cons_succ] at hS; simp only [Act.eval, Array.getD_eq_getD_getElem?, List.getElem?_toArray, List.getElem?_cons_succ, List.getElem?_cons_zero, Option.getD_some] at hS)) | (first | (refine k_ste (v := .int _ _) hS rfl rfl rfl (h := ?_); clear hS; intro w' hS) | (refine k_ste (v := .bool _) hS rfl rfl rfl (h := ?_); clear hS; intro w' hS) | (refine k_ste (v := .string _) hS rfl rfl rfl (h := ?_); clear hS; intro w' hS))) | ((with_reducible refine g_alloc ?_); refine wl_of rfl ?_; refine wp_alloc hS rfl rfl rfl rfl ?_; clear hS; intro gb w1 hS) | ((with_reducible refine g_box ?_); refine wl_of rfl ?_; refine wp_box hS rfl rfl rfl ?_; clear hS; intro gb w1 hS) | ((with_reducible refine g_bs ?_); refine wl_of rfl ?_; (first | refine a_build1 (v := .int _ _) hS rfl rfl rfl rfl (by rfl) (by simp) ?_ | refine a_build1 (v := .string _) hS rfl rfl rfl rfl (by rfl) (by simp) ?_ | refine a_build1 (v := .bool _) hS rfl rfl rfl rfl (by rfl) (by simp) ?_ | refine a_build1 (v := .agg _) hS rfl rfl rfl rfl (by rfl) (by simp) ?_ | refine a_build1  hS rfl rfl rfl rfl (by rfl) (by simp) ?_); clear hS; intro v1 w' hS; simp only [List.length_cons, List.length_nil, Nat.zero_add] at hS; try simp only [Nat.reduceAdd] at hS) | ((with_reducible refine g_cut ?_); refine k_str rfl (h := ?_)) | ((with_reducible refine g_indexV ?_); refine k_six rfl (h := ?_)) | ((with_reducible refine g_bin ?_); refine k_cat rfl (h := ?_)) | ((with_reducible refine g_conv ?_); refine k_tos rfl (h := ?_)) | ((with_reducible refine wl_guard ?_); refine stop_mem rfl rfl ?_)))
    go_ret3
    exact ⟨rfl, hS⟩
  rw [if_neg h2]
  by_cases h3 : l.length < i + 2 + n
  · rw [if_pos h3]
    have h4 : decide ((l.length : Int) - i - 2 < n) = true := decide_eq_true (by omega)
    have h5 : decide (most < (n : Int)) = false := decide_eq_false h2
    have s1 : IntKind.i64.wrap ((l.length : Int) - i) = l.length - i := IntWalk.i64_in _ (by omega)
    have s2 : IntKind.i64.wrap ((l.length : Int) - i - 2) = l.length - i - 2 := IntWalk.i64_in _ (by omega)
    clear h1 h2 h3
    (go_enter Try.func47, Try.ntmps47)
    go_wp2_with (first | (go_at_call 46; refine (HT.out _ hS).mono ?_; clear hS; rintro e w' ⟨rfl, hS⟩) | ((with_reducible refine g_len ?_); refine wl_run rfl (a_len rfl rfl rfl (hR _ hS)) ?_) | (first | ((with_reducible refine g_load ?_); refine k_read rfl (h := ?_)) | ((with_reducible refine g_len ?_); refine k_len rfl (h := ?_)) | ((with_reducible refine g_index ?_); refine k_idx rfl (h := ?_)) | ((with_reducible refine g_field ?_); refine k_fld rfl (h := ?_)) | ((with_reducible refine g_store ?_); refine wl_of rfl ?_; first | (refine k_sta hS rfl rfl rfl (h := ?_); clear hS; intro w' hS; simp only [List.take, List.drop, List.cons_append, List.nil_append, List.length_cons, List.length_nil] at hS) | (first | ((first | (refine k_st1 (v := .int _ _) hS rfl rfl rfl (h := ?_)) | (refine k_st1 (v := .bool _) hS rfl rfl rfl (h := ?_)) | (refine k_st1 (v := .string _) hS rfl rfl rfl (h := ?_)) | (refine k_st1 (v := .slice none 0 0) hS rfl rfl rfl (h := ?_))); clear hS; intro w' hS; simp only [List.set_cons_zero, List.set_cons_succ] at hS) | ((refine k_st1  hS rfl rfl rfl (h := ?_)); clear hS; intro w' hS; simp only [List.set_cons_zero, List.set_cons_succ] at hS; simp only [Act.eval, Array.getD_eq_getD_getElem?, List.getElem?_toArray, List.getElem?_cons_succ, List.getElem?_cons_zero, Option.getD_some] at hS)) | (first | (refine k_ste (v := .int _ _) hS rfl rfl rfl (h := ?_); clear hS; intro w' hS) | (refine k_ste (v := .bool _) hS rfl rfl rfl (h := ?_); clear hS; intro w' hS) | (refine k_ste (v := .string _) hS rfl rfl rfl (h := ?_); clear hS; intro w' hS))) | ((with_reducible refine g_alloc ?_); refine wl_of rfl ?_; refine wp_alloc hS rfl rfl rfl rfl ?_; clear hS; intro gb w1 hS) | ((with_reducible refine g_box ?_); refine wl_of rfl ?_; refine wp_box hS rfl rfl rfl ?_; clear hS; intro gb w1 hS) | ((with_reducible refine g_bs ?_); refine wl_of rfl ?_; (first | refine a_build1 (v := .int _ _) hS rfl rfl rfl rfl (by rfl) (by simp) ?_ | refine a_build1 (v := .string _) hS rfl rfl rfl rfl (by rfl) (by simp) ?_ | refine a_build1 (v := .bool _) hS rfl rfl rfl rfl (by rfl) (by simp) ?_ | refine a_build1 (v := .agg _) hS rfl rfl rfl rfl (by rfl) (by simp) ?_ | refine a_build1  hS rfl rfl rfl rfl (by rfl) (by simp) ?_); clear hS; intro v1 w' hS; simp only [List.length_cons, List.length_nil, Nat.zero_add] at hS; try simp only [Nat.reduceAdd] at hS) | ((with_reducible refine g_cut ?_); refine k_str rfl (h := ?_)) | ((with_reducible refine g_indexV ?_); refine k_six rfl (h := ?_)) | ((with_reducible refine g_bin ?_); refine k_cat rfl (h := ?_)) | ((with_reducible refine g_conv ?_); refine k_tos rfl (h := ?_)) | ((with_reducible refine wl_guard ?_); refine stop_mem rfl rfl ?_)))
    go_ret3
    exact ⟨rfl, hS⟩
  · rw [if_neg h3]
    have h4 : decide ((l.length : Int) - i - 2 < n) = false := decide_eq_false (by omega)
    have h5 : decide (most < (n : Int)) = false := decide_eq_false h2
    have s1 : IntKind.i64.wrap ((l.length : Int) - i) = l.length - i := IntWalk.i64_in _ (by omega)
    have s2 : IntKind.i64.wrap ((l.length : Int) - i - 2) = l.length - i - 2 := IntWalk.i64_in _ (by omega)
    have c1 : (0 : Int) ≤ (i : Int) + 2 := by omega
    have c2 : (i : Int) + 2 ≤ (i : Int) + 2 + n := by omega
    have c3 : (i : Int) + 2 + n ≤ (l.length : Int) := by omega
    have HC : Hid (∀ W, St S w0 W M → Rd W 1 (cutSl v 1 (i + 2) (i + 2 + n)) ((l.drop (i + 2)).take n).length (((l.drop (i + 2)).take n).flatMap byt)) := Lib.hid (fun W hW => by
      have := Rd_seg (hR W hW) (fun _ => rfl) (i + 2) (i + 2 + n) (by omega) (by omega)
      rw [show i + 2 + n - (i + 2) = n by omega] at this
      exact this)
    clear h1 h2 h3
    (go_enter Try.func47, Try.ntmps47)
    go_wp2_with (first | (go_at_call 46; refine (HT.out _ hS).mono ?_; clear hS; rintro e w' ⟨rfl, hS⟩) | ((with_reducible refine g_len ?_); refine wl_run rfl (a_len rfl rfl rfl (hR _ hS)) ?_) | ((with_reducible refine g_cut ?_); refine wl_run rfl (x_cut rfl (hR _ hS) rfl rfl rfl rfl rfl rfl c1 c2 c3) ?_) | ((with_reducible refine g_conv ?_); refine wl_run rfl (a_toString2 rfl rfl rfl rfl rfl (HC.out _ hS)) ?_) | (first | ((with_reducible refine g_load ?_); refine k_read rfl (h := ?_)) | ((with_reducible refine g_len ?_); refine k_len rfl (h := ?_)) | ((with_reducible refine g_index ?_); refine k_idx rfl (h := ?_)) | ((with_reducible refine g_field ?_); refine k_fld rfl (h := ?_)) | ((with_reducible refine g_store ?_); refine wl_of rfl ?_; first | (refine k_sta hS rfl rfl rfl (h := ?_); clear hS; intro w' hS; simp only [List.take, List.drop, List.cons_append, List.nil_append, List.length_cons, List.length_nil] at hS) | (first | ((first | (refine k_st1 (v := .int _ _) hS rfl rfl rfl (h := ?_)) | (refine k_st1 (v := .bool _) hS rfl rfl rfl (h := ?_)) | (refine k_st1 (v := .string _) hS rfl rfl rfl (h := ?_)) | (refine k_st1 (v := .slice none 0 0) hS rfl rfl rfl (h := ?_))); clear hS; intro w' hS; simp only [List.set_cons_zero, List.set_cons_succ] at hS) | ((refine k_st1  hS rfl rfl rfl (h := ?_)); clear hS; intro w' hS; simp only [List.set_cons_zero, List.set_cons_succ] at hS; simp only [Act.eval, Array.getD_eq_getD_getElem?, List.getElem?_toArray, List.getElem?_cons_succ, List.getElem?_cons_zero, Option.getD_some] at hS)) | (first | (refine k_ste (v := .int _ _) hS rfl rfl rfl (h := ?_); clear hS; intro w' hS) | (refine k_ste (v := .bool _) hS rfl rfl rfl (h := ?_); clear hS; intro w' hS) | (refine k_ste (v := .string _) hS rfl rfl rfl (h := ?_); clear hS; intro w' hS))) | ((with_reducible refine g_alloc ?_); refine wl_of rfl ?_; refine wp_alloc hS rfl rfl rfl rfl ?_; clear hS; intro gb w1 hS) | ((with_reducible refine g_box ?_); refine wl_of rfl ?_; refine wp_box hS rfl rfl rfl ?_; clear hS; intro gb w1 hS) | ((with_reducible refine g_bs ?_); refine wl_of rfl ?_; (first | refine a_build1 (v := .int _ _) hS rfl rfl rfl rfl (by rfl) (by simp) ?_ | refine a_build1 (v := .string _) hS rfl rfl rfl rfl (by rfl) (by simp) ?_ | refine a_build1 (v := .bool _) hS rfl rfl rfl rfl (by rfl) (by simp) ?_ | refine a_build1 (v := .agg _) hS rfl rfl rfl rfl (by rfl) (by simp) ?_ | refine a_build1  hS rfl rfl rfl rfl (by rfl) (by simp) ?_); clear hS; intro v1 w' hS; simp only [List.length_cons, List.length_nil, Nat.zero_add] at hS; try simp only [Nat.reduceAdd] at hS) | ((with_reducible refine g_cut ?_); refine k_str rfl (h := ?_)) | ((with_reducible refine g_indexV ?_); refine k_six rfl (h := ?_)) | ((with_reducible refine g_bin ?_); refine k_cat rfl (h := ?_)) | ((with_reducible refine g_conv ?_); refine k_tos rfl (h := ?_)) | ((with_reducible refine wl_guard ?_); refine stop_mem rfl rfl ?_)))
    go_ret3
    exact ⟨rfl, hS⟩
end
end Go.Proofs.Ytnojcgaoepfcdaa
