/-
  What is taken was sent, or differs in one byte: in plain lists.
-/
import Derived.Test.YtnkgfkioijlkaaaPlays23Law
import Derived.Test.YtnkgfkioijlkaaaCalm2
namespace Go.Cmp
open Go.RowKit
def diffs : List UInt8 → List UInt8 → Nat
  | x :: a, y :: b => (if x = y then 0 else 1) + diffs a b
  | _, _ => 0
theorem diffs_nil (b : List UInt8) : diffs [] b = 0 := by cases b <;> rfl
theorem diffs_succ : ∀ (a b : List UInt8) (j : Nat), j < a.length → j < b.length → diffs (a.take (j + 1)) (b.take (j + 1)) = diffs (a.take j) (b.take j) + (if nth a j = nth b j then 0 else 1)
  | [], _, _, h, _ => by simp at h
  | _ :: _, [], _, _, h => by simp at h
  | x :: a, y :: b, 0, _, _ => by by_cases h : x = y <;> simp [diffs, nth_zero, h]
  | x :: a, y :: b, j + 1, h1, h2 => by
    have := diffs_succ a b j (by simpa using h1) (by simpa using h2)
    rw [List.take_succ_cons, List.take_succ_cons, diffs, this, List.take_succ_cons, List.take_succ_cons, diffs, nth_succ, nth_succ]
    omega
theorem diffs_same : ∀ a : List UInt8, diffs a a = 0
  | [] => rfl
  | x :: a => by simp [diffs, diffs_same a]
theorem diffs_zero : ∀ {a b : List UInt8}, a.length = b.length → diffs a b = 0 → a = b
  | [], [], _, _ => rfl
  | [], _ :: _, h, _ => by simp at h
  | _ :: _, [], h, _ => by simp at h
  | x :: a, y :: b, h, h2 => by
    simp only [diffs] at h2
    by_cases hx : x = y
    · have e := diffs_zero (a := a) (b := b) (by simpa using h) (by rw [if_pos hx] at h2; omega)
      rw [hx, e]
    · rw [if_neg hx] at h2; omega
theorem diffs_set : ∀ (a : List UInt8) (j : Nat) (x : UInt8), diffs a (a.set j x) ≤ 1
  | [], _, _ => by simp [diffs]
  | y :: a, 0, x => by simp only [List.set_cons_zero, diffs, diffs_same]; split <;> omega
  | y :: a, j + 1, x => by simp only [List.set_cons_succ, diffs]; have := diffs_set a j x; simp; exact this
def nearB (a b : List UInt8) : Bool := decide (a.length = b.length) && decide (diffs a b ≤ 1)
def likeB (t s : Pk) : Bool := (s.fr == t.fr && s.to == t.to) && nearB s.data t.data
/-- What stands is what was sent, but for a byte. -/
def Sup (N : Nt) (Q : List Pk) : Prop := ∀ x ∈ N.all, ∃ s ∈ Q, s.fr = x.fr ∧ s.to = x.to ∧ s.data.length = x.data.length ∧ diffs s.data x.data ≤ if x.marked = true then 1 else 0
theorem sup_any {N : Nt} {Q : List Pk} (h : Sup N Q) {x : Pk} (hx : x ∈ N.all) : Q.any (likeB x) = true := by
  obtain ⟨s, hs, h1, h2, h3, h4⟩ := h x hx
  rw [List.any_eq_true]
  refine ⟨s, hs, ?_⟩
  have : diffs s.data x.data ≤ 1 := by split at h4 <;> omega
  simp [likeB, nearB, h1, h2, h3, this]
theorem sup_more {N : Nt} {Q : List Pk} (h : Sup N Q) (z : Pk) : Sup N (Q ++ [z]) := fun x hx => by
  obtain ⟨s, hs, r⟩ := h x hx
  exact ⟨s, by simp [hs], r⟩
theorem sup_add {N N' : Nt} {Q : List Pk} (h : Sup N Q) {y : Pk} (hN : N'.all = N.all ++ [y]) (hy : ∃ s ∈ Q, s.fr = y.fr ∧ s.to = y.to ∧ s.data.length = y.data.length ∧ diffs s.data y.data ≤ if y.marked = true then 1 else 0) : Sup N' Q := fun x hx => by
  rw [hN] at hx
  rcases List.mem_append.1 hx with hx | hx
  · exact h x hx
  · simp only [List.mem_singleton] at hx; subst hx; exact hy
/-- What a call does to the letters that stand. -/
theorem send_says (N : Nt) (fr to : Int) (d : List UInt8) : ((N.send fr to d).2.1 = 0 ∧ (N.send fr to d).2.2.all = N.all ++ [⟨fr, to, d, N.last + 1, false⟩]) ∨ ((N.send fr to d).2.1 ≠ 0 ∧ (N.send fr to d).2.2 = N) := by
  unfold Nt.send Nt.add
  split
  · exact .inr ⟨by simp, rfl⟩
  · split
    · exact .inr ⟨by simp, rfl⟩
    · exact .inl ⟨rfl, rfl⟩
theorem twice_says (N : Nt) (k : Int) : ((N.twice k).2.1 = 0 ∧ ∃ p ∈ N.all, (N.twice k).2.2.all = N.all ++ [{ p with id := N.last + 1 }]) ∨ ((N.twice k).2.1 ≠ 0 ∧ (N.twice k).2.2 = N) := by
  have hr := pos_range k N.all
  unfold Nt.twice Nt.add
  split
  · exact .inr ⟨by simp, rfl⟩
  · split
    · exact .inr ⟨by simp, rfl⟩
    · exact .inl ⟨rfl, _, nth_mem (by omega), rfl⟩
theorem take_says (N : Nt) (k : Int) : ((N.take k).2.1 = 0 ∧ (N.take k).1 ∈ N.all ∧ (N.take k).2.2.all.length + 1 = N.all.length ∧ ∀ x ∈ (N.take k).2.2.all, x ∈ N.all) ∨ ((N.take k).2.1 ≠ 0 ∧ (N.take k).2.2 = N) := by
  have hr := pos_range k N.all
  unfold Nt.take
  split
  · exact .inr ⟨by simp, rfl⟩
  · refine .inl ⟨rfl, nth_mem (by omega), ?_, fun x hx => List.mem_of_mem_eraseIdx hx⟩
    simp only
    rw [List.length_eraseIdx_of_lt (by omega)]
    omega
theorem spoil_says {N : Nt} {Q : List Pk} (h : Sup N Q) (k a m : Int) : (N.spoil k a m).2.all.length = N.all.length ∧ Sup (N.spoil k a m).2 Q := by
  have hr := pos_range k N.all
  unfold Nt.spoil
  split
  · exact ⟨rfl, h⟩
  · split
    · exact ⟨rfl, h⟩
    · split
      · exact ⟨rfl, h⟩
      · rename_i hm
        refine ⟨by simp, fun x hx => ?_⟩
        simp only at hx
        rcases List.mem_or_eq_of_mem_set hx with hx | rfl
        · exact h x hx
        · obtain ⟨s, hs, h1, h2, h3, h4⟩ := h (nth N.all (pos k N.all).toNat) (nth_mem (by omega))
          rw [if_neg hm] at h4
          have e := diffs_zero h3 (by omega)
          refine ⟨s, hs, h1, h2, by simp [turn8, h3], ?_⟩
          simp only [if_true]
          rw [e]
          exact diffs_set _ _ _
theorem any_succ {Q : List Pk} (f : Pk → Bool) {j : Nat} (h : j < Q.length) : (Q.take (j + 1)).any f = ((Q.take j).any f || f (nth Q j)) := by
  rw [List.take_add_one, get_lt h, List.any_append]
  simp
end Go.Cmp
namespace Go.Proofs.Ytnkgfkioijlkaaa
open Go.RowKit Go.Cmp

set_option maxHeartbeats 1000000 in
theorem law_near (a b : List UInt8) (w : World) (hb : b.length ≤ 1000000) : Calls Try.prog 12 #[.string ⟨a.toArray⟩, .string ⟨b.toArray⟩] w fun e w' => e = .returned (.bool (nearB a b)) ∧ St [] w w' [] := by
  have hS := St.init w
  by_cases hl : a.length = b.length
  · have hl1 : (a.length : Int) = b.length := by omega
    have e : nearB a b = decide (diffs a b ≤ 1) := by simp [nearB, hl]
    rw [e]
    clear e
    (go_enter Try.func12, Try.ntmps12)
    go_wp2_with (first | ((with_reducible refine g_load ?_); refine k_read rfl (h := ?_)) | ((with_reducible refine g_len ?_); refine k_len rfl (h := ?_)) | ((with_reducible refine g_index ?_); refine k_idx rfl (h := ?_)) | ((with_reducible refine g_field ?_); refine k_fld rfl (h := ?_)) | ((with_reducible refine g_store ?_); refine wl_of rfl ?_; first | (refine k_sta hS rfl rfl rfl (h := ?_); clear hS; intro w' hS; simp only [List.take, List.drop, List.cons_append, List.nil_append, List.length_cons, List.length_nil] at hS) | (first | ((first | (refine k_st1 (v := .int _ _) hS rfl rfl rfl (h := ?_)) | (refine k_st1 (v := .bool _) hS rfl rfl rfl (h := ?_)) | (refine k_st1 (v := .string _) hS rfl rfl rfl (h := ?_)) | (refine k_st1 (v := .slice none 0 0) hS rfl rfl rfl (h := ?_))); clear hS; intro w' hS; simp only [List.set_cons_zero, List.set_cons_succ] at hS) | ((refine k_st1  hS rfl rfl rfl (h := ?_)); clear hS; intro w' hS; simp only [List.set_cons_zero, List.set_cons_succ] at hS; simp only [Act.eval, Array.getD_eq_getD_getElem?, List.getElem?_toArray, List.getElem?_cons_succ, List.getElem?_cons_zero, Option.getD_some] at hS)) | (first | (refine k_ste (v := .int _ _) hS rfl rfl rfl (h := ?_); clear hS; intro w' hS) | (refine k_ste (v := .bool _) hS rfl rfl rfl (h := ?_); clear hS; intro w' hS) | (refine k_ste (v := .string _) hS rfl rfl rfl (h := ?_); clear hS; intro w' hS))) | ((with_reducible refine g_alloc ?_); refine wl_of rfl ?_; refine wp_alloc hS rfl rfl rfl rfl ?_; clear hS; intro gb w1 hS) | ((with_reducible refine g_box ?_); refine wl_of rfl ?_; refine wp_box hS rfl rfl rfl ?_; clear hS; intro gb w1 hS) | ((with_reducible refine g_bs ?_); refine wl_of rfl ?_; (first | refine a_build1 (v := .int _ _) hS rfl rfl rfl rfl (by rfl) (by simp) ?_ | refine a_build1 (v := .string _) hS rfl rfl rfl rfl (by rfl) (by simp) ?_ | refine a_build1 (v := .bool _) hS rfl rfl rfl rfl (by rfl) (by simp) ?_ | refine a_build1 (v := .agg _) hS rfl rfl rfl rfl (by rfl) (by simp) ?_ | refine a_build1  hS rfl rfl rfl rfl (by rfl) (by simp) ?_); clear hS; intro v1 w' hS; simp only [List.length_cons, List.length_nil, Nat.zero_add] at hS; try simp only [Nat.reduceAdd] at hS) | ((with_reducible refine g_cut ?_); refine k_str rfl (h := ?_)) | ((with_reducible refine g_indexV ?_); refine k_six rfl (h := ?_)) | ((with_reducible refine g_bin ?_); refine k_cat rfl (h := ?_)) | ((with_reducible refine g_conv ?_); refine k_tos rfl (h := ?_)) | ((with_reducible refine wl_guard ?_); refine stop_mem rfl rfl ?_))
    go_loopw [5, 6] (fun n i wr => ∃ j : Nat, j ≤ a.length ∧ i = .int .i64 j ∧ n = .int .i64 (diffs (a.take j) (b.take j)) ∧ diffs (a.take j) (b.take j) ≤ j ∧ St [] w wr []) (fun _ i _ => a.length - (intOf i).toNat)
    case atStart => exact ⟨0, Nat.zero_le _, rfl, by simp [diffs_nil], by simp [diffs_nil], hS⟩
    case round =>
      clear hS
      obtain ⟨j, hj, rfl, rfl, hd, hS⟩ := hrel
      by_cases hlt : j < a.length
      · have e := diffs_succ a b j hlt (by omega)
        have hlt2 : j < b.length := by omega
        obtain ⟨n, hn⟩ : ∃ n, diffs (a.take j) (b.take j) = n := ⟨_, rfl⟩
        rw [hn] at e hd ⊢
        by_cases hxy : nth a j = nth b j
        · rw [if_pos hxy] at e
          have hxi : ((nth a j).toNat : Int) = ((nth b j).toNat : Int) := by rw [hxy]
          have E := Lib.hid e
          clear e hxy hn
          go_wp2_with (first | ((with_reducible refine g_load ?_); refine k_read rfl (h := ?_)) | ((with_reducible refine g_len ?_); refine k_len rfl (h := ?_)) | ((with_reducible refine g_index ?_); refine k_idx rfl (h := ?_)) | ((with_reducible refine g_field ?_); refine k_fld rfl (h := ?_)) | ((with_reducible refine g_store ?_); refine wl_of rfl ?_; first | (refine k_sta hS rfl rfl rfl (h := ?_); clear hS; intro w' hS; simp only [List.take, List.drop, List.cons_append, List.nil_append, List.length_cons, List.length_nil] at hS) | (first | ((first | (refine k_st1 (v := .int _ _) hS rfl rfl rfl (h := ?_)) | (refine k_st1 (v := .bool _) hS rfl rfl rfl (h := ?_)) | (refine k_st1 (v := .string _) hS rfl rfl rfl (h := ?_)) | (refine k_st1 (v := .slice none 0 0) hS rfl rfl rfl (h := ?_))); clear hS; intro w' hS; simp only [List.set_cons_zero, List.set_cons_succ] at hS) | ((refine k_st1  hS rfl rfl rfl (h := ?_)); clear hS; intro w' hS; simp only [List.set_cons_zero, List.set_cons_succ] at hS; simp only [Act.eval, Array.getD_eq_getD_getElem?, List.getElem?_toArray, List.getElem?_cons_succ, List.getElem?_cons_zero, Option.getD_some] at hS)) | (first | (refine k_ste (v := .int _ _) hS rfl rfl rfl (h := ?_); clear hS; intro w' hS) | (refine k_ste (v := .bool _) hS rfl rfl rfl (h := ?_); clear hS; intro w' hS) | (refine k_ste (v := .string _) hS rfl rfl rfl (h := ?_); clear hS; intro w' hS))) | ((with_reducible refine g_alloc ?_); refine wl_of rfl ?_; refine wp_alloc hS rfl rfl rfl rfl ?_; clear hS; intro gb w1 hS) | ((with_reducible refine g_box ?_); refine wl_of rfl ?_; refine wp_box hS rfl rfl rfl ?_; clear hS; intro gb w1 hS) | ((with_reducible refine g_bs ?_); refine wl_of rfl ?_; (first | refine a_build1 (v := .int _ _) hS rfl rfl rfl rfl (by rfl) (by simp) ?_ | refine a_build1 (v := .string _) hS rfl rfl rfl rfl (by rfl) (by simp) ?_ | refine a_build1 (v := .bool _) hS rfl rfl rfl rfl (by rfl) (by simp) ?_ | refine a_build1 (v := .agg _) hS rfl rfl rfl rfl (by rfl) (by simp) ?_ | refine a_build1  hS rfl rfl rfl rfl (by rfl) (by simp) ?_); clear hS; intro v1 w' hS; simp only [List.length_cons, List.length_nil, Nat.zero_add] at hS; try simp only [Nat.reduceAdd] at hS) | ((with_reducible refine g_cut ?_); refine k_str rfl (h := ?_)) | ((with_reducible refine g_indexV ?_); refine k_six rfl (h := ?_)) | ((with_reducible refine g_bin ?_); refine k_cat rfl (h := ?_)) | ((with_reducible refine g_conv ?_); refine k_tos rfl (h := ?_)) | ((with_reducible refine wl_guard ?_); refine stop_mem rfl rfl ?_))
          refine region_calm (by kernel_rfl) (by kernel_rfl) hS ?_
          (repeat (first | (refine Calm.skip rfl ?_; simp only [Act.put, List.setIfInBounds_toArray, List.set_cons_zero, List.set_cons_succ]) | ((with_reducible refine c_indexV ?_); refine Calm.run (v := .int .u8 ((nth a j).toNat : Int)) rfl (fun W hW => by exact a_strIndex (l := a) (j := (j : Int)) rfl rfl rfl rfl (by omega) (by omega)) ?_; simp only [Act.put, List.setIfInBounds_toArray, List.set_cons_zero, List.set_cons_succ]) | ((with_reducible refine c_indexV ?_); refine Calm.run (v := .int .u8 ((nth b j).toNat : Int)) rfl (fun W hW => by exact a_strIndex (l := b) (j := (j : Int)) rfl rfl rfl rfl (by omega) (by omega)) ?_; simp only [Act.put, List.setIfInBounds_toArray, List.set_cons_zero, List.set_cons_succ]) | ((with_reducible refine c_load ?_); first | (refine Calm.read rfl (h := ?_); simp only [Act.put, List.setIfInBounds_toArray, List.set_cons_zero, List.set_cons_succ]) | (refine Calm.pure2 rfl (h := ?_); simp only [Act.put, List.setIfInBounds_toArray, List.set_cons_zero, List.set_cons_succ])) | ((with_reducible refine c_index ?_); (refine Calm.idx rfl (h := ?_); simp only [Act.put, List.setIfInBounds_toArray, List.set_cons_zero, List.set_cons_succ])) | ((with_reducible refine c_field ?_); first | (refine Calm.pure2 rfl (h := ?_); simp only [Act.put, List.setIfInBounds_toArray, List.set_cons_zero, List.set_cons_succ]) | (refine Calm.fld rfl (h := ?_); simp only [Act.put, List.setIfInBounds_toArray, List.set_cons_zero, List.set_cons_succ])) | ((with_reducible refine c_len ?_); first | (refine Calm.len rfl (h := ?_); simp only [Act.put, List.setIfInBounds_toArray, List.set_cons_zero, List.set_cons_succ]) | (refine Calm.pure2 rfl (h := ?_); simp only [Act.put, List.setIfInBounds_toArray, List.set_cons_zero, List.set_cons_succ])) | ((with_reducible refine c_call ?_); first | fail) | (refine Calm.pure2 rfl (h := ?_); simp only [Act.put, List.setIfInBounds_toArray, List.set_cons_zero, List.set_cons_succ])))
          (refine Calm.nil ?_; clear hS; intro w8 hS)
          go_wp2_with (first | ((with_reducible refine g_load ?_); refine k_read rfl (h := ?_)) | ((with_reducible refine g_len ?_); refine k_len rfl (h := ?_)) | ((with_reducible refine g_index ?_); refine k_idx rfl (h := ?_)) | ((with_reducible refine g_field ?_); refine k_fld rfl (h := ?_)) | ((with_reducible refine g_store ?_); refine wl_of rfl ?_; first | (refine k_sta hS rfl rfl rfl (h := ?_); clear hS; intro w' hS; simp only [List.take, List.drop, List.cons_append, List.nil_append, List.length_cons, List.length_nil] at hS) | (first | ((first | (refine k_st1 (v := .int _ _) hS rfl rfl rfl (h := ?_)) | (refine k_st1 (v := .bool _) hS rfl rfl rfl (h := ?_)) | (refine k_st1 (v := .string _) hS rfl rfl rfl (h := ?_)) | (refine k_st1 (v := .slice none 0 0) hS rfl rfl rfl (h := ?_))); clear hS; intro w' hS; simp only [List.set_cons_zero, List.set_cons_succ] at hS) | ((refine k_st1  hS rfl rfl rfl (h := ?_)); clear hS; intro w' hS; simp only [List.set_cons_zero, List.set_cons_succ] at hS; simp only [Act.eval, Array.getD_eq_getD_getElem?, List.getElem?_toArray, List.getElem?_cons_succ, List.getElem?_cons_zero, Option.getD_some] at hS)) | (first | (refine k_ste (v := .int _ _) hS rfl rfl rfl (h := ?_); clear hS; intro w' hS) | (refine k_ste (v := .bool _) hS rfl rfl rfl (h := ?_); clear hS; intro w' hS) | (refine k_ste (v := .string _) hS rfl rfl rfl (h := ?_); clear hS; intro w' hS))) | ((with_reducible refine g_alloc ?_); refine wl_of rfl ?_; refine wp_alloc hS rfl rfl rfl rfl ?_; clear hS; intro gb w1 hS) | ((with_reducible refine g_box ?_); refine wl_of rfl ?_; refine wp_box hS rfl rfl rfl ?_; clear hS; intro gb w1 hS) | ((with_reducible refine g_bs ?_); refine wl_of rfl ?_; (first | refine a_build1 (v := .int _ _) hS rfl rfl rfl rfl (by rfl) (by simp) ?_ | refine a_build1 (v := .string _) hS rfl rfl rfl rfl (by rfl) (by simp) ?_ | refine a_build1 (v := .bool _) hS rfl rfl rfl rfl (by rfl) (by simp) ?_ | refine a_build1 (v := .agg _) hS rfl rfl rfl rfl (by rfl) (by simp) ?_ | refine a_build1  hS rfl rfl rfl rfl (by rfl) (by simp) ?_); clear hS; intro v1 w' hS; simp only [List.length_cons, List.length_nil, Nat.zero_add] at hS; try simp only [Nat.reduceAdd] at hS) | ((with_reducible refine g_cut ?_); refine k_str rfl (h := ?_)) | ((with_reducible refine g_indexV ?_); refine k_six rfl (h := ?_)) | ((with_reducible refine g_bin ?_); refine k_cat rfl (h := ?_)) | ((with_reducible refine g_conv ?_); refine k_tos rfl (h := ?_)) | ((with_reducible refine wl_guard ?_); refine stop_mem rfl rfl ?_))
          refine ⟨⟨j + 1, by omega, by go_num, by rw [E.out]; rfl, by rw [E.out]; omega, hS⟩, by simp [intOf]; omega⟩
        · rw [if_neg hxy] at e
          have hxi : ¬ ((nth a j).toNat : Int) = ((nth b j).toNat : Int) := fun h => hxy (UInt8.toNat_inj.1 (by omega))
          have E := Lib.hid e
          clear e hxy hn
          go_wp2_with (first | ((with_reducible refine g_load ?_); refine k_read rfl (h := ?_)) | ((with_reducible refine g_len ?_); refine k_len rfl (h := ?_)) | ((with_reducible refine g_index ?_); refine k_idx rfl (h := ?_)) | ((with_reducible refine g_field ?_); refine k_fld rfl (h := ?_)) | ((with_reducible refine g_store ?_); refine wl_of rfl ?_; first | (refine k_sta hS rfl rfl rfl (h := ?_); clear hS; intro w' hS; simp only [List.take, List.drop, List.cons_append, List.nil_append, List.length_cons, List.length_nil] at hS) | (first | ((first | (refine k_st1 (v := .int _ _) hS rfl rfl rfl (h := ?_)) | (refine k_st1 (v := .bool _) hS rfl rfl rfl (h := ?_)) | (refine k_st1 (v := .string _) hS rfl rfl rfl (h := ?_)) | (refine k_st1 (v := .slice none 0 0) hS rfl rfl rfl (h := ?_))); clear hS; intro w' hS; simp only [List.set_cons_zero, List.set_cons_succ] at hS) | ((refine k_st1  hS rfl rfl rfl (h := ?_)); clear hS; intro w' hS; simp only [List.set_cons_zero, List.set_cons_succ] at hS; simp only [Act.eval, Array.getD_eq_getD_getElem?, List.getElem?_toArray, List.getElem?_cons_succ, List.getElem?_cons_zero, Option.getD_some] at hS)) | (first | (refine k_ste (v := .int _ _) hS rfl rfl rfl (h := ?_); clear hS; intro w' hS) | (refine k_ste (v := .bool _) hS rfl rfl rfl (h := ?_); clear hS; intro w' hS) | (refine k_ste (v := .string _) hS rfl rfl rfl (h := ?_); clear hS; intro w' hS))) | ((with_reducible refine g_alloc ?_); refine wl_of rfl ?_; refine wp_alloc hS rfl rfl rfl rfl ?_; clear hS; intro gb w1 hS) | ((with_reducible refine g_box ?_); refine wl_of rfl ?_; refine wp_box hS rfl rfl rfl ?_; clear hS; intro gb w1 hS) | ((with_reducible refine g_bs ?_); refine wl_of rfl ?_; (first | refine a_build1 (v := .int _ _) hS rfl rfl rfl rfl (by rfl) (by simp) ?_ | refine a_build1 (v := .string _) hS rfl rfl rfl rfl (by rfl) (by simp) ?_ | refine a_build1 (v := .bool _) hS rfl rfl rfl rfl (by rfl) (by simp) ?_ | refine a_build1 (v := .agg _) hS rfl rfl rfl rfl (by rfl) (by simp) ?_ | refine a_build1  hS rfl rfl rfl rfl (by rfl) (by simp) ?_); clear hS; intro v1 w' hS; simp only [List.length_cons, List.length_nil, Nat.zero_add] at hS; try simp only [Nat.reduceAdd] at hS) | ((with_reducible refine g_cut ?_); refine k_str rfl (h := ?_)) | ((with_reducible refine g_indexV ?_); refine k_six rfl (h := ?_)) | ((with_reducible refine g_bin ?_); refine k_cat rfl (h := ?_)) | ((with_reducible refine g_conv ?_); refine k_tos rfl (h := ?_)) | ((with_reducible refine wl_guard ?_); refine stop_mem rfl rfl ?_))
          refine region_calm (by kernel_rfl) (by kernel_rfl) hS ?_
          (repeat (first | (refine Calm.skip rfl ?_; simp only [Act.put, List.setIfInBounds_toArray, List.set_cons_zero, List.set_cons_succ]) | ((with_reducible refine c_indexV ?_); refine Calm.run (v := .int .u8 ((nth a j).toNat : Int)) rfl (fun W hW => by exact a_strIndex (l := a) (j := (j : Int)) rfl rfl rfl rfl (by omega) (by omega)) ?_; simp only [Act.put, List.setIfInBounds_toArray, List.set_cons_zero, List.set_cons_succ]) | ((with_reducible refine c_indexV ?_); refine Calm.run (v := .int .u8 ((nth b j).toNat : Int)) rfl (fun W hW => by exact a_strIndex (l := b) (j := (j : Int)) rfl rfl rfl rfl (by omega) (by omega)) ?_; simp only [Act.put, List.setIfInBounds_toArray, List.set_cons_zero, List.set_cons_succ]) | ((with_reducible refine c_load ?_); first | (refine Calm.read rfl (h := ?_); simp only [Act.put, List.setIfInBounds_toArray, List.set_cons_zero, List.set_cons_succ]) | (refine Calm.pure2 rfl (h := ?_); simp only [Act.put, List.setIfInBounds_toArray, List.set_cons_zero, List.set_cons_succ])) | ((with_reducible refine c_index ?_); (refine Calm.idx rfl (h := ?_); simp only [Act.put, List.setIfInBounds_toArray, List.set_cons_zero, List.set_cons_succ])) | ((with_reducible refine c_field ?_); first | (refine Calm.pure2 rfl (h := ?_); simp only [Act.put, List.setIfInBounds_toArray, List.set_cons_zero, List.set_cons_succ]) | (refine Calm.fld rfl (h := ?_); simp only [Act.put, List.setIfInBounds_toArray, List.set_cons_zero, List.set_cons_succ])) | ((with_reducible refine c_len ?_); first | (refine Calm.len rfl (h := ?_); simp only [Act.put, List.setIfInBounds_toArray, List.set_cons_zero, List.set_cons_succ]) | (refine Calm.pure2 rfl (h := ?_); simp only [Act.put, List.setIfInBounds_toArray, List.set_cons_zero, List.set_cons_succ])) | ((with_reducible refine c_call ?_); first | fail) | (refine Calm.pure2 rfl (h := ?_); simp only [Act.put, List.setIfInBounds_toArray, List.set_cons_zero, List.set_cons_succ])))
          (refine Calm.nil ?_; clear hS; intro w8 hS)
          go_wp2_with (first | ((with_reducible refine g_load ?_); refine k_read rfl (h := ?_)) | ((with_reducible refine g_len ?_); refine k_len rfl (h := ?_)) | ((with_reducible refine g_index ?_); refine k_idx rfl (h := ?_)) | ((with_reducible refine g_field ?_); refine k_fld rfl (h := ?_)) | ((with_reducible refine g_store ?_); refine wl_of rfl ?_; first | (refine k_sta hS rfl rfl rfl (h := ?_); clear hS; intro w' hS; simp only [List.take, List.drop, List.cons_append, List.nil_append, List.length_cons, List.length_nil] at hS) | (first | ((first | (refine k_st1 (v := .int _ _) hS rfl rfl rfl (h := ?_)) | (refine k_st1 (v := .bool _) hS rfl rfl rfl (h := ?_)) | (refine k_st1 (v := .string _) hS rfl rfl rfl (h := ?_)) | (refine k_st1 (v := .slice none 0 0) hS rfl rfl rfl (h := ?_))); clear hS; intro w' hS; simp only [List.set_cons_zero, List.set_cons_succ] at hS) | ((refine k_st1  hS rfl rfl rfl (h := ?_)); clear hS; intro w' hS; simp only [List.set_cons_zero, List.set_cons_succ] at hS; simp only [Act.eval, Array.getD_eq_getD_getElem?, List.getElem?_toArray, List.getElem?_cons_succ, List.getElem?_cons_zero, Option.getD_some] at hS)) | (first | (refine k_ste (v := .int _ _) hS rfl rfl rfl (h := ?_); clear hS; intro w' hS) | (refine k_ste (v := .bool _) hS rfl rfl rfl (h := ?_); clear hS; intro w' hS) | (refine k_ste (v := .string _) hS rfl rfl rfl (h := ?_); clear hS; intro w' hS))) | ((with_reducible refine g_alloc ?_); refine wl_of rfl ?_; refine wp_alloc hS rfl rfl rfl rfl ?_; clear hS; intro gb w1 hS) | ((with_reducible refine g_box ?_); refine wl_of rfl ?_; refine wp_box hS rfl rfl rfl ?_; clear hS; intro gb w1 hS) | ((with_reducible refine g_bs ?_); refine wl_of rfl ?_; (first | refine a_build1 (v := .int _ _) hS rfl rfl rfl rfl (by rfl) (by simp) ?_ | refine a_build1 (v := .string _) hS rfl rfl rfl rfl (by rfl) (by simp) ?_ | refine a_build1 (v := .bool _) hS rfl rfl rfl rfl (by rfl) (by simp) ?_ | refine a_build1 (v := .agg _) hS rfl rfl rfl rfl (by rfl) (by simp) ?_ | refine a_build1  hS rfl rfl rfl rfl (by rfl) (by simp) ?_); clear hS; intro v1 w' hS; simp only [List.length_cons, List.length_nil, Nat.zero_add] at hS; try simp only [Nat.reduceAdd] at hS) | ((with_reducible refine g_cut ?_); refine k_str rfl (h := ?_)) | ((with_reducible refine g_indexV ?_); refine k_six rfl (h := ?_)) | ((with_reducible refine g_bin ?_); refine k_cat rfl (h := ?_)) | ((with_reducible refine g_conv ?_); refine k_tos rfl (h := ?_)) | ((with_reducible refine wl_guard ?_); refine stop_mem rfl rfl ?_))
          refine ⟨⟨j + 1, by omega, by go_num, by rw [E.out]; push_cast; rfl, by rw [E.out]; omega, hS⟩, by simp [intOf]; omega⟩
      · obtain rfl : j = a.length := by omega
        have e1 : diffs (a.take a.length) (b.take a.length) = diffs a b := by rw [List.take_length, hl, List.take_length]
        rw [e1] at hd ⊢
        go_wp2_with (first | ((with_reducible refine g_load ?_); refine k_read rfl (h := ?_)) | ((with_reducible refine g_len ?_); refine k_len rfl (h := ?_)) | ((with_reducible refine g_index ?_); refine k_idx rfl (h := ?_)) | ((with_reducible refine g_field ?_); refine k_fld rfl (h := ?_)) | ((with_reducible refine g_store ?_); refine wl_of rfl ?_; first | (refine k_sta hS rfl rfl rfl (h := ?_); clear hS; intro w' hS; simp only [List.take, List.drop, List.cons_append, List.nil_append, List.length_cons, List.length_nil] at hS) | (first | ((first | (refine k_st1 (v := .int _ _) hS rfl rfl rfl (h := ?_)) | (refine k_st1 (v := .bool _) hS rfl rfl rfl (h := ?_)) | (refine k_st1 (v := .string _) hS rfl rfl rfl (h := ?_)) | (refine k_st1 (v := .slice none 0 0) hS rfl rfl rfl (h := ?_))); clear hS; intro w' hS; simp only [List.set_cons_zero, List.set_cons_succ] at hS) | ((refine k_st1  hS rfl rfl rfl (h := ?_)); clear hS; intro w' hS; simp only [List.set_cons_zero, List.set_cons_succ] at hS; simp only [Act.eval, Array.getD_eq_getD_getElem?, List.getElem?_toArray, List.getElem?_cons_succ, List.getElem?_cons_zero, Option.getD_some] at hS)) | (first | (refine k_ste (v := .int _ _) hS rfl rfl rfl (h := ?_); clear hS; intro w' hS) | (refine k_ste (v := .bool _) hS rfl rfl rfl (h := ?_); clear hS; intro w' hS) | (refine k_ste (v := .string _) hS rfl rfl rfl (h := ?_); clear hS; intro w' hS))) | ((with_reducible refine g_alloc ?_); refine wl_of rfl ?_; refine wp_alloc hS rfl rfl rfl rfl ?_; clear hS; intro gb w1 hS) | ((with_reducible refine g_box ?_); refine wl_of rfl ?_; refine wp_box hS rfl rfl rfl ?_; clear hS; intro gb w1 hS) | ((with_reducible refine g_bs ?_); refine wl_of rfl ?_; (first | refine a_build1 (v := .int _ _) hS rfl rfl rfl rfl (by rfl) (by simp) ?_ | refine a_build1 (v := .string _) hS rfl rfl rfl rfl (by rfl) (by simp) ?_ | refine a_build1 (v := .bool _) hS rfl rfl rfl rfl (by rfl) (by simp) ?_ | refine a_build1 (v := .agg _) hS rfl rfl rfl rfl (by rfl) (by simp) ?_ | refine a_build1  hS rfl rfl rfl rfl (by rfl) (by simp) ?_); clear hS; intro v1 w' hS; simp only [List.length_cons, List.length_nil, Nat.zero_add] at hS; try simp only [Nat.reduceAdd] at hS) | ((with_reducible refine g_cut ?_); refine k_str rfl (h := ?_)) | ((with_reducible refine g_indexV ?_); refine k_six rfl (h := ?_)) | ((with_reducible refine g_bin ?_); refine k_cat rfl (h := ?_)) | ((with_reducible refine g_conv ?_); refine k_tos rfl (h := ?_)) | ((with_reducible refine wl_guard ?_); refine stop_mem rfl rfl ?_))
        go_ret
        exact ⟨by simp; omega, hS⟩
  · have hl1 : ¬ (a.length : Int) = b.length := by omega
    have e : nearB a b = false := by simp [nearB, hl]
    rw [e]
    clear e
    (go_enter Try.func12, Try.ntmps12)
    go_wp2_with (first | ((with_reducible refine g_load ?_); refine k_read rfl (h := ?_)) | ((with_reducible refine g_len ?_); refine k_len rfl (h := ?_)) | ((with_reducible refine g_index ?_); refine k_idx rfl (h := ?_)) | ((with_reducible refine g_field ?_); refine k_fld rfl (h := ?_)) | ((with_reducible refine g_store ?_); refine wl_of rfl ?_; first | (refine k_sta hS rfl rfl rfl (h := ?_); clear hS; intro w' hS; simp only [List.take, List.drop, List.cons_append, List.nil_append, List.length_cons, List.length_nil] at hS) | (first | ((first | (refine k_st1 (v := .int _ _) hS rfl rfl rfl (h := ?_)) | (refine k_st1 (v := .bool _) hS rfl rfl rfl (h := ?_)) | (refine k_st1 (v := .string _) hS rfl rfl rfl (h := ?_)) | (refine k_st1 (v := .slice none 0 0) hS rfl rfl rfl (h := ?_))); clear hS; intro w' hS; simp only [List.set_cons_zero, List.set_cons_succ] at hS) | ((refine k_st1  hS rfl rfl rfl (h := ?_)); clear hS; intro w' hS; simp only [List.set_cons_zero, List.set_cons_succ] at hS; simp only [Act.eval, Array.getD_eq_getD_getElem?, List.getElem?_toArray, List.getElem?_cons_succ, List.getElem?_cons_zero, Option.getD_some] at hS)) | (first | (refine k_ste (v := .int _ _) hS rfl rfl rfl (h := ?_); clear hS; intro w' hS) | (refine k_ste (v := .bool _) hS rfl rfl rfl (h := ?_); clear hS; intro w' hS) | (refine k_ste (v := .string _) hS rfl rfl rfl (h := ?_); clear hS; intro w' hS))) | ((with_reducible refine g_alloc ?_); refine wl_of rfl ?_; refine wp_alloc hS rfl rfl rfl rfl ?_; clear hS; intro gb w1 hS) | ((with_reducible refine g_box ?_); refine wl_of rfl ?_; refine wp_box hS rfl rfl rfl ?_; clear hS; intro gb w1 hS) | ((with_reducible refine g_bs ?_); refine wl_of rfl ?_; (first | refine a_build1 (v := .int _ _) hS rfl rfl rfl rfl (by rfl) (by simp) ?_ | refine a_build1 (v := .string _) hS rfl rfl rfl rfl (by rfl) (by simp) ?_ | refine a_build1 (v := .bool _) hS rfl rfl rfl rfl (by rfl) (by simp) ?_ | refine a_build1 (v := .agg _) hS rfl rfl rfl rfl (by rfl) (by simp) ?_ | refine a_build1  hS rfl rfl rfl rfl (by rfl) (by simp) ?_); clear hS; intro v1 w' hS; simp only [List.length_cons, List.length_nil, Nat.zero_add] at hS; try simp only [Nat.reduceAdd] at hS) | ((with_reducible refine g_cut ?_); refine k_str rfl (h := ?_)) | ((with_reducible refine g_indexV ?_); refine k_six rfl (h := ?_)) | ((with_reducible refine g_bin ?_); refine k_cat rfl (h := ?_)) | ((with_reducible refine g_conv ?_); refine k_tos rfl (h := ?_)) | ((with_reducible refine wl_guard ?_); refine stop_mem rfl rfl ?_))
    go_ret
    exact ⟨rfl, hS⟩
end Go.Proofs.Ytnkgfkioijlkaaa
