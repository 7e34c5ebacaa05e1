/-
  The document's answers: the same lists?
-/
import Derived.Test.YthihdgohfehnkaaRefPut
namespace Go.Proofs.Ythihdgohfehnkaa
open Go.RowKit Go.Cmp

theorem Rd_le {w : World} {k : Nat} {v : Value} {n : Nat} {xs : List Value} (h : Rd w k v n xs) : n ≤ 9223372036854775807 := by
  obtain ⟨_, p, cap, rfl, h2, h3, _, _⟩ := h
  unfold maxLen at h3
  omega

set_option maxHeartbeats 400000 in
theorem sameIDs_any (xs ys : List Nat) (u v : Value) (n m : Nat) (w : World) (hn : xs.length = n) (hm : ys.length = m) (hL : Rd w 1 u n (U xs)) (hK : Rd w 1 v m (U ys)) :
    Calls Try.prog 12 #[u, v] w fun e w' => e = .returned (.bool (decide (xs = ys))) ∧ St [] w w' [] := by
  have hn47 := Rd_le hL
  have Hn := Lib.hid hn
  have Hm := Lib.hid hm
  clear hn hm
  by_cases hmn : n = m
  · subst hmn
    have d1 : ((n : Int) != n) = false := by simp
    go_enter Try.func12, Try.ntmps12
    refine St.startAt w fun w1 hS => ?_
    go_wp2_with (first | ((with_reducible refine g_len ?_); refine wl_run rfl (x_len rfl (hS.old0 hL) rfl rfl) ?_) | ((with_reducible refine g_len ?_); refine wl_run rfl (x_len rfl (hS.old0 hK) rfl rfl) ?_) | fail)
    go_loopw [5] (fun i wr => ∃ j : Nat, j ≤ n ∧ i = .int .i64 j ∧ Hid (xs.take j = ys.take j) ∧ St [] w wr []) (fun i _ => n - (intOf i).toNat)
    case atStart => exact ⟨0, by omega, rfl, Lib.hid (by simp), hS⟩
    case round =>
      clear hS
      obtain ⟨j, hj, rfl, He, hS⟩ := hrel
      by_cases hlt : j < n
      · have hjx : j < xs.length := by have := Hn.out; omega
        have hjy : j < ys.length := by have := Hm.out; omega
        have hgx := U_get hjx
        have hgy := U_get hjy
        go_wp2_with (first | ((with_reducible refine g_len ?_); refine wl_run rfl (x_len rfl (hS.old0 hL) rfl rfl) ?_) | fail)
        refine wp_region_grow (by kernel_rfl) (by kernel_rfl) hS ?_
        have hL2 := hS.old0 hL
        have hK2 := hS.old0 hK
        iterate 2 (refine wq_run rfl (fun W hW => by (go_simp; try with_reducible rfl)) ?_; simp only [Act.put, List.setIfInBounds_toArray, List.set_cons_zero, List.set_cons_succ])
        (refine wq_run rfl (fun W hW => (x_index rfl (hL2.grow hW) rfl rfl rfl rfl rfl (by omega) (by omega))) ?_; simp only [Act.put, List.setIfInBounds_toArray, List.set_cons_zero, List.set_cons_succ])
        (refine wq_run rfl (fun W hW => (x_loadS1 rfl (hL2.grow hW) rfl rfl rfl (by simpa using hgx))) ?_; simp only [Act.put, List.setIfInBounds_toArray, List.set_cons_zero, List.set_cons_succ])
        iterate 2 (refine wq_run rfl (fun W hW => by (go_simp; try with_reducible rfl)) ?_; simp only [Act.put, List.setIfInBounds_toArray, List.set_cons_zero, List.set_cons_succ])
        (refine wq_run rfl (fun W hW => (x_index rfl (hK2.grow hW) rfl rfl rfl rfl rfl (by omega) (by omega))) ?_; simp only [Act.put, List.setIfInBounds_toArray, List.set_cons_zero, List.set_cons_succ])
        (refine wq_run rfl (fun W hW => (x_loadS1 rfl (hK2.grow hW) rfl rfl rfl (by simpa using hgy))) ?_; simp only [Act.put, List.setIfInBounds_toArray, List.set_cons_zero, List.set_cons_succ])
        iterate 1 (refine wq_run rfl (fun W hW => by (go_simp; try with_reducible rfl)) ?_; simp only [Act.put, List.setIfInBounds_toArray, List.set_cons_zero, List.set_cons_succ])
        (refine wpQuiet_nil ?_; clear hS; intro w2 hS)
        by_cases hxy : xs[j] = ys[j]
        · rw [hxy]
          rw [show ((ys[j] : Int) != ys[j]) = false by simp]
          go_wp2
          refine ⟨⟨j + 1, by omega, by go_num, Lib.hid ?_, hS⟩, by simp [intOf]; omega⟩
          rw [List.take_succ_eq_append_getElem hjx, List.take_succ_eq_append_getElem hjy, He.out, hxy]
        · rw [show ((xs[j] : Int) != ys[j]) = true by simp; omega]
          go_wp2
          go_ret
          refine ⟨?_, hS⟩
          have hne : ¬ xs = ys := by
            intro h
            subst h
            exact hxy rfl
          rw [decide_eq_false hne]
          rfl
      · obtain rfl : j = n := by omega
        go_wp2_with (first | ((with_reducible refine g_len ?_); refine wl_run rfl (x_len rfl (hS.old0 hL) rfl rfl) ?_) | fail)
        go_ret
        refine ⟨?_, hS⟩
        have hxy : xs = ys := by
          have := He.out
          rwa [List.take_of_length_le (by have := Hn.out; omega), List.take_of_length_le (by have := Hm.out; omega)] at this
        rw [decide_eq_true hxy]
        rfl
  · have d1 : ((n : Int) != m) = true := by simp; omega
    have hxy : ¬ xs = ys := by
      rintro rfl
      exact hmn (Hn.out.symm.trans Hm.out)
    go_enter Try.func12, Try.ntmps12
    refine St.startAt w fun w1 hS => ?_
    go_wp2_with (first | ((with_reducible refine g_len ?_); refine wl_run rfl (x_len rfl (hS.old0 hL) rfl rfl) ?_) | ((with_reducible refine g_len ?_); refine wl_run rfl (x_len rfl (hS.old0 hK) rfl rfl) ?_) | fail)
    go_ret
    rw [decide_eq_false hxy]
    exact ⟨rfl, hS⟩

end Go.Proofs.Ythihdgohfehnkaa
