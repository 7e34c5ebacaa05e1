/-
  The statement on accounts: the walk.
-/
import Derived.Test.YthihdgohfehnkaaPutAcc
import Derived.Test.YthihdgohfehnkaaTraLaw
namespace Go.Proofs.Ythihdgohfehnkaa
open Go.RowKit Go.Cmp

def Acc.bare (x : Acc) : Acc := ⟨x.id, x.flags, 0, 0⟩
theorem gAcc_by (x : Acc) (h : x.Ok) (s : List UInt8) (hs : byAcc x = some s) : s.length = 9 ∧ gAcc s = x.bare := by
  unfold byAcc at hs
  split at hs
  · rename_i hf
    simp only [Option.some.injEq] at hs
    subst hs
    obtain ⟨a, b, c, d⟩ := x
    obtain ⟨h1, _⟩ := h
    simp only at hf h1
    refine ⟨by simp [leB_length], ?_⟩
    unfold gAcc Acc.bare
    have e1 : ((leB 8 a ++ [fb b]).getD 8 0).toNat = b := by
      rw [List.getD_eq_getElem?_getD, List.getElem?_append_right (by rw [leB_length]; exact Nat.le_refl _), leB_length]
      have := fb_wrap b
      simp [IntKind.wrap, IntKind.signed, IntKind.bits] at this
      simp
      omega
    rw [e1, List.take_left' (leB_length _ _), leN_leB, Nat.mod_eq_of_lt h1]
  · cases hs

set_option maxHeartbeats 1000000 in
theorem eventAccounts_any (xs : List Acc) (vl : Value) (n : Nat) (w : World) (hn : xs.length = n) (hx : ∀ x ∈ xs, x.Ok) (hL : Rd w 4 vl n (xs.flatMap Acc.cells)) :
    Calls Try.prog 4 #[vl] w fun e w' => e = .returned (.bool true) ∧ St [] w w' [] := by
  obtain ⟨m, hm⟩ : ∃ m, min n 100 = m := ⟨_, rfl⟩
  obtain ⟨ys, hys⟩ : ∃ ys, xs.take m = ys := ⟨_, rfl⟩
  have hml : ys.length = m := by rw [← hys, List.length_take]; omega
  have hy : ∀ x ∈ ys, x.Ok := by
    intro x h
    rw [← hys] at h
    exact hx x (List.mem_of_mem_take h)
  have hround : ∀ s, cat byAcc ys = some s → 1 ≤ ys.length → ys.length ≤ 4 → takeS gAcc 9 s = (ys.map Acc.bare, true) := by
    intro s h1 h2 h3
    exact takeS_cat byAcc gAcc Acc.bare 9 (by omega) ys s (fun x h t ht => gAcc_by x (hy x h) t ht) h1 h2 h3
  have HR := Lib.hid hround
  clear hround
  have hM : Rd w 4 (cutSl vl 4 0 m) m (ys.flatMap Acc.cells) := by
    have := hL.cut 0 m (by omega) (by omega)
    rw [Nat.sub_zero, Nat.zero_mul, List.drop_zero, flatMap_take Acc.cells 4 (fun _ => rfl), hys] at this
    exact this
  have hmm : (n ≤ 100 ∧ m = n) ∨ (100 < n ∧ m = 100) := by omega
  have Hm := Lib.hid hml
  have Hy := Lib.hid hy
  clear hml hy hys hx hm
  rcases hmm with ⟨h1, rfl⟩ | ⟨h1, rfl⟩
  all_goals
    go_enter Try.func4, Try.ntmps4
    refine St.startAt w fun w1 hS => ?_
    go_wp2_with (fail)
    refine (awake_any _).mono ?_
    rintro e w2 ⟨rfl, hS2⟩
    replace hS := hS.call hS2
    clear hS2
    go_wp2_with (first | ((with_reducible refine g_len ?_); refine wl_run rfl (x_len rfl (hS.old0 hL) rfl rfl) ?_) | ((with_reducible refine g_cut ?_); refine wl_run rfl (x_cutHi (ti := Try.t37) rfl (hS.old0 hL) rfl rfl rfl rfl rfl (by omega) (by omega)) ?_) | fail)
    refine (putAccounts_any ys _ _ _ Hm.out Hy.out (hS.old0 hM)).mono ?_
    rintro e w3 ⟨rfl, hS2⟩
    replace hS := hS.call hS2
    clear hS2
    go_wp2_with (fail)
    refine (refPutAccounts_any ys _ _ _ Hm.out Hy.out (hS.old0 hM)).mono ?_
    rintro e w4 ⟨rfl, hS2⟩
    replace hS := hS.call hS2
    clear hS2
    rcases putS_cases byAcc ys with ⟨s, e1, e2, e3, e4⟩ | e1
    · rw [e1]
      have Ht := Lib.hid (HR.out s e2 e3 e4)
      have hsl : s.length ≤ 140737488355328 := by
        have := cat_len byAcc byAcc_len _ _ e2
        omega
      have hm4 : ys.length ≤ 4 := e4
      rw [Hm.out] at hm4
      clear e1 e2 e3 e4
      all_goals try (exfalso; omega)
      all_goals
        go_wp2_with (fail)
        refine (accounts_any s _ hsl).mono ?_
        rw [Ht.out]
        rintro e w5 ⟨v5, rfl, hS2⟩
        replace hS := hS.call hS2
        clear hS2
        simp only [List.length_map, Hm.out] at hS
        go_wp2_with (fail)
        go_loopw [9] (fun i wr => ∃ j : Nat, j ≤ m ∧ i = .int .i64 j ∧ St [] w wr [.vec v5 37 4 m ((ys.map Acc.bare).flatMap Acc.cells)]) (fun i _ => m - (intOf i).toNat)
        case atStart => exact ⟨0, by omega, rfl, hS⟩
        case round =>
          clear hS
          obtain ⟨j, hj, rfl, hS⟩ := hrel
          by_cases hlt : j < m
          · have hjl : j < ys.length := by have := Hm.out; omega
            have hjb : j < (ys.map Acc.bare).length := by rw [List.length_map]; exact hjl
            have hgx := flatMap_cells Acc.cells 4 (fun _ => rfl) ys j hjl
            have hgy := flatMap_cells Acc.cells 4 (fun _ => rfl) (ys.map Acc.bare) j hjb
            rw [List.getElem_map] at hgy
            obtain ⟨X, hX⟩ : ∃ X, ys[j] = X := ⟨_, rfl⟩
            rw [hX] at hgx hgy
            obtain ⟨id, flags, deb, cred⟩ := X
            have hg : ∀ i : Nat, i < 4 → (ys.flatMap Acc.cells)[j * 4 + i]? = (([.int .u64 (id : Int), .int .i64 flags, .int .u64 (deb : Int), .int .u64 (cred : Int)] : List Value))[i]? := by
              intro i hi
              have h2 := congrArg (fun l => l[i]?) hgx
              simp only [Acc.cells] at h2
              rw [List.getElem?_take_of_lt hi, List.getElem?_drop] at h2
              exact h2
            have g0 : (ys.flatMap Acc.cells)[j * 4 + 0]? = some (.int .u64 (id : Int)) := hg 0 (by omega)
            have g1 : (ys.flatMap Acc.cells)[j * 4 + 1]? = some (.int .i64 flags) := hg 1 (by omega)
            have G0 := Lib.hid g0
            have G1 := Lib.hid g1
            have Hgy := Lib.hid hgy
            clear hgx hgy hg g0 g1 hX
            have n0 : 0 < m := by omega
            have hM2 := hS.old0 hM
            have hV2 := hS.rdv (i := 0) rfl
            go_wp2_with (first | ((with_reducible refine g_len ?_); refine wl_run rfl (x_len rfl hV2 rfl rfl) ?_) | ((with_reducible refine g_len ?_); refine wl_run rfl (x_len rfl hM2 rfl rfl) ?_) | fail)
            refine wp_region_grow (by kernel_rfl) (by kernel_rfl) hS ?_
            iterate 2 (refine wq_run rfl (fun W hW => by (go_simp; try with_reducible rfl)) ?_; simp only [Act.put, List.setIfInBounds_toArray, List.set_cons_zero, List.set_cons_succ])
            (refine wq_run rfl (fun W hW => (x_index (ti := Try.t37) rfl (hV2.grow hW) rfl rfl rfl rfl rfl (by omega) (by omega))) ?_; simp only [Act.put, List.setIfInBounds_toArray, List.set_cons_zero, List.set_cons_succ])
            (refine wq_run rfl (fun W hW => (x_loadSA (ti := Try.t37) rfl (hV2.grow hW) rfl rfl rfl rfl Hgy.out rfl (by omega))) ?_; simp only [Act.put, List.setIfInBounds_toArray, List.set_cons_zero, List.set_cons_succ])
            iterate 2 (refine wq_run rfl (fun W hW => by (go_simp; try with_reducible rfl)) ?_; simp only [Act.put, List.setIfInBounds_toArray, List.set_cons_zero, List.set_cons_succ])
            (refine wq_run rfl (fun W hW => (x_index (ti := Try.t37) rfl (hM2.grow hW) rfl rfl rfl rfl rfl (by omega) (by omega))) ?_; simp only [Act.put, List.setIfInBounds_toArray, List.set_cons_zero, List.set_cons_succ])
            (refine wq_run rfl (fun W hW => (x_field rfl (hM2.grow hW) n0 rfl rfl rfl rfl rfl rfl)) ?_; simp only [Act.put, List.setIfInBounds_toArray, List.set_cons_zero, List.set_cons_succ])
            (refine wq_run rfl (fun W hW => (x_loadS1 rfl (hM2.grow hW) rfl rfl rfl G0.out)) ?_; simp only [Act.put, List.setIfInBounds_toArray, List.set_cons_zero, List.set_cons_succ])
            iterate 2 (refine wq_run rfl (fun W hW => by (go_simp; try with_reducible rfl)) ?_; simp only [Act.put, List.setIfInBounds_toArray, List.set_cons_zero, List.set_cons_succ])
            (refine wq_run rfl (fun W hW => (x_index (ti := Try.t37) rfl (hM2.grow hW) rfl rfl rfl rfl rfl (by omega) (by omega))) ?_; simp only [Act.put, List.setIfInBounds_toArray, List.set_cons_zero, List.set_cons_succ])
            (refine wq_run rfl (fun W hW => (x_field rfl (hM2.grow hW) n0 rfl rfl rfl rfl rfl rfl)) ?_; simp only [Act.put, List.setIfInBounds_toArray, List.set_cons_zero, List.set_cons_succ])
            (refine wq_run rfl (fun W hW => (x_loadS1 rfl (hM2.grow hW) rfl rfl rfl G1.out)) ?_; simp only [Act.put, List.setIfInBounds_toArray, List.set_cons_zero, List.set_cons_succ])
            (refine wq_run rfl (fun W hW => by (go_simp; try with_reducible rfl)) ?_; simp only [Act.put, List.setIfInBounds_toArray, List.set_cons_zero, List.set_cons_succ])
            (refine wq_run rfl (fun W hW => (sameAcc_op ⟨id, flags, 0, 0⟩ ⟨id, flags, 0, 0⟩ rfl rfl rfl)) ?_; simp only [Act.put, List.setIfInBounds_toArray, List.set_cons_zero, List.set_cons_succ])
            try rw [decide_eq_true rfl]
            (refine wpQuiet_nil ?_; clear hS; intro w2 hS)
            go_wp2
            exact ⟨⟨j + 1, by omega, by go_num, hS⟩, by simp [intOf]; omega⟩
          · obtain rfl : j = m := by omega
            have hM2 := hS.old0 hM
            have hV2 := hS.rdv (i := 0) rfl
            go_wp2_with (first | ((with_reducible refine g_len ?_); refine wl_run rfl (x_len rfl hV2 rfl rfl) ?_) | ((with_reducible refine g_len ?_); refine wl_run rfl (x_len rfl hM2 rfl rfl) ?_) | fail)
            go_ret
            exact ⟨rfl, hS.nil⟩
    · rw [e1]
      clear e1
      go_wp2
      go_ret
      exact ⟨rfl, hS.nil⟩

end Go.Proofs.Ythihdgohfehnkaa
