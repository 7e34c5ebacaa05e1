/-
  The document's answers: the same lists of structs?
-/
import Derived.Test.YtggngdjncokanaaLaw
set_option linter.unusedSimpArgs false
set_option linter.unusedVariables false
set_option linter.unusedSectionVars false
namespace Go.Proofs.Ytggngdjncokanaa
open Go.RowKit Go.Cmp
set_option maxRecDepth 100000

instance : DecidableEq Tra := fun X Y => decidable_of_iff (X.id = Y.id ∧ X.deb = Y.deb ∧ X.cred = Y.cred ∧ X.amt = Y.amt) (by cases X; cases Y; simp)
instance : DecidableEq Acc := fun X Y => decidable_of_iff (X.id = Y.id ∧ X.flags = Y.flags ∧ X.deb = Y.deb ∧ X.cred = Y.cred) (by cases X; cases Y; simp)

theorem sameTra_op (X Y : Tra) {o : Oper} {a : Act} {w : World} {x y : Operand} {r : TypeId} (ho : o.op = .binOp .neq 45 x y r) (hx : a.eval x = .agg X.cells.toArray) (hy : a.eval y = .agg Y.cells.toArray) :
    (execOp a.eval o).run Try.prog w = .ok (.value (.bool (!decide (X = Y)))) w := by
  obtain ⟨a1, a2, a3, a4⟩ := X
  obtain ⟨b1, b2, b3, b4⟩ := Y
  have e : decide ((⟨a1, a2, a3, a4⟩ : Tra) = ⟨b1, b2, b3, b4⟩) = (decide (a1 = b1) && decide (a2 = b2) && decide (a3 = b3) && decide (a4 = b4)) := by
    rw [Bool.eq_iff_iff]
    simp [and_assoc]
  rw [e]
  clear e
  simp only [Tra.cells] at hx hy
  simp only [execOp, ho, hx, hy]
  go_simp
  by_cases h1 : a1 = b1 <;> by_cases h2 : a2 = b2 <;> by_cases h3 : a3 = b3 <;> by_cases h4 : a4 = b4 <;> simp [h1, h2, h3, h4, Int.ofNat_inj]
theorem sameAcc_op (X Y : Acc) {o : Oper} {a : Act} {w : World} {x y : Operand} {r : TypeId} (ho : o.op = .binOp .neq 47 x y r) (hx : a.eval x = .agg X.cells.toArray) (hy : a.eval y = .agg Y.cells.toArray) :
    (execOp a.eval o).run Try.prog w = .ok (.value (.bool (!decide (X = Y)))) w := by
  obtain ⟨a1, a2, a3, a4⟩ := X
  obtain ⟨b1, b2, b3, b4⟩ := Y
  have e : decide ((⟨a1, a2, a3, a4⟩ : Acc) = ⟨b1, b2, b3, b4⟩) = (decide (a1 = b1) && decide (a2 = b2) && decide (a3 = b3) && decide (a4 = b4)) := by
    rw [Bool.eq_iff_iff]
    simp [and_assoc]
  rw [e]
  clear e
  simp only [Acc.cells] at hx hy
  simp only [execOp, ho, hx, hy]
  go_simp
  by_cases h1 : a1 = b1 <;> by_cases h2 : a2 = b2 <;> by_cases h3 : a3 = b3 <;> by_cases h4 : a4 = b4 <;> simp [h1, h2, h3, h4, Int.ofNat_inj]

set_option maxHeartbeats 400000 in
theorem sameTransfers_any (xs ys : List Tra) (u v : Value) (n m : Nat) (w : World) (hn : xs.length = n) (hm : ys.length = m) (hL : Rd w 4 u n (xs.flatMap Tra.cells)) (hK : Rd w 4 v m (ys.flatMap Tra.cells)) :
    Calls Try.prog 23 #[u, v] w fun e w' => e = .returned (.bool (decide (xs = ys))) ∧ St [] w w' [] := by
  have hn47 := Rd_le hL
  have Hn := Lib.hid hn
  have Hm := Lib.hid hm
  clear hn hm
  by_cases hmn : n = m
  · subst hmn
    have d1 : ((n : Int) != n) = false := by simp
    go_enter Try.func23, Try.ntmps23
    refine St.startAt w fun w1 hS => ?_
    go_wp2_with (first | ((with_reducible refine g_len ?_); refine wl_run rfl (x_len rfl (hS.old0 hL) rfl rfl) ?_) | ((with_reducible refine g_len ?_); refine wl_run rfl (x_len rfl (hS.old0 hK) rfl rfl) ?_) | fail)
    go_loopw [5] (fun i wr => ∃ j : Nat, j ≤ n ∧ i = .int .i64 j ∧ Hid (xs.take j = ys.take j) ∧ St [] w wr []) (fun i _ => n - (intOf i).toNat)
    case atStart => exact ⟨0, by omega, rfl, Lib.hid (by simp), hS⟩
    case round =>
      clear hS
      obtain ⟨j, hj, rfl, He, hS⟩ := hrel
      by_cases hlt : j < n
      · have hjx : j < xs.length := by have := Hn.out; omega
        have hjy : j < ys.length := by have := Hm.out; omega
        have hgx := flatMap_cells Tra.cells 4 (fun _ => rfl) xs j hjx
        have hgy := flatMap_cells Tra.cells 4 (fun _ => rfl) ys j hjy
        have Hgx := Lib.hid hgx
        have Hgy := Lib.hid hgy
        clear hgx hgy
        go_wp2_with (first | ((with_reducible refine g_len ?_); refine wl_run rfl (x_len rfl (hS.old0 hL) rfl rfl) ?_) | fail)
        refine wp_region_grow (by kernel_rfl) (by kernel_rfl) hS ?_
        have hL2 := hS.old0 hL
        have hK2 := hS.old0 hK
        iterate 2 (refine wq_run rfl (fun W hW => by (go_simp; try with_reducible rfl)) ?_; simp only [Act.put, List.setIfInBounds_toArray, List.set_cons_zero, List.set_cons_succ])
        (refine wq_run rfl (fun W hW => (x_index rfl (hL2.grow hW) rfl rfl rfl rfl rfl (by omega) (by omega))) ?_; simp only [Act.put, List.setIfInBounds_toArray, List.set_cons_zero, List.set_cons_succ])
        (refine wq_run rfl (fun W hW => (x_loadSA (ti := Try.t45) rfl (hL2.grow hW) rfl rfl rfl rfl Hgx.out rfl (by omega))) ?_; simp only [Act.put, List.setIfInBounds_toArray, List.set_cons_zero, List.set_cons_succ])
        iterate 2 (refine wq_run rfl (fun W hW => by (go_simp; try with_reducible rfl)) ?_; simp only [Act.put, List.setIfInBounds_toArray, List.set_cons_zero, List.set_cons_succ])
        (refine wq_run rfl (fun W hW => (x_index rfl (hK2.grow hW) rfl rfl rfl rfl rfl (by omega) (by omega))) ?_; simp only [Act.put, List.setIfInBounds_toArray, List.set_cons_zero, List.set_cons_succ])
        (refine wq_run rfl (fun W hW => (x_loadSA (ti := Try.t45) rfl (hK2.grow hW) rfl rfl rfl rfl Hgy.out rfl (by omega))) ?_; simp only [Act.put, List.setIfInBounds_toArray, List.set_cons_zero, List.set_cons_succ])
        obtain ⟨X, hX⟩ : ∃ X, xs[j] = X := ⟨_, rfl⟩
        obtain ⟨Y, hY⟩ : ∃ Y, ys[j] = Y := ⟨_, rfl⟩
        rw [hX, hY]
        have HX := Lib.hid hX
        have HY := Lib.hid hY
        clear hX hY
        (refine wq_run rfl (fun W hW => (sameTra_op X Y rfl rfl rfl)) ?_; simp only [Act.put, List.setIfInBounds_toArray, List.set_cons_zero, List.set_cons_succ])
        (refine wpQuiet_nil ?_; clear hS; intro w2 hS)
        by_cases hxy : X = Y
        · rw [decide_eq_true hxy]
          go_wp2
          refine ⟨⟨j + 1, by omega, by go_num, Lib.hid ?_, hS⟩, by simp [intOf]; omega⟩
          rw [List.take_succ_eq_append_getElem hjx, List.take_succ_eq_append_getElem hjy, He.out, HX.out, HY.out, hxy]
        · rw [decide_eq_false hxy]
          go_wp2
          go_ret
          refine ⟨?_, hS⟩
          have hne : ¬ xs = ys := by
            intro h
            subst h
            exact hxy (HX.out.symm.trans HY.out)
          rw [decide_eq_false hne]
          rfl
      · obtain rfl : j = n := by omega
        go_wp2_with (first | ((with_reducible refine g_len ?_); refine wl_run rfl (x_len rfl (hS.old0 hL) rfl rfl) ?_) | fail)
        go_ret
        refine ⟨?_, hS⟩
        have hxy : xs = ys := by
          have := He.out
          rwa [List.take_of_length_le (by have := Hn.out; omega), List.take_of_length_le (by have := Hm.out; omega)] at this
        rw [decide_eq_true hxy]
        rfl
  · have d1 : ((n : Int) != m) = true := by simp; omega
    have hxy : ¬ xs = ys := by
      rintro rfl
      exact hmn (Hn.out.symm.trans Hm.out)
    go_enter Try.func23, Try.ntmps23
    refine St.startAt w fun w1 hS => ?_
    go_wp2_with (first | ((with_reducible refine g_len ?_); refine wl_run rfl (x_len rfl (hS.old0 hL) rfl rfl) ?_) | ((with_reducible refine g_len ?_); refine wl_run rfl (x_len rfl (hS.old0 hK) rfl rfl) ?_) | fail)
    go_ret
    rw [decide_eq_false hxy]
    exact ⟨rfl, hS⟩
set_option maxHeartbeats 400000 in
theorem sameAccounts_any (xs ys : List Acc) (u v : Value) (n m : Nat) (w : World) (hn : xs.length = n) (hm : ys.length = m) (hL : Rd w 4 u n (xs.flatMap Acc.cells)) (hK : Rd w 4 v m (ys.flatMap Acc.cells)) :
    Calls Try.prog 22 #[u, v] w fun e w' => e = .returned (.bool (decide (xs = ys))) ∧ St [] w w' [] := by
  have hn47 := Rd_le hL
  have Hn := Lib.hid hn
  have Hm := Lib.hid hm
  clear hn hm
  by_cases hmn : n = m
  · subst hmn
    have d1 : ((n : Int) != n) = false := by simp
    go_enter Try.func22, Try.ntmps22
    refine St.startAt w fun w1 hS => ?_
    go_wp2_with (first | ((with_reducible refine g_len ?_); refine wl_run rfl (x_len rfl (hS.old0 hL) rfl rfl) ?_) | ((with_reducible refine g_len ?_); refine wl_run rfl (x_len rfl (hS.old0 hK) rfl rfl) ?_) | fail)
    go_loopw [5] (fun i wr => ∃ j : Nat, j ≤ n ∧ i = .int .i64 j ∧ Hid (xs.take j = ys.take j) ∧ St [] w wr []) (fun i _ => n - (intOf i).toNat)
    case atStart => exact ⟨0, by omega, rfl, Lib.hid (by simp), hS⟩
    case round =>
      clear hS
      obtain ⟨j, hj, rfl, He, hS⟩ := hrel
      by_cases hlt : j < n
      · have hjx : j < xs.length := by have := Hn.out; omega
        have hjy : j < ys.length := by have := Hm.out; omega
        have hgx := flatMap_cells Acc.cells 4 (fun _ => rfl) xs j hjx
        have hgy := flatMap_cells Acc.cells 4 (fun _ => rfl) ys j hjy
        have Hgx := Lib.hid hgx
        have Hgy := Lib.hid hgy
        clear hgx hgy
        go_wp2_with (first | ((with_reducible refine g_len ?_); refine wl_run rfl (x_len rfl (hS.old0 hL) rfl rfl) ?_) | fail)
        refine wp_region_grow (by kernel_rfl) (by kernel_rfl) hS ?_
        have hL2 := hS.old0 hL
        have hK2 := hS.old0 hK
        iterate 2 (refine wq_run rfl (fun W hW => by (go_simp; try with_reducible rfl)) ?_; simp only [Act.put, List.setIfInBounds_toArray, List.set_cons_zero, List.set_cons_succ])
        (refine wq_run rfl (fun W hW => (x_index rfl (hL2.grow hW) rfl rfl rfl rfl rfl (by omega) (by omega))) ?_; simp only [Act.put, List.setIfInBounds_toArray, List.set_cons_zero, List.set_cons_succ])
        (refine wq_run rfl (fun W hW => (x_loadSA (ti := Try.t47) rfl (hL2.grow hW) rfl rfl rfl rfl Hgx.out rfl (by omega))) ?_; simp only [Act.put, List.setIfInBounds_toArray, List.set_cons_zero, List.set_cons_succ])
        iterate 2 (refine wq_run rfl (fun W hW => by (go_simp; try with_reducible rfl)) ?_; simp only [Act.put, List.setIfInBounds_toArray, List.set_cons_zero, List.set_cons_succ])
        (refine wq_run rfl (fun W hW => (x_index rfl (hK2.grow hW) rfl rfl rfl rfl rfl (by omega) (by omega))) ?_; simp only [Act.put, List.setIfInBounds_toArray, List.set_cons_zero, List.set_cons_succ])
        (refine wq_run rfl (fun W hW => (x_loadSA (ti := Try.t47) rfl (hK2.grow hW) rfl rfl rfl rfl Hgy.out rfl (by omega))) ?_; simp only [Act.put, List.setIfInBounds_toArray, List.set_cons_zero, List.set_cons_succ])
        obtain ⟨X, hX⟩ : ∃ X, xs[j] = X := ⟨_, rfl⟩
        obtain ⟨Y, hY⟩ : ∃ Y, ys[j] = Y := ⟨_, rfl⟩
        rw [hX, hY]
        have HX := Lib.hid hX
        have HY := Lib.hid hY
        clear hX hY
        (refine wq_run rfl (fun W hW => (sameAcc_op X Y rfl rfl rfl)) ?_; simp only [Act.put, List.setIfInBounds_toArray, List.set_cons_zero, List.set_cons_succ])
        (refine wpQuiet_nil ?_; clear hS; intro w2 hS)
        by_cases hxy : X = Y
        · rw [decide_eq_true hxy]
          go_wp2
          refine ⟨⟨j + 1, by omega, by go_num, Lib.hid ?_, hS⟩, by simp [intOf]; omega⟩
          rw [List.take_succ_eq_append_getElem hjx, List.take_succ_eq_append_getElem hjy, He.out, HX.out, HY.out, hxy]
        · rw [decide_eq_false hxy]
          go_wp2
          go_ret
          refine ⟨?_, hS⟩
          have hne : ¬ xs = ys := by
            intro h
            subst h
            exact hxy (HX.out.symm.trans HY.out)
          rw [decide_eq_false hne]
          rfl
      · obtain rfl : j = n := by omega
        go_wp2_with (first | ((with_reducible refine g_len ?_); refine wl_run rfl (x_len rfl (hS.old0 hL) rfl rfl) ?_) | fail)
        go_ret
        refine ⟨?_, hS⟩
        have hxy : xs = ys := by
          have := He.out
          rwa [List.take_of_length_le (by have := Hn.out; omega), List.take_of_length_le (by have := Hm.out; omega)] at this
        rw [decide_eq_true hxy]
        rfl
  · have d1 : ((n : Int) != m) = true := by simp; omega
    have hxy : ¬ xs = ys := by
      rintro rfl
      exact hmn (Hn.out.symm.trans Hm.out)
    go_enter Try.func22, Try.ntmps22
    refine St.startAt w fun w1 hS => ?_
    go_wp2_with (first | ((with_reducible refine g_len ?_); refine wl_run rfl (x_len rfl (hS.old0 hL) rfl rfl) ?_) | ((with_reducible refine g_len ?_); refine wl_run rfl (x_len rfl (hS.old0 hK) rfl rfl) ?_) | fail)
    go_ret
    rw [decide_eq_false hxy]
    exact ⟨rfl, hS⟩
end Go.Proofs.Ytggngdjncokanaa
