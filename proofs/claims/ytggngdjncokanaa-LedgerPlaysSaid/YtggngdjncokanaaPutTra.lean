/-
  The document's answer: transfers' bytes.
-/
import Derived.Test.YtggngdjncokanaaSames
set_option linter.unusedSimpArgs false
set_option linter.unusedVariables false
set_option linter.unusedSectionVars false
namespace Go.Proofs.Ytggngdjncokanaa
open Go.RowKit Go.Cmp
set_option maxRecDepth 100000

theorem x_field {P : Program} {o : Oper} {a : Act} {w : World} {t : TypeId} {x : Operand} {f : Nat} (ho : o.op = .fieldAddr t x f) {u : Value} {k n : Nat} {xs : List Value} (hR : Rd w k u n xs) (h0 : 0 < n) {off : Nat} (hx : a.eval x = ptrAt u off)
    {fields : Array Field} (hd : P.underlying t = some (.struct fields)) {fl : Field} (hf : fields[f]? = some fl) {d : Nat} (he : fl.offset = d) {ti : TypeInfo} (hi : P.info? fl.type = some ti) (hz : (ti.size == 0) = false) : (execOp a.eval o).run P w = .ok (.value (ptrAt u (off + d))) w := by
  obtain ⟨p, cap, rfl⟩ := hR.some h0
  subst he
  have hz' : ¬ ti.size = 0 := by simpa using hz
  simp [execOp, ho, hx, Instr.fieldAt, Instr.sureAddr, fieldPlace, run_underlying hd, ptrAt, hf, ← add_add, sizeOf, typeInfo, hi, hz']

theorem x_concat {P : Program} {o : Oper} {a : Act} {w : World} {t r : TypeId} {x y : Operand} (ho : o.op = .binOp .add t x y r) {l m : List UInt8} (hx : a.eval x = .string ⟨l.toArray⟩) (hy : a.eval y = .string ⟨m.toArray⟩) (h : l.length + m.length ≤ 9223372036854775807) :
    (execOp a.eval o).run P w = .ok (.value (.string ⟨(l ++ m).toArray⟩)) w := by
  have hov : ¬ 9223372036854775807 < l.length + m.length := by omega
  rw [← bcat]
  simp only [execOp, ho, hx, hy]
  go_simp

theorem eight_quiet (n : Nat) (w W : World) (hn : n < 256 ^ 8) (hW : Cmp.Mod [] w W) :
    Calls Try.prog 76 #[.int .u64 n] W fun e w' => e = .returned (.string ⟨(leB 8 n).toArray⟩) ∧ Cmp.Mod [] w w' :=
  (eight_any n W hn).mono fun _ _ h => ⟨h.1, hW.trans h.2.base⟩

set_option maxHeartbeats 1000000 in
theorem refPutTransfers_any (xs : List Tra) (vl : Value) (n : Nat) (w : World) (hn : xs.length = n) (hx : ∀ x ∈ xs, x.Ok) (hL : Rd w 4 vl n (xs.flatMap Tra.cells)) :
    Calls Try.prog 56 #[vl] w fun e w' => e = .returned (.tuple #[.string ⟨(putS byTra xs).1.toArray⟩, .int .i64 (putS byTra xs).2]) ∧ St [] w w' [] := by
  have Hn := Lib.hid hn
  have HX := Lib.hid hx
  clear hn hx
  by_cases hm : 1 ≤ n ∧ n ≤ 4
  · have hp : putS byTra xs = (match cat byTra xs with | some s => (s, 0) | none => ([], 1)) := by unfold putS; rw [if_neg (by have := Hn.out; omega)]; cases cat byTra xs <;> rfl
    have Hp := Lib.hid hp
    clear hp
    go_enter Try.func56, Try.ntmps56
    refine St.startAt w fun w1 hS => ?_
    go_wp2_with (first | ((with_reducible refine g_len ?_); refine wl_run rfl (x_len rfl (hS.old0 hL) rfl rfl) ?_) | fail)
    refine (many_any n _).mono ?_
    rintro e w2 ⟨rfl, hS2⟩
    replace hS := hS.call hS2
    clear hS2
    rw [decide_eq_true hm]
    go_wp2
    go_loopw [4, 5] (fun s i wr => ∃ (j : Nat) (acc : List UInt8), j ≤ n ∧ i = .int .i64 j ∧ Hid (cat byTra (xs.take j) = some acc) ∧ s = .string ⟨acc.toArray⟩ ∧ St [] w wr []) (fun _ i _ => n - (intOf i).toNat)
    case atStart => exact ⟨0, [], by omega, rfl, Lib.hid rfl, rfl, hS⟩
    case round =>
      clear hS
      obtain ⟨j, acc, hj, rfl, Ha, rfl, hS⟩ := hrel
      by_cases hlt : j < n
      · have hjl : j < xs.length := by have := Hn.out; omega
        have hcs := cat_succ byTra xs j hjl acc Ha.out
        have hok := HX.out _ (List.getElem_mem hjl)
        have hgx := flatMap_cells Tra.cells 4 (fun _ => rfl) xs j hjl
        obtain ⟨X, hX⟩ : ∃ X, xs[j] = X := ⟨_, rfl⟩
        rw [hX] at hgx hcs hok
        have Hcs : Hid (cat byTra (xs.take (j + 1)) = some (acc ++ (leB 8 X.id ++ leB 8 X.deb ++ leB 8 X.cred ++ leB 8 X.amt))) := Lib.hid (by simpa [byTra] using hcs)
        obtain ⟨id, deb, cred, amt⟩ := X
        obtain ⟨k1, k2, k3, k4⟩ := hok
        simp only at k1 k2 k3 k4 Hcs
        have hg : ∀ i : Nat, (xs.flatMap Tra.cells)[j * 4 + i]? = ((([.int .u64 (id : Int), .int .u64 (deb : Int), .int .u64 (cred : Int), .int .u64 (amt : Int)] : List Value))[i]? : Option Value) ∨ 4 ≤ i := by
          intro i
          by_cases hi : i < 4
          · left
            have h2 := congrArg (fun l => l[i]?) hgx
            simp only [Tra.cells] at h2
            rw [List.getElem?_take_of_lt hi, List.getElem?_drop] at h2
            exact h2
          · right; omega
        have g0 : (xs.flatMap Tra.cells)[j * 4 + 0]? = some (.int .u64 (id : Int)) := (hg 0).resolve_right (by omega)
        have g1 : (xs.flatMap Tra.cells)[j * 4 + 1]? = some (.int .u64 (deb : Int)) := (hg 1).resolve_right (by omega)
        have g2 : (xs.flatMap Tra.cells)[j * 4 + 2]? = some (.int .u64 (cred : Int)) := (hg 2).resolve_right (by omega)
        have g3 : (xs.flatMap Tra.cells)[j * 4 + 3]? = some (.int .u64 (amt : Int)) := (hg 3).resolve_right (by omega)
        have K1 := Lib.hid k1
        have K2 := Lib.hid k2
        have K3 := Lib.hid k3
        have K4 := Lib.hid k4
        have G0 := Lib.hid g0
        have G1 := Lib.hid g1
        have G2 := Lib.hid g2
        have G3 := Lib.hid g3
        have ha : acc.length ≤ 128 := by
          have h1 := cat_len byTra byTra_len _ _ Ha.out
          rw [List.length_take] at h1
          omega
        clear hcs hgx hX hg k1 k2 k3 k4 g0 g1 g2 g3
        go_wp2_with (first | ((with_reducible refine g_len ?_); refine wl_run rfl (x_len rfl (hS.old0 hL) rfl rfl) ?_) | fail)
        have hL2 := hS.old0 hL
        have n0 : 0 < n := by omega
        refine wp_region_grow (by kernel_rfl) (by kernel_rfl) hS ?_
        iterate 3 (refine wq_run rfl (fun W hW => by (go_simp; try with_reducible rfl)) ?_; simp only [Act.put, List.setIfInBounds_toArray, List.set_cons_zero, List.set_cons_succ])
        (refine wq_run rfl (fun W hW => (x_index rfl (hL2.grow hW) rfl rfl rfl rfl rfl (by omega) (by omega))) ?_; simp only [Act.put, List.setIfInBounds_toArray, List.set_cons_zero, List.set_cons_succ])
        (refine wq_run rfl (fun W hW => (x_field rfl (hL2.grow hW) n0 rfl rfl rfl rfl rfl rfl)) ?_; simp only [Act.put, List.setIfInBounds_toArray, List.set_cons_zero, List.set_cons_succ])
        (refine wq_run rfl (fun W hW => (x_loadS1 rfl (hL2.grow hW) rfl rfl rfl G0.out)) ?_; simp only [Act.put, List.setIfInBounds_toArray, List.set_cons_zero, List.set_cons_succ])
        (refine wq_call rfl (f := 76) (fun W => by go_simp) (fun W hW => eight_quiet id _ W K1.out hW) ?_; simp only [Act.put, List.setIfInBounds_toArray, List.set_cons_zero, List.set_cons_succ])
        (refine wq_run rfl (fun W hW => (x_concat rfl rfl rfl (by simp [leB_length]; omega))) ?_; simp only [Act.put, List.setIfInBounds_toArray, List.set_cons_zero, List.set_cons_succ])
        iterate 2 (refine wq_run rfl (fun W hW => by (go_simp; try with_reducible rfl)) ?_; simp only [Act.put, List.setIfInBounds_toArray, List.set_cons_zero, List.set_cons_succ])
        (refine wq_run rfl (fun W hW => (x_index rfl (hL2.grow hW) rfl rfl rfl rfl rfl (by omega) (by omega))) ?_; simp only [Act.put, List.setIfInBounds_toArray, List.set_cons_zero, List.set_cons_succ])
        (refine wq_run rfl (fun W hW => (x_field rfl (hL2.grow hW) n0 rfl rfl rfl rfl rfl rfl)) ?_; simp only [Act.put, List.setIfInBounds_toArray, List.set_cons_zero, List.set_cons_succ])
        (refine wq_run rfl (fun W hW => (x_loadS1 rfl (hL2.grow hW) rfl rfl rfl G1.out)) ?_; simp only [Act.put, List.setIfInBounds_toArray, List.set_cons_zero, List.set_cons_succ])
        (refine wq_call rfl (f := 76) (fun W => by go_simp) (fun W hW => eight_quiet deb _ W K2.out hW) ?_; simp only [Act.put, List.setIfInBounds_toArray, List.set_cons_zero, List.set_cons_succ])
        (refine wq_run rfl (fun W hW => (x_concat rfl rfl rfl (by simp [leB_length]; omega))) ?_; simp only [Act.put, List.setIfInBounds_toArray, List.set_cons_zero, List.set_cons_succ])
        iterate 2 (refine wq_run rfl (fun W hW => by (go_simp; try with_reducible rfl)) ?_; simp only [Act.put, List.setIfInBounds_toArray, List.set_cons_zero, List.set_cons_succ])
        (refine wq_run rfl (fun W hW => (x_index rfl (hL2.grow hW) rfl rfl rfl rfl rfl (by omega) (by omega))) ?_; simp only [Act.put, List.setIfInBounds_toArray, List.set_cons_zero, List.set_cons_succ])
        (refine wq_run rfl (fun W hW => (x_field rfl (hL2.grow hW) n0 rfl rfl rfl rfl rfl rfl)) ?_; simp only [Act.put, List.setIfInBounds_toArray, List.set_cons_zero, List.set_cons_succ])
        (refine wq_run rfl (fun W hW => (x_loadS1 rfl (hL2.grow hW) rfl rfl rfl G2.out)) ?_; simp only [Act.put, List.setIfInBounds_toArray, List.set_cons_zero, List.set_cons_succ])
        (refine wq_call rfl (f := 76) (fun W => by go_simp) (fun W hW => eight_quiet cred _ W K3.out hW) ?_; simp only [Act.put, List.setIfInBounds_toArray, List.set_cons_zero, List.set_cons_succ])
        (refine wq_run rfl (fun W hW => (x_concat rfl rfl rfl (by simp [leB_length]; omega))) ?_; simp only [Act.put, List.setIfInBounds_toArray, List.set_cons_zero, List.set_cons_succ])
        iterate 2 (refine wq_run rfl (fun W hW => by (go_simp; try with_reducible rfl)) ?_; simp only [Act.put, List.setIfInBounds_toArray, List.set_cons_zero, List.set_cons_succ])
        (refine wq_run rfl (fun W hW => (x_index rfl (hL2.grow hW) rfl rfl rfl rfl rfl (by omega) (by omega))) ?_; simp only [Act.put, List.setIfInBounds_toArray, List.set_cons_zero, List.set_cons_succ])
        (refine wq_run rfl (fun W hW => (x_field rfl (hL2.grow hW) n0 rfl rfl rfl rfl rfl rfl)) ?_; simp only [Act.put, List.setIfInBounds_toArray, List.set_cons_zero, List.set_cons_succ])
        (refine wq_run rfl (fun W hW => (x_loadS1 rfl (hL2.grow hW) rfl rfl rfl G3.out)) ?_; simp only [Act.put, List.setIfInBounds_toArray, List.set_cons_zero, List.set_cons_succ])
        (refine wq_call rfl (f := 76) (fun W => by go_simp) (fun W hW => eight_quiet amt _ W K4.out hW) ?_; simp only [Act.put, List.setIfInBounds_toArray, List.set_cons_zero, List.set_cons_succ])
        (refine wq_run rfl (fun W hW => (x_concat rfl rfl rfl (by simp [leB_length]; omega))) ?_; simp only [Act.put, List.setIfInBounds_toArray, List.set_cons_zero, List.set_cons_succ])
        (refine wq_run rfl (fun W hW => by (go_simp; try with_reducible rfl)) ?_; simp only [Act.put, List.setIfInBounds_toArray, List.set_cons_zero, List.set_cons_succ])
        (refine wpQuiet_nil ?_; clear hS; intro w2 hS)
        go_wp2
        exact ⟨⟨j + 1, _, by omega, by go_num, Hcs, by simp, hS⟩, by simp [intOf]; omega⟩
      · obtain rfl : j = n := by omega
        have Hc : Hid (cat byTra xs = some acc) := Lib.hid (by have := Ha.out; rwa [List.take_of_length_le (by have := Hn.out; omega)] at this)
        go_wp2_with (first | ((with_reducible refine g_len ?_); refine wl_run rfl (x_len rfl (hS.old0 hL) rfl rfl) ?_) | fail)
        go_ret2
        rw [Hp.out, Hc.out]
        exact ⟨rfl, hS⟩
  · have hp : putS byTra xs = ([], 1) := by unfold putS; rw [if_pos (by have := Hn.out; omega)]
    rw [hp]
    go_enter Try.func56, Try.ntmps56
    refine St.startAt w fun w1 hS => ?_
    go_wp2_with (first | ((with_reducible refine g_len ?_); refine wl_run rfl (x_len rfl (hS.old0 hL) rfl rfl) ?_) | fail)
    refine (many_any n _).mono ?_
    rintro e w2 ⟨rfl, hS2⟩
    replace hS := hS.call hS2
    clear hS2
    rw [decide_eq_false hm]
    go_wp2
    go_ret2
    exact ⟨rfl, hS⟩

end Go.Proofs.Ytggngdjncokanaa
