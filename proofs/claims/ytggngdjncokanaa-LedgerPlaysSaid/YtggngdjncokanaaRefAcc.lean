/-
  The document's answer: accounts of bytes.
-/
import Derived.Test.YtggngdjncokanaaRefTra
import Derived.Test.YtggngdjncokanaaCalm
set_option linter.unusedSimpArgs false
set_option linter.unusedVariables false
set_option linter.unusedSectionVars false
namespace Go.Proofs.Ytggngdjncokanaa
open Go.RowKit Go.Cmp
set_option maxRecDepth 100000

theorem strI {l : List UInt8} {i : Nat} {y : UInt8} (h : l[i]? = some y) {o : Oper} {a : Act} {w : World} {P : Program} {t : TypeId} {x z : Operand} (ho : o.op = .index t x z) (hs : P.underlying t = some .string) (hx : a.eval x = .string ⟨l.toArray⟩) (hz : a.eval z = .int .i64 (i : Int)) : (execOp a.eval o).run P w = .ok (.value (.int .u8 (y.toNat : Int))) w := by
  have hi := (List.getElem?_eq_some_iff.1 h).1
  have e : l.getD i 0 = y := by rw [List.getD_eq_getElem?_getD, h]; rfl
  rw [← e]
  exact x_strIndex ho hx hz hs (by omega) (by omega)

set_option maxHeartbeats 1000000 in
theorem refAccounts_any (l : List UInt8) (w : World) (hl : l.length ≤ 1000) :
    Calls Try.prog 48 #[.string ⟨l.toArray⟩] w fun e w' => ∃ v, e = .returned (.tuple #[v, .bool (takeS gAcc 9 l).2]) ∧ St [] w w' [.vec v 47 4 (takeS gAcc 9 l).1.length ((takeS gAcc 9 l).1.flatMap Acc.cells)] := by
  obtain ⟨q, hq⟩ : ∃ q, l.length / 9 = q := ⟨_, rfl⟩
  by_cases hr : l.length % 9 = 0
  · have hql : l.length = 9 * q := by omega
    have hd : ((l.length : Int)) / 9 = (q : Int) := by omega
    have hr' : (l.length : Int) % 9 = 0 := by omega
    have Hql := Lib.hid hql
    have Hq := Lib.hid hq
    have Hr := Lib.hid hr
    clear hq hr hql
    by_cases hm : 1 ≤ q ∧ q ≤ 4
    · have hp : takeS gAcc 9 l = ((List.range q).map fun i => gAcc (chunk l 9 i), true) := by
        unfold takeS; rw [if_neg (by rw [Hr.out, Hq.out]; have := Hql.out; omega), Hq.out]
      rw [hp]
      simp only [List.length_map, List.length_range]
      clear hp
      go_enter Try.func48, Try.ntmps48
      refine St.startAt w fun w1 hS => ?_
      go_wp2_with (fail)
      refine (many_any q _).mono ?_
      rintro e w2 ⟨rfl, hS2⟩
      replace hS := hS.call hS2
      clear hS2
      rw [decide_eq_true hm]
      go_wp2_with (first | ((with_reducible refine g_bs ?_); refine wl_of rfl ?_; refine wp_build0 (ti := Try.t47) (k := 4) hS rfl rfl rfl rfl rfl ?_; clear hS; intro v1 w1 hS) | fail)
      go_loopw [4, 5] (fun b i wr => ∃ j : Nat, j ≤ q ∧ i = .int .i64 ((j * 9 : Nat) : Int) ∧ St [] w wr [.vec b 47 4 ((List.range j).map fun i => gAcc (chunk l 9 i)).length (((List.range j).map fun i => gAcc (chunk l 9 i)).flatMap Acc.cells)]) (fun _ i _ => l.length - (intOf i).toNat)
      case atStart => exact ⟨0, by omega, rfl, hS⟩
      case round =>
        clear hS
        obtain ⟨j, hj, rfl, hS⟩ := hrel
        by_cases hlt : j < q
        · have hlt8 : ((j * 9 : Nat) : Int) < l.length := by have := Hql.out; omega
          have hin : j * 9 + 9 ≤ l.length := by have := Hql.out; omega
          have h2l : l.length ≤ 140737488355328 := by omega
          obtain ⟨y0, hy0⟩ : ∃ y, leN ((l.drop (j * 9)).take 8) = y := ⟨_, rfl⟩
          obtain ⟨y1, hy1⟩ : ∃ y, l[j * 9 + 8]? = some y := ⟨_, List.getElem?_eq_getElem (by omega)⟩
          obtain ⟨L, hL⟩ : ∃ L, ((List.range j).map fun i => gAcc (chunk l 9 i)) = L := ⟨_, rfl⟩
          have hLl : L.length = j := by rw [← hL]; simp
          have HE : Hid (((List.range (j + 1)).map fun i => gAcc (chunk l 9 i)) = L ++ [⟨y0, (y1.toNat : Int), 0, 0⟩]) := Lib.hid (by
            have e2 : gAcc (chunk l 9 j) = ⟨y0, (y1.toNat : Int), 0, 0⟩ := by
              unfold gAcc chunk
              rw [← hy0]
              have : ((l.drop (j * 9)).take 9).getD 8 0 = y1 := by
                rw [List.getD_eq_getElem?_getD, List.getElem?_take_of_lt (by omega), List.getElem?_drop, hy1]; rfl
              rw [this]
              simp [List.take_take]
            rw [List.range_succ, List.map_append, hL, ← e2]
            rfl)
          rw [hL] at hS
          have hat := fun w => refAt_in l (j * 9) w (by omega) h2l
          rw [hy0] at hat
          have HAT := Lib.hid hat
          have Hy1 := Lib.hid hy1
          have hwb : IntKind.i64.wrap (y1.toNat : Int) = (y1.toNat : Int) := IntWalk.i64_in _ (by have := y1.toNat_lt; omega)
          have hw8 : IntKind.i64.wrap ((j : Int) * 9 + 8) = (j : Int) * 9 + 8 := IntWalk.i64_in _ (by omega)
          clear hL hat hy0 hy1
          go_wp2_with (fail)
          refine region_end 12 [.vec _ 47 4 L.length (L.flatMap Acc.cells)] [] hS.pick (by kernel_rfl) ?_
          clear hS
          intro F wx hR hB hS
          (refine we_take 0 rfl rfl (by kernel_rfl) (by kernel_rfl) (by kernel_rfl) (fun _ _ _ h => h) (by kernel_rfl) rfl (fun W hW => (by (go_simp; try with_reducible rfl))) hS.base ?_; simp only [Act.put, List.setIfInBounds_toArray, List.set_cons_zero, List.set_cons_succ])
          (refine we_take 1 rfl rfl (by kernel_rfl) (by kernel_rfl) (by kernel_rfl) (fun _ _ _ h => h) (by kernel_rfl) rfl (fun W hW => (by (go_simp; try with_reducible rfl))) hS.base ?_; simp only [Act.put, List.setIfInBounds_toArray, List.set_cons_zero, List.set_cons_succ])
          (refine we_take 2 rfl rfl (by kernel_rfl) (by kernel_rfl) (by kernel_rfl) (fun _ _ _ h => h) (by kernel_rfl) rfl (fun W hW => (by (go_simp; try with_reducible rfl))) hS.base ?_; simp only [Act.put, List.setIfInBounds_toArray, List.set_cons_zero, List.set_cons_succ])
          (refine we_take 4 rfl rfl (by kernel_rfl) (by kernel_rfl) (by kernel_rfl) (fun _ _ _ h => h) (by kernel_rfl) rfl (fun W hW => (by (go_simp; try with_reducible rfl))) hS.base ?_; simp only [Act.put, List.setIfInBounds_toArray, List.set_cons_zero, List.set_cons_succ])
          (refine we_take 5 rfl rfl (by kernel_rfl) (by kernel_rfl) (by kernel_rfl) (fun _ _ _ h => h) (by kernel_rfl) rfl (fun W hW => (by (go_simp; try with_reducible rfl))) hS.base ?_; simp only [Act.put, List.setIfInBounds_toArray, List.set_cons_zero, List.set_cons_succ])
          (refine we_take (v := (.int .i64 ((j * 9 + 8 : Nat) : Int))) 6 rfl rfl (by kernel_rfl) (by kernel_rfl) (by kernel_rfl) (fun _ _ _ h => h) (by kernel_rfl) rfl (fun W hW => by (go_simp; try simp [hw8])) hS.base ?_; simp only [Act.put, List.setIfInBounds_toArray, List.set_cons_zero, List.set_cons_succ])
          (refine we_take 7 rfl rfl (by kernel_rfl) (by kernel_rfl) (by kernel_rfl) (fun _ _ _ h => h) (by kernel_rfl) rfl (fun W hW => (strI Hy1.out rfl rfl rfl rfl)) hS.base ?_; simp only [Act.put, List.setIfInBounds_toArray, List.set_cons_zero, List.set_cons_succ])
          (refine we_take (v := (.int .i64 (y1.toNat : Int))) 8 rfl rfl (by kernel_rfl) (by kernel_rfl) (by kernel_rfl) (fun _ _ _ h => h) (by kernel_rfl) rfl (fun W hW => by (go_simp; try simp [hwb])) hS.base ?_; simp only [Act.put, List.setIfInBounds_toArray, List.set_cons_zero, List.set_cons_succ])
          (refine we_all (rs := [3]) (by kernel_rfl) (by simp) ?_; intro i hi; have hi := List.mem_singleton.1 hi; subst hi)
          refine wod_of rfl rfl rfl (wp_call (by go_simp) (HAT.out _) ?_)
          rintro e w3 ⟨rfl, hS2⟩
          replace hS := hS.call hS2
          clear hS2
          refine ⟨_, rfl, ?_⟩
          (refine ⟨fun _ => hS.base, ?_⟩; simp only [Act.put, List.setIfInBounds_toArray, List.set_cons_zero, List.set_cons_succ])
          (refine we_take 9 rfl rfl (by kernel_rfl) (by kernel_rfl) (by kernel_rfl) (fun _ _ _ h => h) (by kernel_rfl) rfl (fun W hW => (by (go_simp; try with_reducible rfl))) hS.base ?_; simp only [Act.put, List.setIfInBounds_toArray, List.set_cons_zero, List.set_cons_succ])
          (refine we_all (rs := [10]) (by kernel_rfl) (by simp) ?_; intro i hi; have hi := List.mem_singleton.1 hi; subst hi)
          (refine wod_of rfl rfl rfl (a_build1 (v := .agg _) hS rfl rfl rfl rfl (by rfl) (by simp) ?_); clear hS; intro v1 w4 hS; simp only [List.length_cons, List.length_nil, Nat.zero_add] at hS; try simp only [Nat.reduceAdd] at hS; (refine ⟨fun _ => hS.base, ?_⟩; simp only [Act.put, List.setIfInBounds_toArray, List.set_cons_zero, List.set_cons_succ]))
          (refine we_all (rs := [11]) (by kernel_rfl) (by simp) ?_; intro i hi; have hi := List.mem_singleton.1 hi; subst hi)
          (refine wod_of rfl rfl rfl (k_app (z := (⟨y0, (y1.toNat : Int), 0, 0⟩ : Acc)) hS rfl rfl rfl rfl (h1 := by simp [Acc.cells, Value.oneCell']) (h := ?_)); clear hS; intro va w5 hS hv2; (refine ⟨fun _ => hS.base, ?_⟩; simp only [Act.put, List.setIfInBounds_toArray, List.set_cons_zero, List.set_cons_succ]))
          (refine we_all (rs := [12]) (by kernel_rfl) (by simp) ?_; intro i hi; have hi := List.mem_singleton.1 hi; subst hi)
          refine wod_of rfl rfl rfl (wp_run (by (go_simp; first | done | exact ⟨rfl, rfl⟩ | with_reducible rfl)) ?_)
          (refine ⟨fun h => absurd rfl h, ?_⟩; refine we_done (by kernel_rfl) ?_ _)
          replace hS := hB _ _ hS
          try simp only [List.append_nil] at hS
          simp only [Act.put, List.setIfInBounds_toArray, List.set_cons_zero, List.set_cons_succ]
          go_wp2_with (fail)
          refine ⟨⟨j + 1, by omega, by go_num, ?_⟩, by simp [intOf]; omega⟩
          rw [HE.out]
          exact hS.pick
        · obtain rfl : j = q := by omega
          rw [List.length_map, List.length_range] at hS
          have hge : ¬ ((j * 9 : Nat) : Int) < l.length := by have := Hql.out; omega
          go_wp2_with (fail)
          go_ret2
          refine ⟨_, rfl, ?_⟩
          exact hS
    · have hp : takeS gAcc 9 l = ([], false) := by
        unfold takeS; rw [if_pos (by rw [Hr.out, Hq.out]; have := Hql.out; omega)]
      rw [hp]
      go_enter Try.func48, Try.ntmps48
      refine St.startAt w fun w1 hS => ?_
      go_wp2_with (fail)
      refine (many_any q _).mono ?_
      rintro e w2 ⟨rfl, hS2⟩
      replace hS := hS.call hS2
      clear hS2
      rw [decide_eq_false hm]
      go_wp2_with (fail)
      go_ret2
      exact ⟨_, rfl, hS.addNil _ _⟩
  · have hp : takeS gAcc 9 l = ([], false) := by
      unfold takeS; rw [if_pos (.inr (.inl hr))]
    rw [hp]
    have hr' : ¬ (l.length : Int) % 9 = 0 := by omega
    clear hr hq
    go_enter Try.func48, Try.ntmps48
    refine St.startAt w fun w1 hS => ?_
    go_wp2_with (fail)
    go_ret2
    exact ⟨_, rfl, hS.addNil _ _⟩

end Go.Proofs.Ytggngdjncokanaa
