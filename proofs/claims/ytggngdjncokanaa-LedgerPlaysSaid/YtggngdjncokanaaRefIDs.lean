/-
  The document's answer: ids of bytes.
-/
import Derived.Test.YtggngdjncokanaaRefTake
set_option linter.unusedSimpArgs false
set_option linter.unusedVariables false
set_option linter.unusedSectionVars false
namespace Go.Proofs.Ytggngdjncokanaa
open Go.RowKit Go.Cmp
set_option maxRecDepth 100000

set_option maxHeartbeats 1000000 in
theorem refIDs_any (l : List UInt8) (w : World) (hl : l.length ≤ 1000) :
    Calls Try.prog 51 #[.string ⟨l.toArray⟩] w fun e w' => ∃ v, e = .returned (.tuple #[v, .bool (takeS gID 8 l).2]) ∧ St [] w w' [.vec v 43 1 (takeS gID 8 l).1.length (U (takeS gID 8 l).1)] := by
  obtain ⟨q, hq⟩ : ∃ q, l.length / 8 = q := ⟨_, rfl⟩
  by_cases hr : l.length % 8 = 0
  · have hql : l.length = 8 * q := by omega
    have hd : ((l.length : Int)) / 8 = (q : Int) := by omega
    have hr' : (l.length : Int) % 8 = 0 := by omega
    have Hql := Lib.hid hql
    have Hq := Lib.hid hq
    have Hr := Lib.hid hr
    clear hq hr hql
    by_cases hm : 1 ≤ q ∧ q ≤ 4
    · have hp : takeS gID 8 l = ((List.range q).map fun i => gID (chunk l 8 i), true) := by
        unfold takeS; rw [if_neg (by rw [Hr.out, Hq.out]; have := Hql.out; omega), Hq.out]
      rw [hp]
      simp only [List.length_map, List.length_range]
      clear hp
      go_enter Try.func51, Try.ntmps51
      refine St.startAt w fun w1 hS => ?_
      go_wp2_with (fail)
      refine (many_any q _).mono ?_
      rintro e w2 ⟨rfl, hS2⟩
      replace hS := hS.call hS2
      clear hS2
      rw [decide_eq_true hm]
      go_wp2_with (first | ((with_reducible refine g_bs ?_); refine wl_of rfl ?_; refine wp_buildSlice1 (vs := []) hS rfl rfl rfl rfl rfl rfl (by decide) ⟨rfl, by simp⟩ ?_; clear hS; intro v1 w1 hS) | fail)
      go_loopw [4, 5] (fun b i wr => ∃ j : Nat, j ≤ q ∧ i = .int .i64 ((j * 8 : Nat) : Int) ∧ St [] w wr [.vec b 43 1 j (U ((List.range j).map fun i => gID (chunk l 8 i)))]) (fun _ i _ => l.length - (intOf i).toNat)
      case atStart => exact ⟨0, by omega, rfl, hS⟩
      case round =>
        clear hS
        obtain ⟨j, hj, rfl, hS⟩ := hrel
        by_cases hlt : j < q
        · have hlt8 : ((j * 8 : Nat) : Int) < l.length := by have := Hql.out; omega
          have hin : j * 8 + 8 ≤ l.length := by have := Hql.out; omega
          have h2l : l.length ≤ 140737488355328 := by omega
          obtain ⟨y, hy⟩ : ∃ y, leN ((l.drop (j * 8)).take 8) = y := ⟨_, rfl⟩
          have Hy := Lib.hid hy
          clear hy
          go_wp2_with (fail)
          refine (refAt_in l (j * 8) _ hin h2l).mono ?_
          rw [Hy.out]
          rintro e w3 ⟨rfl, hS2⟩
          replace hS := hS.call hS2
          clear hS2
          have hb : (j + 1) * 8 ≤ 140737488355328 := by omega
          have ho1 : ∀ u ∈ [Value.int .u64 (y : Int)], u.oneCell' = true := by simp [Value.oneCell']
          go_wp2_with (first | ((with_reducible refine g_bs ?_); refine wl_of rfl ?_; refine wp_buildSlice1 (vs := [.int .u64 (y : Int)]) hS rfl rfl rfl rfl rfl rfl (by decide) ⟨rfl, by simp [Value.cells]⟩ ?_; clear hS; intro v1 w1 hS) | ((with_reducible refine g_append ?_); refine wl_of rfl ?_; refine wp_append hS rfl 1 rfl (hS.rdv (i := 0) rfl) rfl rfl rfl rfl rfl rfl (by decide) rfl ho1 hb ?_; clear hS; intro v9 w9 hS _) | fail)
          refine ⟨⟨j + 1, by omega, by go_num, ?_⟩, by simp [intOf]; omega⟩
          have hf := (hS.front 1 rfl).one
          have e2 : U ((List.range j).map fun i => gID (chunk l 8 i)) ++ [Value.int .u64 (y : Int)] = U ((List.range (j + 1)).map fun i => gID (chunk l 8 i)) := by
            rw [List.range_succ, List.map_append, U_append, ← Hy.out]
            congr 1
            simp [U, gID, chunk, List.take_take]
          rw [e2] at hf
          exact hf
        · obtain rfl : j = q := by omega
          have hge : ¬ ((j * 8 : Nat) : Int) < l.length := by have := Hql.out; omega
          go_wp2_with (fail)
          go_ret2
          exact ⟨_, rfl, hS⟩
    · have hp : takeS gID 8 l = ([], false) := by
        unfold takeS; rw [if_pos (by rw [Hr.out, Hq.out]; have := Hql.out; omega)]
      rw [hp]
      go_enter Try.func51, Try.ntmps51
      refine St.startAt w fun w1 hS => ?_
      go_wp2_with (fail)
      refine (many_any q _).mono ?_
      rintro e w2 ⟨rfl, hS2⟩
      replace hS := hS.call hS2
      clear hS2
      rw [decide_eq_false hm]
      go_wp2_with (fail)
      go_ret2
      exact ⟨_, rfl, hS.addNil _ _⟩
  · have hp : takeS gID 8 l = ([], false) := by
      unfold takeS; rw [if_pos (.inr (.inl hr))]
    rw [hp]
    have hr' : ¬ (l.length : Int) % 8 = 0 := by omega
    clear hr hq
    go_enter Try.func51, Try.ntmps51
    refine St.startAt w fun w1 hS => ?_
    go_wp2_with (fail)
    go_ret2
    exact ⟨_, rfl, hS.addNil _ _⟩

end Go.Proofs.Ytggngdjncokanaa
