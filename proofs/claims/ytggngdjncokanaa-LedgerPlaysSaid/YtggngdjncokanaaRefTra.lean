/-
  The document's answer: transfers of bytes.
-/
import Derived.Test.YtggngdjncokanaaRefIDs
import Derived.Test.YtggngdjncokanaaSames
set_option linter.unusedSimpArgs false
set_option linter.unusedVariables false
set_option linter.unusedSectionVars false
namespace Go.Proofs.Ytggngdjncokanaa
open Go.RowKit Go.Cmp
set_option maxRecDepth 100000

theorem wp_build0 {P : Program} {S : List Nat} {w0 w : World} {M : List Ent} {o : Oper} {a : Act} {K : Act → World → Prop} {Q : Exit → Act → World → Prop} (hS : St S w0 w M) {t : TypeId} (ho : o.op = .buildSlice t 0 #[]) {e : TypeId} (ht : P.underlying t = some (.slice e)) {ti : TypeInfo} (hi : P.info? e = some ti) {k : Nat} (hk : ti.size = k) (hz : ti.zero.isSome = true)
    (h : ∀ v w', St S w0 w' (.vec v e k 0 [] :: M) → K (a.put o.dst v) w') : o.wp P a w K Q := by
  obtain ⟨z, hz⟩ := Option.isSome_iff_exists.1 hz
  refine wp_buildSlice hS ho ht hi hk (cs := []) ?_ (by simp) (by omega) (by omega) h
  unfold buildCells
  rw [hz]
  simp [Instr.fill]

set_option maxHeartbeats 1000000 in
theorem refTransfers_any (l : List UInt8) (w : World) (hl : l.length ≤ 1000) :
    Calls Try.prog 46 #[.string ⟨l.toArray⟩] w fun e w' => ∃ v, e = .returned (.tuple #[v, .bool (takeS gTra 32 l).2]) ∧ St [] w w' [.vec v 45 4 (takeS gTra 32 l).1.length ((takeS gTra 32 l).1.flatMap Tra.cells)] := by
  obtain ⟨q, hq⟩ : ∃ q, l.length / 32 = q := ⟨_, rfl⟩
  by_cases hr : l.length % 32 = 0
  · have hql : l.length = 32 * q := by omega
    have hd : ((l.length : Int)) / 32 = (q : Int) := by omega
    have hr' : (l.length : Int) % 32 = 0 := by omega
    have Hql := Lib.hid hql
    have Hq := Lib.hid hq
    have Hr := Lib.hid hr
    clear hq hr hql
    by_cases hm : 1 ≤ q ∧ q ≤ 4
    · have hp : takeS gTra 32 l = ((List.range q).map fun i => gTra (chunk l 32 i), true) := by
        unfold takeS; rw [if_neg (by rw [Hr.out, Hq.out]; have := Hql.out; omega), Hq.out]
      rw [hp]
      simp only [List.length_map, List.length_range]
      clear hp
      go_enter Try.func46, Try.ntmps46
      refine St.startAt w fun w1 hS => ?_
      go_wp2_with (fail)
      refine (many_any q _).mono ?_
      rintro e w2 ⟨rfl, hS2⟩
      replace hS := hS.call hS2
      clear hS2
      rw [decide_eq_true hm]
      go_wp2_with (first | ((with_reducible refine g_bs ?_); refine wl_of rfl ?_; refine wp_build0 (ti := Try.t45) (k := 4) hS rfl rfl rfl rfl rfl ?_; clear hS; intro v1 w1 hS) | fail)
      go_loopw [4, 5] (fun b i wr => ∃ j : Nat, j ≤ q ∧ i = .int .i64 ((j * 32 : Nat) : Int) ∧ St [] w wr [.vec b 45 4 j (((List.range j).map fun i => gTra (chunk l 32 i)).flatMap Tra.cells)]) (fun _ i _ => l.length - (intOf i).toNat)
      case atStart => exact ⟨0, by omega, rfl, hS⟩
      case round =>
        clear hS
        obtain ⟨j, hj, rfl, hS⟩ := hrel
        by_cases hlt : j < q
        · have hlt8 : ((j * 32 : Nat) : Int) < l.length := by have := Hql.out; omega
          have hin : j * 32 + 32 ≤ l.length := by have := Hql.out; omega
          have h2l : l.length ≤ 140737488355328 := by omega
          obtain ⟨y0, hy0⟩ : ∃ y, leN ((l.drop (j * 32)).take 8) = y := ⟨_, rfl⟩
          have Hy0 := Lib.hid hy0
          clear hy0
          obtain ⟨y1, hy1⟩ : ∃ y, leN ((l.drop (j * 32 + 8)).take 8) = y := ⟨_, rfl⟩
          have Hy1 := Lib.hid hy1
          clear hy1
          obtain ⟨y2, hy2⟩ : ∃ y, leN ((l.drop (j * 32 + 16)).take 8) = y := ⟨_, rfl⟩
          have Hy2 := Lib.hid hy2
          clear hy2
          obtain ⟨y3, hy3⟩ : ∃ y, leN ((l.drop (j * 32 + 24)).take 8) = y := ⟨_, rfl⟩
          have Hy3 := Lib.hid hy3
          clear hy3
          go_wp2_with (fail)
          refine (refAt_in l (j * 32) _ (by omega) h2l).mono ?_
          rw [Hy0.out]
          rintro e w3 ⟨rfl, hS2⟩
          replace hS := hS.call hS2
          clear hS2
          go_wp2_with (fail)
          refine (refAt_in l (j * 32 + 8) _ (by omega) h2l).mono ?_
          rw [Hy1.out]
          rintro e w3 ⟨rfl, hS2⟩
          replace hS := hS.call hS2
          clear hS2
          go_wp2_with (fail)
          refine (refAt_in l (j * 32 + 16) _ (by omega) h2l).mono ?_
          rw [Hy2.out]
          rintro e w3 ⟨rfl, hS2⟩
          replace hS := hS.call hS2
          clear hS2
          go_wp2_with (fail)
          refine (refAt_in l (j * 32 + 24) _ (by omega) h2l).mono ?_
          rw [Hy3.out]
          rintro e w3 ⟨rfl, hS2⟩
          replace hS := hS.call hS2
          clear hS2
          have hb : (j + 1) * 32 ≤ 140737488355328 := by omega
          have ho1 : ∀ u ∈ ([.int .u64 (y0 : Int), .int .u64 (y1 : Int), .int .u64 (y2 : Int), .int .u64 (y3 : Int)] : List Value), u.oneCell' = true := by simp [Value.oneCell']
          go_wp2_with (first | ((with_reducible refine g_bs ?_); refine wl_of rfl ?_; refine wp_build1 (ti := Try.t45) (cs := [.int .u64 (y0 : Int), .int .u64 (y1 : Int), .int .u64 (y2 : Int), .int .u64 (y3 : Int)]) hS rfl rfl rfl rfl rfl rfl rfl (by decide) rfl ?_; clear hS; intro v1 w3 hS) | ((with_reducible refine g_append ?_); refine wl_of rfl ?_; refine wp_append (ti := Try.t45) hS rfl 1 rfl (hS.rdv (i := 0) rfl) rfl rfl rfl rfl rfl rfl (by decide) rfl ho1 hb ?_; clear hS; intro v9 w9 hS _) | fail)
          refine ⟨⟨j + 1, by omega, by go_num, ?_⟩, by simp [intOf]; omega⟩
          have hf := (hS.front 1 rfl).one
          have e2 : gTra (chunk l 32 j) = ⟨y0, y1, y2, y3⟩ := by
            unfold gTra chunk
            rw [← Hy0.out, ← Hy1.out, ← Hy2.out, ← Hy3.out]
            simp [List.drop_take, List.take_take, List.drop_drop]
          rw [List.range_succ, List.map_append, List.flatMap_append]
          simpa [e2, Tra.cells] using hf
        · obtain rfl : j = q := by omega
          have hge : ¬ ((j * 32 : Nat) : Int) < l.length := by have := Hql.out; omega
          go_wp2_with (fail)
          go_ret2
          exact ⟨_, rfl, hS⟩
    · have hp : takeS gTra 32 l = ([], false) := by
        unfold takeS; rw [if_pos (by rw [Hr.out, Hq.out]; have := Hql.out; omega)]
      rw [hp]
      go_enter Try.func46, Try.ntmps46
      refine St.startAt w fun w1 hS => ?_
      go_wp2_with (fail)
      refine (many_any q _).mono ?_
      rintro e w2 ⟨rfl, hS2⟩
      replace hS := hS.call hS2
      clear hS2
      rw [decide_eq_false hm]
      go_wp2_with (fail)
      go_ret2
      exact ⟨_, rfl, hS.addNil _ _⟩
  · have hp : takeS gTra 32 l = ([], false) := by
      unfold takeS; rw [if_pos (.inr (.inl hr))]
    rw [hp]
    have hr' : ¬ (l.length : Int) % 32 = 0 := by omega
    clear hr hq
    go_enter Try.func46, Try.ntmps46
    refine St.startAt w fun w1 hS => ?_
    go_wp2_with (fail)
    go_ret2
    exact ⟨_, rfl, hS.addNil _ _⟩

end Go.Proofs.Ytggngdjncokanaa
