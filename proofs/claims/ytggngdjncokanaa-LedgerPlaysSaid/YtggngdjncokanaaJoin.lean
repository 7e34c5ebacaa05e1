/-
  bytes.Join of two parts or more, nothing between them.
-/
import Derived.Test.YtggngdjncokanaaChecked
import Derived.Test.YtggngdjncokanaaOps
import Derived.Lib.MakeNoZero
set_option linter.unusedSimpArgs false
set_option linter.unusedVariables false
set_option linter.unusedSectionVars false
namespace Go.Proofs.Ytggngdjncokanaa
open Go.RowKit Go.Cmp
set_option maxRecDepth 100000

theorem flatten_len_take (ls : List (List UInt8)) (j : Nat) (l : List UInt8) (h : ls[j]? = some l) : (ls.take (j + 1)).flatten = (ls.take j).flatten ++ l := by
  obtain ⟨hlt, rfl⟩ := List.getElem?_eq_some_iff.1 h
  rw [List.take_succ_eq_append_getElem hlt, List.flatten_append]; simp
theorem flatten_take_le (ls : List (List UInt8)) (j : Nat) : (ls.take j).flatten.length ≤ ls.flatten.length := by
  conv => rhs; rw [← List.take_append_drop j ls, List.flatten_append, List.length_append]
  omega

/-- The buffer that bytealg.MakeNoZero hands back, cut to its length. -/
theorem wp_makeNoZero {o : Oper} {a : Act} {K : Act → World → Prop} {Q : Exit → Act → World → Prop} {w w0 : World} {S : List Nat} {M : List Ent} (hS : St S w0 w M) {x : Operand} {ts : Array TypeId} (ho : o.op = .call { callee := .value (.func 83), args := #[x], argTypes := ts }) {T : Nat} (hx : a.eval x = .int .i64 (T : Int)) (hT : T ≤ 140737488355328)
    (h : ∀ v cs w', St S w0 w' (.vec v 5 1 T cs :: M) → K (a.put o.dst v) w') : o.wp Try.prog a w K Q := by
  obtain ⟨cs, hrun, h1, h2⟩ := Lib.run_makeNoZero (P := Try.prog) w #[3] 65 5 (by kernel_rfl) T (by omega)
  have hcall : (callFunc 83 #[.int .i64 (T : Int)]).run Try.prog w = .ok (.value (.slice (some ⟨w.heap.size, 0, none⟩) T cs.size)) (w.drew.drew.alloc (.cells cs 5)) := by
    rw [run_callFunc_extern Try.func83 (by kernel_rfl) (by kernel_rfl) (by kernel_rfl) (e := Extern.BytealgMakeNoZero.makeNoZero #[3] #[65]) (by kernel_rfl), hrun]
    rfl
  have hM := hS.drew.drew.alloc cs.toList 5
  simp only [World.size_drew, Array.toArray_toList] at hM
  refine wp_run (v := .slice (some ⟨w.heap.size, 0, none⟩) T cs.size) ?_ (h _ (cs.toList.take T) _ (hM.toVec 1 T cs.size (cs.toList.take T) (cs.toList.drop T) (by simp) (by simp; omega) (by simp) h1 (h2 (by unfold maxLen; omega)) (fun i _ => nf0 i)))
  simp only [execOp, ho, resolve, invoke, List.map_toArray, List.map_cons, List.map_nil, hx, Sem.run_bind]
  simp [Act.eval, Deferred.ofValue, hcall]

set_option maxHeartbeats 1000000 in
theorem join_any (ls : List (List UInt8)) (vs : List Value) (sv : Value) (n : Nat) (w : World) (hn : ls.length = n) (h2 : 2 ≤ n) (hn47 : n ≤ 140737488355328) (hR : Rd w 1 sv n vs)
    (hp : ∀ (i : Nat) v l, vs[i]? = some v → ls[i]? = some l → Rd w 1 v l.length (B l)) (hlen : ls.flatten.length ≤ 140737488355328) :
    Calls Try.prog 77 #[sv, .slice none 0 0] w fun e w' => ∃ v, e = .returned v ∧ St [] w w' [.vec v 5 1 ls.flatten.length (B ls.flatten)] := by
  have hvl : vs.length = n := by have := hR.1; omega
  have Hn := Lib.hid hn
  have Hvl := Lib.hid hvl
  clear hn hvl
  have d1 : ((n : Int) == 0) = false := beq_eq_false_iff_ne.2 (by omega)
  have d2 : ((n : Int) == 1) = false := beq_eq_false_iff_ne.2 (by omega)
  go_enter Try.func77, Try.ntmps77
  refine St.startAt w fun w1 hS => ?_
  go_wp2_with (first | ((with_reducible refine g_len ?_); refine wl_run rfl (x_len rfl (hS.old0 hR) rfl rfl) ?_) | fail)
  go_loop [5, 44] (fun m i => ∃ j : Nat, j ≤ n ∧ i = .int .i64 j ∧ m = .int .i64 ((ls.take j).flatten.length : Nat)) (fun _ i => n - (intOf i).toNat)
  case atStart => exact ⟨0, by omega, rfl, rfl⟩
  case round =>
    obtain ⟨j, hj, rfl, rfl⟩ := hrel
    by_cases hlt : j < n
    · obtain ⟨v, hv⟩ : ∃ v, vs[j]? = some v := ⟨vs[j]'(by have := Hvl.out; omega), by simp⟩
      obtain ⟨l, hl⟩ : ∃ l, ls[j]? = some l := ⟨ls[j]'(by have := Hn.out; omega), by simp⟩
      have hRv := hp j v l hv hl
      have hst := flatten_len_take ls j l hl
      have hle := flatten_take_le ls (j + 1)
      have Hst := Lib.hid hst
      have Hv := Lib.hid hv
      rw [hst, List.length_append] at hle
      clear hv hl hst
      obtain ⟨t, ht⟩ : ∃ t, (ls.take j).flatten.length = t := ⟨_, rfl⟩
      have Ht := Lib.hid ht
      rw [ht] at hle ⊢
      clear ht
      have d3 : decide ((9223372036854775807 : Int) - (t : Int) < (l.length : Int)) = false := by simp; omega
      go_wp2_with (first | ((with_reducible refine g_index ?_); refine wl_run rfl (x_index rfl (hS.old0 hR) rfl rfl rfl rfl rfl (by omega) (by omega)) ?_) | ((with_reducible refine g_load ?_); refine wl_run rfl (x_loadS1 rfl (hS.old0 hR) rfl rfl rfl (by simpa using Hv.out)) ?_) | ((with_reducible refine g_len ?_); refine wl_run rfl (x_len rfl (hS.old0 hRv) rfl rfl) ?_) | fail)
      refine ⟨⟨j + 1, by omega, by go_num, ?_⟩, by simp [intOf]; omega⟩
      rw [Hst.out, List.length_append, Ht.out]
      go_num
    · obtain rfl : n = j := by omega
      rw [show ls.take n = ls from by rw [← Hn.out, List.take_length]]
      obtain ⟨T, hT⟩ : ∃ T, ls.flatten.length = T := ⟨_, rfl⟩
      have HT := Lib.hid hT
      rw [hT] at hlen ⊢
      clear hT
      have i0 : (0 : Int) ≤ (T : Int) := by omega
      have i1 : (T : Int) ≤ (140737488355328 : Int) := by omega
      obtain ⟨v0, hv0⟩ : ∃ v, vs[0]? = some v := ⟨vs[0]'(by have := Hvl.out; omega), by simp⟩
      obtain ⟨l0, hl0⟩ : ∃ l, ls[0]? = some l := ⟨ls[0]'(by have := Hn.out; omega), by simp⟩
      have hR0 := hp 0 v0 l0 hv0 hl0
      have Hv0 := Lib.hid hv0
      have Hl0 := Lib.hid hl0
      have hle0 : l0.length ≤ T := by
        have h1 := flatten_len_take ls 0 l0 hl0
        have h2 := flatten_take_le ls 1
        rw [h1, List.length_append] at h2
        have := HT.out
        omega
      clear hv0 hl0
      have hmin0 : min l0.length T = l0.length := by omega
      have hone : (0 : Int) ≤ 1 := by omega
      have hone' : (1 : Int) ≤ (n : Int) := by omega
      go_wp2_with (first | ((with_reducible refine g_call ?_); refine wl_of rfl ?_; refine wp_makeNoZero hS rfl rfl hlen ?_; clear hS; intro v cs w2 hS) | ((with_reducible refine g_cut ?_); refine wl_of rfl ?_; refine wp_clip hS rfl 0 rfl rfl rfl rfl rfl rfl ?_; clear hS; intro v hS) | ((with_reducible refine g_index ?_); refine wl_run rfl (x_index rfl (hS.old0 hR) rfl rfl rfl rfl rfl (by omega) (by omega)) ?_) | ((with_reducible refine g_load ?_); refine wl_run rfl (x_loadS1 rfl (hS.old0 hR) rfl rfl rfl (by simpa using Hv0.out)) ?_) | ((with_reducible refine g_copy ?_); refine wl_of rfl ?_; refine wp_copyVec hS rfl (hS.old0 hR0) 0 rfl rfl rfl rfl rfl rfl (B_one _) rfl ?_; clear hS; intro w3 hS; rw [hmin0] at hS ⊢) | ((with_reducible refine g_cut ?_); refine wl_run rfl (x_cutLo rfl (hS.old0 hR) rfl rfl rfl rfl rfl hone hone') ?_) | ((with_reducible refine g_len ?_); refine wl_run rfl (x_len rfl ((hS.old0 hR).cut 1 n (by omega) (by omega)) rfl rfl) ?_) | fail)
      have hS0 : St [] w w3 [.vec v 5 1 T (B (ls.take 1).flatten ++ cs.drop (ls.take 1).flatten.length)] := by
        have e1 : (ls.take 1).flatten = l0 := by
          have := flatten_len_take ls 0 l0 Hl0.out
          simpa using this
        rw [e1]
        simp only [List.set_cons_zero, Nat.mul_one] at hS
        rw [List.take_of_length_le (by rw [B_length]; exact Nat.le_refl _)] at hS
        exact hS
      clear hS
      have hcut := hR.cut 1 n (by omega) (Nat.le_refl _)
      have Hl00 : Hid ((ls.take 1).flatten = l0) := Lib.hid (by simpa using flatten_len_take ls 0 l0 Hl0.out)
      clear hmin0 hone hone'
      go_loopw [9, 72] (fun p i wr => ∃ j : Nat, j ≤ n - 1 ∧ i = .int .i64 j ∧ p = .int .i64 ((ls.take (1 + j)).flatten.length : Nat) ∧ St [] w wr [.vec v 5 1 T (B (ls.take (1 + j)).flatten ++ cs.drop (ls.take (1 + j)).flatten.length)]) (fun _ i _ => n - (intOf i).toNat)
      case atStart => exact ⟨0, by omega, rfl, by rw [← Hl00.out], hS0⟩
      case round =>
        obtain ⟨j, hj, rfl, rfl, hS⟩ := hrel
        by_cases hlt : j < n - 1
        · obtain ⟨vj, hv⟩ : ∃ v, vs[1 + j]? = some v := ⟨vs[1 + j]'(by have := Hvl.out; omega), by simp⟩
          obtain ⟨l, hl⟩ : ∃ l, ls[1 + j]? = some l := ⟨ls[1 + j]'(by have := Hn.out; omega), by simp⟩
          have hRv := hp (1 + j) vj l hv hl
          have hst := flatten_len_take ls (1 + j) l hl
          have hle := flatten_take_le ls (1 + j + 1)
          have Hst := Lib.hid hst
          have Hv : Hid ((List.drop (1 * 1) (List.take (n * 1) vs))[j]? = some vj) := Lib.hid (by rw [List.getElem?_drop, List.getElem?_take]; simp only [Nat.mul_one]; rw [if_pos (by omega)]; exact hv)
          rw [hst, List.length_append, HT.out] at hle
          clear hv hl hst
          obtain ⟨acc, hacc⟩ : ∃ acc, (ls.take (1 + j)).flatten = acc := ⟨_, rfl⟩
          have Hacc := Lib.hid hacc
          rw [hacc] at hle hS ⊢
          clear hacc
          have m0 : min 0 (T - acc.length) = 0 := by omega
          have m1 : min l.length (T - acc.length) = l.length := by omega
          have j0 : (0 : Int) ≤ (j : Int) := by omega
          have j1 : (j : Int) < ((n - 1 : Nat) : Int) := by omega
          have t0 : (0 : Int) ≤ (acc.length : Int) := by omega
          have t1 : (acc.length : Int) ≤ (T : Int) := by omega
          go_wp2_with (first | ((with_reducible refine g_index ?_); refine wl_run rfl (x_index rfl (hS.old0 hcut) rfl rfl rfl rfl rfl j0 j1) ?_) | ((with_reducible refine g_load ?_); refine wl_run rfl (x_loadS1 rfl (hS.old0 hcut) rfl rfl rfl (by simpa using Hv.out)) ?_) | ((with_reducible refine g_cut ?_); refine wl_run rfl (x_cutLo rfl (hS.rdv (i := 0) rfl) rfl rfl rfl rfl rfl t0 t1) ?_) | ((with_reducible refine g_copy ?_); refine wl_of rfl ?_; refine wp_copyCut hS rfl (Rd.nil _ _) 0 rfl rfl rfl rfl rfl rfl (by omega) (by omega) (by simp) rfl ?_; clear hS; intro w4 hS; rw [m0] at hS ⊢) | ((with_reducible refine g_copy ?_); refine wl_of rfl ?_; refine wp_copyCut hS rfl (hS.old0 hRv) 0 rfl rfl rfl rfl rfl rfl (by omega) (by omega) (B_one _) rfl ?_; clear hS; intro w5 hS; rw [m1] at hS ⊢) | fail)
          simp only [List.set_cons_zero, Nat.mul_one, Nat.add_zero, List.take_zero, List.append_nil, List.take_append_drop] at hS
          rw [List.take_left' (B_length acc), List.take_of_length_le (by rw [B_length]; exact Nat.le_refl _), List.drop_append, List.drop_eq_nil_of_le (by rw [B_length]; omega), List.nil_append, B_length, List.drop_drop, ← B_append] at hS
          refine ⟨⟨j + 1, by omega, by go_num, ?_, ?_⟩, by simp [intOf]; omega⟩
          · rw [show 1 + (j + 1) = 1 + j + 1 by omega, Hst.out, Hacc.out, List.length_append]
            go_num
          · rw [show 1 + (j + 1) = 1 + j + 1 by omega, Hst.out, Hacc.out, List.length_append]
            rw [show acc.length + (acc.length + l.length - acc.length) = acc.length + l.length by omega] at hS
            exact hS
        · go_wp2_with fail
          go_ret
          have hl := (hS.vec (i := 0) rfl).1
          have e1 : (ls.take (1 + j)).flatten = ls.flatten := by rw [List.take_of_length_le (by have := Hn.out; omega)]
          rw [e1, HT.out] at hS hl
          rw [List.length_append, B_length, HT.out] at hl
          rw [List.drop_eq_nil_of_le (by rw [List.length_drop] at hl; omega), List.append_nil] at hS
          refine ⟨v, rfl, ?_⟩
          rw [HT.out]
          exact hS
end Go.Proofs.Ytggngdjncokanaa
