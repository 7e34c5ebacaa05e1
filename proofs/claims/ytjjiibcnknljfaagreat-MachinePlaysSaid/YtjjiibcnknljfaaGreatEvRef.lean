/-
  The document's answers: numbers' bytes.
  The document's answer: the number of eight bytes from a place on.
  The document's answer: ids of bytes.
  The document's answers: lists' bytes.
  The document's answers: the same lists?
  The examples of the chapter.
  What is laid is read as it was: plain lists.
  The document's answers: the same lists of structs?
  The document's answer: transfers of bytes.
  The document's answer: accounts of bytes.
  The document's answer: transfers' bytes.
  The document's answer: accounts' bytes.
  Whole accounts: what their bytes are; both Whole and both PutWhole.
-/
import Derived.Test.YtjjiibcnknljfaaGreatEv
import Derived.Test.YtjjiibcnknljfaaGreatGen
set_option linter.unusedSimpArgs false
set_option linter.unusedVariables false
set_option linter.unusedSectionVars false
set_option maxRecDepth 100000
namespace Go.Proofs.YtjjiibcnknljfaaGreat
open Go.RowKit Go.Cmp
set_option maxRecDepth 100000

theorem refBytes_any (l : List UInt8) (v : Value) (n : Nat) (w : World) (hn : l.length = n) (hl : n ≤ 140737488355328) (hR : Rd w 1 v n (B l)) :
    Calls Tryz.prog 119 #[v] w fun e w' => ∃ v', e = .returned v' ∧ St [] w w' [.vec v' 5 1 n (B l)] := by
  have Hn := Lib.hid hn
  clear hn
  go_enter Tryz.func119, Tryz.ntmps119
  refine St.startAt w fun w1 hS => ?_
  have h0 : (0 : Int) ≤ (n : Int) := by omega
  have h1 : ((n : Int)).toNat * 1 ≤ 140737488355328 := by simpa using hl
  have h2 : (n : Int) ≤ 140737488355328 := by omega
  have h3 : (B l).take (min n (n : Int).toNat * 1) ++ (List.replicate (n : Int).toNat (Value.int .u8 0)).drop (min n (n : Int).toNat * 1) = B l := by
    have := Hn.out
    rw [List.drop_eq_nil_of_le (by simp), List.append_nil, List.take_of_length_le (by simp [B_length]; omega)]
  go_wp2_with (first | ((with_reducible refine g_len ?_); refine wl_run rfl (x_len rfl (hS.old0 hR) rfl rfl) ?_) | ((with_reducible refine g_make ?_); refine wl_of rfl ?_; refine wp_make hS rfl rfl rfl rfl rfl rfl rfl rfl h0 h1 h2 ?_; clear hS; intro v1 w1 hS) | ((with_reducible refine g_copy ?_); refine wl_of rfl ?_; refine wp_copyVec hS rfl (hS.old0 hR) 0 rfl rfl rfl rfl rfl rfl (B_one _) h3 ?_; clear hS; intro w1 hS) | fail)
  go_ret
  exact ⟨_, rfl, by simpa using hS⟩

set_option maxHeartbeats 400000 in
theorem refPut_any (l : List UInt8) (v : Value) (m n : Nat) (w : World) (hm : l.length = m) (hl : m + 8 ≤ 140737488355328) (hn : n < 256 ^ 8) (hR : Rd w 1 v m (B l)) :
    Calls Tryz.prog 88 #[v, .int .u64 n, .int .i64 8] w fun e w' => ∃ v', e = .returned (.tuple #[v', .int .i64 0]) ∧ St [] w w' [.vec v' 5 1 (m + 8) (B (l ++ leB 8 n))] := by
  have Hn := Lib.hid hn
  have Hm := Lib.hid hm
  clear hn hm
  go_enter Tryz.func88, Tryz.ntmps88
  refine St.startAt w fun w1 hS => ?_
  go_wp2_with (fail)
  refine (refBytes_any l _ m _ Hm.out (by omega) (hS.old0 hR)).mono ?_
  rintro e w2 ⟨v', rfl, hS2⟩
  replace hS := hS.call hS2
  clear hS2
  go_wp2
  go_loopw [8, 1, 9] (fun b x i wr => ∃ (j q : Nat), j ≤ 8 ∧ Hid (n / 256 ^ j = q) ∧ i = .int .i64 j ∧ x = .int .u64 (q : Int) ∧ St [] w wr [.vec b 5 1 (m + j) (B (l ++ leB j n))]) (fun _ _ i _ => 8 - (intOf i).toNat)
  case atStart => exact ⟨0, n, by omega, Lib.hid (by simp), rfl, rfl, by simpa [leB] using hS⟩
  case round =>
    clear hS
    obtain ⟨j, q, hj, Hq, rfl, rfl, hS⟩ := hrel
    by_cases hlt : j < 8
    · have hS0 := hS
      clear hS
      have hS := St.init wr
      have hE := hS0.rdv (i := 0) rfl
      have hb : (m + j + 1) * 1 ≤ 140737488355328 := by omega
      have ho1 : ∀ u ∈ [Value.int .u8 ((q : Int) % 256)], u.oneCell' = true := by simp [Value.oneCell']
      have hv1 : ∀ v ∈ [Value.int .u8 ((q : Int) % 256)], v.cells = #[v] := by simp [Value.cells]
      clear hS
      have hS := hS0
      go_wp2_with (first | ((with_reducible refine g_bs ?_); refine wl_of rfl ?_; refine wp_buildSlice1 (vs := [.int .u8 ((q : Int) % 256)]) hS rfl rfl rfl rfl rfl rfl (by decide) ⟨rfl, hv1⟩ ?_; clear hS; intro v1 w1 hS) | ((with_reducible refine g_append ?_); refine wl_of rfl ?_; refine wp_append hS rfl 1 rfl (hS.rdv (i := 0) rfl) rfl rfl rfl rfl rfl rfl (by decide) rfl ho1 hb ?_; clear hS; intro v9 w9 hS _) | fail)
      have hqn : q < 18446744073709551616 := by
        have := Hn.out
        have h2 := Hq.out
        have h3 := Nat.div_le_self n (256 ^ j)
        rw [pow8] at this
        omega
      have hw : IntKind.u64.wrap ((q : Int) / 256) = ((q / 256 : Nat) : Int) := by
        simp only [IntKind.wrap, IntKind.signed, IntKind.bits]
        simp
        omega
      refine ⟨⟨j + 1, q / 256, by omega, Lib.hid ?_, by go_num, by rw [hw], ?_⟩, by simp [intOf]; omega⟩
      · rw [← Hq.out, Nat.div_div_eq_div_mul, ← Nat.pow_succ]
      · have hf := (hS.front 1 rfl).one
        have e2 : B (l ++ leB j n) ++ [Value.int .u8 ((q : Int) % 256)] = B (l ++ leB (j + 1) n) := by
          rw [leB_snoc, ← List.append_assoc, B_append (l ++ leB j n), Hq.out]
          congr 1
          simp [B]
        rw [e2] at hf
        exact hf
    · obtain rfl : j = 8 := by omega
      obtain rfl : q = 0 := by
        have := Hq.out
        rw [Nat.div_eq_of_lt Hn.out] at this
        exact this.symm
      go_wp2
      go_ret2
      exact ⟨_, rfl, hS⟩

theorem eight_any (n : Nat) (w : World) (hn : n < 256 ^ 8) :
    Calls Tryz.prog 57 #[.int .u64 n] w fun e w' => e = .returned (.string ⟨(leB 8 n).toArray⟩) ∧ St [] w w' [] := by
  have Hn := Lib.hid hn
  clear hn
  go_enter Tryz.func57, Tryz.ntmps57
  refine St.startAt w fun w1 hS => ?_
  go_wp2_with (first | ((with_reducible refine g_bs ?_); refine wl_of rfl ?_; refine wp_buildSlice1 (vs := []) hS rfl rfl rfl rfl rfl rfl (by decide) ⟨rfl, by simp⟩ ?_; clear hS; intro v1 w1 hS) | fail)
  refine (refPut_any [] _ 0 n _ rfl (by omega) Hn.out (hS.rdv (i := 0) rfl)).mono ?_
  rintro e w2 ⟨v', rfl, hS2⟩
  replace hS := hS.call hS2
  clear hS2
  have hE := hS.rdv (i := 0) rfl
  rw [List.nil_append] at hE
  go_wp2_with (first | ((with_reducible refine g_conv ?_); refine wl_run rfl (x_toString rfl rfl rfl rfl hE rfl) ?_) | fail)
  go_ret
  exact ⟨rfl, hS.nil⟩

theorem many_any (n : Nat) (w : World) :
    Calls Tryz.prog 71 #[.int .i64 n] w fun e w' => e = .returned (.bool (decide (1 ≤ n ∧ n ≤ 4))) ∧ St [] w w' [] := by
  go_enter Tryz.func71, Tryz.ntmps71
  refine St.startAt w fun w1 hS => ?_
  go_wp2_with (fail)
  all_goals
    go_ret
    refine ⟨?_, hS⟩
    refine congrArg Ending.returned ?_
    refine congrArg Value.bool ?_
    rw [Bool.eq_iff_iff]
    simp
    try omega

end Go.Proofs.YtjjiibcnknljfaaGreat
namespace Go.Proofs.YtjjiibcnknljfaaGreat
open Go.RowKit Go.Cmp
set_option maxRecDepth 100000

theorem leN_drop (c : List UInt8) (j : Nat) (h : j < c.length) : leN (c.drop j) = leN (c.drop (j + 1)) * 256 + c[j].toNat := by
  rw [List.drop_eq_getElem_cons h]
  simp only [leN]
  omega

set_option maxHeartbeats 400000 in
theorem refTake_in (l : List UInt8) (v : Value) (i : Nat) (w : World) (hi : i + 8 ≤ l.length) (hl : l.length ≤ 140737488355328) (hR : Rd w 1 v l.length (B l)) :
    Calls Tryz.prog 107 #[v, .int .i64 i, .int .i64 8] w fun e w' => e = .returned (.tuple #[.int .u64 (leN ((l.drop i).take 8)), .int .i64 0]) ∧ St [] w w' [] := by
  obtain ⟨c, hc⟩ : ∃ c, (l.drop i).take 8 = c := ⟨_, rfl⟩
  have hcl : c.length = 8 := by rw [← hc]; simp; omega
  have hcg : ∀ (j : Nat) (h : j < c.length), (B l)[i + j]? = some (.int .u8 (c[j].toNat : Int)) := by
    intro j h
    have hij : i + j < l.length := by omega
    have : c[j]? = l[i + j]? := by
      rw [← hc, List.getElem?_take_of_lt (by omega), List.getElem?_drop]
    rw [List.getElem?_eq_getElem h, List.getElem?_eq_getElem hij] at this
    simp only [Option.some.injEq] at this
    rw [this]
    exact B_get hij
  rw [hc]
  have Hcl := Lib.hid hcl
  have Hcg := Lib.hid hcg
  clear hc hcl hcg
  go_enter Tryz.func107, Tryz.ntmps107
  refine St.startAt w fun w1 hS => ?_
  have d1 : decide ((l.length : Int) - 8 < (i : Int)) = false := by simp; omega
  go_wp2_with (first | ((with_reducible refine g_len ?_); refine wl_run rfl (x_len rfl (hS.old0 hR) rfl rfl) ?_) | fail)
  go_loopw [8, 9] (fun x k wr => ∃ j : Nat, j ≤ 8 ∧ k = .int .i64 ((j : Int) - 1) ∧ x = .int .u64 (leN (c.drop j)) ∧ St [] w wr []) (fun _ k _ => (intOf k + 1).toNat)
  case atStart => exact ⟨8, by omega, rfl, by rw [List.drop_eq_nil_of_le (by rw [Hcl.out]; exact Nat.le_refl _)]; rfl, hS⟩
  case round =>
    clear hS
    obtain ⟨j, hj, rfl, rfl, hS⟩ := hrel
    by_cases hlt : 0 < j
    · obtain ⟨q, rfl⟩ : ∃ q, j = q + 1 := ⟨j - 1, by omega⟩
      have hq : q < c.length := by rw [Hcl.out]; omega
      have e0 : ((q + 1 : Nat) : Int) - 1 = q := by omega
      have hbd := leN_lt (c.drop q)
      have hst := leN_drop c q hq
      have hp := pow256_le (c.drop q).length (by rw [List.length_drop, Hcl.out]; omega)
      have hcq := Hcg.out q hq
      rw [e0]
      obtain ⟨x, hx⟩ : ∃ x, leN (c.drop (q + 1)) = x := ⟨_, rfl⟩
      obtain ⟨y, hy⟩ : ∃ y, c[q].toNat = y := ⟨_, rfl⟩
      have hiq : (i : Int) + q < l.length := by omega
      rw [hx, hy] at hst
      rw [hx]
      rw [hy] at hcq
      have h64 : x * 256 + y < 18446744073709551616 := by omega
      have Hst := Lib.hid hst
      have Hcq := Lib.hid hcq
      clear hx hy hst hbd hp hcq e0
      go_wp2_with (first | ((with_reducible refine g_index ?_); refine wl_run rfl (x_index rfl (hS.old0 hR) rfl rfl rfl rfl rfl (by omega) (by omega)) ?_) | ((with_reducible refine g_load ?_); refine wl_run rfl (x_loadS1 rfl (hS.old0 hR) rfl rfl rfl (by have := Hcq.out; rw [Nat.mul_one]; rw [show ((i : Int) + q).toNat = i + q by omega]; exact this)) ?_) | fail)
      exact ⟨⟨q, by omega, rfl, by rw [Hst.out, Int.natCast_add, Int.natCast_mul]; rfl, hS⟩, by simp only [intOf]; omega⟩
    · obtain rfl : j = 0 := by omega
      go_wp2
      go_ret2
      exact ⟨rfl, hS⟩

theorem refAt_in (l : List UInt8) (i : Nat) (w : World) (hi : i + 8 ≤ l.length) (hl : l.length ≤ 140737488355328) :
    Calls Tryz.prog 72 #[.string ⟨l.toArray⟩, .int .i64 i] w fun e w' => e = .returned (.int .u64 (leN ((l.drop i).take 8))) ∧ St [] w w' [] := by
  go_enter Tryz.func72, Tryz.ntmps72
  refine St.startAt w fun w1 hS => ?_
  have hm : l.length ≤ maxLen := by unfold maxLen; omega
  go_wp2_with (first | ((with_reducible refine g_conv ?_); refine wl_of rfl ?_; refine wp_toBytes hS rfl rfl rfl rfl rfl hm ?_; clear hS; intro v1 w1 hS) | fail)
  refine (refTake_in l _ i _ hi hl (hS.rdv (i := 0) rfl)).mono ?_
  rintro e w2 ⟨rfl, hS2⟩
  go_wp2
  go_ret
  exact ⟨rfl, (hS.call hS2).nil⟩

end Go.Proofs.YtjjiibcnknljfaaGreat
namespace Go.Proofs.YtjjiibcnknljfaaGreat
open Go.RowKit Go.Cmp
set_option maxRecDepth 100000

set_option maxHeartbeats 1000000 in
theorem refIDs_any (l : List UInt8) (w : World) (hl : l.length ≤ 1000) :
    Calls Tryz.prog 43 #[.string ⟨l.toArray⟩] w fun e w' => ∃ v, e = .returned (.tuple #[v, .bool (takeS gID 8 l).2]) ∧ St [] w w' [.vec v 32 1 (takeS gID 8 l).1.length (U (takeS gID 8 l).1)] := by
  obtain ⟨q, hq⟩ : ∃ q, l.length / 8 = q := ⟨_, rfl⟩
  by_cases hr : l.length % 8 = 0
  · have hql : l.length = 8 * q := by omega
    have hd : ((l.length : Int)) / 8 = (q : Int) := by omega
    have hr' : (l.length : Int) % 8 = 0 := by omega
    have Hql := Lib.hid hql
    have Hq := Lib.hid hq
    have Hr := Lib.hid hr
    clear hq hr hql
    by_cases hm : 1 ≤ q ∧ q ≤ 4
    · have hp : takeS gID 8 l = ((List.range q).map fun i => gID (chunk l 8 i), true) := by
        unfold takeS; rw [if_neg (by rw [Hr.out, Hq.out]; have := Hql.out; omega), Hq.out]
      rw [hp]
      simp only [List.length_map, List.length_range]
      clear hp
      go_enter Tryz.func43, Tryz.ntmps43
      refine St.startAt w fun w1 hS => ?_
      go_wp2_with (fail)
      refine (many_any q _).mono ?_
      rintro e w2 ⟨rfl, hS2⟩
      replace hS := hS.call hS2
      clear hS2
      rw [decide_eq_true hm]
      go_wp2_with (first | ((with_reducible refine g_bs ?_); refine wl_of rfl ?_; refine wp_buildSlice1 (vs := []) hS rfl rfl rfl rfl rfl rfl (by decide) ⟨rfl, by simp⟩ ?_; clear hS; intro v1 w1 hS) | fail)
      go_loopw [4, 5] (fun b i wr => ∃ j : Nat, j ≤ q ∧ i = .int .i64 ((j * 8 : Nat) : Int) ∧ St [] w wr [.vec b 32 1 j (U ((List.range j).map fun i => gID (chunk l 8 i)))]) (fun _ i _ => l.length - (intOf i).toNat)
      case atStart => exact ⟨0, by omega, rfl, hS⟩
      case round =>
        clear hS
        obtain ⟨j, hj, rfl, hS⟩ := hrel
        by_cases hlt : j < q
        · have hlt8 : ((j * 8 : Nat) : Int) < l.length := by have := Hql.out; omega
          have hin : j * 8 + 8 ≤ l.length := by have := Hql.out; omega
          have h2l : l.length ≤ 140737488355328 := by omega
          obtain ⟨y, hy⟩ : ∃ y, leN ((l.drop (j * 8)).take 8) = y := ⟨_, rfl⟩
          have Hy := Lib.hid hy
          clear hy
          go_wp2_with (fail)
          refine (refAt_in l (j * 8) _ hin h2l).mono ?_
          rw [Hy.out]
          rintro e w3 ⟨rfl, hS2⟩
          replace hS := hS.call hS2
          clear hS2
          have hb : (j + 1) * 8 ≤ 140737488355328 := by omega
          have ho1 : ∀ u ∈ [Value.int .u64 (y : Int)], u.oneCell' = true := by simp [Value.oneCell']
          go_wp2_with (first | ((with_reducible refine g_bs ?_); refine wl_of rfl ?_; refine wp_buildSlice1 (vs := [.int .u64 (y : Int)]) hS rfl rfl rfl rfl rfl rfl (by decide) ⟨rfl, by simp [Value.cells]⟩ ?_; clear hS; intro v1 w1 hS) | ((with_reducible refine g_append ?_); refine wl_of rfl ?_; refine wp_append hS rfl 1 rfl (hS.rdv (i := 0) rfl) rfl rfl rfl rfl rfl rfl (by decide) rfl ho1 hb ?_; clear hS; intro v9 w9 hS _) | fail)
          refine ⟨⟨j + 1, by omega, by go_num, ?_⟩, by simp [intOf]; omega⟩
          have hf := (hS.front 1 rfl).one
          have e2 : U ((List.range j).map fun i => gID (chunk l 8 i)) ++ [Value.int .u64 (y : Int)] = U ((List.range (j + 1)).map fun i => gID (chunk l 8 i)) := by
            rw [List.range_succ, List.map_append, U_append, ← Hy.out]
            congr 1
            simp [U, gID, chunk, List.take_take]
          rw [e2] at hf
          exact hf
        · obtain rfl : j = q := by omega
          have hge : ¬ ((j * 8 : Nat) : Int) < l.length := by have := Hql.out; omega
          go_wp2_with (fail)
          go_ret2
          exact ⟨_, rfl, hS⟩
    · have hp : takeS gID 8 l = ([], false) := by
        unfold takeS; rw [if_pos (by rw [Hr.out, Hq.out]; have := Hql.out; omega)]
      rw [hp]
      go_enter Tryz.func43, Tryz.ntmps43
      refine St.startAt w fun w1 hS => ?_
      go_wp2_with (fail)
      refine (many_any q _).mono ?_
      rintro e w2 ⟨rfl, hS2⟩
      replace hS := hS.call hS2
      clear hS2
      rw [decide_eq_false hm]
      go_wp2_with (fail)
      go_ret2
      exact ⟨_, rfl, hS.addNil _ _⟩
  · have hp : takeS gID 8 l = ([], false) := by
      unfold takeS; rw [if_pos (.inr (.inl hr))]
    rw [hp]
    have hr' : ¬ (l.length : Int) % 8 = 0 := by omega
    clear hr hq
    go_enter Tryz.func43, Tryz.ntmps43
    refine St.startAt w fun w1 hS => ?_
    go_wp2_with (fail)
    go_ret2
    exact ⟨_, rfl, hS.addNil _ _⟩

end Go.Proofs.YtjjiibcnknljfaaGreat
namespace Go.Proofs.YtjjiibcnknljfaaGreat
open Go.RowKit Go.Cmp
set_option maxRecDepth 100000

theorem bcat (a b : List UInt8) : (⟨a.toArray⟩ : ByteArray) ++ ⟨b.toArray⟩ = ⟨(a ++ b).toArray⟩ := by
  apply ByteArray.ext
  simp

end Go.Proofs.YtjjiibcnknljfaaGreat
namespace Go.Proofs.YtjjiibcnknljfaaGreat
open Go.RowKit Go.Cmp
set_option maxRecDepth 100000

theorem Rd_le {w : World} {k : Nat} {v : Value} {n : Nat} {xs : List Value} (h : Rd w k v n xs) : n ≤ 9223372036854775807 := by
  obtain ⟨_, p, cap, rfl, h2, h3, _, _⟩ := h
  unfold maxLen at h3
  omega

end Go.Proofs.YtjjiibcnknljfaaGreat
namespace Go.Proofs.YtjjiibcnknljfaaGreat
open Go.RowKit Go.Cmp
set_option maxRecDepth 100000

end Go.Proofs.YtjjiibcnknljfaaGreat
namespace Go.Proofs.YtjjiibcnknljfaaGreat
open Go.RowKit Go.Cmp
set_option maxRecDepth 100000

theorem putS_cases {α : Type} (f : α → Option (List UInt8)) (xs : List α) :
    (∃ s, putS f xs = (s, 0) ∧ cat f xs = some s ∧ 1 ≤ xs.length ∧ xs.length ≤ 4) ∨ putS f xs = ([], 1) := by
  unfold putS
  split
  · exact .inr rfl
  · rename_i h
    cases hc : cat f xs with
    | none => exact .inr rfl
    | some s => exact .inl ⟨s, rfl, rfl, by omega, by omega⟩

theorem cat_read {α : Type} (f : α → Option (List UInt8)) (g : List UInt8 → α) (nrm : α → α) (size : Nat) : ∀ (xs : List α) (acc : List UInt8),
    (∀ x ∈ xs, ∀ s, f x = some s → s.length = size ∧ g s = nrm x) → cat f xs = some acc → acc.length = xs.length * size ∧ (List.range xs.length).map (fun i => g (chunk acc size i)) = xs.map nrm
  | [], acc, _, h => by simp only [cat, Option.some.injEq] at h; subst h; simp
  | x :: xs, acc, hf, h => by
    simp only [cat] at h
    cases hx : f x with
    | none => rw [hx] at h; cases h
    | some a =>
      rw [hx] at h
      cases hc : cat f xs with
      | none => rw [hc] at h; cases h
      | some b =>
        rw [hc] at h
        simp only [Option.some.injEq] at h
        subst h
        obtain ⟨h1, h2⟩ := hf x (by simp) a hx
        obtain ⟨h3, h4⟩ := cat_read f g nrm size xs b (fun y hy => hf y (by simp [hy])) hc
        constructor
        · rw [List.length_append, h1, h3, List.length_cons, Nat.add_mul]; omega
        · rw [List.length_cons, List.range_succ_eq_map, List.map_cons, List.map_map, List.map_cons]
          congr 1
          · rw [← h2]
            congr 1
            unfold chunk
            rw [Nat.zero_mul, List.drop_zero, List.take_left' h1]
          · rw [← h4]
            apply List.map_congr_left
            intro i _
            simp only [Function.comp]
            congr 1
            unfold chunk
            rw [Nat.succ_mul, Nat.add_comm, ← h1, List.drop_append, List.drop_eq_nil_of_le (by omega), List.nil_append]
            congr 2
            omega

theorem takeS_cat {α : Type} (f : α → Option (List UInt8)) (g : List UInt8 → α) (nrm : α → α) (size : Nat) (hz : 0 < size) (xs : List α) (acc : List UInt8)
    (hf : ∀ x ∈ xs, ∀ s, f x = some s → s.length = size ∧ g s = nrm x) (hc : cat f xs = some acc) (h1 : 1 ≤ xs.length) (h4 : xs.length ≤ 4) : takeS g size acc = (xs.map nrm, true) := by
  obtain ⟨hl, hr⟩ := cat_read f g nrm size xs acc hf hc
  have hd : acc.length / size = xs.length := by rw [hl]; exact Nat.mul_div_cancel _ hz
  have hm : acc.length % size = 0 := by rw [hl]; exact Nat.mul_mod_left _ _
  have h0 : acc.length ≠ 0 := by
    rw [hl]
    exact Nat.mul_ne_zero (by omega) (by omega)
  unfold takeS
  rw [if_neg (by rw [hd]; omega), hd, hr]

theorem gID_by (x : Nat) (h : x < 256 ^ 8) (s : List UInt8) (hs : byID x = some s) : s.length = 8 ∧ gID s = x := by
  simp only [byID, Option.some.injEq] at hs
  subst hs
  refine ⟨leB_length _ _, ?_⟩
  unfold gID
  rw [List.take_of_length_le (by rw [leB_length]; exact Nat.le_refl _), leN_leB, Nat.mod_eq_of_lt h]

/-- Numbers that came in. -/
theorem rd_ints {w : World} {a : Option Addr} {len cap : Nat} {zs : List Int}
    (h : (a = none ∧ len = 0 ∧ cap = 0 ∧ zs = []) ∨ ∃ x, a = some x ∧ len ≤ cap ∧ cap ≤ maxLen ∧ zs.length = cap ∧ (∀ i, i < zs.length → w.cell? (x.add i) = some (.int .u64 (zs.getD i 0))) ∧ ∀ n ∈ zs, (Lit.int .u64 n).wf = true) :
    ∃ xs : List Nat, xs.length = len ∧ (∀ x ∈ xs, x < 256 ^ 8) ∧ Rd w 1 (.slice a len cap) len (U xs) := by
  rcases h with ⟨rfl, rfl, rfl, rfl⟩ | ⟨x, rfl, h1, h2, h3, h4, h5⟩
  · exact ⟨[], rfl, by simp, Rd.nil _ _⟩
  · have hw : ∀ n ∈ zs, 0 ≤ n ∧ n < 18446744073709551616 := by
      intro n hn
      have := h5 n hn
      have e1 : IntKind.u64.min = 0 := rfl
      have e2 : IntKind.u64.max = 18446744073709551615 := rfl
      simp [Lit.wf, e1, e2] at this
      omega
    refine ⟨(zs.take len).map Int.toNat, by simp; omega, ?_, ?_, some x, cap, rfl, h1, h2, by simp, ?_⟩
    · intro n hn
      simp only [List.mem_map] at hn
      obtain ⟨z, hz, rfl⟩ := hn
      have := hw z (List.mem_of_mem_take hz)
      rw [pow8]
      omega
    · rw [U_length]; simp; omega
    · intro b hb i y hy
      cases hb
      have hi : i < len := by
        have := (List.getElem?_eq_some_iff.1 hy).1
        rw [U_length] at this
        simp at this
        omega
      have hiz : i < zs.length := by omega
      rw [h4 i hiz]
      have hg := hw zs[i] (List.getElem_mem hiz)
      simp [U, hi, hiz] at hy
      rw [← hy, List.getD_eq_getElem?_getD, List.getElem?_eq_getElem hiz]
      simp
      omega

end Go.Proofs.YtjjiibcnknljfaaGreat
namespace Go.Proofs.YtjjiibcnknljfaaGreat
open Go.RowKit Go.Cmp
set_option maxRecDepth 100000

instance : DecidableEq Tra := fun X Y => decidable_of_iff (X.id = Y.id ∧ X.deb = Y.deb ∧ X.cred = Y.cred ∧ X.amt = Y.amt) (by cases X; cases Y; simp)
instance : DecidableEq Acc := fun X Y => decidable_of_iff (X.id = Y.id ∧ X.flags = Y.flags ∧ X.deb = Y.deb ∧ X.cred = Y.cred) (by cases X; cases Y; simp)

theorem sameTra_op (X Y : Tra) {o : Oper} {a : Act} {w : World} {x y : Operand} {r : TypeId} (ho : o.op = .binOp .neq 91 x y r) (hx : a.eval x = .agg X.cells.toArray) (hy : a.eval y = .agg Y.cells.toArray) :
    (execOp a.eval o).run Tryz.prog w = .ok (.value (.bool (!decide (X = Y)))) w := by
  obtain ⟨a1, a2, a3, a4⟩ := X
  obtain ⟨b1, b2, b3, b4⟩ := Y
  have e : decide ((⟨a1, a2, a3, a4⟩ : Tra) = ⟨b1, b2, b3, b4⟩) = (decide (a1 = b1) && decide (a2 = b2) && decide (a3 = b3) && decide (a4 = b4)) := by
    rw [Bool.eq_iff_iff]
    simp [and_assoc]
  rw [e]
  clear e
  simp only [Tra.cells] at hx hy
  simp only [execOp, ho, hx, hy]
  go_simp
  by_cases h1 : a1 = b1 <;> by_cases h2 : a2 = b2 <;> by_cases h3 : a3 = b3 <;> by_cases h4 : a4 = b4 <;> simp [h1, h2, h3, h4, Int.ofNat_inj]
theorem sameAcc_op (X Y : Acc) {o : Oper} {a : Act} {w : World} {x y : Operand} {r : TypeId} (ho : o.op = .binOp .neq 86 x y r) (hx : a.eval x = .agg X.cells.toArray) (hy : a.eval y = .agg Y.cells.toArray) :
    (execOp a.eval o).run Tryz.prog w = .ok (.value (.bool (!decide (X = Y)))) w := by
  obtain ⟨a1, a2, a3, a4⟩ := X
  obtain ⟨b1, b2, b3, b4⟩ := Y
  have e : decide ((⟨a1, a2, a3, a4⟩ : Acc) = ⟨b1, b2, b3, b4⟩) = (decide (a1 = b1) && decide (a2 = b2) && decide (a3 = b3) && decide (a4 = b4)) := by
    rw [Bool.eq_iff_iff]
    simp [and_assoc]
  rw [e]
  clear e
  simp only [Acc.cells] at hx hy
  simp only [execOp, ho, hx, hy]
  go_simp
  by_cases h1 : a1 = b1 <;> by_cases h2 : a2 = b2 <;> by_cases h3 : a3 = b3 <;> by_cases h4 : a4 = b4 <;> simp [h1, h2, h3, h4, Int.ofNat_inj]

set_option maxHeartbeats 400000 in
theorem sameTransfers_any (xs ys : List Tra) (u v : Value) (n m : Nat) (w : World) (hn : xs.length = n) (hm : ys.length = m) (hL : Rd w 4 u n (xs.flatMap Tra.cells)) (hK : Rd w 4 v m (ys.flatMap Tra.cells)) :
    Calls Tryz.prog 17 #[u, v] w fun e w' => e = .returned (.bool (decide (xs = ys))) ∧ St [] w w' [] := by
  have hn47 := Rd_le hL
  have Hn := Lib.hid hn
  have Hm := Lib.hid hm
  clear hn hm
  by_cases hmn : n = m
  · subst hmn
    have d1 : ((n : Int) != n) = false := by simp
    go_enter Tryz.func17, Tryz.ntmps17
    refine St.startAt w fun w1 hS => ?_
    go_wp2_with (first | ((with_reducible refine g_len ?_); refine wl_run rfl (x_len rfl (hS.old0 hL) rfl rfl) ?_) | ((with_reducible refine g_len ?_); refine wl_run rfl (x_len rfl (hS.old0 hK) rfl rfl) ?_) | fail)
    go_loopw [5] (fun i wr => ∃ j : Nat, j ≤ n ∧ i = .int .i64 j ∧ Hid (xs.take j = ys.take j) ∧ St [] w wr []) (fun i _ => n - (intOf i).toNat)
    case atStart => exact ⟨0, by omega, rfl, Lib.hid (by simp), hS⟩
    case round =>
      clear hS
      obtain ⟨j, hj, rfl, He, hS⟩ := hrel
      by_cases hlt : j < n
      · have hjx : j < xs.length := by have := Hn.out; omega
        have hjy : j < ys.length := by have := Hm.out; omega
        have hgx := flatMap_cells Tra.cells 4 (fun _ => rfl) xs j hjx
        have hgy := flatMap_cells Tra.cells 4 (fun _ => rfl) ys j hjy
        have Hgx := Lib.hid hgx
        have Hgy := Lib.hid hgy
        clear hgx hgy
        go_wp2_with (first | ((with_reducible refine g_len ?_); refine wl_run rfl (x_len rfl (hS.old0 hL) rfl rfl) ?_) | fail)
        refine wp_region_grow (by kernel_rfl) (by kernel_rfl) hS ?_
        have hL2 := hS.old0 hL
        have hK2 := hS.old0 hK
        iterate 2 (refine wq_run rfl (fun W hW => by (go_simp; try with_reducible rfl)) ?_; simp only [Act.put, List.setIfInBounds_toArray, List.set_cons_zero, List.set_cons_succ])
        (refine wq_run rfl (fun W hW => (x_index rfl (hL2.grow hW) rfl rfl rfl rfl rfl (by omega) (by omega))) ?_; simp only [Act.put, List.setIfInBounds_toArray, List.set_cons_zero, List.set_cons_succ])
        (refine wq_run rfl (fun W hW => (x_loadSA (ti := Tryz.t91) rfl (hL2.grow hW) rfl rfl rfl rfl Hgx.out rfl (by omega))) ?_; simp only [Act.put, List.setIfInBounds_toArray, List.set_cons_zero, List.set_cons_succ])
        iterate 2 (refine wq_run rfl (fun W hW => by (go_simp; try with_reducible rfl)) ?_; simp only [Act.put, List.setIfInBounds_toArray, List.set_cons_zero, List.set_cons_succ])
        (refine wq_run rfl (fun W hW => (x_index rfl (hK2.grow hW) rfl rfl rfl rfl rfl (by omega) (by omega))) ?_; simp only [Act.put, List.setIfInBounds_toArray, List.set_cons_zero, List.set_cons_succ])
        (refine wq_run rfl (fun W hW => (x_loadSA (ti := Tryz.t91) rfl (hK2.grow hW) rfl rfl rfl rfl Hgy.out rfl (by omega))) ?_; simp only [Act.put, List.setIfInBounds_toArray, List.set_cons_zero, List.set_cons_succ])
        obtain ⟨X, hX⟩ : ∃ X, xs[j] = X := ⟨_, rfl⟩
        obtain ⟨Y, hY⟩ : ∃ Y, ys[j] = Y := ⟨_, rfl⟩
        rw [hX, hY]
        have HX := Lib.hid hX
        have HY := Lib.hid hY
        clear hX hY
        (refine wq_run rfl (fun W hW => (sameTra_op X Y rfl rfl rfl)) ?_; simp only [Act.put, List.setIfInBounds_toArray, List.set_cons_zero, List.set_cons_succ])
        (refine wpQuiet_nil ?_; clear hS; intro w2 hS)
        by_cases hxy : X = Y
        · rw [decide_eq_true hxy]
          go_wp2
          refine ⟨⟨j + 1, by omega, by go_num, Lib.hid ?_, hS⟩, by simp [intOf]; omega⟩
          rw [List.take_succ_eq_append_getElem hjx, List.take_succ_eq_append_getElem hjy, He.out, HX.out, HY.out, hxy]
        · rw [decide_eq_false hxy]
          go_wp2
          go_ret
          refine ⟨?_, hS⟩
          have hne : ¬ xs = ys := by
            intro h
            subst h
            exact hxy (HX.out.symm.trans HY.out)
          rw [decide_eq_false hne]
          rfl
      · obtain rfl : j = n := by omega
        go_wp2_with (first | ((with_reducible refine g_len ?_); refine wl_run rfl (x_len rfl (hS.old0 hL) rfl rfl) ?_) | fail)
        go_ret
        refine ⟨?_, hS⟩
        have hxy : xs = ys := by
          have := He.out
          rwa [List.take_of_length_le (by have := Hn.out; omega), List.take_of_length_le (by have := Hm.out; omega)] at this
        rw [decide_eq_true hxy]
        rfl
  · have d1 : ((n : Int) != m) = true := by simp; omega
    have hxy : ¬ xs = ys := by
      rintro rfl
      exact hmn (Hn.out.symm.trans Hm.out)
    go_enter Tryz.func17, Tryz.ntmps17
    refine St.startAt w fun w1 hS => ?_
    go_wp2_with (first | ((with_reducible refine g_len ?_); refine wl_run rfl (x_len rfl (hS.old0 hL) rfl rfl) ?_) | ((with_reducible refine g_len ?_); refine wl_run rfl (x_len rfl (hS.old0 hK) rfl rfl) ?_) | fail)
    go_ret
    rw [decide_eq_false hxy]
    exact ⟨rfl, hS⟩
set_option maxHeartbeats 400000 in
theorem sameAccounts_any (xs ys : List Acc) (u v : Value) (n m : Nat) (w : World) (hn : xs.length = n) (hm : ys.length = m) (hL : Rd w 4 u n (xs.flatMap Acc.cells)) (hK : Rd w 4 v m (ys.flatMap Acc.cells)) :
    Calls Tryz.prog 16 #[u, v] w fun e w' => e = .returned (.bool (decide (xs = ys))) ∧ St [] w w' [] := by
  have hn47 := Rd_le hL
  have Hn := Lib.hid hn
  have Hm := Lib.hid hm
  clear hn hm
  by_cases hmn : n = m
  · subst hmn
    have d1 : ((n : Int) != n) = false := by simp
    go_enter Tryz.func16, Tryz.ntmps16
    refine St.startAt w fun w1 hS => ?_
    go_wp2_with (first | ((with_reducible refine g_len ?_); refine wl_run rfl (x_len rfl (hS.old0 hL) rfl rfl) ?_) | ((with_reducible refine g_len ?_); refine wl_run rfl (x_len rfl (hS.old0 hK) rfl rfl) ?_) | fail)
    go_loopw [5] (fun i wr => ∃ j : Nat, j ≤ n ∧ i = .int .i64 j ∧ Hid (xs.take j = ys.take j) ∧ St [] w wr []) (fun i _ => n - (intOf i).toNat)
    case atStart => exact ⟨0, by omega, rfl, Lib.hid (by simp), hS⟩
    case round =>
      clear hS
      obtain ⟨j, hj, rfl, He, hS⟩ := hrel
      by_cases hlt : j < n
      · have hjx : j < xs.length := by have := Hn.out; omega
        have hjy : j < ys.length := by have := Hm.out; omega
        have hgx := flatMap_cells Acc.cells 4 (fun _ => rfl) xs j hjx
        have hgy := flatMap_cells Acc.cells 4 (fun _ => rfl) ys j hjy
        have Hgx := Lib.hid hgx
        have Hgy := Lib.hid hgy
        clear hgx hgy
        go_wp2_with (first | ((with_reducible refine g_len ?_); refine wl_run rfl (x_len rfl (hS.old0 hL) rfl rfl) ?_) | fail)
        refine wp_region_grow (by kernel_rfl) (by kernel_rfl) hS ?_
        have hL2 := hS.old0 hL
        have hK2 := hS.old0 hK
        iterate 2 (refine wq_run rfl (fun W hW => by (go_simp; try with_reducible rfl)) ?_; simp only [Act.put, List.setIfInBounds_toArray, List.set_cons_zero, List.set_cons_succ])
        (refine wq_run rfl (fun W hW => (x_index rfl (hL2.grow hW) rfl rfl rfl rfl rfl (by omega) (by omega))) ?_; simp only [Act.put, List.setIfInBounds_toArray, List.set_cons_zero, List.set_cons_succ])
        (refine wq_run rfl (fun W hW => (x_loadSA (ti := Tryz.t86) rfl (hL2.grow hW) rfl rfl rfl rfl Hgx.out rfl (by omega))) ?_; simp only [Act.put, List.setIfInBounds_toArray, List.set_cons_zero, List.set_cons_succ])
        iterate 2 (refine wq_run rfl (fun W hW => by (go_simp; try with_reducible rfl)) ?_; simp only [Act.put, List.setIfInBounds_toArray, List.set_cons_zero, List.set_cons_succ])
        (refine wq_run rfl (fun W hW => (x_index rfl (hK2.grow hW) rfl rfl rfl rfl rfl (by omega) (by omega))) ?_; simp only [Act.put, List.setIfInBounds_toArray, List.set_cons_zero, List.set_cons_succ])
        (refine wq_run rfl (fun W hW => (x_loadSA (ti := Tryz.t86) rfl (hK2.grow hW) rfl rfl rfl rfl Hgy.out rfl (by omega))) ?_; simp only [Act.put, List.setIfInBounds_toArray, List.set_cons_zero, List.set_cons_succ])
        obtain ⟨X, hX⟩ : ∃ X, xs[j] = X := ⟨_, rfl⟩
        obtain ⟨Y, hY⟩ : ∃ Y, ys[j] = Y := ⟨_, rfl⟩
        rw [hX, hY]
        have HX := Lib.hid hX
        have HY := Lib.hid hY
        clear hX hY
        (refine wq_run rfl (fun W hW => (sameAcc_op X Y rfl rfl rfl)) ?_; simp only [Act.put, List.setIfInBounds_toArray, List.set_cons_zero, List.set_cons_succ])
        (refine wpQuiet_nil ?_; clear hS; intro w2 hS)
        by_cases hxy : X = Y
        · rw [decide_eq_true hxy]
          go_wp2
          refine ⟨⟨j + 1, by omega, by go_num, Lib.hid ?_, hS⟩, by simp [intOf]; omega⟩
          rw [List.take_succ_eq_append_getElem hjx, List.take_succ_eq_append_getElem hjy, He.out, HX.out, HY.out, hxy]
        · rw [decide_eq_false hxy]
          go_wp2
          go_ret
          refine ⟨?_, hS⟩
          have hne : ¬ xs = ys := by
            intro h
            subst h
            exact hxy (HX.out.symm.trans HY.out)
          rw [decide_eq_false hne]
          rfl
      · obtain rfl : j = n := by omega
        go_wp2_with (first | ((with_reducible refine g_len ?_); refine wl_run rfl (x_len rfl (hS.old0 hL) rfl rfl) ?_) | fail)
        go_ret
        refine ⟨?_, hS⟩
        have hxy : xs = ys := by
          have := He.out
          rwa [List.take_of_length_le (by have := Hn.out; omega), List.take_of_length_le (by have := Hm.out; omega)] at this
        rw [decide_eq_true hxy]
        rfl
  · have d1 : ((n : Int) != m) = true := by simp; omega
    have hxy : ¬ xs = ys := by
      rintro rfl
      exact hmn (Hn.out.symm.trans Hm.out)
    go_enter Tryz.func16, Tryz.ntmps16
    refine St.startAt w fun w1 hS => ?_
    go_wp2_with (first | ((with_reducible refine g_len ?_); refine wl_run rfl (x_len rfl (hS.old0 hL) rfl rfl) ?_) | ((with_reducible refine g_len ?_); refine wl_run rfl (x_len rfl (hS.old0 hK) rfl rfl) ?_) | fail)
    go_ret
    rw [decide_eq_false hxy]
    exact ⟨rfl, hS⟩
end Go.Proofs.YtjjiibcnknljfaaGreat
namespace Go.Proofs.YtjjiibcnknljfaaGreat
open Go.RowKit Go.Cmp
set_option maxRecDepth 100000

theorem wp_build0 {P : Program} {S : List Nat} {w0 w : World} {M : List Ent} {o : Oper} {a : Act} {K : Act → World → Prop} {Q : Exit → Act → World → Prop} (hS : St S w0 w M) {t : TypeId} (ho : o.op = .buildSlice t 0 #[]) {e : TypeId} (ht : P.underlying t = some (.slice e)) {ti : TypeInfo} (hi : P.info? e = some ti) {k : Nat} (hk : ti.size = k) (hz : ti.zero.isSome = true)
    (h : ∀ v w', St S w0 w' (.vec v e k 0 [] :: M) → K (a.put o.dst v) w') : o.wp P a w K Q := by
  obtain ⟨z, hz⟩ := Option.isSome_iff_exists.1 hz
  refine wp_buildSlice hS ho ht hi hk (cs := []) ?_ (by simp) (by omega) (by omega) h
  unfold buildCells
  rw [hz]
  simp [Instr.fill]

set_option maxHeartbeats 1000000 in
theorem refTransfers_any (l : List UInt8) (w : World) (hl : l.length ≤ 1000) :
    Calls Tryz.prog 41 #[.string ⟨l.toArray⟩] w fun e w' => ∃ v, e = .returned (.tuple #[v, .bool (takeS gTra 32 l).2]) ∧ St [] w w' [.vec v 91 4 (takeS gTra 32 l).1.length ((takeS gTra 32 l).1.flatMap Tra.cells)] := by
  obtain ⟨q, hq⟩ : ∃ q, l.length / 32 = q := ⟨_, rfl⟩
  by_cases hr : l.length % 32 = 0
  · have hql : l.length = 32 * q := by omega
    have hd : ((l.length : Int)) / 32 = (q : Int) := by omega
    have hr' : (l.length : Int) % 32 = 0 := by omega
    have Hql := Lib.hid hql
    have Hq := Lib.hid hq
    have Hr := Lib.hid hr
    clear hq hr hql
    by_cases hm : 1 ≤ q ∧ q ≤ 4
    · have hp : takeS gTra 32 l = ((List.range q).map fun i => gTra (chunk l 32 i), true) := by
        unfold takeS; rw [if_neg (by rw [Hr.out, Hq.out]; have := Hql.out; omega), Hq.out]
      rw [hp]
      simp only [List.length_map, List.length_range]
      clear hp
      go_enter Tryz.func41, Tryz.ntmps41
      refine St.startAt w fun w1 hS => ?_
      go_wp2_with (fail)
      refine (many_any q _).mono ?_
      rintro e w2 ⟨rfl, hS2⟩
      replace hS := hS.call hS2
      clear hS2
      rw [decide_eq_true hm]
      go_wp2_with (first | ((with_reducible refine g_bs ?_); refine wl_of rfl ?_; refine wp_build0 (ti := Tryz.t91) (k := 4) hS rfl rfl rfl rfl rfl ?_; clear hS; intro v1 w1 hS) | fail)
      go_loopw [4, 5] (fun b i wr => ∃ j : Nat, j ≤ q ∧ i = .int .i64 ((j * 32 : Nat) : Int) ∧ St [] w wr [.vec b 91 4 j (((List.range j).map fun i => gTra (chunk l 32 i)).flatMap Tra.cells)]) (fun _ i _ => l.length - (intOf i).toNat)
      case atStart => exact ⟨0, by omega, rfl, hS⟩
      case round =>
        clear hS
        obtain ⟨j, hj, rfl, hS⟩ := hrel
        by_cases hlt : j < q
        · have hlt8 : ((j * 32 : Nat) : Int) < l.length := by have := Hql.out; omega
          have hin : j * 32 + 32 ≤ l.length := by have := Hql.out; omega
          have h2l : l.length ≤ 140737488355328 := by omega
          obtain ⟨y0, hy0⟩ : ∃ y, leN ((l.drop (j * 32)).take 8) = y := ⟨_, rfl⟩
          have Hy0 := Lib.hid hy0
          clear hy0
          obtain ⟨y1, hy1⟩ : ∃ y, leN ((l.drop (j * 32 + 8)).take 8) = y := ⟨_, rfl⟩
          have Hy1 := Lib.hid hy1
          clear hy1
          obtain ⟨y2, hy2⟩ : ∃ y, leN ((l.drop (j * 32 + 16)).take 8) = y := ⟨_, rfl⟩
          have Hy2 := Lib.hid hy2
          clear hy2
          obtain ⟨y3, hy3⟩ : ∃ y, leN ((l.drop (j * 32 + 24)).take 8) = y := ⟨_, rfl⟩
          have Hy3 := Lib.hid hy3
          clear hy3
          go_wp2_with (fail)
          refine (refAt_in l (j * 32) _ (by omega) h2l).mono ?_
          rw [Hy0.out]
          rintro e w3 ⟨rfl, hS2⟩
          replace hS := hS.call hS2
          clear hS2
          go_wp2_with (fail)
          refine (refAt_in l (j * 32 + 8) _ (by omega) h2l).mono ?_
          rw [Hy1.out]
          rintro e w3 ⟨rfl, hS2⟩
          replace hS := hS.call hS2
          clear hS2
          go_wp2_with (fail)
          refine (refAt_in l (j * 32 + 16) _ (by omega) h2l).mono ?_
          rw [Hy2.out]
          rintro e w3 ⟨rfl, hS2⟩
          replace hS := hS.call hS2
          clear hS2
          go_wp2_with (fail)
          refine (refAt_in l (j * 32 + 24) _ (by omega) h2l).mono ?_
          rw [Hy3.out]
          rintro e w3 ⟨rfl, hS2⟩
          replace hS := hS.call hS2
          clear hS2
          have hb : (j + 1) * 32 ≤ 140737488355328 := by omega
          have ho1 : ∀ u ∈ ([.int .u64 (y0 : Int), .int .u64 (y1 : Int), .int .u64 (y2 : Int), .int .u64 (y3 : Int)] : List Value), u.oneCell' = true := by simp [Value.oneCell']
          go_wp2_with (first | ((with_reducible refine g_bs ?_); refine wl_of rfl ?_; refine wp_build1 (ti := Tryz.t91) (cs := [.int .u64 (y0 : Int), .int .u64 (y1 : Int), .int .u64 (y2 : Int), .int .u64 (y3 : Int)]) hS rfl rfl rfl rfl rfl rfl rfl (by decide) rfl ?_; clear hS; intro v1 w3 hS) | ((with_reducible refine g_append ?_); refine wl_of rfl ?_; refine wp_append (ti := Tryz.t91) hS rfl 1 rfl (hS.rdv (i := 0) rfl) rfl rfl rfl rfl rfl rfl (by decide) rfl ho1 hb ?_; clear hS; intro v9 w9 hS _) | fail)
          refine ⟨⟨j + 1, by omega, by go_num, ?_⟩, by simp [intOf]; omega⟩
          have hf := (hS.front 1 rfl).one
          have e2 : gTra (chunk l 32 j) = ⟨y0, y1, y2, y3⟩ := by
            unfold gTra chunk
            rw [← Hy0.out, ← Hy1.out, ← Hy2.out, ← Hy3.out]
            simp [List.drop_take, List.take_take, List.drop_drop]
          rw [List.range_succ, List.map_append, List.flatMap_append]
          simpa [e2, Tra.cells] using hf
        · obtain rfl : j = q := by omega
          have hge : ¬ ((j * 32 : Nat) : Int) < l.length := by have := Hql.out; omega
          go_wp2_with (fail)
          go_ret2
          exact ⟨_, rfl, hS⟩
    · have hp : takeS gTra 32 l = ([], false) := by
        unfold takeS; rw [if_pos (by rw [Hr.out, Hq.out]; have := Hql.out; omega)]
      rw [hp]
      go_enter Tryz.func41, Tryz.ntmps41
      refine St.startAt w fun w1 hS => ?_
      go_wp2_with (fail)
      refine (many_any q _).mono ?_
      rintro e w2 ⟨rfl, hS2⟩
      replace hS := hS.call hS2
      clear hS2
      rw [decide_eq_false hm]
      go_wp2_with (fail)
      go_ret2
      exact ⟨_, rfl, hS.addNil _ _⟩
  · have hp : takeS gTra 32 l = ([], false) := by
      unfold takeS; rw [if_pos (.inr (.inl hr))]
    rw [hp]
    have hr' : ¬ (l.length : Int) % 32 = 0 := by omega
    clear hr hq
    go_enter Tryz.func41, Tryz.ntmps41
    refine St.startAt w fun w1 hS => ?_
    go_wp2_with (fail)
    go_ret2
    exact ⟨_, rfl, hS.addNil _ _⟩

end Go.Proofs.YtjjiibcnknljfaaGreat
namespace Go.Proofs.YtjjiibcnknljfaaGreat
open Go.RowKit Go.Cmp
set_option maxRecDepth 100000

theorem strI {l : List UInt8} {i : Nat} {y : UInt8} (h : l[i]? = some y) {o : Oper} {a : Act} {w : World} {P : Program} {t : TypeId} {x z : Operand} (ho : o.op = .index t x z) (hs : P.underlying t = some .string) (hx : a.eval x = .string ⟨l.toArray⟩) (hz : a.eval z = .int .i64 (i : Int)) : (execOp a.eval o).run P w = .ok (.value (.int .u8 (y.toNat : Int))) w := by
  have hi := (List.getElem?_eq_some_iff.1 h).1
  have e : l.getD i 0 = y := by rw [List.getD_eq_getElem?_getD, h]; rfl
  rw [← e]
  exact x_strIndex ho hx hz hs (by omega) (by omega)

set_option maxHeartbeats 1000000 in
theorem refAccounts_any (l : List UInt8) (w : World) (hl : l.length ≤ 1000) :
    Calls Tryz.prog 39 #[.string ⟨l.toArray⟩] w fun e w' => ∃ v, e = .returned (.tuple #[v, .bool (takeS gAcc 9 l).2]) ∧ St [] w w' [.vec v 86 4 (takeS gAcc 9 l).1.length ((takeS gAcc 9 l).1.flatMap Acc.cells)] := by
  obtain ⟨q, hq⟩ : ∃ q, l.length / 9 = q := ⟨_, rfl⟩
  by_cases hr : l.length % 9 = 0
  · have hql : l.length = 9 * q := by omega
    have hd : ((l.length : Int)) / 9 = (q : Int) := by omega
    have hr' : (l.length : Int) % 9 = 0 := by omega
    have Hql := Lib.hid hql
    have Hq := Lib.hid hq
    have Hr := Lib.hid hr
    clear hq hr hql
    by_cases hm : 1 ≤ q ∧ q ≤ 4
    · have hp : takeS gAcc 9 l = ((List.range q).map fun i => gAcc (chunk l 9 i), true) := by
        unfold takeS; rw [if_neg (by rw [Hr.out, Hq.out]; have := Hql.out; omega), Hq.out]
      rw [hp]
      simp only [List.length_map, List.length_range]
      clear hp
      go_enter Tryz.func39, Tryz.ntmps39
      refine St.startAt w fun w1 hS => ?_
      go_wp2_with (fail)
      refine (many_any q _).mono ?_
      rintro e w2 ⟨rfl, hS2⟩
      replace hS := hS.call hS2
      clear hS2
      rw [decide_eq_true hm]
      go_wp2_with (first | ((with_reducible refine g_bs ?_); refine wl_of rfl ?_; refine wp_build0 (ti := Tryz.t86) (k := 4) hS rfl rfl rfl rfl rfl ?_; clear hS; intro v1 w1 hS) | fail)
      go_loopw [4, 5] (fun b i wr => ∃ j : Nat, j ≤ q ∧ i = .int .i64 ((j * 9 : Nat) : Int) ∧ St [] w wr [.vec b 86 4 ((List.range j).map fun i => gAcc (chunk l 9 i)).length (((List.range j).map fun i => gAcc (chunk l 9 i)).flatMap Acc.cells)]) (fun _ i _ => l.length - (intOf i).toNat)
      case atStart => exact ⟨0, by omega, rfl, hS⟩
      case round =>
        clear hS
        obtain ⟨j, hj, rfl, hS⟩ := hrel
        by_cases hlt : j < q
        · have hlt8 : ((j * 9 : Nat) : Int) < l.length := by have := Hql.out; omega
          have hin : j * 9 + 9 ≤ l.length := by have := Hql.out; omega
          have h2l : l.length ≤ 140737488355328 := by omega
          obtain ⟨y0, hy0⟩ : ∃ y, leN ((l.drop (j * 9)).take 8) = y := ⟨_, rfl⟩
          obtain ⟨y1, hy1⟩ : ∃ y, l[j * 9 + 8]? = some y := ⟨_, List.getElem?_eq_getElem (by omega)⟩
          obtain ⟨L, hL⟩ : ∃ L, ((List.range j).map fun i => gAcc (chunk l 9 i)) = L := ⟨_, rfl⟩
          have hLl : L.length = j := by rw [← hL]; simp
          have HE : Hid (((List.range (j + 1)).map fun i => gAcc (chunk l 9 i)) = L ++ [⟨y0, (y1.toNat : Int), 0, 0⟩]) := Lib.hid (by
            have e2 : gAcc (chunk l 9 j) = ⟨y0, (y1.toNat : Int), 0, 0⟩ := by
              unfold gAcc chunk
              rw [← hy0]
              have : ((l.drop (j * 9)).take 9).getD 8 0 = y1 := by
                rw [List.getD_eq_getElem?_getD, List.getElem?_take_of_lt (by omega), List.getElem?_drop, hy1]; rfl
              rw [this]
              simp [List.take_take]
            rw [List.range_succ, List.map_append, hL, ← e2]
            rfl)
          rw [hL] at hS
          have hat := fun w => refAt_in l (j * 9) w (by omega) h2l
          rw [hy0] at hat
          have HAT := Lib.hid hat
          have Hy1 := Lib.hid hy1
          have hwb : IntKind.i64.wrap (y1.toNat : Int) = (y1.toNat : Int) := IntWalk.i64_in _ (by have := y1.toNat_lt; omega)
          have hw8 : IntKind.i64.wrap ((j : Int) * 9 + 8) = (j : Int) * 9 + 8 := IntWalk.i64_in _ (by omega)
          clear hL hat hy0 hy1
          go_wp2_with (fail)
          refine region_end 12 [.vec _ 86 4 L.length (L.flatMap Acc.cells)] [] hS.pick (by kernel_rfl) ?_
          clear hS
          intro F wx hR hB hS
          (refine we_take 0 rfl rfl (by kernel_rfl) (by kernel_rfl) (by kernel_rfl) (fun _ _ _ h => h) (by kernel_rfl) rfl (fun W hW => (by (go_simp; try with_reducible rfl))) hS.base ?_; simp only [Act.put, List.setIfInBounds_toArray, List.set_cons_zero, List.set_cons_succ])
          (refine we_take 1 rfl rfl (by kernel_rfl) (by kernel_rfl) (by kernel_rfl) (fun _ _ _ h => h) (by kernel_rfl) rfl (fun W hW => (by (go_simp; try with_reducible rfl))) hS.base ?_; simp only [Act.put, List.setIfInBounds_toArray, List.set_cons_zero, List.set_cons_succ])
          (refine we_take 2 rfl rfl (by kernel_rfl) (by kernel_rfl) (by kernel_rfl) (fun _ _ _ h => h) (by kernel_rfl) rfl (fun W hW => (by (go_simp; try with_reducible rfl))) hS.base ?_; simp only [Act.put, List.setIfInBounds_toArray, List.set_cons_zero, List.set_cons_succ])
          (refine we_take 4 rfl rfl (by kernel_rfl) (by kernel_rfl) (by kernel_rfl) (fun _ _ _ h => h) (by kernel_rfl) rfl (fun W hW => (by (go_simp; try with_reducible rfl))) hS.base ?_; simp only [Act.put, List.setIfInBounds_toArray, List.set_cons_zero, List.set_cons_succ])
          (refine we_take 5 rfl rfl (by kernel_rfl) (by kernel_rfl) (by kernel_rfl) (fun _ _ _ h => h) (by kernel_rfl) rfl (fun W hW => (by (go_simp; try with_reducible rfl))) hS.base ?_; simp only [Act.put, List.setIfInBounds_toArray, List.set_cons_zero, List.set_cons_succ])
          (refine we_take (v := (.int .i64 ((j * 9 + 8 : Nat) : Int))) 6 rfl rfl (by kernel_rfl) (by kernel_rfl) (by kernel_rfl) (fun _ _ _ h => h) (by kernel_rfl) rfl (fun W hW => by (go_simp; try simp [hw8])) hS.base ?_; simp only [Act.put, List.setIfInBounds_toArray, List.set_cons_zero, List.set_cons_succ])
          (refine we_take 7 rfl rfl (by kernel_rfl) (by kernel_rfl) (by kernel_rfl) (fun _ _ _ h => h) (by kernel_rfl) rfl (fun W hW => (strI Hy1.out rfl rfl rfl rfl)) hS.base ?_; simp only [Act.put, List.setIfInBounds_toArray, List.set_cons_zero, List.set_cons_succ])
          (refine we_take (v := (.int .i64 (y1.toNat : Int))) 8 rfl rfl (by kernel_rfl) (by kernel_rfl) (by kernel_rfl) (fun _ _ _ h => h) (by kernel_rfl) rfl (fun W hW => by (go_simp; try simp [hwb])) hS.base ?_; simp only [Act.put, List.setIfInBounds_toArray, List.set_cons_zero, List.set_cons_succ])
          (refine we_all (rs := [3]) (by kernel_rfl) (by simp) ?_; intro i hi; have hi := List.mem_singleton.1 hi; subst hi)
          refine wod_of rfl rfl rfl (wp_call (by go_simp) (HAT.out _) ?_)
          rintro e w3 ⟨rfl, hS2⟩
          replace hS := hS.call hS2
          clear hS2
          refine ⟨_, rfl, ?_⟩
          (refine ⟨fun _ => hS.base, ?_⟩; simp only [Act.put, List.setIfInBounds_toArray, List.set_cons_zero, List.set_cons_succ])
          (refine we_take 9 rfl rfl (by kernel_rfl) (by kernel_rfl) (by kernel_rfl) (fun _ _ _ h => h) (by kernel_rfl) rfl (fun W hW => (by (go_simp; try with_reducible rfl))) hS.base ?_; simp only [Act.put, List.setIfInBounds_toArray, List.set_cons_zero, List.set_cons_succ])
          (refine we_all (rs := [10]) (by kernel_rfl) (by simp) ?_; intro i hi; have hi := List.mem_singleton.1 hi; subst hi)
          (refine wod_of rfl rfl rfl (a_build1 (v := .agg _) hS rfl rfl rfl rfl (by rfl) (by simp) ?_); clear hS; intro v1 w4 hS; simp only [List.length_cons, List.length_nil, Nat.zero_add] at hS; try simp only [Nat.reduceAdd] at hS; (refine ⟨fun _ => hS.base, ?_⟩; simp only [Act.put, List.setIfInBounds_toArray, List.set_cons_zero, List.set_cons_succ]))
          (refine we_all (rs := [11]) (by kernel_rfl) (by simp) ?_; intro i hi; have hi := List.mem_singleton.1 hi; subst hi)
          (refine wod_of rfl rfl rfl (k_app (z := (⟨y0, (y1.toNat : Int), 0, 0⟩ : Acc)) hS rfl rfl rfl rfl (h1 := by simp [Acc.cells, Value.oneCell']) (h := ?_)); clear hS; intro va w5 hS hv2; (refine ⟨fun _ => hS.base, ?_⟩; simp only [Act.put, List.setIfInBounds_toArray, List.set_cons_zero, List.set_cons_succ]))
          (refine we_all (rs := [12]) (by kernel_rfl) (by simp) ?_; intro i hi; have hi := List.mem_singleton.1 hi; subst hi)
          refine wod_of rfl rfl rfl (wp_run (by (go_simp; first | done | exact ⟨rfl, rfl⟩ | with_reducible rfl)) ?_)
          (refine ⟨fun h => absurd rfl h, ?_⟩; refine we_done (by kernel_rfl) ?_ _)
          replace hS := hB _ _ hS
          try simp only [List.append_nil] at hS
          simp only [Act.put, List.setIfInBounds_toArray, List.set_cons_zero, List.set_cons_succ]
          go_wp2_with (fail)
          refine ⟨⟨j + 1, by omega, by go_num, ?_⟩, by simp [intOf]; omega⟩
          rw [HE.out]
          exact hS.pick
        · obtain rfl : j = q := by omega
          rw [List.length_map, List.length_range] at hS
          have hge : ¬ ((j * 9 : Nat) : Int) < l.length := by have := Hql.out; omega
          go_wp2_with (fail)
          go_ret2
          refine ⟨_, rfl, ?_⟩
          exact hS
    · have hp : takeS gAcc 9 l = ([], false) := by
        unfold takeS; rw [if_pos (by rw [Hr.out, Hq.out]; have := Hql.out; omega)]
      rw [hp]
      go_enter Tryz.func39, Tryz.ntmps39
      refine St.startAt w fun w1 hS => ?_
      go_wp2_with (fail)
      refine (many_any q _).mono ?_
      rintro e w2 ⟨rfl, hS2⟩
      replace hS := hS.call hS2
      clear hS2
      rw [decide_eq_false hm]
      go_wp2_with (fail)
      go_ret2
      exact ⟨_, rfl, hS.addNil _ _⟩
  · have hp : takeS gAcc 9 l = ([], false) := by
      unfold takeS; rw [if_pos (.inr (.inl hr))]
    rw [hp]
    have hr' : ¬ (l.length : Int) % 9 = 0 := by omega
    clear hr hq
    go_enter Tryz.func39, Tryz.ntmps39
    refine St.startAt w fun w1 hS => ?_
    go_wp2_with (fail)
    go_ret2
    exact ⟨_, rfl, hS.addNil _ _⟩

end Go.Proofs.YtjjiibcnknljfaaGreat
namespace Go.Proofs.YtjjiibcnknljfaaGreat
open Go.RowKit Go.Cmp
set_option maxRecDepth 100000

theorem x_field {P : Program} {o : Oper} {a : Act} {w : World} {t : TypeId} {x : Operand} {f : Nat} (ho : o.op = .fieldAddr t x f) {u : Value} {k n : Nat} {xs : List Value} (hR : Rd w k u n xs) (h0 : 0 < n) {off : Nat} (hx : a.eval x = ptrAt u off)
    {fields : Array Field} (hd : P.underlying t = some (.struct fields)) {fl : Field} (hf : fields[f]? = some fl) {d : Nat} (he : fl.offset = d) {ti : TypeInfo} (hi : P.info? fl.type = some ti) (hz : (ti.size == 0) = false) : (execOp a.eval o).run P w = .ok (.value (ptrAt u (off + d))) w := by
  obtain ⟨p, cap, rfl⟩ := hR.some h0
  subst he
  have hz' : ¬ ti.size = 0 := by simpa using hz
  simp [execOp, ho, hx, Instr.fieldAt, Instr.sureAddr, fieldPlace, run_underlying hd, ptrAt, hf, ← add_add, sizeOf, typeInfo, hi, hz']

theorem x_concat {P : Program} {o : Oper} {a : Act} {w : World} {t r : TypeId} {x y : Operand} (ho : o.op = .binOp .add t x y r) {l m : List UInt8} (hx : a.eval x = .string ⟨l.toArray⟩) (hy : a.eval y = .string ⟨m.toArray⟩) (h : l.length + m.length ≤ 9223372036854775807) :
    (execOp a.eval o).run P w = .ok (.value (.string ⟨(l ++ m).toArray⟩)) w := by
  have hov : ¬ 9223372036854775807 < l.length + m.length := by omega
  rw [← bcat]
  simp only [execOp, ho, hx, hy]
  go_simp

theorem eight_quiet (n : Nat) (w W : World) (hn : n < 256 ^ 8) (hW : Cmp.Mod [] w W) :
    Calls Tryz.prog 57 #[.int .u64 n] W fun e w' => e = .returned (.string ⟨(leB 8 n).toArray⟩) ∧ Cmp.Mod [] w w' :=
  (eight_any n W hn).mono fun _ _ h => ⟨h.1, hW.trans h.2.base⟩

set_option maxHeartbeats 1000000 in
theorem refPutTransfers_any (xs : List Tra) (vl : Value) (n : Nat) (w : World) (hn : xs.length = n) (hx : ∀ x ∈ xs, x.Ok) (hL : Rd w 4 vl n (xs.flatMap Tra.cells)) :
    Calls Tryz.prog 77 #[vl] w fun e w' => e = .returned (.tuple #[.string ⟨(putS byTra xs).1.toArray⟩, .int .i64 (putS byTra xs).2]) ∧ St [] w w' [] := by
  have Hn := Lib.hid hn
  have HX := Lib.hid hx
  clear hn hx
  by_cases hm : 1 ≤ n ∧ n ≤ 4
  · have hp : putS byTra xs = (match cat byTra xs with | some s => (s, 0) | none => ([], 1)) := by unfold putS; rw [if_neg (by have := Hn.out; omega)]; cases cat byTra xs <;> rfl
    have Hp := Lib.hid hp
    clear hp
    go_enter Tryz.func77, Tryz.ntmps77
    refine St.startAt w fun w1 hS => ?_
    go_wp2_with (first | ((with_reducible refine g_len ?_); refine wl_run rfl (x_len rfl (hS.old0 hL) rfl rfl) ?_) | fail)
    refine (many_any n _).mono ?_
    rintro e w2 ⟨rfl, hS2⟩
    replace hS := hS.call hS2
    clear hS2
    rw [decide_eq_true hm]
    go_wp2
    go_loopw [4, 5] (fun s i wr => ∃ (j : Nat) (acc : List UInt8), j ≤ n ∧ i = .int .i64 j ∧ Hid (cat byTra (xs.take j) = some acc) ∧ s = .string ⟨acc.toArray⟩ ∧ St [] w wr []) (fun _ i _ => n - (intOf i).toNat)
    case atStart => exact ⟨0, [], by omega, rfl, Lib.hid rfl, rfl, hS⟩
    case round =>
      clear hS
      obtain ⟨j, acc, hj, rfl, Ha, rfl, hS⟩ := hrel
      by_cases hlt : j < n
      · have hjl : j < xs.length := by have := Hn.out; omega
        have hcs := cat_succ byTra xs j hjl acc Ha.out
        have hok := HX.out _ (List.getElem_mem hjl)
        have hgx := flatMap_cells Tra.cells 4 (fun _ => rfl) xs j hjl
        obtain ⟨X, hX⟩ : ∃ X, xs[j] = X := ⟨_, rfl⟩
        rw [hX] at hgx hcs hok
        have Hcs : Hid (cat byTra (xs.take (j + 1)) = some (acc ++ (leB 8 X.id ++ leB 8 X.deb ++ leB 8 X.cred ++ leB 8 X.amt))) := Lib.hid (by simpa [byTra] using hcs)
        obtain ⟨id, deb, cred, amt⟩ := X
        obtain ⟨k1, k2, k3, k4⟩ := hok
        simp only at k1 k2 k3 k4 Hcs
        have hg : ∀ i : Nat, (xs.flatMap Tra.cells)[j * 4 + i]? = ((([.int .u64 (id : Int), .int .u64 (deb : Int), .int .u64 (cred : Int), .int .u64 (amt : Int)] : List Value))[i]? : Option Value) ∨ 4 ≤ i := by
          intro i
          by_cases hi : i < 4
          · left
            have h2 := congrArg (fun l => l[i]?) hgx
            simp only [Tra.cells] at h2
            rw [List.getElem?_take_of_lt hi, List.getElem?_drop] at h2
            exact h2
          · right; omega
        have g0 : (xs.flatMap Tra.cells)[j * 4 + 0]? = some (.int .u64 (id : Int)) := (hg 0).resolve_right (by omega)
        have g1 : (xs.flatMap Tra.cells)[j * 4 + 1]? = some (.int .u64 (deb : Int)) := (hg 1).resolve_right (by omega)
        have g2 : (xs.flatMap Tra.cells)[j * 4 + 2]? = some (.int .u64 (cred : Int)) := (hg 2).resolve_right (by omega)
        have g3 : (xs.flatMap Tra.cells)[j * 4 + 3]? = some (.int .u64 (amt : Int)) := (hg 3).resolve_right (by omega)
        have K1 := Lib.hid k1
        have K2 := Lib.hid k2
        have K3 := Lib.hid k3
        have K4 := Lib.hid k4
        have G0 := Lib.hid g0
        have G1 := Lib.hid g1
        have G2 := Lib.hid g2
        have G3 := Lib.hid g3
        have ha : acc.length ≤ 128 := by
          have h1 := cat_len byTra byTra_len _ _ Ha.out
          rw [List.length_take] at h1
          omega
        clear hcs hgx hX hg k1 k2 k3 k4 g0 g1 g2 g3
        go_wp2_with (first | ((with_reducible refine g_len ?_); refine wl_run rfl (x_len rfl (hS.old0 hL) rfl rfl) ?_) | fail)
        have hL2 := hS.old0 hL
        have n0 : 0 < n := by omega
        refine wp_region_grow (by kernel_rfl) (by kernel_rfl) hS ?_
        iterate 3 (refine wq_run rfl (fun W hW => by (go_simp; try with_reducible rfl)) ?_; simp only [Act.put, List.setIfInBounds_toArray, List.set_cons_zero, List.set_cons_succ])
        (refine wq_run rfl (fun W hW => (x_index rfl (hL2.grow hW) rfl rfl rfl rfl rfl (by omega) (by omega))) ?_; simp only [Act.put, List.setIfInBounds_toArray, List.set_cons_zero, List.set_cons_succ])
        (refine wq_run rfl (fun W hW => (x_field rfl (hL2.grow hW) n0 rfl rfl rfl rfl rfl rfl)) ?_; simp only [Act.put, List.setIfInBounds_toArray, List.set_cons_zero, List.set_cons_succ])
        (refine wq_run rfl (fun W hW => (x_loadS1 rfl (hL2.grow hW) rfl rfl rfl G0.out)) ?_; simp only [Act.put, List.setIfInBounds_toArray, List.set_cons_zero, List.set_cons_succ])
        (refine wq_call rfl (f := 57) (fun W => by go_simp) (fun W hW => eight_quiet id _ W K1.out hW) ?_; simp only [Act.put, List.setIfInBounds_toArray, List.set_cons_zero, List.set_cons_succ])
        (refine wq_run rfl (fun W hW => (x_concat rfl rfl rfl (by simp [leB_length]; omega))) ?_; simp only [Act.put, List.setIfInBounds_toArray, List.set_cons_zero, List.set_cons_succ])
        iterate 2 (refine wq_run rfl (fun W hW => by (go_simp; try with_reducible rfl)) ?_; simp only [Act.put, List.setIfInBounds_toArray, List.set_cons_zero, List.set_cons_succ])
        (refine wq_run rfl (fun W hW => (x_index rfl (hL2.grow hW) rfl rfl rfl rfl rfl (by omega) (by omega))) ?_; simp only [Act.put, List.setIfInBounds_toArray, List.set_cons_zero, List.set_cons_succ])
        (refine wq_run rfl (fun W hW => (x_field rfl (hL2.grow hW) n0 rfl rfl rfl rfl rfl rfl)) ?_; simp only [Act.put, List.setIfInBounds_toArray, List.set_cons_zero, List.set_cons_succ])
        (refine wq_run rfl (fun W hW => (x_loadS1 rfl (hL2.grow hW) rfl rfl rfl G1.out)) ?_; simp only [Act.put, List.setIfInBounds_toArray, List.set_cons_zero, List.set_cons_succ])
        (refine wq_call rfl (f := 57) (fun W => by go_simp) (fun W hW => eight_quiet deb _ W K2.out hW) ?_; simp only [Act.put, List.setIfInBounds_toArray, List.set_cons_zero, List.set_cons_succ])
        (refine wq_run rfl (fun W hW => (x_concat rfl rfl rfl (by simp [leB_length]; omega))) ?_; simp only [Act.put, List.setIfInBounds_toArray, List.set_cons_zero, List.set_cons_succ])
        iterate 2 (refine wq_run rfl (fun W hW => by (go_simp; try with_reducible rfl)) ?_; simp only [Act.put, List.setIfInBounds_toArray, List.set_cons_zero, List.set_cons_succ])
        (refine wq_run rfl (fun W hW => (x_index rfl (hL2.grow hW) rfl rfl rfl rfl rfl (by omega) (by omega))) ?_; simp only [Act.put, List.setIfInBounds_toArray, List.set_cons_zero, List.set_cons_succ])
        (refine wq_run rfl (fun W hW => (x_field rfl (hL2.grow hW) n0 rfl rfl rfl rfl rfl rfl)) ?_; simp only [Act.put, List.setIfInBounds_toArray, List.set_cons_zero, List.set_cons_succ])
        (refine wq_run rfl (fun W hW => (x_loadS1 rfl (hL2.grow hW) rfl rfl rfl G2.out)) ?_; simp only [Act.put, List.setIfInBounds_toArray, List.set_cons_zero, List.set_cons_succ])
        (refine wq_call rfl (f := 57) (fun W => by go_simp) (fun W hW => eight_quiet cred _ W K3.out hW) ?_; simp only [Act.put, List.setIfInBounds_toArray, List.set_cons_zero, List.set_cons_succ])
        (refine wq_run rfl (fun W hW => (x_concat rfl rfl rfl (by simp [leB_length]; omega))) ?_; simp only [Act.put, List.setIfInBounds_toArray, List.set_cons_zero, List.set_cons_succ])
        iterate 2 (refine wq_run rfl (fun W hW => by (go_simp; try with_reducible rfl)) ?_; simp only [Act.put, List.setIfInBounds_toArray, List.set_cons_zero, List.set_cons_succ])
        (refine wq_run rfl (fun W hW => (x_index rfl (hL2.grow hW) rfl rfl rfl rfl rfl (by omega) (by omega))) ?_; simp only [Act.put, List.setIfInBounds_toArray, List.set_cons_zero, List.set_cons_succ])
        (refine wq_run rfl (fun W hW => (x_field rfl (hL2.grow hW) n0 rfl rfl rfl rfl rfl rfl)) ?_; simp only [Act.put, List.setIfInBounds_toArray, List.set_cons_zero, List.set_cons_succ])
        (refine wq_run rfl (fun W hW => (x_loadS1 rfl (hL2.grow hW) rfl rfl rfl G3.out)) ?_; simp only [Act.put, List.setIfInBounds_toArray, List.set_cons_zero, List.set_cons_succ])
        (refine wq_call rfl (f := 57) (fun W => by go_simp) (fun W hW => eight_quiet amt _ W K4.out hW) ?_; simp only [Act.put, List.setIfInBounds_toArray, List.set_cons_zero, List.set_cons_succ])
        (refine wq_run rfl (fun W hW => (x_concat rfl rfl rfl (by simp [leB_length]; omega))) ?_; simp only [Act.put, List.setIfInBounds_toArray, List.set_cons_zero, List.set_cons_succ])
        (refine wq_run rfl (fun W hW => by (go_simp; try with_reducible rfl)) ?_; simp only [Act.put, List.setIfInBounds_toArray, List.set_cons_zero, List.set_cons_succ])
        (refine wpQuiet_nil ?_; clear hS; intro w2 hS)
        go_wp2
        exact ⟨⟨j + 1, _, by omega, by go_num, Hcs, by simp, hS⟩, by simp [intOf]; omega⟩
      · obtain rfl : j = n := by omega
        have Hc : Hid (cat byTra xs = some acc) := Lib.hid (by have := Ha.out; rwa [List.take_of_length_le (by have := Hn.out; omega)] at this)
        go_wp2_with (first | ((with_reducible refine g_len ?_); refine wl_run rfl (x_len rfl (hS.old0 hL) rfl rfl) ?_) | fail)
        go_ret2
        rw [Hp.out, Hc.out]
        exact ⟨rfl, hS⟩
  · have hp : putS byTra xs = ([], 1) := by unfold putS; rw [if_pos (by have := Hn.out; omega)]
    rw [hp]
    go_enter Tryz.func77, Tryz.ntmps77
    refine St.startAt w fun w1 hS => ?_
    go_wp2_with (first | ((with_reducible refine g_len ?_); refine wl_run rfl (x_len rfl (hS.old0 hL) rfl rfl) ?_) | fail)
    refine (many_any n _).mono ?_
    rintro e w2 ⟨rfl, hS2⟩
    replace hS := hS.call hS2
    clear hS2
    rw [decide_eq_false hm]
    go_wp2
    go_ret2
    exact ⟨rfl, hS⟩

end Go.Proofs.YtjjiibcnknljfaaGreat
namespace Go.Proofs.YtjjiibcnknljfaaGreat
open Go.RowKit Go.Cmp
set_option maxRecDepth 100000

theorem flags_any (n : Int) (w : World) :
    Calls Tryz.prog 108 #[.int .i64 n] w fun e w' => e = .returned (.tuple (if 0 ≤ n ∧ n ≤ 255 then #[.string ⟨[fb n].toArray⟩, .bool true] else #[.string ⟨[].toArray⟩, .bool false])) ∧ St [] w w' [] := by
  by_cases h : 0 ≤ n ∧ n ≤ 255
  · rw [if_pos h]
    have h0 : ¬ n < 0 := by omega
    have h1 : ¬ 255 < n := by omega
    have e1 : B [fb n] = [.int .u8 n] := by
      have := fb_wrap n
      simp [IntKind.wrap, IntKind.signed, IntKind.bits] at this
      simp [B]
      omega
    have E1 := Lib.hid e1
    clear e1 h
    go_enter Tryz.func108, Tryz.ntmps108
    refine St.startAt w fun w1 hS => ?_
    go_wp2_with (first | ((with_reducible refine g_bs ?_); refine wl_of rfl ?_; refine wp_buildSlice1 (vs := [.int .u8 n]) hS rfl rfl rfl rfl rfl rfl (by decide) ⟨rfl, by simp [Value.cells]⟩ ?_; clear hS; intro v1 w1 hS) | (((with_reducible refine g_conv ?_); refine wl_run rfl (x_toString (l := [fb n]) rfl rfl rfl rfl (by have := hS.rdv (i := 0) rfl; rw [← E1.out] at this; exact this) rfl) ?_)) | fail)
    go_ret2
    exact ⟨rfl, hS.nil⟩
  · rw [if_neg h]
    go_enter Tryz.func108, Tryz.ntmps108
    refine St.startAt w fun w1 hS => ?_
    by_cases h0 : n < 0
    · clear h
      go_wp2_with (fail)
      go_ret2
      exact ⟨rfl, hS⟩
    · have h1 : 255 < n := by omega
      clear h
      go_wp2_with (fail)
      go_ret2
      exact ⟨rfl, hS⟩

end Go.Proofs.YtjjiibcnknljfaaGreat
namespace Go.Proofs.YtjjiibcnknljfaaGreat
open Go.RowKit Go.Cmp
set_option maxRecDepth 100000

def wholeB (a : Acc) : List UInt8 := leB 8 a.id ++ [fb a.flags] ++ leB 8 a.deb ++ leB 8 a.cred
def putW (a : Acc) : List UInt8 × Int := if 0 ≤ a.flags ∧ a.flags ≤ 255 then (wholeB a, 0) else ([], 1)
def getW (l : List UInt8) : Acc × Bool := if l.length = 25 then (⟨leN (l.take 8), ((l.getD 8 0).toNat : Int), leN ((l.drop 9).take 8), leN ((l.drop 17).take 8)⟩, true) else (⟨0, 0, 0, 0⟩, false)

set_option maxHeartbeats 1000000 in
theorem putWhole_any (a : Acc) (h : a.Ok) (w : World) :
    Calls Tryz.prog 86 #[.agg a.cells.toArray] w fun e w' => e = .returned (.tuple #[.string ⟨(putW a).1.toArray⟩, .int .i64 (putW a).2]) ∧ St [] w w' [] := by
  have HA := Lib.hid (fun (w : World) => asked_ok a h [] (.slice none 0 0) w (by simp) (Rd.nil _ _))
  have HN := Lib.hid (fun (r : List UInt8) (hr : r.length ≤ 100) (v vl : Value) (w : World) (hR : Rd w 1 v r.length (B r)) (hL : Rd w 1 vl 2 (U [a.deb, a.cred])) => numbers_any r [a.deb, a.cred] v vl 2 w rfl (by omega) (by obtain ⟨_, h2, h3, _⟩ := h; intro x hx; simp only [List.mem_cons, List.not_mem_nil, or_false] at hx; rcases hx with rfl | rfl <;> assumption) (by omega) hR hL)
  clear h
  obtain ⟨id, flags, deb, cred⟩ := a
  simp only [ag, Acc.cells] at HA HN ⊢
  by_cases hf : 0 ≤ flags ∧ flags ≤ 255
  · have e1 : (byAcc ⟨id, flags, deb, cred⟩).isSome = true := by unfold byAcc; rw [if_pos hf]; rfl
    have e2 : putW ⟨id, flags, deb, cred⟩ = (wholeB ⟨id, flags, deb, cred⟩, 0) := by unfold putW; rw [if_pos hf]
    rw [e1] at HA
    rw [e2]
    clear e1 e2 hf
    go_enter Tryz.func86, Tryz.ntmps86
    refine St.startAt w fun w1 hS => ?_
    go_wp2_with (first | (go_at_call 115; refine (HA.out _).mono ?_; rintro e w2 ⟨v2, r, rfl, hr, hS2⟩; replace hS := hS.call hS2; clear hS2; simp only [List.cons_append, List.nil_append] at hS hr) | ((with_reducible refine g_bs ?_); refine wl_of rfl ?_; refine wp_buildSlice1 (vs := [.int .u64 (deb : Int), .int .u64 (cred : Int)]) hS rfl rfl rfl rfl rfl rfl (by decide) ⟨rfl, by simp [Value.cells]⟩ ?_; clear hS; intro v1 w1 hS) | (first | refine au1 (n := ?_) | (refine au2 (n := ?_); clear hS; intro w' hS) | (refine au3 (n := ?_); clear hS; intro gb w1 hS) | (refine au4 (n := ?_); clear hS; intro v1 w' hS) | ((with_reducible refine wl_guard ?_); refine stop_mem rfl rfl ?_)))
    have hrl : r.length ≤ 100 := by rw [hr]; simp [leB_length]
    refine (HN.out r hrl v2 _ _ ?_ ?_).mono ?_
    · exact hS.rdv (i := 1) rfl
    · exact hS.rdv (i := 0) rfl
    rintro e w2 ⟨v3, r3, rfl, hr3, hS2⟩
    replace hS := hS.call hS2
    clear hS2
    rw [B_flat] at hS
    simp only [List.cons_append, List.nil_append] at hS
    go_wp2_with (first | refine au1 (n := ?_) | (refine au2 (n := ?_); clear hS; intro w' hS) | (refine au3 (n := ?_); clear hS; intro gb w1 hS) | (refine au4 (n := ?_); clear hS; intro v1 w' hS) | ((with_reducible refine wl_guard ?_); refine stop_mem rfl rfl ?_))
    go_ret2
    refine ⟨?_, hS.nil⟩
    subst hr3
    subst hr
    simp [wholeB]
  · have e1 : (byAcc ⟨id, flags, deb, cred⟩).isSome = false := by unfold byAcc; rw [if_neg hf]; rfl
    have e2 : putW ⟨id, flags, deb, cred⟩ = ([], 1) := by unfold putW; rw [if_neg hf]
    rw [e1] at HA
    rw [e2]
    clear e1 e2 hf
    go_enter Tryz.func86, Tryz.ntmps86
    refine St.startAt w fun w1 hS => ?_
    go_wp2_with (first | (go_at_call 115; refine (HA.out _).mono ?_; rintro e w2 ⟨v2, r, rfl, hr, hS2⟩; replace hS := hS.call hS2; clear hS2) | (first | refine au1 (n := ?_) | (refine au2 (n := ?_); clear hS; intro w' hS) | (refine au3 (n := ?_); clear hS; intro gb w1 hS) | (refine au4 (n := ?_); clear hS; intro v1 w' hS) | ((with_reducible refine wl_guard ?_); refine stop_mem rfl rfl ?_)))
    go_ret2
    exact ⟨rfl, hS.nil⟩

set_option maxHeartbeats 1000000 in
theorem refPutWhole_any (a : Acc) (h : a.Ok) (w : World) :
    Calls Tryz.prog 76 #[.agg a.cells.toArray] w fun e w' => e = .returned (.tuple #[.string ⟨(putW a).1.toArray⟩, .int .i64 (putW a).2]) ∧ St [] w w' [] := by
  obtain ⟨id, flags, deb, cred⟩ := a
  obtain ⟨h1, h2, h3, _⟩ := h
  simp only at h1 h2 h3
  have E1 := Lib.hid (fun w => eight_any id w h1)
  have E2 := Lib.hid (fun w => eight_any deb w h2)
  have E3 := Lib.hid (fun w => eight_any cred w h3)
  have HF := Lib.hid (fun w => flags_any flags w)
  clear h1 h2 h3
  simp only [Acc.cells]
  by_cases hf : 0 ≤ flags ∧ flags ≤ 255
  · have e2 : putW ⟨id, flags, deb, cred⟩ = (wholeB ⟨id, flags, deb, cred⟩, 0) := by unfold putW; rw [if_pos hf]
    rw [if_pos hf] at HF
    rw [e2]
    clear e2 hf
    have a1 := leB_length 8 id
    have a2 := leB_length 8 deb
    have a3 := leB_length 8 cred
    have e3 : wholeB ⟨id, flags, deb, cred⟩ = leB 8 id ++ [fb flags] ++ leB 8 deb ++ leB 8 cred := rfl
    rw [e3]
    clear e3
    generalize leB 8 id = b1 at *
    generalize leB 8 deb = b2 at *
    generalize leB 8 cred = b3 at *
    go_enter Tryz.func76, Tryz.ntmps76
    refine St.startAt w fun w1 hS => ?_
    go_wp2_with (first | (go_at_call 108; refine (HF.out _).mono ?_; rintro e w2 ⟨rfl, hS2⟩; replace hS := hS.call hS2; clear hS2; simp only [List.nil_append] at hS) | (first | refine au1 (n := ?_) | (refine au2 (n := ?_); clear hS; intro w' hS) | (refine au3 (n := ?_); clear hS; intro gb w1 hS) | (refine au4 (n := ?_); clear hS; intro v1 w' hS) | ((with_reducible refine wl_guard ?_); refine stop_mem rfl rfl ?_)))
    refine region_calm (by kernel_rfl) (by kernel_rfl) hS ?_
    (refine Calm.pure rfl (h := ?_); simp only [Act.put, List.setIfInBounds_toArray, List.set_cons_zero, List.set_cons_succ])
    (refine Calm.read rfl (h := ?_); simp only [Act.put, List.setIfInBounds_toArray, List.set_cons_zero, List.set_cons_succ])
    (refine Calm.call2 (calm_makes E1.out) rfl (h := ?_); simp only [Act.put, List.setIfInBounds_toArray, List.set_cons_zero, List.set_cons_succ])
    (refine Calm.pure rfl (h := ?_); simp only [Act.put, List.setIfInBounds_toArray, List.set_cons_zero, List.set_cons_succ])
    (refine Calm.run rfl (fun W hW => by exact a_concat rfl rfl rfl (by simp; omega)) ?_; simp only [Act.put, List.setIfInBounds_toArray, List.set_cons_zero, List.set_cons_succ])
    (refine Calm.pure rfl (h := ?_); simp only [Act.put, List.setIfInBounds_toArray, List.set_cons_zero, List.set_cons_succ])
    (refine Calm.read rfl (h := ?_); simp only [Act.put, List.setIfInBounds_toArray, List.set_cons_zero, List.set_cons_succ])
    (refine Calm.call2 (calm_makes E2.out) rfl (h := ?_); simp only [Act.put, List.setIfInBounds_toArray, List.set_cons_zero, List.set_cons_succ])
    (refine Calm.run rfl (fun W hW => by exact a_concat rfl rfl rfl (by simp; omega)) ?_; simp only [Act.put, List.setIfInBounds_toArray, List.set_cons_zero, List.set_cons_succ])
    (refine Calm.pure rfl (h := ?_); simp only [Act.put, List.setIfInBounds_toArray, List.set_cons_zero, List.set_cons_succ])
    (refine Calm.read rfl (h := ?_); simp only [Act.put, List.setIfInBounds_toArray, List.set_cons_zero, List.set_cons_succ])
    (refine Calm.call2 (calm_makes E3.out) rfl (h := ?_); simp only [Act.put, List.setIfInBounds_toArray, List.set_cons_zero, List.set_cons_succ])
    (refine Calm.run rfl (fun W hW => by exact a_concat rfl rfl rfl (by simp; omega)) ?_; simp only [Act.put, List.setIfInBounds_toArray, List.set_cons_zero, List.set_cons_succ])
    (refine Calm.pure rfl (h := ?_); simp only [Act.put, List.setIfInBounds_toArray, List.set_cons_zero, List.set_cons_succ])
    (refine Calm.pure rfl (h := ?_); simp only [Act.put, List.setIfInBounds_toArray, List.set_cons_zero, List.set_cons_succ])
    (refine Calm.nil ?_; clear hS; intro w8 hS)
    go_wp2_with (fail)
    go_ret2
    refine ⟨by simp, hS.nil⟩
  · have e2 : putW ⟨id, flags, deb, cred⟩ = ([], 1) := by unfold putW; rw [if_neg hf]
    rw [if_neg hf] at HF
    rw [e2]
    clear e2 hf
    go_enter Tryz.func76, Tryz.ntmps76
    refine St.startAt w fun w1 hS => ?_
    go_wp2_with (first | (go_at_call 108; refine (HF.out _).mono ?_; rintro e w2 ⟨rfl, hS2⟩; replace hS := hS.call hS2; clear hS2; simp only [List.nil_append] at hS) | (first | refine au1 (n := ?_) | (refine au2 (n := ?_); clear hS; intro w' hS) | (refine au3 (n := ?_); clear hS; intro gb w1 hS) | (refine au4 (n := ?_); clear hS; intro v1 w' hS) | ((with_reducible refine wl_guard ?_); refine stop_mem rfl rfl ?_)))
    go_ret2
    exact ⟨rfl, hS.nil⟩

end Go.Proofs.YtjjiibcnknljfaaGreat
