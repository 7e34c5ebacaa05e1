/-
  The document's answer: accounts' bytes.
-/
import Derived.Test.YthihdgohfehnkaaPutTra
namespace Go.Proofs.Ythihdgohfehnkaa
open Go.RowKit Go.Cmp

theorem flags_any (n : Int) (w : World) :
    Calls Try.prog 38 #[.int .i64 n] w fun e w' => e = .returned (.tuple (if 0 ≤ n ∧ n ≤ 255 then #[.string ⟨[fb n].toArray⟩, .bool true] else #[.string ⟨[].toArray⟩, .bool false])) ∧ St [] w w' [] := by
  by_cases h : 0 ≤ n ∧ n ≤ 255
  · rw [if_pos h]
    have h0 : ¬ n < 0 := by omega
    have h1 : ¬ 255 < n := by omega
    have e1 : B [fb n] = [.int .u8 n] := by
      have := fb_wrap n
      simp [IntKind.wrap, IntKind.signed, IntKind.bits] at this
      simp [B]
      omega
    have E1 := Lib.hid e1
    clear e1 h
    go_enter Try.func38, Try.ntmps38
    refine St.startAt w fun w1 hS => ?_
    go_wp2_with (first | ((with_reducible refine g_bs ?_); refine wl_of rfl ?_; refine wp_buildSlice1 (vs := [.int .u8 n]) hS rfl rfl rfl rfl rfl rfl (by decide) ⟨rfl, by simp [Value.cells]⟩ ?_; clear hS; intro v1 w1 hS) | (((with_reducible refine g_conv ?_); refine wl_run rfl (x_toString (l := [fb n]) rfl rfl rfl rfl (by have := hS.rdv (i := 0) rfl; rw [← E1.out] at this; exact this) rfl) ?_)) | fail)
    go_ret2
    exact ⟨rfl, hS.nil⟩
  · rw [if_neg h]
    go_enter Try.func38, Try.ntmps38
    refine St.startAt w fun w1 hS => ?_
    by_cases h0 : n < 0
    · clear h
      go_wp2_with (fail)
      go_ret2
      exact ⟨rfl, hS⟩
    · have h1 : 255 < n := by omega
      clear h
      go_wp2_with (fail)
      go_ret2
      exact ⟨rfl, hS⟩

set_option maxHeartbeats 1000000 in
theorem refPutAccounts_any (xs : List Acc) (vl : Value) (n : Nat) (w : World) (hn : xs.length = n) (hx : ∀ x ∈ xs, x.Ok) (hL : Rd w 4 vl n (xs.flatMap Acc.cells)) :
    Calls Try.prog 14 #[vl] w fun e w' => e = .returned (.tuple #[.string ⟨(putS byAcc xs).1.toArray⟩, .int .i64 (putS byAcc xs).2]) ∧ St [] w w' [] := by
  have Hn := Lib.hid hn
  have HX := Lib.hid hx
  clear hn hx
  by_cases hm : 1 ≤ n ∧ n ≤ 4
  · have hp : putS byAcc xs = (match cat byAcc xs with | some s => (s, 0) | none => ([], 1)) := by unfold putS; rw [if_neg (by have := Hn.out; omega)]; cases cat byAcc xs <;> rfl
    have Hp := Lib.hid hp
    clear hp
    go_enter Try.func14, Try.ntmps14
    refine St.startAt w fun w1 hS => ?_
    go_wp2_with (first | ((with_reducible refine g_len ?_); refine wl_run rfl (x_len rfl (hS.old0 hL) rfl rfl) ?_) | fail)
    refine (many_any n _).mono ?_
    rintro e w2 ⟨rfl, hS2⟩
    replace hS := hS.call hS2
    clear hS2
    rw [decide_eq_true hm]
    go_wp2
    go_loopw [4, 5] (fun s i wr => ∃ (j : Nat) (acc : List UInt8), j ≤ n ∧ i = .int .i64 j ∧ Hid (cat byAcc (xs.take j) = some acc) ∧ s = .string ⟨acc.toArray⟩ ∧ St [] w wr []) (fun _ i _ => n - (intOf i).toNat)
    case atStart => exact ⟨0, [], by omega, rfl, Lib.hid rfl, rfl, hS⟩
    case round =>
      clear hS
      obtain ⟨j, acc, hj, rfl, Ha, rfl, hS⟩ := hrel
      by_cases hlt : j < n
      · have hjl : j < xs.length := by have := Hn.out; omega
        have hcs := cat_succ byAcc xs j hjl acc Ha.out
        have hok := HX.out _ (List.getElem_mem hjl)
        have hgx := flatMap_cells Acc.cells 4 (fun _ => rfl) xs j hjl
        obtain ⟨X, hX⟩ : ∃ X, xs[j] = X := ⟨_, rfl⟩
        rw [hX] at hgx hcs hok
        obtain ⟨id, flags, deb, cred⟩ := X
        obtain ⟨k1, k2, k3, k4, k5⟩ := hok
        simp only at k1 k2 k3 k4 k5
        have hg : ∀ i : Nat, i < 4 → (xs.flatMap Acc.cells)[j * 4 + i]? = (([.int .u64 (id : Int), .int .i64 flags, .int .u64 (deb : Int), .int .u64 (cred : Int)] : List Value))[i]? := by
          intro i hi
          have h2 := congrArg (fun l => l[i]?) hgx
          simp only [Acc.cells] at h2
          rw [List.getElem?_take_of_lt hi, List.getElem?_drop] at h2
          exact h2
        have g0 : (xs.flatMap Acc.cells)[j * 4 + 0]? = some (.int .u64 (id : Int)) := hg 0 (by omega)
        have g1 : (xs.flatMap Acc.cells)[j * 4 + 1]? = some (.int .i64 flags) := hg 1 (by omega)
        have K1 := Lib.hid k1
        have G0 := Lib.hid g0
        have G1 := Lib.hid g1
        have ha : acc.length ≤ 128 := by
          have h1 := cat_len byAcc byAcc_len _ _ Ha.out
          rw [List.length_take] at h1
          omega
        have Hcs := Lib.hid hcs
        clear hcs hgx hX hg k1 g0 g1
        have n0 : 0 < n := by omega
        go_wp2_with (first | ((with_reducible refine g_len ?_); refine wl_run rfl (x_len rfl (hS.old0 hL) rfl rfl) ?_) | ((with_reducible refine g_index ?_); refine wl_run rfl (x_index rfl (hS.old0 hL) rfl rfl rfl rfl rfl (by omega) (by omega)) ?_) | ((with_reducible refine g_field ?_); refine wl_run rfl (x_field rfl (hS.old0 hL) n0 rfl rfl rfl rfl rfl rfl) ?_) | ((with_reducible refine g_load ?_); refine wl_run rfl (x_loadS1 rfl (hS.old0 hL) rfl rfl rfl G1.out) ?_) | fail)
        refine (flags_any flags _).mono ?_
        rintro e w3 ⟨rfl, hS2⟩
        replace hS := hS.call hS2
        clear hS2
        by_cases hfl : 0 ≤ flags ∧ flags ≤ 255
        · rw [if_pos hfl]
          have hby : byAcc ⟨id, flags, deb, cred⟩ = some (leB 8 id ++ [fb flags]) := by unfold byAcc; rw [if_pos hfl]
          have Hc2 : Hid (cat byAcc (xs.take (j + 1)) = some (acc ++ (leB 8 id ++ [fb flags]))) := Lib.hid (by have := Hcs.out; rw [hby] at this; exact this)
          clear hby
          go_wp2_with (first | ((with_reducible refine g_index ?_); refine wl_run rfl (x_index rfl (hS.old0 hL) rfl rfl rfl rfl rfl (by omega) (by omega)) ?_) | ((with_reducible refine g_field ?_); refine wl_run rfl (x_field rfl (hS.old0 hL) n0 rfl rfl rfl rfl rfl rfl) ?_) | ((with_reducible refine g_load ?_); refine wl_run rfl (x_loadS1 rfl (hS.old0 hL) rfl rfl rfl G0.out) ?_) | fail)
          refine (eight_any id _ K1.out).mono ?_
          rintro e w4 ⟨rfl, hS2⟩
          replace hS := hS.call hS2
          clear hS2
          have hov1 : ¬ 9223372036854775807 < acc.length + (leB 8 id).length := by rw [leB_length]; omega
          have hov2 : ¬ 9223372036854775807 < (acc ++ leB 8 id).length + [fb flags].length := by simp [leB_length]; omega
          go_wp2_with (first | (refine wl_run rfl (x_concat rfl rfl rfl (by simp [leB_length]; omega)) ?_) | fail)
          exact ⟨⟨j + 1, _, by omega, by go_num, Hc2, by simp, hS⟩, by simp [intOf]; omega⟩
        · rw [if_neg hfl]
          have hby : byAcc ⟨id, flags, deb, cred⟩ = none := by unfold byAcc; rw [if_neg hfl]
          have Hc2 : Hid (cat byAcc xs = none) := Lib.hid (by have := Hcs.out; rw [hby] at this; exact this)
          clear hby
          go_wp2
          go_ret2
          rw [Hp.out, Hc2.out]
          exact ⟨rfl, hS⟩
      · obtain rfl : j = n := by omega
        have Hc : Hid (cat byAcc xs = some acc) := Lib.hid (by have := Ha.out; rwa [List.take_of_length_le (by have := Hn.out; omega)] at this)
        go_wp2_with (first | ((with_reducible refine g_len ?_); refine wl_run rfl (x_len rfl (hS.old0 hL) rfl rfl) ?_) | fail)
        go_ret2
        rw [Hp.out, Hc.out]
        exact ⟨rfl, hS⟩
  · have hp : putS byAcc xs = ([], 1) := by unfold putS; rw [if_pos (by have := Hn.out; omega)]
    rw [hp]
    go_enter Try.func14, Try.ntmps14
    refine St.startAt w fun w1 hS => ?_
    go_wp2_with (first | ((with_reducible refine g_len ?_); refine wl_run rfl (x_len rfl (hS.old0 hL) rfl rfl) ?_) | fail)
    refine (many_any n _).mono ?_
    rintro e w2 ⟨rfl, hS2⟩
    replace hS := hS.call hS2
    clear hS2
    rw [decide_eq_false hm]
    go_wp2
    go_ret2
    exact ⟨rfl, hS⟩

end Go.Proofs.Ythihdgohfehnkaa
