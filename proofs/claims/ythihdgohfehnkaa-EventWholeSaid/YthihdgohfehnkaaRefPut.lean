/-
  The document's answers: lists' bytes.
-/
import Derived.Test.YthihdgohfehnkaaRef
namespace Go.Proofs.Ythihdgohfehnkaa
open Go.RowKit Go.Cmp

theorem bcat (a b : List UInt8) : (⟨a.toArray⟩ : ByteArray) ++ ⟨b.toArray⟩ = ⟨(a ++ b).toArray⟩ := by
  apply ByteArray.ext
  simp

theorem refPutIDs_any (xs : List Nat) (vl : Value) (n : Nat) (w : World) (hn : xs.length = n) (hx : ∀ x ∈ xs, x < 256 ^ 8) (hL : Rd w 1 vl n (U xs)) :
    Calls Try.prog 10 #[vl] w fun e w' => e = .returned (.tuple #[.string ⟨(putS byID xs).1.toArray⟩, .int .i64 (putS byID xs).2]) ∧ St [] w w' [] := by
  have Hn := Lib.hid hn
  have HX := Lib.hid hx
  clear hn hx
  by_cases hm : 1 ≤ n ∧ n ≤ 4
  · have hp : putS byID xs = (match cat byID xs with | some s => (s, 0) | none => ([], 1)) := by unfold putS; rw [if_neg (by have := Hn.out; omega)]; cases cat byID xs <;> rfl
    have Hp := Lib.hid hp
    clear hp
    go_enter Try.func10, Try.ntmps10
    refine St.startAt w fun w1 hS => ?_
    go_wp2_with (first | ((with_reducible refine g_len ?_); refine wl_run rfl (x_len rfl (hS.old0 hL) rfl rfl) ?_) | fail)
    refine (many_any n _).mono ?_
    rintro e w2 ⟨rfl, hS2⟩
    replace hS := hS.call hS2
    clear hS2
    rw [decide_eq_true hm]
    go_wp2
    go_loopw [4, 5] (fun s i wr => ∃ (j : Nat) (acc : List UInt8), j ≤ n ∧ i = .int .i64 j ∧ Hid (cat byID (xs.take j) = some acc) ∧ s = .string ⟨acc.toArray⟩ ∧ St [] w wr []) (fun _ i _ => n - (intOf i).toNat)
    case atStart => exact ⟨0, [], by omega, rfl, Lib.hid rfl, rfl, hS⟩
    case round =>
      clear hS
      obtain ⟨j, acc, hj, rfl, Ha, rfl, hS⟩ := hrel
      by_cases hlt : j < n
      · have hjl : j < xs.length := by have := Hn.out; omega
        have hjn := U_get hjl
        go_wp2_with (first | ((with_reducible refine g_len ?_); refine wl_run rfl (x_len rfl (hS.old0 hL) rfl rfl) ?_) | ((with_reducible refine g_index ?_); refine wl_run rfl (x_index rfl (hS.old0 hL) rfl rfl rfl rfl rfl (by omega) (by omega)) ?_) | ((with_reducible refine g_load ?_); refine wl_run rfl (x_loadS1 rfl (hS.old0 hL) rfl rfl rfl (by simpa using hjn)) ?_) | fail)
        refine (eight_any xs[j] _ (HX.out _ (List.getElem_mem hjl))).mono ?_
        rintro e w3 ⟨rfl, hS2⟩
        replace hS := hS.call hS2
        clear hS2
        have hcs := cat_succ byID xs j hjl acc Ha.out
        have Hcs : Hid (cat byID (xs.take (j + 1)) = some (acc ++ leB 8 xs[j])) := Lib.hid (by simpa [byID] using hcs)
        clear hcs
        have hov : ¬ 9223372036854775807 < acc.length + (leB 8 xs[j]).length := by
          have h1 := cat_len byID byID_len _ _ Ha.out
          rw [List.length_take] at h1
          rw [leB_length]
          omega
        go_wp2
        exact ⟨⟨j + 1, acc ++ leB 8 xs[j], by omega, by go_num, Hcs, by rw [bcat], hS⟩, by simp [intOf]; omega⟩
      · obtain rfl : j = n := by omega
        have Hc : Hid (cat byID xs = some acc) := Lib.hid (by have := Ha.out; rwa [List.take_of_length_le (by have := Hn.out; omega)] at this)
        go_wp2_with (first | ((with_reducible refine g_len ?_); refine wl_run rfl (x_len rfl (hS.old0 hL) rfl rfl) ?_) | fail)
        go_ret2
        rw [Hp.out, Hc.out]
        exact ⟨rfl, hS⟩
  · have hp : putS byID xs = ([], 1) := by unfold putS; rw [if_pos (by have := Hn.out; omega)]
    rw [hp]
    go_enter Try.func10, Try.ntmps10
    refine St.startAt w fun w1 hS => ?_
    go_wp2_with (first | ((with_reducible refine g_len ?_); refine wl_run rfl (x_len rfl (hS.old0 hL) rfl rfl) ?_) | fail)
    refine (many_any n _).mono ?_
    rintro e w2 ⟨rfl, hS2⟩
    replace hS := hS.call hS2
    clear hS2
    rw [decide_eq_false hm]
    go_wp2
    go_ret2
    exact ⟨rfl, hS⟩

end Go.Proofs.Ythihdgohfehnkaa
