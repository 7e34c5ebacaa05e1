/-
  The statement on any bytes: the walk.
-/
import Derived.Test.YthihdgohfehnkaaRefAcc
import Derived.Test.YthihdgohfehnkaaIDsLaw
namespace Go.Proofs.Ythihdgohfehnkaa
open Go.RowKit Go.Cmp

set_option maxHeartbeats 1000000 in
theorem law_reads (l : List UInt8) (w : World) :
    Calls Try.prog 5 #[.string ⟨l.toArray⟩] w fun e w' => e = .returned (.bool true) ∧ St [] w w' [] := by
  by_cases hl : l.length ≤ 1000
  · have hl1 : ¬ (1000 : Int) < l.length := by omega
    have H1 := Lib.hid (fun w => accounts_any l w (by omega))
    have H2 := Lib.hid (fun w => refAccounts_any l w hl)
    have H3 := Lib.hid (fun w => transfers_any l w (by omega))
    have H4 := Lib.hid (fun w => refTransfers_any l w hl)
    have H5 := Lib.hid (fun w => iDs_any l w (by omega))
    have H6 := Lib.hid (fun w => refIDs_any l w hl)
    generalize takeS gAcc 9 l = A at H1 H2
    generalize takeS gTra 32 l = B at H3 H4
    generalize takeS gID 8 l = C at H5 H6
    obtain ⟨A, ba⟩ := A
    obtain ⟨B, bb⟩ := B
    obtain ⟨C, bc⟩ := C
    simp only at H1 H2 H3 H4 H5 H6
    have S1 := Lib.hid (fun (u v : Value) (w : World) (hA : Rd w 4 u A.length (A.flatMap Acc.cells)) (hB : Rd w 4 v A.length (A.flatMap Acc.cells)) => sameAccounts_any A A u v _ _ w rfl rfl hA hB)
    have S2 := Lib.hid (fun (u v : Value) (w : World) (hA : Rd w 4 u B.length (B.flatMap Tra.cells)) (hB : Rd w 4 v B.length (B.flatMap Tra.cells)) => sameTransfers_any B B u v _ _ w rfl rfl hA hB)
    have S3 := Lib.hid (fun (u v : Value) (w : World) (hA : Rd w 1 u C.length (U C)) (hB : Rd w 1 v C.length (U C)) => sameIDs_any C C u v _ _ w rfl rfl hA hB)
    simp only [decide_true] at S1 S2 S3
    go_enter Try.func5, Try.ntmps5
    refine St.startAt w fun w1 hS => ?_
    go_wp2_with (fail)
    refine (awake_any _).mono ?_
    rintro e w2 ⟨rfl, hS2⟩
    replace hS := hS.call hS2
    clear hS2
    go_wp2_with (fail)
    refine (H1.out _).mono ?_
    rintro e w2 ⟨v1, rfl, hS2⟩
    replace hS := hS.call hS2
    clear hS2
    go_wp2_with (fail)
    refine (H2.out _).mono ?_
    rintro e w2 ⟨v2, rfl, hS2⟩
    replace hS := hS.call hS2
    clear hS2
    go_wp2_with (fail)
    refine (H3.out _).mono ?_
    rintro e w2 ⟨v3, rfl, hS2⟩
    replace hS := hS.call hS2
    clear hS2
    go_wp2_with (fail)
    refine (H4.out _).mono ?_
    rintro e w2 ⟨v4, rfl, hS2⟩
    replace hS := hS.call hS2
    clear hS2
    go_wp2_with (fail)
    refine (H5.out _).mono ?_
    rintro e w2 ⟨v5, rfl, hS2⟩
    replace hS := hS.call hS2
    clear hS2
    go_wp2_with (fail)
    refine (H6.out _).mono ?_
    rintro e w2 ⟨v6, rfl, hS2⟩
    replace hS := hS.call hS2
    clear hS2
    simp only [List.cons_append, List.nil_append] at hS
    go_wp2_with (fail)
    refine (S1.out v1 v2 _ (hS.rdx (by (repeat (first | exact Ix.here | apply Ix.there)))) (hS.rdx (by (repeat (first | exact Ix.here | apply Ix.there))))).mono ?_
    rintro e w2 ⟨rfl, hS2⟩
    replace hS := hS.call hS2
    clear hS2
    simp only [List.nil_append] at hS
    go_wp2_with (fail)
    refine (S2.out v3 v4 _ (hS.rdx (by (repeat (first | exact Ix.here | apply Ix.there)))) (hS.rdx (by (repeat (first | exact Ix.here | apply Ix.there))))).mono ?_
    rintro e w2 ⟨rfl, hS2⟩
    replace hS := hS.call hS2
    clear hS2
    simp only [List.nil_append] at hS
    go_wp2_with (fail)
    refine (S3.out v5 v6 _ (by simpa using hS.rdv (i := 1) rfl) (by simpa using hS.rdv (i := 0) rfl)).mono ?_
    rintro e w2 ⟨rfl, hS2⟩
    replace hS := hS.call hS2
    clear hS2
    go_wp2_with (fail)
    go_ret
    exact ⟨rfl, hS.nil⟩
  · have hl1 : (1000 : Int) < l.length := by omega
    go_enter Try.func5, Try.ntmps5
    refine St.startAt w fun w1 hS => ?_
    go_wp2_with (fail)
    refine (awake_any _).mono ?_
    rintro e w2 ⟨rfl, hS2⟩
    replace hS := hS.call hS2
    clear hS2
    go_wp2_with (fail)
    go_ret
    exact ⟨rfl, hS.nil⟩

end Go.Proofs.Ythihdgohfehnkaa
