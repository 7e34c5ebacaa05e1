/-
  event.numbers, event.at.
-/
import Derived.Test.YtggngdjncokanaaNumPut
import Derived.Test.YtggngdjncokanaaNumTake
set_option linter.unusedSimpArgs false
set_option linter.unusedVariables false
set_option linter.unusedSectionVars false
namespace Go.Proofs.Ytggngdjncokanaa
open Go.RowKit Go.Cmp
set_option maxRecDepth 100000

set_option maxHeartbeats 400000 in
theorem numbers_any (lb : List UInt8) (l : List Nat) (v vl : Value) (n : Nat) (w : World) (hn : l.length = n) (h0 : 0 < n) (hl : ∀ x ∈ l, x < 256 ^ 8) (hb : lb.length + 8 * n + 8 ≤ 140737488355328) (hR : Rd w 1 v lb.length (B lb)) (hL : Rd w 1 vl n (U l)) :
    Calls Try.prog 30 #[v, vl] w fun e w' => ∃ v' r, e = .returned v' ∧ r = lb ++ l.flatMap (leB 8) ∧ St [] w w' [.vec v' 5 1 r.length (B r)] := by
  have Hn := Lib.hid hn
  clear hn
  go_enter Try.func30, Try.ntmps30
  refine St.startAt w fun w1 hS => ?_
  go_wp2_with (first | ((with_reducible refine g_len ?_); refine wl_run rfl (x_len rfl (hS.old0 hL) rfl rfl) ?_) | fail)
  go_loopw [0, 9] (fun b i wr => ∃ (j : Nat) (acc : List UInt8), j ≤ n ∧ i = .int .i64 j ∧ Hid (acc = lb ++ (l.take j).flatMap (leB 8)) ∧ St [] w wr [] ∧ Rd wr 1 b acc.length (B acc) ∧ (0 < j → St [] w wr [.vec b 5 1 acc.length (B acc)])) (fun _ i _ => n - (intOf i).toNat)
  case atStart => exact ⟨0, lb, by omega, rfl, Lib.hid (by simp), hS, hS.old0 hR, by omega⟩
  case round =>
    clear hS
    obtain ⟨j, acc, hj, rfl, Ha, hS, hB, hV⟩ := hrel
    by_cases hlt : j < n
    · have hjl : j < l.length := by have := Hn.out; omega
      have hx := hl l[j] (List.getElem_mem hjl)
      have hal : acc.length + 8 ≤ 140737488355328 := by
        rw [Ha.out, List.length_append, flatMap_leB_length, List.length_take]; omega
      go_wp2_with (first | ((with_reducible refine g_index ?_); refine wl_run rfl (x_index rfl (hS.old0 hL) rfl rfl rfl rfl rfl (by omega) (by omega)) ?_) | ((with_reducible refine g_load ?_); refine wl_run rfl (x_loadS1 rfl (hS.old0 hL) rfl rfl rfl (by simpa using U_get hjl)) ?_) | fail)
      refine (put_in acc _ l[j] 8 _ (by omega) (by omega) hx hal hB).mono ?_
      rintro e w2 ⟨v', rfl, hS2⟩
      go_wp2
      have hS3 := hS.call hS2
      have e1 : acc.length + 8 = (acc ++ leB 8 l[j]).length := by simp [leB_length]
      rw [e1] at hS3
      refine ⟨⟨j + 1, acc ++ leB 8 l[j], by omega, by go_num, ?_, hS3.nil, hS3.rdv (i := 0) rfl, fun _ => hS3⟩, by simp [intOf]; omega⟩
      refine Lib.hid ?_
      rw [flatMap_take_succ _ _ _ hjl, Ha.out, List.append_assoc]
    · go_wp2
      go_ret
      obtain rfl : j = n := by omega
      refine ⟨_, acc, rfl, ?_, hV h0⟩
      rw [Ha.out, List.take_of_length_le (by have := Hn.out; omega)]

/-- event.at: eight bytes from a place on. -/
theorem at_in (l : List UInt8) (i : Nat) (w : World) (hi : i + 8 ≤ l.length) (hl : l.length ≤ 140737488355328) :
    Calls Try.prog 62 #[.string ⟨l.toArray⟩, .int .i64 i] w fun e w' => e = .returned (.int .u64 (leN ((l.drop i).take 8))) ∧ St [] w w' [] := by
  go_enter Try.func62, Try.ntmps62
  refine St.startAt w fun w1 hS => ?_
  have hm : l.length ≤ maxLen := by unfold maxLen; omega
  go_wp2_with (first | ((with_reducible refine g_conv ?_); refine wl_of rfl ?_; refine wp_toBytes hS rfl rfl rfl rfl rfl hm ?_; clear hS; intro v1 w1 hS) | fail)
  refine (take_in l _ i 8 _ (by omega) (by omega) hi hl (hS.rdv (i := 0) rfl)).mono ?_
  rintro e w2 ⟨rfl, hS2⟩
  go_wp2
  go_ret
  exact ⟨rfl, (hS.call hS2).nil⟩

/-- PutIDs' function for one. -/
theorem putID_any (lb : List UInt8) (n : Nat) (v : Value) (w : World) (hn : n < 256 ^ 8) (hb : lb.length + 16 ≤ 140737488355328) (hR : Rd w 1 v lb.length (B lb)) :
    Calls Try.prog 44 #[v, .int .u64 n] w fun e w' => ∃ v' r, e = .returned (.tuple #[v', .bool true]) ∧ r = lb ++ leB 8 n ∧ St [] w w' [.vec v' 5 1 r.length (B r)] := by
  go_enter Try.func44, Try.ntmps44
  refine St.startAt w fun w1 hS => ?_
  go_wp2_with (first | ((with_reducible refine g_bs ?_); refine wl_of rfl ?_; refine wp_buildSlice1 (vs := [.int .u64 (n : Int)]) hS rfl rfl rfl rfl rfl rfl (by decide) ⟨rfl, by simp [Value.cells]⟩ ?_; clear hS; intro v1 w1 hS) | fail)
  refine (numbers_any lb [n] v _ 1 _ rfl (by omega) (by simpa using hn) (by omega) (hS.old0 hR) (hS.rdv (i := 0) rfl)).mono ?_
  rintro e w2 ⟨v', r, rfl, hr, hS2⟩
  go_wp2
  go_ret2
  exact ⟨v', r, rfl, by simpa using hr, (hS.call hS2).one⟩
end Go.Proofs.Ytggngdjncokanaa
