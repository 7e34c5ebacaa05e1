/-
  Texts in blocks: the document's helpers; the law's text.
-/
import Derived.Test.YtghnfocajnlfhaaGrid5
set_option linter.unusedSimpArgs false
set_option linter.unusedVariables false
set_option linter.unusedSectionVars false
set_option maxRecDepth 100000
namespace Go.Cmp
open Go.RowKit
def sameN (A B : List Nat) : Bool := decide (A = B)
/-- The law's text of n bytes. -/
def textN (c n : Nat) : List UInt8 := (List.range n).map fun i => UInt8.ofNat (c + i / 7)
theorem textN_len (c n : Nat) : (textN c n).length = n := by simp [textN]
end Go.Cmp
namespace Go.Proofs.Ytghnfocajnlfhaa
open Go.RowKit Go.Cmp

section
variable {S : List Nat} {w0 w : World} {M : List Ent} {g : Nat} {D : Dsk}
theorem count14_any (n : Nat) (hn : n ≤ 1000000) (w : World) : Calls Try.prog 10 #[.int .i64 n] w fun e w' => e = .returned (.int .i64 (cntG n)) ∧ w' = w := by
  have HE : Hid ((cntG n : Int) = ((n : Int) + 319) / 320) := Lib.hid (by unfold cntG; omega)
  have h1 : wrap64 (((n : Int) + 319) / 320) = ((n : Int) + 319) / 320 := by unfold wrap64; omega
  have h2 : ((n : Int) + 319).tdiv 320 = ((n : Int) + 319) / 320 := Int.tdiv_eq_ediv_of_nonneg (by omega)
  (go_enter Try.func10, Try.ntmps10)
  go_wp2
  go_ret
  exact ⟨by rw [HE.out]; simp, rfl⟩
theorem piece14_any (s : List UInt8) (hl : s.length ≤ 1000000) (i : Nat) (hi : i < cntG s.length) (w : World) : Calls Try.prog 15 #[.string ⟨s.toArray⟩, .int .i64 i] w fun e w' => e = .returned (.string ⟨(piece s i).toArray⟩) ∧ w' = w := by
  have hlt := cntG_lt.1 hi
  by_cases h : s.length < 320 * i + 320
  · have HE : Hid (piece s i = (s.take s.length).drop (320 * i)) := Lib.hid (by unfold piece; rw [List.take_length, List.take_of_length_le (by rw [List.length_drop]; omega)])
    have h1 : (s.length : Int) < 320 * (i : Int) + 320 := by omega
    have h2 : 320 * (i : Int) ≤ s.length := by omega
    clear hi hlt h
    (go_enter Try.func15, Try.ntmps15)
    go_wp2_with (fail)
    go_ret
    exact ⟨by show Ending.returned (.string (ByteArray.extract _ (320 * i) s.length)) = _; rw [bx, HE.out], rfl⟩
  · have HE : Hid (piece s i = (s.take (320 * i + 320)).drop (320 * i)) := Lib.hid (by unfold piece; rw [List.drop_take]; congr 1; omega)
    have h1 : ¬ (s.length : Int) < 320 * (i : Int) + 320 := by omega
    have h2 : 320 * (i : Int) ≤ s.length := by omega
    have h3 : 320 * (i : Int) + 320 ≤ s.length := by omega
    clear hi hlt h
    (go_enter Try.func15, Try.ntmps15)
    go_wp2_with (fail)
    go_ret
    exact ⟨by show Ending.returned (.string (ByteArray.extract _ (320 * i) (320 * i + 320))) = _; rw [bx, HE.out], rfl⟩
set_option maxHeartbeats 4000000 in
theorem sums14_any (s : List UInt8) (hl : s.length ≤ 1000000) (w : World) :
    Calls Try.prog 35 #[.string ⟨s.toArray⟩] w fun e w' => e = .returned (.tuple #[.agg (gSums s).1.toArray, .int .i64 (gSums s).2]) ∧ St [] w w' [] := by
  have hS := St.init w
  by_cases hlong : 1920 < s.length
  · have e : gSums s = (zero6, 5) := by unfold gSums; rw [if_pos hlong]
    have h1 : (1920 : Int) < s.length := by omega
    rw [e]
    clear e hlong
    (go_enter Try.func35, Try.ntmps35)
    go_wp2_with (first | go_skip | (first | (have q9 := gz; clear q9; ((with_reducible refine g_alloc ?_); refine wl_of rfl ?_; refine wp_alloc hS rfl rfl rfl rfl ?_; clear hS; intro ga w1 hS)) | ((with_reducible refine g_alloc ?_); refine wl_of rfl ?_; refine wp_alloc hS rfl rfl rfl rfl ?_; clear hS; intro gz w1 hS)) | ((with_reducible refine g_load ?_); refine wl_run rfl (by first | exact a_load1 hS rfl rfl rfl rfl (by (repeat (first | exact Ix.here | apply Ix.there))) (by rfl) | exact a_loadR hS rfl rfl rfl rfl (by (repeat (first | exact Ix.here | apply Ix.there))) (by rfl) | fail) ?_) | (refine au5 (n := ?_); clear hS; intro w' hS) | fail)
    exact end_cell2 hS rfl rfl rfl rfl rfl rfl (h := ⟨rfl, hS.nil⟩)
  · have e : gSums s = (sumsV s, 0) := by unfold gSums; rw [if_neg hlong]
    have h1 : ¬ (1920 : Int) < s.length := by omega
    rw [e]
    have hc6 : cntG s.length ≤ 6 := by unfold cntG; omega
    have HCO := Lib.hid (fun w => count14_any s.length hl w)
    have HPI := Lib.hid (fun i hi w => piece14_any s hl i hi w)
    have HSA := Lib.hid (sumsTo_all s)
    have HPLN : Hid (∀ i, (piece s i).length ≤ 320) := Lib.hid (fun i => by rw [piece_len]; omega)
    have hso := sums_one s
    generalize sumsV s = V at HSA hso ⊢
    clear e hlong
    (go_enter Try.func35, Try.ntmps35)
    go_wp2_with (first | go_skip | (first | (have q9 := gz; clear q9; ((with_reducible refine g_alloc ?_); refine wl_of rfl ?_; refine wp_alloc hS rfl rfl rfl rfl ?_; clear hS; intro ga w1 hS)) | ((with_reducible refine g_alloc ?_); refine wl_of rfl ?_; refine wp_alloc hS rfl rfl rfl rfl ?_; clear hS; intro gz w1 hS)) | (refine au5 (n := ?_); clear hS; intro w' hS) | fail)
    replace hS : St [] w _ [.row ga (sumsTo s 0) 29 (0, 0), .row gz zero6 29 (0, 0)] := hS.pick
    go_loopw [5] (fun k wz => ∃ i : Nat, i ≤ cntG s.length ∧ k = .int .i64 i ∧ St [] w wz [.row ga (sumsTo s i) 29 (0, 0), .row gz zero6 29 (0, 0)]) (fun k _ => cntG s.length - (intOf k).toNat)
    case atStart => exact ⟨0, by omega, rfl, hS⟩
    case round =>
      clear hS
      obtain ⟨i, hi, rfl, hS⟩ := hrel
      by_cases hil : i < cntG s.length
      · have hil1 : (i : Int) < (cntG s.length : Nat) := by omega
        have hpl := HPLN.out i
        have HP1 := Lib.hid (HPI.out i hil)
        have HC := Lib.hid (fun w => refChain_any i (by omega) (piece s i) (by omega) w)
        have HSET := Lib.hid (sumsTo_set s i (by omega))
        have hlen := sumsTo_len s i
        have hw1 : IntKind.u64.wrap (i : Int) = i := u64_nat (by omega)
        generalize chainOf i (piece s i) = c at HC HSET
        generalize piece s i = x at HC HP1
        clear hpl
        go_wp2_with (first | go_skip | (go_at_call 10; refine (HCO.out _).mono ?_; rintro e w' ⟨rfl, rfl⟩) | (go_at_call 15; refine (HP1.out _).mono ?_; rintro e w' ⟨rfl, rfl⟩) | (go_at_call 44; refine (HC.out _).mono ?_; rintro e w' ⟨rfl, rfl⟩) | ((with_reducible refine g_index ?_); refine wl_run rfl (a_arr (n := 6) rfl rfl rfl rfl rfl (by omega) (by omega)) ?_) | ((with_reducible refine g_store ?_); refine wl_of rfl ?_; refine a_store1 (v := .int .u64 (c : Int)) (cs' := sumsTo s (i + 1)) hS rfl rfl rfl rfl rfl rfl (by (repeat (first | exact Sw.here | apply Sw.there))) (by simp; omega) (by simpa using HSET.out) ?_; clear hS; intro w' hS) | fail)
        exact ⟨⟨i + 1, by omega, by simp, hS.pick⟩, by simp [intOf]; omega⟩
      · obtain rfl : i = cntG s.length := by omega
        rw [HSA.out] at hS
        have hV6 : V.length = 6 := by rw [← HSA.out]; exact sumsTo_len s _
        go_wp2_with (first | go_skip | (go_at_call 10; refine (HCO.out _).mono ?_; rintro e w' ⟨rfl, rfl⟩) | ((with_reducible refine g_load ?_); refine wl_run rfl (by exact a_loadA (vs := V) hS rfl rfl rfl rfl (by (repeat (first | exact Ix.here | apply Ix.there))) 6 (by rfl) (by rw [List.drop_zero, ← hV6, List.take_length]) hV6) ?_) | ((with_reducible refine g_store ?_); refine wl_of rfl ?_; refine a_storeA (vs := V) (cs' := V) hS rfl rfl rfl (by rw [hV6]; rfl) hso (by (repeat (first | exact Sw.here | apply Sw.there))) (by rw [hV6]; exact Nat.le_refl 6) (by rw [hV6]; simp [zero6]) ?_; clear hS; intro w' hS) | fail)
        refine end_cell2 hS rfl rfl rfl rfl rfl rfl (hi := by rw [hV6]; rfl) (h := ⟨rfl, hS.nil⟩)
end
end Go.Proofs.Ytghnfocajnlfhaa
