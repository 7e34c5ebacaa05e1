/-
  Texts in blocks: the program's pieces and sums.
-/
import Derived.Test.YtghnfocajnlfhaaGridSpec
import Derived.Test.YtghnfocajnlfhaaMin
import Derived.Test.YtghnfocajnlfhaaStrEq
set_option linter.unusedSimpArgs false
set_option linter.unusedVariables false
set_option linter.unusedSectionVars false
set_option maxRecDepth 100000
namespace Go.Proofs.Ytghnfocajnlfhaa
open Go.RowKit Go.Cmp

section
variable {S : List Nat} {w0 w : World} {M : List Ent}
theorem gridMay_any (a i : Nat) (ha : a < 2) (hi : i < 6) (w : World) : Calls Try.prog 25 #[.int .i64 a, .int .i64 i] w fun e w' => e = .returned (.bool true) ∧ w' = w := by
  have h1 : (a : Int) < 2 := by omega
  have h2 : (i : Int) < 6 := by omega
  have h3 : (0 : Int) ≤ a := by omega
  have h4 : (0 : Int) ≤ i := by omega
  (go_enter Try.func25, Try.ntmps25)
  go_wp2
  go_ret
  exact ⟨rfl, rfl⟩
theorem gridSector_any (a i : Nat) (ha : a < 2) (hi : i < 6) (w : World) : Calls Try.prog 33 #[.int .i64 a, .int .i64 i] w fun e w' => e = .returned (.int .i64 (secG a i)) ∧ w' = w := by
  have HE : Hid (secG a i = 20 + (a : Int) * 6 + i) := Lib.hid (by unfold secG; omega)
  have h1 : (a : Int) < 2 := by omega
  have h2 : (i : Int) < 6 := by omega
  (go_enter Try.func33, Try.ntmps33)
  go_wp2
  go_ret
  exact ⟨by rw [HE.out]; rfl, rfl⟩
set_option maxHeartbeats 4000000 in
theorem gridBlocks_any (s : List UInt8) (hl : s.length ≤ 1000000) (w : World) :
    Calls Try.prog 23 #[.string ⟨s.toArray⟩] w fun e w' => ∃ v, e = .returned v ∧ St [] w w' [.vec v 9 1 (piecesG s).length ((piecesG s).flatMap str)] := by
  have hS := (St.init w).addNil 9 1
  (go_enter Try.func23, Try.ntmps23)
  go_wp2_with (fail)
  go_loopw [0, 3] (fun sv v wz => ∃ i : Nat, i ≤ cntG s.length ∧ sv = .string ⟨(s.drop (320 * i)).toArray⟩ ∧ St [] w wz [.vec v 9 1 (piecesTo s i).length ((piecesTo s i).flatMap str)]) (fun sv _ _ => strLen sv)
  case atStart => exact ⟨0, by omega, by simp, hS⟩
  case round =>
    clear hS
    obtain ⟨i, hi, rfl, hS⟩ := hrel
    have hRl : (s.drop (320 * i)).length = s.length - 320 * i := List.length_drop
    have hsn := piecesTo_snoc s i
    have hpl := piecesTo_len s i
    by_cases hlt : i < cntG s.length
    · have hlt2 := cntG_lt.1 hlt
      have HD : Hid (s.drop (320 * (i + 1)) = (s.drop (320 * i)).drop (min (s.drop (320 * i)).length 320)) := Lib.hid (by
        rw [List.drop_drop]
        by_cases h : (s.drop (320 * i)).length ≤ 320
        · rw [Nat.min_eq_left h, List.drop_eq_nil_of_le (by omega), List.drop_eq_nil_of_le (by omega)]
        · rw [Nat.min_eq_right (by omega)]; congr 1)
      have HP : Hid (piece s i = (s.drop (320 * i)).take (min (s.drop (320 * i)).length 320)) := Lib.hid (by
        unfold piece
        by_cases h : (s.drop (320 * i)).length ≤ 320
        · rw [Nat.min_eq_left h, List.take_of_length_le h, List.take_length]
        · rw [Nat.min_eq_right (by omega)])
      obtain ⟨R, hR⟩ : ∃ R, s.drop (320 * i) = R := ⟨_, rfl⟩
      rw [hR] at hRl HD HP ⊢
      clear hR
      obtain ⟨m, hm⟩ : ∃ m, min R.length 320 = m := ⟨_, rfl⟩
      rw [hm] at HD HP
      have HM : Hid ((if (320 : Int) < (R.length : Int) then (320 : Int) else (R.length : Int)) = (m : Int)) := Lib.hid (by split <;> omega)
      have hm1 : (m : Int) ≤ R.length := by omega
      have hm2 : 0 < m := by omega
      have hne : R ≠ [] := by intro e; rw [e] at hRl; simp at hRl; omega
      have hem : R.isEmpty = false := by simpa using hne
      have hRl1 : R.length ≤ 1000000 := by omega
      have HRL := Lib.hid hRl
      clear hm hRl
      go_wp2_with (first | go_skip | ((with_reducible refine g_min ?_); refine wl_run rfl (x_min (m := (m : Int)) rfl rfl rfl HM.out) ?_) | ((with_reducible refine g_append ?_); refine wl_of rfl ?_; refine k_app (z := (R.take m)) hS rfl rfl rfl rfl (h1 := by simp [str, Value.oneCell']) (h := ?_); clear hS; intro v2 w' hS hv2) | (first | refine au1 (n := ?_) | (refine au2 (n := ?_); clear hS; intro w' hS) | (refine au3 (n := ?_); clear hS; intro gb w1 hS) | (refine au4 (n := ?_); clear hS; intro v1 w' hS) | ((with_reducible refine wl_guard ?_); refine stop_mem rfl rfl ?_)) | fail)
      refine ⟨⟨i + 1, by omega, by rw [HD.out], by rw [hsn, HP.out]; exact hS.pick⟩, ?_⟩
      show strLen (.string ⟨(R.drop m).toArray⟩) < strLen (.string ⟨R.toArray⟩)
      simp only [strLen, ByteArray.size, List.size_toArray, List.length_drop]
      omega
    · obtain rfl : i = cntG s.length := by omega
      have hle : s.length ≤ 320 * cntG s.length := by unfold cntG; omega
      have he : s.drop (320 * cntG s.length) = [] := List.drop_eq_nil_of_le hle
      rw [he]
      clear hsn hpl hlt hle he hRl
      go_wp2_with (first | go_skip | fail | fail)
      go_ret
      exact ⟨_, rfl, hS⟩
end
end Go.Proofs.Ytghnfocajnlfhaa
