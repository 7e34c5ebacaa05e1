/-
  Texts in blocks: the law's text, and the chapter's example.
-/
import Derived.Test.YtghnfocajnlfhaaGrid7
set_option linter.unusedSimpArgs false
set_option linter.unusedVariables false
set_option linter.unusedSectionVars false
set_option maxRecDepth 100000
namespace Go.Proofs.Ytghnfocajnlfhaa
open Go.RowKit Go.Cmp

section
variable {S : List Nat} {w0 w : World} {M : List Ent} {g : Nat} {D : Dsk}
set_option maxHeartbeats 4000000 in
theorem text14_any (w : World) : Calls Try.prog 21 #[.int .i64 700, .int .u8 1] w fun e w' => e = .returned (.string ⟨(textN 1 700).toArray⟩) ∧ St [] w w' [] := by
  have hS := St.init w
  have HZ : Hid (List.replicate (700 : Int).toNat (Value.int .u8 0) = (textTo 1 700 0).flatMap byt ∧ (textTo 1 700 0).length = (700 : Int).toNat) := Lib.hid ⟨by
    have e : textTo 1 700 0 = List.replicate 700 0 := rfl
    rw [e]
    have key : ∀ n, List.replicate n (Value.int .u8 0) = (List.replicate n (0 : UInt8)).flatMap byt := by
      intro n
      induction n with
      | zero => rfl
      | succ n ih => rw [List.replicate_succ, List.replicate_succ, List.flatMap_cons, ← ih]; rfl
    exact key 700, textTo_len (by omega)⟩
  (go_enter Try.func21, Try.ntmps21)
  go_wp2_with (first | go_skip | ((with_reducible refine g_make ?_); refine wl_of rfl ?_; refine a_make (n := 700) hS rfl rfl rfl rfl (by rfl) rfl (by omega) (by omega) ?_; clear hS; intro v1 w' hS; rw [HZ.out.1, ← HZ.out.2] at hS) | fail)
  clear HZ
  go_loopw [6] (fun k wz => ∃ j : Nat, j ≤ 700 ∧ k = .int .i64 j ∧ St [] w wz [.vec v1 5 1 (textTo 1 700 j).length ((textTo 1 700 j).flatMap byt)]) (fun k _ => 700 - (intOf k).toNat)
  case atStart => exact ⟨0, by omega, rfl, hS⟩
  case round =>
    clear hS
    obtain ⟨j, hj, rfl, hS⟩ := hrel
    by_cases hlt : j < 700
    · have hlt1 : (j : Int) < 700 := by omega
      have HSET := Lib.hid (textTo_set (c := 1) hlt)
      have hlen := textTo_len (c := 1) hj
      have h2 : (j : Int).tdiv 7 = (j : Int) / 7 := Int.tdiv_eq_ediv_of_nonneg (by omega)
      have h3 : wrap64 ((j : Int) / 7) = (j : Int) / 7 := by unfold wrap64; omega
      generalize textTo 1 700 j = T at hS HSET hlen
      have HV : Hid (byt (UInt8.ofNat (1 + j / 7)) = [Value.int .u8 (1 + (j : Int) / 7)]) := Lib.hid (by
        have e : (UInt8.ofNat (1 + j / 7)).toNat = 1 + j / 7 := by
          rw [UInt8.toNat_ofNat']
          omega
        unfold byt
        rw [e]
        simp)
      go_wp2_with (first | go_skip | ((with_reducible refine g_index ?_); refine wl_run rfl (by exact a_index rfl rfl rfl rfl (hS.rdx (by (repeat (first | exact Ix.here | apply Ix.there)))) (by rfl) (by omega) (by omega)) ?_) | ((with_reducible refine g_store ?_); refine wl_of rfl ?_; refine a_storeE (z := UInt8.ofNat (1 + j / 7)) (v := .int _ _) hS rfl rfl rfl rfl rfl (by rfl) rfl (by (repeat (first | exact Sw.here | apply Sw.there))) (by intro _; rfl) (by omega) HV.out ?_; clear hS; intro w' hS) | fail)
      replace hS : St [] w _ [.vec v1 5 1 (T.set j (UInt8.ofNat (1 + j / 7))).length ((T.set j (UInt8.ofNat (1 + j / 7))).flatMap byt)] := hS
      rw [HSET.out] at hS
      exact ⟨⟨j + 1, by omega, by simp, hS⟩, by simp [intOf]; omega⟩
    · obtain rfl : j = 700 := by omega
      have HT : Hid (textTo 1 700 700 = textN 1 700) := Lib.hid (by unfold textTo; simp)
      rw [HT.out] at hS
      obtain ⟨T, hT2⟩ : ∃ T, textN 1 700 = T := ⟨_, rfl⟩
      rw [hT2] at hS
      have HT2 := Lib.hid hT2
      clear hT2 HT
      go_wp2_with (first | go_skip | ((with_reducible refine g_conv ?_); refine wl_run rfl (by exact a_toString2 rfl rfl rfl rfl rfl (hS.rdx (by (repeat (first | exact Ix.here | apply Ix.there))))) ?_) | fail)
      go_ret
      exact ⟨by rw [HT2.out]; rfl, hS.nil⟩
end
end Go.Proofs.Ytghnfocajnlfhaa
