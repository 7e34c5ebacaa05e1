/-
  A sector is sealed: the document's.
-/
import Derived.Test.YtbfdnpahojoccaaSeal1
set_option linter.unusedSimpArgs false
set_option linter.unusedVariables false
set_option linter.unusedSectionVars false
set_option maxRecDepth 100000
namespace Go.Proofs.Ytbfdnpahojoccaa
open Go.RowKit Go.Cmp
set_option maxRecDepth 100000

section
set_option maxHeartbeats 4000000 in
theorem refWith_any (gv : UInt8) (s : List UInt8) (hs : s.length ≤ 376) (w : World) :
    Calls Try.prog 66 #[.int .u8 (gv.toNat : Int), .string ⟨s.toArray⟩] w fun e w' => e = .returned (.string ⟨(sealed gv s).toArray⟩) ∧ St [] w w' [] := by
  have hS := St.init w
  have hseal : sealed gv s = aheadB gv s ++ leB 4 (sumOf (aheadB gv s)) ++ [gv] := rfl
  have haw : aheadB gv s = [gv] ++ txt s ++ List.replicate (376 - s.length) 0 := rfl
  have hal := aheadB_len (g := gv) (s := s) (by omega)
  generalize sealed gv s = res at hseal ⊢
  obtain ⟨aw, haw2⟩ : ∃ aw, aheadB gv s = aw := ⟨_, rfl⟩
  rw [haw2] at hseal haw hal
  have hsl := sumOf_lt aw
  have HSUM := Lib.hid (fun w => refSum_any aw (by omega) w)
  obtain ⟨sm, hsm⟩ : ∃ sm, sumOf aw = sm := ⟨_, rfl⟩
  rw [hsm] at hseal hsl HSUM
  have htl := txt_length s
  have HT := Lib.hid (fun (W : World) (M : List Ent) (v : Value) (hS : St [] w W (.vec v 5 1 [gv].length ([gv].flatMap byt) :: M)) => ref_putText hS s (by omega) (by simp) (fun W hW => hW.rdx Ix.here))
  have HP := Lib.hid (fun (W : World) (M : List Ent) (v : Value) (hS : St [] w W (.vec v 5 1 aw.length (aw.flatMap byt) :: M)) => ref_put hS (sm : Int) 4 (by omega) (by omega) (by omega) (by omega) (by omega) (fun W hW => hW.rdx Ix.here))
  have hL2l : ([gv] ++ txt s).length = s.length + 3 := by simp only [List.length_append, List.length_singleton, htl]; omega
  obtain ⟨L2, hL2⟩ : ∃ L2, [gv] ++ txt s = L2 := ⟨_, rfl⟩
  obtain ⟨k, hk0⟩ : ∃ k, 376 - s.length = k := ⟨_, rfl⟩
  rw [hL2, hk0] at haw
  rw [hL2] at hL2l
  have hk : L2.length + k = 379 := by omega
  obtain ⟨L3, hL3⟩ : ∃ L3, aw ++ leB 4 sm = L3 := ⟨_, rfl⟩
  rw [hL3] at hseal
  have hL3l : L3.length = 383 := by rw [← hL3, List.length_append, leB_length, hal]
  have HL2 := Lib.hid hL2
  have HAW2 : Hid (L2 ++ List.replicate k 0 = aw) := Lib.hid haw.symm
  have HL3 : Hid (aw ++ leB 4 (sm : Int).toNat = L3) := Lib.hid (by rw [Int.toNat_natCast]; exact hL3)
  have HRES := Lib.hid hseal
  have HK := Lib.hid hk
  have HAL := Lib.hid hal
  have hL3a : L3.length ≤ 383 := by omega
  clear haw2 haw hseal hsm hL2 hL3 hk0 hL2l hal hL3l hk
  (go_enter Try.func66, Try.ntmps66)
  go_wp2_with (first | refine au1 (n := ?_) | (refine au2 (n := ?_); clear hS; intro w' hS) | (refine au3 (n := ?_); clear hS; intro gb w1 hS) | (refine au4 (n := ?_); clear hS; intro v1 w' hS) | ((with_reducible refine wl_guard ?_); refine stop_mem rfl rfl ?_))
  replace hS : St [] w _ [.vec v1 5 1 [gv].length ([gv].flatMap byt)] := hS
  refine (HT.out _ _ _ hS).mono ?_
  clear hS
  rintro e w' ⟨vb, rfl, hS⟩
  rw [HL2.out] at hS
  replace hS : St [] w w' [.vec vb 5 1 L2.length (L2.flatMap byt)] := hS.one
  go_wp2_with (first | refine au1 (n := ?_) | (refine au2 (n := ?_); clear hS; intro w' hS) | (refine au3 (n := ?_); clear hS; intro gb w1 hS) | (refine au4 (n := ?_); clear hS; intro v1 w' hS) | ((with_reducible refine wl_guard ?_); refine stop_mem rfl rfl ?_))
  go_loopw [5] (fun b wr => ∃ j : Nat, j ≤ k ∧ St [] w wr [.vec b 5 1 (L2 ++ List.replicate j 0).length ((L2 ++ List.replicate j (0 : UInt8)).flatMap byt)]) (fun b _ => 379 - lenV b)
  case atStart => exact ⟨0, by omega, by simpa using hS⟩
  case round =>
    clear hS
    obtain ⟨j, hj, hS⟩ := hrel
    have hln : (L2 ++ List.replicate j (0 : UInt8)).length = L2.length + j := by rw [List.length_append, List.length_replicate]
    have hlv := hS.lenV
    have hsn : L2 ++ List.replicate (j + 1) (0 : UInt8) = (L2 ++ List.replicate j 0) ++ [0] := by rw [List.replicate_succ', List.append_assoc]
    obtain ⟨L4, hL4⟩ : ∃ L4, L2 ++ List.replicate j (0 : UInt8) = L4 := ⟨_, rfl⟩
    rw [hL4] at hS hln hlv hsn
    by_cases hlt : j < k
    · have hlt1 : (L4.length : Int) < 379 := by have := HK.out; omega
      have hl4 : L4.length < 379 := by omega
      have HSN := Lib.hid hsn
      have HLV := Lib.hid hlv
      clear hsn hlv hL4 hln
      go_wp2_with (first | ((with_reducible refine g_append ?_); refine wl_of rfl ?_; refine k_app (z := (0 : UInt8)) hS rfl rfl rfl rfl (h1 := by simp [byt, Value.oneCell']) (h := ?_); clear hS; intro v2 w' hS hv2) | (first | refine au1 (n := ?_) | (refine au2 (n := ?_); clear hS; intro w' hS) | (refine au3 (n := ?_); clear hS; intro gb w1 hS) | (refine au4 (n := ?_); clear hS; intro v1 w' hS) | ((with_reducible refine wl_guard ?_); refine stop_mem rfl rfl ?_)))
      have hlv2 := hS.lenV
      refine ⟨⟨j + 1, by omega, by rw [HSN.out]; exact hS.one⟩, ?_⟩
      show 379 - lenV v2 < 379 - lenV u5
      rw [hlv2, HLV.out, List.length_append]
      simp only [List.length_singleton]
      omega
    · obtain rfl : j = k := by omega
      rw [HAW2.out] at hL4
      subst hL4
      have hl1 : ¬ (aw.length : Int) < 379 := by have := HAL.out; omega
      have hl2 : aw.length ≤ 379 := by have := HAL.out; omega
      clear hsn hlv hln
      go_wp2_with (first | (go_at_call 74; refine (HSUM.out _).mono ?_; rintro e w' ⟨rfl, rfl⟩) | (go_at_call 63; refine (HP.out _ _ _ (hS.out (by (repeat (first | exact Out.here | apply Out.there))))).mono ?_; clear hS; rintro e w' ⟨vd, rfl, hS⟩; rw [HL3.out] at hS) | ((with_reducible refine g_append ?_); refine wl_of rfl ?_; refine k_app (z := gv) hS rfl rfl rfl rfl (h1 := by simp [byt, Value.oneCell']) (h := ?_); clear hS; intro v2 w' hS hv2) | (first | refine au1 (n := ?_) | (refine au2 (n := ?_); clear hS; intro w' hS) | (refine au3 (n := ?_); clear hS; intro gb w1 hS) | (refine au4 (n := ?_); clear hS; intro v1 w' hS) | ((with_reducible refine wl_guard ?_); refine stop_mem rfl rfl ?_)))
      go_ret
      exact ⟨by rw [HRES.out]; rfl, hS.nil⟩
end
end Go.Proofs.Ytbfdnpahojoccaa
