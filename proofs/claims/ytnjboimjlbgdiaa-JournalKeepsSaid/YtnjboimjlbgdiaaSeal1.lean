/-
  A sector is sealed: the program's.
-/
import Derived.Test.YtnjboimjlbgdiaaSealSpec
import Derived.Test.YtnjboimjlbgdiaaCrc
import Derived.Test.YtnjboimjlbgdiaaAppZ
set_option linter.unusedSimpArgs false
set_option linter.unusedVariables false
set_option linter.unusedSectionVars false
set_option maxRecDepth 100000
namespace Go.Proofs.Ytnjboimjlbgdiaa
open Go.RowKit Go.Cmp
set_option maxRecDepth 100000

section
theorem nextG_of {old : List UInt8} (h : old ≠ []) : IntKind.u8.wrap (((nth old (old.length - 1)).toNat : Int) + 1) = ((nextG old).toNat : Int) := by
  have e := u8_wrap_nat ((nth old (old.length - 1)).toNat + 1)
  unfold nextG
  rw [if_neg h]
  simp only [Int.natCast_add] at e
  rw [show (((nth old (old.length - 1)).toNat : Int) + 1) = (((nth old (old.length - 1)).toNat : Int) + ((1 : Nat) : Int)) from rfl, e]
  simp
set_option maxHeartbeats 4000000 in
theorem seal_any (old s : List UInt8) (hl : old.length ≤ 1000000) (hl2 : s.length ≤ 1000000) (w : World) :
    Calls Try.prog 54 #[.string ⟨old.toArray⟩, .string ⟨s.toArray⟩] w fun e w' => e = .returned (.tuple #[.string ⟨(sealS old s).1.toArray⟩, .int .i64 (sealS old s).2]) ∧ St [] w w' [] := by
  have hS := St.init w
  by_cases h1 : 376 < s.length
  · have e : sealS old s = ([], 5) := by unfold sealS; rw [if_pos h1]
    rw [e]
    have h1' : (376 : Int) < s.length := by omega
    (go_enter Try.func54, Try.ntmps54)
    go_wp2_with (first | refine au1 (n := ?_) | (refine au2 (n := ?_); clear hS; intro w' hS) | (refine au3 (n := ?_); clear hS; intro gb w1 hS) | (refine au4 (n := ?_); clear hS; intro v1 w' hS) | ((with_reducible refine wl_guard ?_); refine stop_mem rfl rfl ?_))
    go_ret2
    exact ⟨rfl, hS⟩
  have e : sealS old s = (sealed (nextG old) s, 0) := by unfold sealS; rw [if_neg h1]
  rw [e]
  have h1' : ¬ (376 : Int) < s.length := by omega
  have hg : ∃ gv, nextG old = gv := ⟨_, rfl⟩
  have hseal : sealed (nextG old) s = aheadB (nextG old) s ++ leB 4 (sumOf (aheadB (nextG old) s)) ++ [nextG old] := rfl
  have haw : aheadB (nextG old) s = [nextG old] ++ txt s ++ List.replicate (376 - s.length) 0 := rfl
  have hal := aheadB_len (g := nextG old) (s := s) (by omega)
  have hg1 : old = [] → nextG old = 1 := fun h => by unfold nextG; rw [if_pos h]
  have hg2 := fun h => nextG_of (old := old) h
  obtain ⟨gv, hgv⟩ := hg
  rw [hgv] at hseal haw hal hg1 hg2 ⊢
  generalize sealed gv s = res at hseal ⊢
  obtain ⟨aw, haw2⟩ : ∃ aw, aheadB gv s = aw := ⟨_, rfl⟩
  rw [haw2] at hseal haw hal
  have hsl := sumOf_lt aw
  have HSUM := Lib.hid (fun w => crcSum_any aw (by omega) w)
  obtain ⟨sm, hsm⟩ : ∃ sm, sumOf aw = sm := ⟨_, rfl⟩
  rw [hsm] at hseal hsl HSUM
  have htl := txt_length s
  have HT := Lib.hid (fun (W : World) (M : List Ent) (v : Value) (hS : St [] w W (.vec v 5 1 [gv].length ([gv].flatMap byt) :: M)) => num_putText hS s (by omega) (by simp) (fun W hW => hW.rdx Ix.here))
  have HP := Lib.hid (fun (W : World) (M : List Ent) (v : Value) (hS : St [] w W (.vec v 5 1 aw.length (aw.flatMap byt) :: M)) => num_put hS (sm : Int) 4 (by omega) (by omega) (by omega) (by omega) (by omega) (hS.rdx Ix.here))
  have HAW := Lib.hid haw
  have HSE := Lib.hid hseal
  have B1 : Hid ([Value.int .u8 (gv.toNat : Int)] = [gv].flatMap byt) := Lib.hid rfl
  have hL2l : ([gv] ++ txt s).length = s.length + 3 := by simp only [List.length_append, List.length_singleton, htl]; omega
  obtain ⟨L2, hL2⟩ : ∃ L2, [gv] ++ txt s = L2 := ⟨_, rfl⟩
  obtain ⟨k, hk0⟩ : ∃ k, 376 - s.length = k := ⟨_, rfl⟩
  rw [hL2, hk0] at haw
  rw [hL2] at hL2l
  have hk : (379 : Int) - L2.length = (k : Int) := by omega
  have hL2a : L2.length ≤ 379 := by omega
  have hL2k : L2.length + k ≤ 379 := by omega
  clear hL2l
  obtain ⟨L3, hL3⟩ : ∃ L3, aw ++ leB 4 sm = L3 := ⟨_, rfl⟩
  rw [hL3] at hseal
  have hL3l : L3.length = 383 := by rw [← hL3, List.length_append, leB_length, hal]
  have HL2 := Lib.hid hL2
  have HAW2 : Hid (L2 ++ List.replicate k 0 = aw) := Lib.hid haw.symm
  have HL3 : Hid (aw ++ leB 4 (sm : Int).toNat = L3) := Lib.hid (by rw [Int.toNat_natCast]; exact hL3)
  have HRES := Lib.hid hseal
  clear hgv haw2 haw hseal hsm e hL2 hL3 hk0 HAW HSE
  by_cases h0 : old = []
  · subst h0
    obtain rfl := hg1 rfl
    clear hg1 hg2
    (go_enter Try.func54, Try.ntmps54)
    go_wp2_with (first | refine au1 (n := ?_) | (refine au2 (n := ?_); clear hS; intro w' hS) | (refine au3 (n := ?_); clear hS; intro gb w1 hS) | (refine au4 (n := ?_); clear hS; intro v1 w' hS) | ((with_reducible refine wl_guard ?_); refine stop_mem rfl rfl ?_))
    obtain ⟨gv, hgv⟩ : ∃ gv : UInt8, gv = 1 := ⟨_, rfl⟩
    rw [← hgv] at HT HL2 HRES
    have hgv1 : (1 : Int) = (gv.toNat : Int) := by rw [hgv]; rfl
    rw [show Value.int .u8 1 = Value.int .u8 (gv.toNat : Int) by rw [hgv]; rfl] at hS ⊢
    clear hgv hgv1
    replace hS : St [] w _ [.vec v1 5 1 [gv].length ([gv].flatMap byt)] := hS
    refine (HT.out _ _ _ hS).mono ?_
    clear hS
    rintro e w' ⟨vb, rfl, hS⟩
    rw [HL2.out] at hS
    replace hS : St [] w w' [.vec vb 5 1 L2.length (L2.flatMap byt)] := hS.one
    go_wp2_with (first | ((with_reducible refine g_append ?_); refine wl_of rfl ?_; refine k_appZ (L := L2) (k := k) hS rfl rfl rfl rfl rfl (h := ?_); clear hS; intro vc w' hS; rw [HAW2.out] at hS) | (go_at_call 68; refine (HSUM.out _).mono ?_; rintro e w' ⟨rfl, h⟩; replace hS := hS.call h; clear h) | (go_at_call 71; refine (HP.out _ _ _ (hS.out (by (repeat (first | exact Out.here | apply Out.there))))).mono ?_; clear hS; rintro e w' ⟨vd, rfl, hS⟩; rw [HL3.out] at hS) | ((with_reducible refine g_append ?_); refine wl_of rfl ?_; refine k_app (z := gv) hS rfl rfl rfl rfl (h1 := by simp [byt, Value.oneCell']) (h := ?_); clear hS; intro v2 w' hS hv2) | (first | refine au1 (n := ?_) | (refine au2 (n := ?_); clear hS; intro w' hS) | (refine au3 (n := ?_); clear hS; intro gb w1 hS) | (refine au4 (n := ?_); clear hS; intro v1 w' hS) | ((with_reducible refine wl_guard ?_); refine stop_mem rfl rfl ?_)))

    go_ret2
    exact ⟨by rw [HRES.out]; rfl, hS.nil⟩
  · have hg2 := hg2 h0
    have h0' : 0 < old.length := List.length_pos_iff.2 h0
    have h0'' : (0 : Int) < old.length := by omega
    have HC : Hid (((nth old (((old.length : Int) - 1).toNat)).toNat) = (nth old (old.length - 1)).toNat) := Lib.hid (by rw [show ((old.length : Int) - 1).toNat = old.length - 1 by omega])
    clear hg1
    obtain ⟨c, hc⟩ : ∃ c, (nth old (old.length - 1)).toNat = c := ⟨_, rfl⟩
    rw [hc] at hg2 HC
    clear hc
    (go_enter Try.func54, Try.ntmps54)
    go_wp2_with (first | ((with_reducible refine g_indexV ?_); refine wl_run rfl (v := .int .u8 (c : Int)) (by rw [← HC.out]; exact a_strIndex (l := old) (j := (old.length : Int) - 1) rfl rfl rfl rfl (by omega) (by omega)) ?_) | (first | refine au1 (n := ?_) | (refine au2 (n := ?_); clear hS; intro w' hS) | (refine au3 (n := ?_); clear hS; intro gb w1 hS) | (refine au4 (n := ?_); clear hS; intro v1 w' hS) | ((with_reducible refine wl_guard ?_); refine stop_mem rfl rfl ?_)))
    replace hS : St [] w _ [.vec v1 5 1 [gv].length ([gv].flatMap byt)] := hS
    refine (HT.out _ _ _ hS).mono ?_
    clear hS
    rintro e w' ⟨vb, rfl, hS⟩
    rw [HL2.out] at hS
    replace hS : St [] w w' [.vec vb 5 1 L2.length (L2.flatMap byt)] := hS.one
    go_wp2_with (first | ((with_reducible refine g_append ?_); refine wl_of rfl ?_; refine k_appZ (L := L2) (k := k) hS rfl rfl rfl rfl rfl (h := ?_); clear hS; intro vc w' hS; rw [HAW2.out] at hS) | (go_at_call 68; refine (HSUM.out _).mono ?_; rintro e w' ⟨rfl, h⟩; replace hS := hS.call h; clear h) | (go_at_call 71; refine (HP.out _ _ _ (hS.out (by (repeat (first | exact Out.here | apply Out.there))))).mono ?_; clear hS; rintro e w' ⟨vd, rfl, hS⟩; rw [HL3.out] at hS) | ((with_reducible refine g_append ?_); refine wl_of rfl ?_; refine k_app (z := gv) hS rfl rfl rfl rfl (h1 := by simp [byt, Value.oneCell']) (h := ?_); clear hS; intro v2 w' hS hv2) | (first | refine au1 (n := ?_) | (refine au2 (n := ?_); clear hS; intro w' hS) | (refine au3 (n := ?_); clear hS; intro gb w1 hS) | (refine au4 (n := ?_); clear hS; intro v1 w' hS) | ((with_reducible refine wl_guard ?_); refine stop_mem rfl rfl ?_)))

    go_ret2
    exact ⟨by rw [HRES.out]; rfl, hS.nil⟩
end
end Go.Proofs.Ytnjboimjlbgdiaa
