/-
  A sector is sealed, opened: the document's.
-/
import Derived.Test.YtbfdnpahojoccaaSeal3
set_option linter.unusedSimpArgs false
set_option linter.unusedVariables false
set_option linter.unusedSectionVars false
set_option maxRecDepth 100000
namespace Go.Proofs.Ytbfdnpahojoccaa
open Go.RowKit Go.Cmp
set_option maxRecDepth 100000

section
set_option maxHeartbeats 4000000 in
theorem refSeal_any (old s : List UInt8) (hl : old.length ≤ 1000000) (hl2 : s.length ≤ 1000000) (w : World) :
    Calls Try.prog 51 #[.string ⟨old.toArray⟩, .string ⟨s.toArray⟩] w fun e w' => e = .returned (.tuple #[.string ⟨(sealS old s).1.toArray⟩, .int .i64 (sealS old s).2]) ∧ St [] w w' [] := by
  have hS := St.init w
  by_cases h1 : 376 < s.length
  · have e : sealS old s = ([], 5) := by unfold sealS; rw [if_pos h1]
    rw [e]
    have h1' : (376 : Int) < s.length := by omega
    (go_enter Try.func51, Try.ntmps51)
    go_wp2_with (first | refine au1 (n := ?_) | (refine au2 (n := ?_); clear hS; intro w' hS) | (refine au3 (n := ?_); clear hS; intro gb w1 hS) | (refine au4 (n := ?_); clear hS; intro v1 w' hS) | ((with_reducible refine wl_guard ?_); refine stop_mem rfl rfl ?_))
    go_ret2
    exact ⟨rfl, hS⟩
  have e : sealS old s = (sealed (nextG old) s, 0) := by unfold sealS; rw [if_neg h1]
  rw [e]
  have h1' : ¬ (376 : Int) < s.length := by omega
  have HW := Lib.hid (fun (gv : UInt8) w => refWith_any gv s (by omega) w)
  by_cases h0 : old = []
  · have eg : nextG old = 1 := by unfold nextG; rw [if_pos h0]
    subst h0
    rw [eg]
    have h := fun w => HW.out 1 w
    have e1 : ((1 : UInt8).toNat : Int) = 1 := rfl
    rw [e1] at h
    have HW1 := Lib.hid h
    clear h e1
    (go_enter Try.func51, Try.ntmps51)
    go_wp2_with (first | (go_at_call 66; refine (HW1.out _).mono ?_; rintro e w' ⟨rfl, h⟩; replace hS := hS.call h; clear h) | (first | refine au1 (n := ?_) | (refine au2 (n := ?_); clear hS; intro w' hS) | (refine au3 (n := ?_); clear hS; intro gb w1 hS) | (refine au4 (n := ?_); clear hS; intro v1 w' hS) | ((with_reducible refine wl_guard ?_); refine stop_mem rfl rfl ?_)))
    go_ret2
    exact ⟨rfl, hS.nil⟩
  · have h0' : 0 < old.length := List.length_pos_iff.2 h0
    have h0'' : (0 : Int) < old.length := by omega
    have HC : Hid (((nth old (((old.length : Int) - 1).toNat)).toNat) = (nth old (old.length - 1)).toNat) := Lib.hid (by rw [show ((old.length : Int) - 1).toNat = old.length - 1 by omega])
    have hcb := (nth old (old.length - 1)).toNat_lt
    have hgn : (nextG old).toNat = ((nth old (old.length - 1)).toNat + 1) % 256 := by unfold nextG; rw [if_neg h0]; simp
    obtain ⟨c, hc⟩ : ∃ c, (nth old (old.length - 1)).toNat = c := ⟨_, rfl⟩
    rw [hc] at HC hcb hgn
    obtain ⟨gv, hgv⟩ : ∃ gv, nextG old = gv := ⟨_, rfl⟩
    rw [hgv] at hgn ⊢
    have HWE : Hid (((c : Int) + 1) % 256 = (gv.toNat : Int)) := Lib.hid (by omega)
    have HW1 := Lib.hid (fun w => HW.out gv w)
    clear hc hgv HW e
    (go_enter Try.func51, Try.ntmps51)
    go_wp2_with (first | ((with_reducible refine g_indexV ?_); refine wl_run rfl (v := .int .u8 (c : Int)) (by rw [← HC.out]; exact a_strIndex (l := old) (j := (old.length : Int) - 1) rfl rfl rfl rfl (by omega) (by omega)) ?_) | fail)
    rw [HWE.out]
    refine (HW1.out _).mono ?_
    rintro e w' ⟨rfl, h⟩
    replace hS := hS.call h
    clear h
    go_wp2_with (fail)
    go_ret2
    exact ⟨rfl, hS.nil⟩
end
end Go.Proofs.Ytbfdnpahojoccaa
