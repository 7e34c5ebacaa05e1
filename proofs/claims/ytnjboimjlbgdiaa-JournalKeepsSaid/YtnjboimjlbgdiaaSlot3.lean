/-
  Slots: the program reads entries.
-/
import Derived.Test.YtnjboimjlbgdiaaSlot2
import Derived.Test.YtnjboimjlbgdiaaEnt2
import Derived.Test.YtnjboimjlbgdiaaSeal3
set_option linter.unusedSimpArgs false
set_option linter.unusedVariables false
set_option linter.unusedSectionVars false
set_option maxRecDepth 100000
namespace Go.Proofs.Ytnjboimjlbgdiaa
open Go.RowKit Go.Cmp
set_option maxRecDepth 100000

section
variable {S : List Nat} {w0 w : World} {M : List Ent}
set_option maxHeartbeats 8000000 in
theorem slotEntry_any (p : List UInt8) (hl : p.length ≤ 1000000) (w : World) :
    Calls Try.prog 31 #[.string ⟨p.toArray⟩] w fun x w' => x = .returned (.tuple #[.agg (entP p).1.cells.toArray, .bool (entP p).2.1, .bool (entP p).2.2]) ∧ St [] w w' [] := by
  have hS := St.init w
  have HO := Lib.hid (fun w => open_any p hl w)
  have hol := openS_len p
  have hX : entP p = if (openS p).2 = false then (zeroE, false, false) else if (openS p).1 = [] then (zeroE, false, true) else if (unpE (openS p).1).2 = 0 then ((unpE (openS p).1).1, true, true) else (zeroE, false, false) := rfl
  generalize entP p = R at hX ⊢
  generalize openS p = O at hX HO hol
  obtain ⟨b, ok⟩ := O
  simp only at hX HO hol
  cases ok
  · have HR : Hid (R = (zeroE, false, false)) := Lib.hid (by rw [hX, if_pos rfl])
    clear hX
    (go_enter Try.func31, Try.ntmps31)
    go_wp2_with (first | (go_at_call 52; refine (HO.out _).mono ?_; rintro e w' ⟨rfl, h⟩; replace hS := hS.call h; clear h) | (first | refine au1 (n := ?_) | (refine au2 (n := ?_); clear hS; intro w' hS) | (refine au3 (n := ?_); clear hS; intro gb w1 hS) | (refine au4 (n := ?_); clear hS; intro v1 w' hS) | ((with_reducible refine wl_guard ?_); refine stop_mem rfl rfl ?_)))
    exact end_cell3 hS rfl rfl rfl rfl rfl rfl rfl (h := ⟨by rw [HR.out]; rfl, hS.nil⟩)
  rw [if_neg (by decide)] at hX
  by_cases hb : b = []
  · subst hb
    have HR : Hid (R = (zeroE, false, true)) := Lib.hid (by rw [hX, if_pos rfl])
    clear hX
    (go_enter Try.func31, Try.ntmps31)
    go_wp2_with (first | (go_at_call 52; refine (HO.out _).mono ?_; rintro e w' ⟨rfl, h⟩; replace hS := hS.call h; clear h) | (first | refine au1 (n := ?_) | (refine au2 (n := ?_); clear hS; intro w' hS) | (refine au3 (n := ?_); clear hS; intro gb w1 hS) | (refine au4 (n := ?_); clear hS; intro v1 w' hS) | ((with_reducible refine wl_guard ?_); refine stop_mem rfl rfl ?_)))
    exact end_cell3 hS rfl rfl rfl rfl rfl rfl rfl (h := ⟨by rw [HR.out]; rfl, hS.nil⟩)
  rw [if_neg hb] at hX
  have HU := Lib.hid (fun w => entUnpack_any b (by omega) w)
  have herr := unpE_err b
  have hzz : (unpE b).2 = 4 → (unpE b).1 = zeroE := by unfold unpE; split <;> simp
  have hb1 : (b == []) = false := by rw [beq_eq_false_iff_ne]; exact hb
  generalize unpE b = U at hX HU herr hzz
  obtain ⟨e, f⟩ := U
  simp only at hX HU herr hzz
  rcases herr with rfl | rfl
  · have HR : Hid (R = (e, true, true)) := Lib.hid (by rw [hX, if_pos rfl])
    clear hX hzz
    obtain ⟨vw, po, un, par, cl, se, rq, opr, body⟩ := e
    simp only [En.cells] at HU
    (go_enter Try.func31, Try.ntmps31)
    go_wp2_with (first | (go_at_call 52; refine (HO.out _).mono ?_; rintro e w' ⟨rfl, h⟩; replace hS := hS.call h; clear h) | (go_at_call 53; refine (HU.out _).mono ?_; rintro e w' ⟨rfl, h⟩; replace hS := hS.call h; clear h) | (first | refine au1 (n := ?_) | (refine au2 (n := ?_); clear hS; intro w' hS) | (refine au3 (n := ?_); clear hS; intro gb w1 hS) | (refine au4 (n := ?_); clear hS; intro v1 w' hS) | ((with_reducible refine wl_guard ?_); refine stop_mem rfl rfl ?_)))
    exact end_cell3 hS rfl rfl rfl rfl rfl rfl rfl (h := ⟨by rw [HR.out]; rfl, hS.nil⟩)
  · have HR : Hid (R = (zeroE, false, false)) := Lib.hid (by rw [hX, if_neg (by decide)])
    obtain rfl := hzz rfl
    simp only [En.cells, zeroE] at HU
    clear hX hzz
    (go_enter Try.func31, Try.ntmps31)
    go_wp2_with (first | (go_at_call 52; refine (HO.out _).mono ?_; rintro e w' ⟨rfl, h⟩; replace hS := hS.call h; clear h) | (go_at_call 53; refine (HU.out _).mono ?_; rintro e w' ⟨rfl, h⟩; replace hS := hS.call h; clear h) | (first | refine au1 (n := ?_) | (refine au2 (n := ?_); clear hS; intro w' hS) | (refine au3 (n := ?_); clear hS; intro gb w1 hS) | (refine au4 (n := ?_); clear hS; intro v1 w' hS) | ((with_reducible refine wl_guard ?_); refine stop_mem rfl rfl ?_)))
    exact end_cell3 hS rfl rfl rfl rfl rfl rfl rfl (h := ⟨by rw [HR.out]; rfl, hS.nil⟩)
end
end Go.Proofs.Ytnjboimjlbgdiaa
