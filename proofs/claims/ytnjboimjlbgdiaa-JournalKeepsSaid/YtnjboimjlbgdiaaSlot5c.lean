/-
  Slots: the program judges them.
-/
import Derived.Test.YtnjboimjlbgdiaaSlot3
import Derived.Test.YtnjboimjlbgdiaaSlot4
set_option linter.unusedSimpArgs false
set_option linter.unusedVariables false
set_option linter.unusedSectionVars false
set_option maxRecDepth 100000
namespace Go.Proofs.Ytnjboimjlbgdiaa
open Go.RowKit Go.Cmp
set_option maxRecDepth 100000

section
variable {S : List Nat} {w0 w : World} {M : List Ent}
set_option maxHeartbeats 32000000 in
theorem slotJudge_c (p h : List UInt8) (n : Int) (hc : (entP p).2.1 = false) (hl : p.length ≤ 1000000) (hl2 : h.length ≤ 1000000) (w : World) :
    Calls Try.prog 27 #[.string ⟨p.toArray⟩, .string ⟨h.toArray⟩, .int .i64 n] w fun x w' => x = .returned (.agg (judgeS p h n).cells.toArray) ∧ St [] w w' [] := by
  have hS := St.init w
  have HE := Lib.hid (fun w => slotEntry_any p hl w)
  have HT := Lib.hid (fun w => slotStub_any h hl2 w)
  have hX := judge_prog p h n
  have fe := entP_facts p
  have fs := (stbP_facts h).1
  generalize judgeS p h n = R at hX ⊢
  generalize entP p = E at hX HE fe hc
  generalize stbP h = T at hX HT fs
  obtain ⟨e, has, read⟩ := E
  obtain ⟨s, says, known⟩ := T
  simp only at hX HE HT fe fs hc
  obtain ⟨fe, fe2, fe3, _⟩ := fe
  have HSO := Lib.hid (fun w => slotStubOf_any e fe2 (by omega) w)
  have hsq : e.right = true → stubE e = ⟨e.op, e.view, e.under, e.parent, markSum e⟩ := fun hr => by unfold stubE; rw [if_neg (by simp [hr])]
  generalize markSum e = q at hsq
  generalize stubE e = SE at hX HSO hsq
  obtain ⟨vw, po, un, par, cl, se, rq, opr, body⟩ := e
  obtain ⟨so, sv, su, sp, ss⟩ := s
  simp only [En.cells] at HE HSO
  simp only [Stb.cells] at HT
  simp only at hX fe fs fe2 fe3 hsq hc
  subst hc
  cases says
  · cases known
    · cases read
      ·
        have HR : Hid (R = ⟨3, zeroB, zeroE⟩) := Lib.hid (by rw [hX]; simp)
        clear hX fe fs hsq fe2 fe3
        (go_enter Try.func27, Try.ntmps27)
        go_wp2_with (first | ((with_reducible refine g_alloc ?_); refine wl_of rfl ?_; refine wp_alloc hS rfl rfl rfl rfl ?_; clear hS; intro gr w1 hS) | (first | refine au1 (n := ?_) | (refine au5 (n := ?_); clear hS; intro w' hS) | (refine au3 (n := ?_); clear hS; intro gb w1 hS)))
        refine (HE.out _).mono ?_
        rintro e w' ⟨rfl, h⟩
        replace hS := hS.call h
        clear h
        go_wp2_with (first | ((with_reducible refine g_alloc ?_); refine wl_of rfl ?_; refine wp_alloc hS rfl rfl rfl rfl ?_; clear hS; intro ge w1 hS) | (first | refine au1 (n := ?_) | (refine au5 (n := ?_); clear hS; intro w' hS) | (refine au3 (n := ?_); clear hS; intro gb w1 hS)))
        refine (HT.out _).mono ?_
        rintro e w' ⟨rfl, h⟩
        replace hS := hS.call h
        clear h
        go_wp2_with (first | ((with_reducible refine g_alloc ?_); refine wl_of rfl ?_; refine wp_alloc hS rfl rfl rfl rfl ?_; clear hS; intro gs w1 hS) | (first | refine au1 (n := ?_) | (refine au5 (n := ?_); clear hS; intro w' hS) | (refine au3 (n := ?_); clear hS; intro gb w1 hS)))
        refine region_calm (by kernel_rfl) (by kernel_rfl) hS ?_
        (repeat (first | ((with_reducible refine c_call ?_); first | fail) | refine calm1 (n := ?_)))
        (refine Calm.nil ?_; clear hS; intro w8 hS)
        go_wp2_with (first | refine au1 (n := ?_) | (refine au5 (n := ?_); clear hS; intro w' hS) | (refine au3 (n := ?_); clear hS; intro gb w1 hS))
        exact end_cell hS rfl rfl 2 rfl rfl rfl rfl rfl ⟨by rw [HR.out]; rfl, hS.nil⟩
      ·
        have HR : Hid (R = zeroI) := Lib.hid (by rw [hX]; simp)
        clear hX fe fs hsq fe2 fe3
        (go_enter Try.func27, Try.ntmps27)
        go_wp2_with (first | ((with_reducible refine g_alloc ?_); refine wl_of rfl ?_; refine wp_alloc hS rfl rfl rfl rfl ?_; clear hS; intro gr w1 hS) | (first | refine au1 (n := ?_) | (refine au5 (n := ?_); clear hS; intro w' hS) | (refine au3 (n := ?_); clear hS; intro gb w1 hS)))
        refine (HE.out _).mono ?_
        rintro e w' ⟨rfl, h⟩
        replace hS := hS.call h
        clear h
        go_wp2_with (first | ((with_reducible refine g_alloc ?_); refine wl_of rfl ?_; refine wp_alloc hS rfl rfl rfl rfl ?_; clear hS; intro ge w1 hS) | (first | refine au1 (n := ?_) | (refine au5 (n := ?_); clear hS; intro w' hS) | (refine au3 (n := ?_); clear hS; intro gb w1 hS)))
        refine (HT.out _).mono ?_
        rintro e w' ⟨rfl, h⟩
        replace hS := hS.call h
        clear h
        go_wp2_with (first | ((with_reducible refine g_alloc ?_); refine wl_of rfl ?_; refine wp_alloc hS rfl rfl rfl rfl ?_; clear hS; intro gs w1 hS) | (first | refine au1 (n := ?_) | (refine au5 (n := ?_); clear hS; intro w' hS) | (refine au3 (n := ?_); clear hS; intro gb w1 hS)))
        refine region_calm (by kernel_rfl) (by kernel_rfl) hS ?_
        (repeat (first | ((with_reducible refine c_call ?_); first | fail) | refine calm1 (n := ?_)))
        (refine Calm.nil ?_; clear hS; intro w8 hS)
        go_wp2_with (first | refine au1 (n := ?_) | (refine au5 (n := ?_); clear hS; intro w' hS) | (refine au3 (n := ?_); clear hS; intro gb w1 hS))
        exact end_cell hS rfl rfl 2 rfl rfl rfl rfl rfl ⟨by rw [HR.out]; rfl, hS.nil⟩
    ·
      have HR : Hid (R = zeroI) := Lib.hid (by rw [hX]; simp)
      clear hX fe fs hsq fe2 fe3
      (go_enter Try.func27, Try.ntmps27)
      go_wp2_with (first | ((with_reducible refine g_alloc ?_); refine wl_of rfl ?_; refine wp_alloc hS rfl rfl rfl rfl ?_; clear hS; intro gr w1 hS) | (first | refine au1 (n := ?_) | (refine au5 (n := ?_); clear hS; intro w' hS) | (refine au3 (n := ?_); clear hS; intro gb w1 hS)))
      refine (HE.out _).mono ?_
      rintro e w' ⟨rfl, h⟩
      replace hS := hS.call h
      clear h
      go_wp2_with (first | ((with_reducible refine g_alloc ?_); refine wl_of rfl ?_; refine wp_alloc hS rfl rfl rfl rfl ?_; clear hS; intro ge w1 hS) | (first | refine au1 (n := ?_) | (refine au5 (n := ?_); clear hS; intro w' hS) | (refine au3 (n := ?_); clear hS; intro gb w1 hS)))
      refine (HT.out _).mono ?_
      rintro e w' ⟨rfl, h⟩
      replace hS := hS.call h
      clear h
      go_wp2_with (first | ((with_reducible refine g_alloc ?_); refine wl_of rfl ?_; refine wp_alloc hS rfl rfl rfl rfl ?_; clear hS; intro gs w1 hS) | (first | refine au1 (n := ?_) | (refine au5 (n := ?_); clear hS; intro w' hS) | (refine au3 (n := ?_); clear hS; intro gb w1 hS)))
      refine region_calm (by kernel_rfl) (by kernel_rfl) hS ?_
      (repeat (first | ((with_reducible refine c_call ?_); first | fail) | refine calm1 (n := ?_)))
      (refine Calm.nil ?_; clear hS; intro w8 hS)
      go_wp2_with (first | refine au1 (n := ?_) | (refine au5 (n := ?_); clear hS; intro w' hS) | (refine au3 (n := ?_); clear hS; intro gb w1 hS))
      exact end_cell hS rfl rfl 2 rfl rfl rfl rfl rfl ⟨by rw [HR.out]; rfl, hS.nil⟩
  · obtain ⟨rfl, _⟩ := fs rfl
    by_cases hm : so = n
    · subst hm
      have HR : Hid (R = ⟨2, ⟨so, sv, su, sp, ss⟩, zeroE⟩) := Lib.hid (by rw [hX]; simp)
      clear hX fe fs hsq fe2 fe3
      (go_enter Try.func27, Try.ntmps27)
      go_wp2_with (first | ((with_reducible refine g_alloc ?_); refine wl_of rfl ?_; refine wp_alloc hS rfl rfl rfl rfl ?_; clear hS; intro gr w1 hS) | (first | refine au1 (n := ?_) | (refine au5 (n := ?_); clear hS; intro w' hS) | (refine au3 (n := ?_); clear hS; intro gb w1 hS)))
      refine (HE.out _).mono ?_
      rintro e w' ⟨rfl, h⟩
      replace hS := hS.call h
      clear h
      go_wp2_with (first | ((with_reducible refine g_alloc ?_); refine wl_of rfl ?_; refine wp_alloc hS rfl rfl rfl rfl ?_; clear hS; intro ge w1 hS) | (first | refine au1 (n := ?_) | (refine au5 (n := ?_); clear hS; intro w' hS) | (refine au3 (n := ?_); clear hS; intro gb w1 hS)))
      refine (HT.out _).mono ?_
      rintro e w' ⟨rfl, h⟩
      replace hS := hS.call h
      clear h
      go_wp2_with (first | ((with_reducible refine g_alloc ?_); refine wl_of rfl ?_; refine wp_alloc hS rfl rfl rfl rfl ?_; clear hS; intro gs w1 hS) | (first | refine au1 (n := ?_) | (refine au5 (n := ?_); clear hS; intro w' hS) | (refine au3 (n := ?_); clear hS; intro gb w1 hS)))
      refine region_calm (by kernel_rfl) (by kernel_rfl) hS ?_
      (refine Calm.pure2 rfl (h := ?_); simp only [Act.put, List.setIfInBounds_toArray, List.set_cons_zero, List.set_cons_succ])
      (refine Calm.pure2 rfl (h := ?_); simp only [Act.put, List.setIfInBounds_toArray, List.set_cons_zero, List.set_cons_succ])
      (refine Calm.pure2 rfl (h := ?_); simp only [Act.put, List.setIfInBounds_toArray, List.set_cons_zero, List.set_cons_succ])
      (refine Calm.read rfl (h := ?_); simp only [Act.put, List.setIfInBounds_toArray, List.set_cons_zero, List.set_cons_succ])
      (refine Calm.pure2 rfl (h := ?_); simp only [Act.put, List.setIfInBounds_toArray, List.set_cons_zero, List.set_cons_succ])
      (refine Calm.run (v := .bool true) rfl (fun W hW => by (go_simp; try simp [true_and])) ?_; simp only [Act.put, List.setIfInBounds_toArray, List.set_cons_zero, List.set_cons_succ])
      (repeat (first | ((with_reducible refine c_call ?_); first | fail) | refine calm1 (n := ?_)))
      (refine Calm.nil ?_; clear hS; intro w8 hS)
      go_wp2_with (first | refine au1 (n := ?_) | (refine au5 (n := ?_); clear hS; intro w' hS) | (refine au3 (n := ?_); clear hS; intro gb w1 hS))
      exact end_cell hS rfl rfl 2 rfl rfl rfl rfl rfl ⟨by rw [HR.out]; rfl, hS.nil⟩
    ·
      have HR : Hid (R = zeroI) := Lib.hid (by rw [hX]; simp [hm])
      clear hX fe fs hsq fe2 fe3
      (go_enter Try.func27, Try.ntmps27)
      go_wp2_with (first | ((with_reducible refine g_alloc ?_); refine wl_of rfl ?_; refine wp_alloc hS rfl rfl rfl rfl ?_; clear hS; intro gr w1 hS) | (first | refine au1 (n := ?_) | (refine au5 (n := ?_); clear hS; intro w' hS) | (refine au3 (n := ?_); clear hS; intro gb w1 hS)))
      refine (HE.out _).mono ?_
      rintro e w' ⟨rfl, h⟩
      replace hS := hS.call h
      clear h
      go_wp2_with (first | ((with_reducible refine g_alloc ?_); refine wl_of rfl ?_; refine wp_alloc hS rfl rfl rfl rfl ?_; clear hS; intro ge w1 hS) | (first | refine au1 (n := ?_) | (refine au5 (n := ?_); clear hS; intro w' hS) | (refine au3 (n := ?_); clear hS; intro gb w1 hS)))
      refine (HT.out _).mono ?_
      rintro e w' ⟨rfl, h⟩
      replace hS := hS.call h
      clear h
      go_wp2_with (first | ((with_reducible refine g_alloc ?_); refine wl_of rfl ?_; refine wp_alloc hS rfl rfl rfl rfl ?_; clear hS; intro gs w1 hS) | (first | refine au1 (n := ?_) | (refine au5 (n := ?_); clear hS; intro w' hS) | (refine au3 (n := ?_); clear hS; intro gb w1 hS)))
      refine region_calm (by kernel_rfl) (by kernel_rfl) hS ?_
      (refine Calm.pure2 rfl (h := ?_); simp only [Act.put, List.setIfInBounds_toArray, List.set_cons_zero, List.set_cons_succ])
      (refine Calm.pure2 rfl (h := ?_); simp only [Act.put, List.setIfInBounds_toArray, List.set_cons_zero, List.set_cons_succ])
      (refine Calm.pure2 rfl (h := ?_); simp only [Act.put, List.setIfInBounds_toArray, List.set_cons_zero, List.set_cons_succ])
      (refine Calm.read rfl (h := ?_); simp only [Act.put, List.setIfInBounds_toArray, List.set_cons_zero, List.set_cons_succ])
      (refine Calm.pure2 rfl (h := ?_); simp only [Act.put, List.setIfInBounds_toArray, List.set_cons_zero, List.set_cons_succ])
      (refine Calm.run (v := .bool false) rfl (fun W hW => by (go_simp; try simp [hm])) ?_; simp only [Act.put, List.setIfInBounds_toArray, List.set_cons_zero, List.set_cons_succ])
      (repeat (first | ((with_reducible refine c_call ?_); first | fail) | refine calm1 (n := ?_)))
      (refine Calm.nil ?_; clear hS; intro w8 hS)
      go_wp2_with (first | refine au1 (n := ?_) | (refine au5 (n := ?_); clear hS; intro w' hS) | (refine au3 (n := ?_); clear hS; intro gb w1 hS))
      exact end_cell hS rfl rfl 2 rfl rfl rfl rfl rfl ⟨by rw [HR.out]; rfl, hS.nil⟩
end
end Go.Proofs.Ytnjboimjlbgdiaa
