/-
  The machine's examples.
-/
import Derived.Test.YtjjiibcnknljfaaGreatMac4
set_option linter.unusedSimpArgs false
set_option linter.unusedVariables false
set_option linter.unusedSectionVars false
set_option maxRecDepth 100000
namespace Go.Proofs.YtjjiibcnknljfaaGreat
open Go.RowKit Go.Cmp

def awE1 : En := ⟨0, 1, 0, 0, 7, 0, 0, 1, []⟩
def awE2 : En := ⟨0, 2, 0, markSum awE1, 7, 0, 0, 1, []⟩
def awA : Ans := ⟨1, 7, 1, 0, 1, []⟩
def awM1 : Mac := ⟨markE awE1, [newSes 7 1], ⟨[], []⟩⟩
theorem aw_right1 : awE1.right = true := by rw [en_right_eq]; decide
theorem aw_right2 : awE2.right = true := by rw [en_right_eq]; decide
theorem aw_mark1 : markE awE1 = ⟨1, 0, markSum awE1⟩ := by unfold markE; rw [packE_ok aw_right1]; rfl
theorem aw_next1 : nextE ⟨0, 0, 0⟩ ⟨0, 0, 0, 0, 7, 0, 0, 1, []⟩ = awE1 := by simp [nextE, awE1]
theorem aw_next2 : nextE (markE awE1) ⟨0, 0, 0, 0, 7, 0, 0, 1, []⟩ = awE2 := by rw [aw_mark1]; simp [nextE, awE2]
theorem aw_app1 : newMac.apply awE1 = ((awA, 0), awM1) := by
  unfold Mac.apply
  rw [aw_right1, if_neg (by decide)]
  have hf : followsE newMac.mark awE1 = true := by unfold followsE; rw [aw_right1]; decide
  rw [hf, if_neg (by decide)]
  have : newMac.does awE1 = (awA, awM1) := by rfl
  rw [this]
theorem aw_app2 : (awM1.apply awE2).1 = (awA, 0) := by
  unfold Mac.apply
  rw [aw_right2, if_neg (by decide)]
  have hf : followsE awM1.mark awE2 = true := by
    unfold followsE
    rw [aw_right2]
    show (true && decide ((2 : Int) - 1 = (markE awE1).op) && decide ((0 : Int) = (markE awE1).view) && decide (markSum awE1 = (markE awE1).sum)) = true
    rw [aw_mark1]
    simp
  rw [hf, if_neg (by decide)]
  have : (awM1.does awE2).1 = awA := by rfl
  rw [this]

section
set_option maxHeartbeats 8000000 in
theorem awake10_any (w : World) : Calls Tryz.prog 5 #[] w fun e w' => e = .returned (.bool true) ∧ St [] w w' [] := by
  have hS := St.init w
  have hok := newMac_ok
  have HN1 := Lib.hid (fun w => entNext_any ⟨0, 0, 0⟩ ⟨0, 0, 0, 0, 7, 0, 0, 1, []⟩ w)
  have HN2 := Lib.hid (fun w => entNext_any (markE awE1) ⟨0, 0, 0, 0, 7, 0, 0, 1, []⟩ w)
  have HM := Lib.hid (fun w => entMark_any awE1 (by decide) (by decide) w)
  have HA1 := Lib.hid (fun (w0 w : World) (g : Nat) (M : List Ent) (hS : St [] w0 w (mach g newMac :: M)) => mach_apply hS newMac_ok awE1 (by decide))
  have hok2 : awM1.Ok := by have := apply_ok newMac_ok (e := awE1) (by decide); rw [aw_app1] at this; exact this
  have HA2 := Lib.hid (fun (w0 w : World) (g : Nat) (M : List Ent) (hS : St [] w0 w (mach g awM1 :: M)) => mach_apply hS hok2 awE2 (by exact chainOf_lt _ (by decide) _))
  rw [aw_next1] at HN1
  rw [aw_next2] at HN2
  rw [aw_mark1] at HN2 HM
  rw [aw_app1] at HA1
  rw [aw_app2] at HA2
  simp only at HA1 HA2
  generalize (awM1.apply awE2).2 = M2 at HA2
  generalize awM1 = M1 at HA1 HA2
  simp only [awE2, awE1, awA] at HN1 HN2 HM HA1 HA2
  generalize markSum ⟨0, 1, 0, 0, 7, 0, 0, 1, []⟩ = q at HN2 HM HA2
  clear hok hok2
  simp only [En.cells, Mk.cells, Ans.cells] at HN1 HN2 HM HA1 HA2
  (go_enter Tryz.func5, Tryz.ntmps5)
  go_wp2_with (first | (go_at_call 7; refine (mach_new hS).mono ?_; clear hS; rintro e w' ⟨g, rfl, hS⟩) | (first | refine au1 (n := ?_) | (refine au2 (n := ?_); clear hS; intro w' hS) | (refine au3 (n := ?_); clear hS; intro gb w1 hS) | (refine au4 (n := ?_); clear hS; intro v1 w' hS) | ((with_reducible refine wl_guard ?_); refine stop_mem rfl rfl ?_)))
  refine (HN1.out _).mono ?_
  rintro e w' ⟨rfl, h⟩
  replace hS := hS.call h
  clear h
  go_wp2_with (first | refine au1 (n := ?_) | (refine au2 (n := ?_); clear hS; intro w' hS) | (refine au3 (n := ?_); clear hS; intro gb w1 hS) | (refine au4 (n := ?_); clear hS; intro v1 w' hS) | ((with_reducible refine wl_guard ?_); refine stop_mem rfl rfl ?_))
  refine (HA1.out _ _ _ _ (hS.out (by (repeat (first | exact Out.here | apply Out.there))))).mono ?_
  clear hS
  rintro e w' ⟨rfl, hS⟩
  go_wp2_with (first | (go_at_call 27; refine (HM.out _).mono ?_; rintro e w' ⟨rfl, h⟩; replace hS := hS.call h; clear h) | (first | refine au1 (n := ?_) | (refine au2 (n := ?_); clear hS; intro w' hS) | (refine au3 (n := ?_); clear hS; intro gb w1 hS) | (refine au4 (n := ?_); clear hS; intro v1 w' hS) | ((with_reducible refine wl_guard ?_); refine stop_mem rfl rfl ?_)))
  refine (HN2.out _).mono ?_
  rintro e w' ⟨rfl, h⟩
  replace hS := hS.call h
  clear h
  go_wp2_with (fail)
  refine (HA2.out _ _ _ _ (hS.out (by (repeat (first | exact Out.here | apply Out.there))))).mono ?_
  clear hS
  rintro e w' ⟨rfl, hS⟩
  go_wp2_with (first | refine au1 (n := ?_) | (refine au2 (n := ?_); clear hS; intro w' hS) | (refine au3 (n := ?_); clear hS; intro gb w1 hS) | (refine au4 (n := ?_); clear hS; intro v1 w' hS) | ((with_reducible refine wl_guard ?_); refine stop_mem rfl rfl ?_))
  go_ret
  exact ⟨rfl, hS.nil⟩
end
end Go.Proofs.YtjjiibcnknljfaaGreat
