/-
  Slots: the program judges them.
-/
import Derived.Test.YtnjboimjlbgdiaaSlot3
import Derived.Test.YtnjboimjlbgdiaaSlot4
set_option linter.unusedSimpArgs false
set_option linter.unusedVariables false
set_option linter.unusedSectionVars false
set_option maxRecDepth 100000
namespace Go.Proofs.Ytnjboimjlbgdiaa
open Go.RowKit Go.Cmp
set_option maxRecDepth 100000

section
variable {S : List Nat} {w0 w : World} {M : List Ent}
set_option maxHeartbeats 32000000 in
theorem slotJudge_a (p h : List UInt8) (n : Int) (hc : (entP p).2.1 = true ∧ (entP p).1.op = n) (hl : p.length ≤ 1000000) (hl2 : h.length ≤ 1000000) (w : World) :
    Calls Try.prog 27 #[.string ⟨p.toArray⟩, .string ⟨h.toArray⟩, .int .i64 n] w fun x w' => x = .returned (.agg (judgeS p h n).cells.toArray) ∧ St [] w w' [] := by
  have hS := St.init w
  have HE := Lib.hid (fun w => slotEntry_any p hl w)
  have HT := Lib.hid (fun w => slotStub_any h hl2 w)
  have hX := judge_prog p h n
  have fe := entP_facts p
  have fs := (stbP_facts h).1
  generalize judgeS p h n = R at hX ⊢
  generalize entP p = E at hX HE fe hc
  generalize stbP h = T at hX HT fs
  obtain ⟨e, has, read⟩ := E
  obtain ⟨s, says, known⟩ := T
  simp only at hX HE HT fe fs hc
  obtain ⟨fe, fe2, fe3, _⟩ := fe
  have HSO := Lib.hid (fun w => slotStubOf_any e fe2 (by omega) w)
  have hsq : e.right = true → stubE e = ⟨e.op, e.view, e.under, e.parent, markSum e⟩ := fun hr => by unfold stubE; rw [if_neg (by simp [hr])]
  generalize markSum e = q at hsq
  generalize stubE e = SE at hX HSO hsq
  obtain ⟨vw, po, un, par, cl, se, rq, opr, body⟩ := e
  obtain ⟨so, sv, su, sp, ss⟩ := s
  simp only [En.cells] at HE HSO
  simp only [Stb.cells] at HT
  simp only at hX fe fs fe2 fe3 hsq hc
  obtain ⟨rfl, hn⟩ := hc
  obtain ⟨rfl, hright⟩ := fe rfl
  have hsq := hsq hright
  subst hsq
  simp only [Stb.cells] at HSO
  subst hn
  cases says
  · cases known
    · -- not known: it holds
      have HR : Hid (R = ⟨1, ⟨po, vw, un, par, q⟩, ⟨vw, po, un, par, cl, se, rq, opr, body⟩⟩) := Lib.hid (by rw [hX]; simp)
      clear hX fe fs hsq fe2 fe3
      (go_enter Try.func27, Try.ntmps27)
      go_wp2_with (first | ((with_reducible refine g_alloc ?_); refine wl_of rfl ?_; refine wp_alloc hS rfl rfl rfl rfl ?_; clear hS; intro gr w1 hS) | (first | refine au1 (n := ?_) | (refine au5 (n := ?_); clear hS; intro w' hS) | (refine au3 (n := ?_); clear hS; intro gb w1 hS)))
      refine (HE.out _).mono ?_
      rintro e w' ⟨rfl, h⟩
      replace hS := hS.call h
      clear h
      go_wp2_with (first | ((with_reducible refine g_alloc ?_); refine wl_of rfl ?_; refine wp_alloc hS rfl rfl rfl rfl ?_; clear hS; intro ge w1 hS) | (first | refine au1 (n := ?_) | (refine au5 (n := ?_); clear hS; intro w' hS) | (refine au3 (n := ?_); clear hS; intro gb w1 hS)))
      refine (HT.out _).mono ?_
      rintro e w' ⟨rfl, h⟩
      replace hS := hS.call h
      clear h
      go_wp2_with (first | ((with_reducible refine g_alloc ?_); refine wl_of rfl ?_; refine wp_alloc hS rfl rfl rfl rfl ?_; clear hS; intro gs w1 hS) | (first | refine au1 (n := ?_) | (refine au5 (n := ?_); clear hS; intro w' hS) | (refine au3 (n := ?_); clear hS; intro gb w1 hS)))
      refine region_calm (by kernel_rfl) (by kernel_rfl) hS ?_
      (repeat (first | ((with_reducible refine c_call ?_); first | fail) | refine calm1 (n := ?_)))
      (refine Calm.nil ?_; clear hS; intro w8 hS)
      go_wp2_with (first | refine au1 (n := ?_) | (refine au5 (n := ?_); clear hS; intro w' hS) | (refine au3 (n := ?_); clear hS; intro gb w1 hS))
      refine region_drift 4 [.row gr [.int .i64 0, .int .i64 0, .int .i64 0, .int .i64 0, .int .u64 0, .int .u64 0, .int .i64 0, .int .i64 0, .int .i64 0, .int .u64 0, .int .i64 0, .int .i64 0, .int .i64 0, .int .i64 0, .string ⟨#[]⟩] 37 (0, 0)] [.row ge [.int .i64 vw, .int .i64 po, .int .i64 un, .int .u64 par, .int .i64 cl, .int .i64 se, .int .i64 rq, .int .i64 opr, .string ⟨body.toArray⟩] 24 (0, 0)] hS.pick (by kernel_rfl) ?_
      clear hS
      intro F wx hR hB hS
      (refine d_take 0 rfl rfl (by kernel_rfl) (by kernel_rfl) (by kernel_rfl) (fun _ _ _ h => h) (by kernel_rfl) rfl (fun W hW => rdR) hS.base ?_; simp only [Act.put, List.setIfInBounds_toArray, List.set_cons_zero, List.set_cons_succ])
      (refine d_call 1 rfl rfl (by kernel_rfl) (by kernel_rfl) (by kernel_rfl) (fun _ _ _ h => h) (by kernel_rfl) rfl (fun W => by go_simp) hS.base (fun W hW => HSO.out W) ?_; simp only [Act.put, List.setIfInBounds_toArray, List.set_cons_zero, List.set_cons_succ])
      (refine d_take 2 rfl rfl (by kernel_rfl) (by kernel_rfl) (by kernel_rfl) (fun _ _ _ h => h) (by kernel_rfl) rfl (fun W hW => rdR) hS.base ?_; simp only [Act.put, List.setIfInBounds_toArray, List.set_cons_zero, List.set_cons_succ])
      (refine d_take 3 rfl rfl (by kernel_rfl) (by kernel_rfl) (by kernel_rfl) (fun _ _ _ h => h) (by kernel_rfl) rfl (fun W hW => (by (go_simp; try with_reducible rfl))) hS.base ?_; simp only [Act.put, List.setIfInBounds_toArray, List.set_cons_zero, List.set_cons_succ])
      (refine d_all (rs := [4]) (by kernel_rfl) (by simp) ?_; intro wd hd; replace hS := hS.same hd; clear hd; intro i hi; have hi := List.mem_singleton.1 hi; subst hi)
      refine won_of rfl rfl rfl (a_storeA (vs := [.int .i64 1, .int .i64 po, .int .i64 vw, .int .i64 un, .int .u64 par, .int .u64 q, .int .i64 vw, .int .i64 po, .int .i64 un, .int .u64 par, .int .i64 cl, .int .i64 se, .int .i64 rq, .int .i64 opr, .string ⟨body.toArray⟩]) (cs' := [.int .i64 1, .int .i64 po, .int .i64 vw, .int .i64 un, .int .u64 par, .int .u64 q, .int .i64 vw, .int .i64 po, .int .i64 un, .int .u64 par, .int .i64 cl, .int .i64 se, .int .i64 rq, .int .i64 opr, .string ⟨body.toArray⟩]) hS rfl rfl rfl (by rfl) (by simp [Value.oneCell']) Sw.here (by simp) (by rfl) ?_)
      clear hS
      intro w3 hS
      replace hS := hB _ _ hS
      (refine ⟨fun h => absurd rfl h, ?_⟩; refine d_done (by kernel_rfl) ?_ _; intro wd hd; replace hS := hS.same hd; clear hd)
      simp only [Act.put, List.setIfInBounds_toArray, List.set_cons_zero, List.set_cons_succ]
      go_wp2_with (fail)
      exact end_cell hS rfl rfl 0 rfl rfl rfl rfl rfl ⟨by rw [HR.out]; rfl, hS.nil⟩
    · -- known, and says nothing
      have HR : Hid (R = zeroI) := Lib.hid (by rw [hX]; simp)
      clear hX fe fs hsq fe2 fe3
      (go_enter Try.func27, Try.ntmps27)
      go_wp2_with (first | ((with_reducible refine g_alloc ?_); refine wl_of rfl ?_; refine wp_alloc hS rfl rfl rfl rfl ?_; clear hS; intro gr w1 hS) | (first | refine au1 (n := ?_) | (refine au5 (n := ?_); clear hS; intro w' hS) | (refine au3 (n := ?_); clear hS; intro gb w1 hS)))
      refine (HE.out _).mono ?_
      rintro e w' ⟨rfl, h⟩
      replace hS := hS.call h
      clear h
      go_wp2_with (first | ((with_reducible refine g_alloc ?_); refine wl_of rfl ?_; refine wp_alloc hS rfl rfl rfl rfl ?_; clear hS; intro ge w1 hS) | (first | refine au1 (n := ?_) | (refine au5 (n := ?_); clear hS; intro w' hS) | (refine au3 (n := ?_); clear hS; intro gb w1 hS)))
      refine (HT.out _).mono ?_
      rintro e w' ⟨rfl, h⟩
      replace hS := hS.call h
      clear h
      go_wp2_with (first | ((with_reducible refine g_alloc ?_); refine wl_of rfl ?_; refine wp_alloc hS rfl rfl rfl rfl ?_; clear hS; intro gs w1 hS) | (first | refine au1 (n := ?_) | (refine au5 (n := ?_); clear hS; intro w' hS) | (refine au3 (n := ?_); clear hS; intro gb w1 hS)))
      refine region_calm (by kernel_rfl) (by kernel_rfl) hS ?_
      (repeat (first | ((with_reducible refine c_call ?_); first | fail) | refine calm1 (n := ?_)))
      (refine Calm.nil ?_; clear hS; intro w8 hS)
      go_wp2_with (first | refine au1 (n := ?_) | (refine au5 (n := ?_); clear hS; intro w' hS) | (refine au3 (n := ?_); clear hS; intro gb w1 hS))
      exact end_cell hS rfl rfl 2 rfl rfl rfl rfl rfl ⟨by rw [HR.out]; rfl, hS.nil⟩
  · obtain ⟨rfl, _⟩ := fs rfl
    by_cases hm : so = po
    · subst hm
      by_cases hq : vw = sv ∧ un = su ∧ par = sp ∧ q = ss
      · obtain ⟨rfl, rfl, rfl, rfl⟩ := hq
        have HR : Hid (R = ⟨1, ⟨so, vw, un, par, q⟩, ⟨vw, so, un, par, cl, se, rq, opr, body⟩⟩) := Lib.hid (by rw [hX]; simp)
        clear hX fe fs hsq fe2 fe3
        (go_enter Try.func27, Try.ntmps27)
        go_wp2_with (first | ((with_reducible refine g_alloc ?_); refine wl_of rfl ?_; refine wp_alloc hS rfl rfl rfl rfl ?_; clear hS; intro gr w1 hS) | (first | refine au1 (n := ?_) | (refine au5 (n := ?_); clear hS; intro w' hS) | (refine au3 (n := ?_); clear hS; intro gb w1 hS)))
        refine (HE.out _).mono ?_
        rintro e w' ⟨rfl, h⟩
        replace hS := hS.call h
        clear h
        go_wp2_with (first | ((with_reducible refine g_alloc ?_); refine wl_of rfl ?_; refine wp_alloc hS rfl rfl rfl rfl ?_; clear hS; intro ge w1 hS) | (first | refine au1 (n := ?_) | (refine au5 (n := ?_); clear hS; intro w' hS) | (refine au3 (n := ?_); clear hS; intro gb w1 hS)))
        refine (HT.out _).mono ?_
        rintro e w' ⟨rfl, h⟩
        replace hS := hS.call h
        clear h
        go_wp2_with (first | ((with_reducible refine g_alloc ?_); refine wl_of rfl ?_; refine wp_alloc hS rfl rfl rfl rfl ?_; clear hS; intro gs w1 hS) | (first | refine au1 (n := ?_) | (refine au5 (n := ?_); clear hS; intro w' hS) | (refine au3 (n := ?_); clear hS; intro gb w1 hS)))
        refine region_calm (by kernel_rfl) (by kernel_rfl) hS ?_
        (refine Calm.pure2 rfl (h := ?_); simp only [Act.put, List.setIfInBounds_toArray, List.set_cons_zero, List.set_cons_succ])
        (refine Calm.pure2 rfl (h := ?_); simp only [Act.put, List.setIfInBounds_toArray, List.set_cons_zero, List.set_cons_succ])
        (refine Calm.pure2 rfl (h := ?_); simp only [Act.put, List.setIfInBounds_toArray, List.set_cons_zero, List.set_cons_succ])
        (refine Calm.read rfl (h := ?_); simp only [Act.put, List.setIfInBounds_toArray, List.set_cons_zero, List.set_cons_succ])
        (refine Calm.pure2 rfl (h := ?_); simp only [Act.put, List.setIfInBounds_toArray, List.set_cons_zero, List.set_cons_succ])
        refine Calm.run (v := .bool true) rfl (fun W hW => by (go_simp; try simp)) ?_
        simp only [Act.put, List.setIfInBounds_toArray, List.set_cons_zero, List.set_cons_succ]
        (refine Calm.pure2 rfl (h := ?_); simp only [Act.put, List.setIfInBounds_toArray, List.set_cons_zero, List.set_cons_succ])
        (refine Calm.pure2 rfl (h := ?_); simp only [Act.put, List.setIfInBounds_toArray, List.set_cons_zero, List.set_cons_succ])
        (refine Calm.pure2 rfl (h := ?_); simp only [Act.put, List.setIfInBounds_toArray, List.set_cons_zero, List.set_cons_succ])
        (refine Calm.pure2 rfl (h := ?_); simp only [Act.put, List.setIfInBounds_toArray, List.set_cons_zero, List.set_cons_succ])
        (refine Calm.pure2 rfl (h := ?_); simp only [Act.put, List.setIfInBounds_toArray, List.set_cons_zero, List.set_cons_succ])
        (refine Calm.read rfl (h := ?_); simp only [Act.put, List.setIfInBounds_toArray, List.set_cons_zero, List.set_cons_succ])
        (refine Calm.call (calm_makes HSO.out) rfl (h := ?_); simp only [Act.put, List.setIfInBounds_toArray, List.set_cons_zero, List.set_cons_succ])
        (refine Calm.read rfl (h := ?_); simp only [Act.put, List.setIfInBounds_toArray, List.set_cons_zero, List.set_cons_succ])
        refine Calm.run (v := .bool true) rfl (fun W hW => by (go_simp; try simp)) ?_
        simp only [Act.put, List.setIfInBounds_toArray, List.set_cons_zero, List.set_cons_succ]
        (repeat (first | ((with_reducible refine c_call ?_); first | fail) | refine calm1 (n := ?_)))
        (refine Calm.nil ?_; clear hS; intro w8 hS)
        go_wp2_with (first | refine au1 (n := ?_) | (refine au5 (n := ?_); clear hS; intro w' hS) | (refine au3 (n := ?_); clear hS; intro gb w1 hS))
        refine region_drift 4 [.row gr [.int .i64 0, .int .i64 0, .int .i64 0, .int .i64 0, .int .u64 0, .int .u64 0, .int .i64 0, .int .i64 0, .int .i64 0, .int .u64 0, .int .i64 0, .int .i64 0, .int .i64 0, .int .i64 0, .string ⟨#[]⟩] 37 (0, 0)] [.row ge [.int .i64 vw, .int .i64 so, .int .i64 un, .int .u64 par, .int .i64 cl, .int .i64 se, .int .i64 rq, .int .i64 opr, .string ⟨body.toArray⟩] 24 (0, 0)] hS.pick (by kernel_rfl) ?_
        clear hS
        intro F wx hR hB hS
        (refine d_take 0 rfl rfl (by kernel_rfl) (by kernel_rfl) (by kernel_rfl) (fun _ _ _ h => h) (by kernel_rfl) rfl (fun W hW => rdR) hS.base ?_; simp only [Act.put, List.setIfInBounds_toArray, List.set_cons_zero, List.set_cons_succ])
        (refine d_call 1 rfl rfl (by kernel_rfl) (by kernel_rfl) (by kernel_rfl) (fun _ _ _ h => h) (by kernel_rfl) rfl (fun W => by go_simp) hS.base (fun W hW => HSO.out W) ?_; simp only [Act.put, List.setIfInBounds_toArray, List.set_cons_zero, List.set_cons_succ])
        (refine d_take 2 rfl rfl (by kernel_rfl) (by kernel_rfl) (by kernel_rfl) (fun _ _ _ h => h) (by kernel_rfl) rfl (fun W hW => rdR) hS.base ?_; simp only [Act.put, List.setIfInBounds_toArray, List.set_cons_zero, List.set_cons_succ])
        (refine d_take 3 rfl rfl (by kernel_rfl) (by kernel_rfl) (by kernel_rfl) (fun _ _ _ h => h) (by kernel_rfl) rfl (fun W hW => (by (go_simp; try with_reducible rfl))) hS.base ?_; simp only [Act.put, List.setIfInBounds_toArray, List.set_cons_zero, List.set_cons_succ])
        (refine d_all (rs := [4]) (by kernel_rfl) (by simp) ?_; intro wd hd; replace hS := hS.same hd; clear hd; intro i hi; have hi := List.mem_singleton.1 hi; subst hi)
        refine won_of rfl rfl rfl (a_storeA (vs := [.int .i64 1, .int .i64 so, .int .i64 vw, .int .i64 un, .int .u64 par, .int .u64 q, .int .i64 vw, .int .i64 so, .int .i64 un, .int .u64 par, .int .i64 cl, .int .i64 se, .int .i64 rq, .int .i64 opr, .string ⟨body.toArray⟩]) (cs' := [.int .i64 1, .int .i64 so, .int .i64 vw, .int .i64 un, .int .u64 par, .int .u64 q, .int .i64 vw, .int .i64 so, .int .i64 un, .int .u64 par, .int .i64 cl, .int .i64 se, .int .i64 rq, .int .i64 opr, .string ⟨body.toArray⟩]) hS rfl rfl rfl (by rfl) (by simp [Value.oneCell']) Sw.here (by simp) (by rfl) ?_)
        clear hS
        intro w3 hS
        replace hS := hB _ _ hS
        (refine ⟨fun h => absurd rfl h, ?_⟩; refine d_done (by kernel_rfl) ?_ _; intro wd hd; replace hS := hS.same hd; clear hd)
        simp only [Act.put, List.setIfInBounds_toArray, List.set_cons_zero, List.set_cons_succ]
        go_wp2_with (fail)
        exact end_cell hS rfl rfl 0 rfl rfl rfl rfl rfl ⟨by rw [HR.out]; rfl, hS.nil⟩
      · have hne : ¬ (⟨so, vw, un, par, q⟩ : Stb) = ⟨so, sv, su, sp, ss⟩ := fun hh => hq (by injection hh with h1 h2 h3 h4 h5; exact ⟨h2, h3, h4, h5⟩)
        have HQ := Lib.hid hq
        have HR : Hid (R = ⟨2, ⟨so, sv, su, sp, ss⟩, zeroE⟩) := Lib.hid (by rw [hX]; simp [hne, hq])
        clear hX fe fs hsq fe2 fe3
        (go_enter Try.func27, Try.ntmps27)
        go_wp2_with (first | ((with_reducible refine g_alloc ?_); refine wl_of rfl ?_; refine wp_alloc hS rfl rfl rfl rfl ?_; clear hS; intro gr w1 hS) | (first | refine au1 (n := ?_) | (refine au5 (n := ?_); clear hS; intro w' hS) | (refine au3 (n := ?_); clear hS; intro gb w1 hS)))
        refine (HE.out _).mono ?_
        rintro e w' ⟨rfl, h⟩
        replace hS := hS.call h
        clear h
        go_wp2_with (first | ((with_reducible refine g_alloc ?_); refine wl_of rfl ?_; refine wp_alloc hS rfl rfl rfl rfl ?_; clear hS; intro ge w1 hS) | (first | refine au1 (n := ?_) | (refine au5 (n := ?_); clear hS; intro w' hS) | (refine au3 (n := ?_); clear hS; intro gb w1 hS)))
        refine (HT.out _).mono ?_
        rintro e w' ⟨rfl, h⟩
        replace hS := hS.call h
        clear h
        go_wp2_with (first | ((with_reducible refine g_alloc ?_); refine wl_of rfl ?_; refine wp_alloc hS rfl rfl rfl rfl ?_; clear hS; intro gs w1 hS) | (first | refine au1 (n := ?_) | (refine au5 (n := ?_); clear hS; intro w' hS) | (refine au3 (n := ?_); clear hS; intro gb w1 hS)))
        refine region_calm (by kernel_rfl) (by kernel_rfl) hS ?_
        (refine Calm.pure2 rfl (h := ?_); simp only [Act.put, List.setIfInBounds_toArray, List.set_cons_zero, List.set_cons_succ])
        (refine Calm.pure2 rfl (h := ?_); simp only [Act.put, List.setIfInBounds_toArray, List.set_cons_zero, List.set_cons_succ])
        (refine Calm.pure2 rfl (h := ?_); simp only [Act.put, List.setIfInBounds_toArray, List.set_cons_zero, List.set_cons_succ])
        (refine Calm.read rfl (h := ?_); simp only [Act.put, List.setIfInBounds_toArray, List.set_cons_zero, List.set_cons_succ])
        (refine Calm.pure2 rfl (h := ?_); simp only [Act.put, List.setIfInBounds_toArray, List.set_cons_zero, List.set_cons_succ])
        refine Calm.run (v := .bool true) rfl (fun W hW => by (go_simp; try simp)) ?_
        simp only [Act.put, List.setIfInBounds_toArray, List.set_cons_zero, List.set_cons_succ]
        (refine Calm.pure2 rfl (h := ?_); simp only [Act.put, List.setIfInBounds_toArray, List.set_cons_zero, List.set_cons_succ])
        (refine Calm.pure2 rfl (h := ?_); simp only [Act.put, List.setIfInBounds_toArray, List.set_cons_zero, List.set_cons_succ])
        (refine Calm.pure2 rfl (h := ?_); simp only [Act.put, List.setIfInBounds_toArray, List.set_cons_zero, List.set_cons_succ])
        (refine Calm.pure2 rfl (h := ?_); simp only [Act.put, List.setIfInBounds_toArray, List.set_cons_zero, List.set_cons_succ])
        (refine Calm.pure2 rfl (h := ?_); simp only [Act.put, List.setIfInBounds_toArray, List.set_cons_zero, List.set_cons_succ])
        (refine Calm.read rfl (h := ?_); simp only [Act.put, List.setIfInBounds_toArray, List.set_cons_zero, List.set_cons_succ])
        (refine Calm.call (calm_makes HSO.out) rfl (h := ?_); simp only [Act.put, List.setIfInBounds_toArray, List.set_cons_zero, List.set_cons_succ])
        (refine Calm.read rfl (h := ?_); simp only [Act.put, List.setIfInBounds_toArray, List.set_cons_zero, List.set_cons_succ])
        refine Calm.run (v := .bool false) rfl (fun W hW => by (go_simp; (try simp); intro a b c d; exact HQ.out ⟨by omega, by omega, by omega, by omega⟩)) ?_
        simp only [Act.put, List.setIfInBounds_toArray, List.set_cons_zero, List.set_cons_succ]
        (repeat (first | ((with_reducible refine c_call ?_); first | fail) | refine calm1 (n := ?_)))
        (refine Calm.nil ?_; clear hS; intro w8 hS)
        clear hq
        go_wp2_with (first | refine au1 (n := ?_) | (refine au5 (n := ?_); clear hS; intro w' hS) | (refine au3 (n := ?_); clear hS; intro gb w1 hS))
        exact end_cell hS rfl rfl 2 rfl rfl rfl rfl rfl ⟨by rw [HR.out]; rfl, hS.nil⟩
    · -- says another
      have HR : Hid (R = zeroI) := Lib.hid (by rw [hX]; simp [hm])
      clear hX fe fs hsq fe2 fe3
      (go_enter Try.func27, Try.ntmps27)
      go_wp2_with (first | ((with_reducible refine g_alloc ?_); refine wl_of rfl ?_; refine wp_alloc hS rfl rfl rfl rfl ?_; clear hS; intro gr w1 hS) | (first | refine au1 (n := ?_) | (refine au5 (n := ?_); clear hS; intro w' hS) | (refine au3 (n := ?_); clear hS; intro gb w1 hS)))
      refine (HE.out _).mono ?_
      rintro e w' ⟨rfl, h⟩
      replace hS := hS.call h
      clear h
      go_wp2_with (first | ((with_reducible refine g_alloc ?_); refine wl_of rfl ?_; refine wp_alloc hS rfl rfl rfl rfl ?_; clear hS; intro ge w1 hS) | (first | refine au1 (n := ?_) | (refine au5 (n := ?_); clear hS; intro w' hS) | (refine au3 (n := ?_); clear hS; intro gb w1 hS)))
      refine (HT.out _).mono ?_
      rintro e w' ⟨rfl, h⟩
      replace hS := hS.call h
      clear h
      go_wp2_with (first | ((with_reducible refine g_alloc ?_); refine wl_of rfl ?_; refine wp_alloc hS rfl rfl rfl rfl ?_; clear hS; intro gs w1 hS) | (first | refine au1 (n := ?_) | (refine au5 (n := ?_); clear hS; intro w' hS) | (refine au3 (n := ?_); clear hS; intro gb w1 hS)))
      refine region_calm (by kernel_rfl) (by kernel_rfl) hS ?_
      (refine Calm.pure2 rfl (h := ?_); simp only [Act.put, List.setIfInBounds_toArray, List.set_cons_zero, List.set_cons_succ])
      (refine Calm.pure2 rfl (h := ?_); simp only [Act.put, List.setIfInBounds_toArray, List.set_cons_zero, List.set_cons_succ])
      (refine Calm.pure2 rfl (h := ?_); simp only [Act.put, List.setIfInBounds_toArray, List.set_cons_zero, List.set_cons_succ])
      (refine Calm.read rfl (h := ?_); simp only [Act.put, List.setIfInBounds_toArray, List.set_cons_zero, List.set_cons_succ])
      (refine Calm.pure2 rfl (h := ?_); simp only [Act.put, List.setIfInBounds_toArray, List.set_cons_zero, List.set_cons_succ])
      (refine Calm.run (v := .bool false) rfl (fun W hW => by (go_simp; try simp [hm])) ?_; simp only [Act.put, List.setIfInBounds_toArray, List.set_cons_zero, List.set_cons_succ])
      (repeat (first | ((with_reducible refine c_call ?_); first | fail) | refine calm1 (n := ?_)))
      (refine Calm.nil ?_; clear hS; intro w8 hS)
      go_wp2_with (first | refine au1 (n := ?_) | (refine au5 (n := ?_); clear hS; intro w' hS) | (refine au3 (n := ?_); clear hS; intro gb w1 hS))
      exact end_cell hS rfl rfl 2 rfl rfl rfl rfl rfl ⟨by rw [HR.out]; rfl, hS.nil⟩
end
end Go.Proofs.Ytnjboimjlbgdiaa
