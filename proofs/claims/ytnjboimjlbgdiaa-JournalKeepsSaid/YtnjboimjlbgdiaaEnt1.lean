/-
  Entries: the program's.
-/
import Derived.Test.YtnjboimjlbgdiaaEntA
import Derived.Test.YtnjboimjlbgdiaaDrift
set_option linter.unusedSimpArgs false
set_option linter.unusedVariables false
set_option linter.unusedSectionVars false
set_option maxRecDepth 100000
namespace Go.Proofs.Ytnjboimjlbgdiaa
open Go.RowKit Go.Cmp
set_option maxRecDepth 100000

section
variable {S : List Nat} {w0 w : World} {M : List Ent}
set_option maxHeartbeats 4000000 in
theorem entHeader_any (e : En) (w : World) :
    Calls Try.prog 43 #[.agg e.cells.toArray] w fun x w' => x = .returned (.agg (headE e).cells.toArray) ∧ St [] w w' [] := by
  have hS := St.init w
  obtain ⟨vw, po, un, par, cl, se, rq, opr, body⟩ := e
  simp only [En.cells, Hd.cells, headE]
  (go_enter Try.func43, Try.ntmps43)
  go_wp2_with (first | refine au1 (n := ?_) | (refine au2 (n := ?_); clear hS; intro w' hS) | (refine au3 (n := ?_); clear hS; intro gb w1 hS) | (refine au4 (n := ?_); clear hS; intro v1 w' hS) | ((with_reducible refine wl_guard ?_); refine stop_mem rfl rfl ?_))
  exact end_cell hS rfl rfl 0 rfl rfl rfl rfl rfl ⟨rfl, hS.nil⟩
set_option maxHeartbeats 8000000 in
theorem entRightL_any (e : En) (w : World) :
    Calls Try.prog 18 #[.agg e.cells.toArray] w fun x w' => x = .returned (.bool e.right) ∧ St [] w w' [] := by
  have hS := St.init w
  have HH := Lib.hid (fun w => entHeader_any e w)
  have HR := Lib.hid (fun w => headRight_any (headE e) w)
  obtain ⟨b0, hb0⟩ : ∃ b, (headE e).right = b := ⟨_, rfl⟩
  generalize ha : e.right = ans
  unfold En.right at ha
  rw [hb0] at HR ha
  clear hb0
  obtain ⟨vw, po, un, par, cl, se, rq, opr, body⟩ := e
  obtain ⟨hcells, hhc⟩ : ∃ c, (headE ⟨vw, po, un, par, cl, se, rq, opr, body⟩).cells = c := ⟨_, rfl⟩
  rw [hhc] at HR HH
  clear hhc
  simp only at ha
  have hbc : decide (body.length ≤ 200) = decide ((body.length : Int) ≤ 200) := decide_eq_decide.2 (by omega)
  rw [hbc] at ha
  clear hbc
  simp only [En.cells] at HH ⊢
  cases b0
  ·
    have HA : Hid (ans = false) := Lib.hid (by rw [← ha]; simp only [Bool.true_and, Bool.and_true, Bool.false_and, Bool.and_false])
    clear ha; (go_enter Try.func18, Try.ntmps18); go_wp2_with (first | (go_at_call 43; refine (HH.out _).mono ?_; rintro e w' ⟨rfl, h⟩; replace hS := hS.call h; clear h) | (go_at_call 42; refine (HR.out _).mono ?_; rintro e w' ⟨rfl, h⟩; replace hS := hS.call h; clear h) | (first | ((with_reducible refine g_load ?_); refine k_read rfl (h := ?_)) | ((with_reducible refine g_len ?_); refine k_len rfl (h := ?_)) | ((with_reducible refine g_box ?_); refine wl_of rfl ?_; refine wp_box hS rfl rfl rfl ?_; clear hS; intro gb w1 hS)))
    go_ret
    exact ⟨by rw [HA.out]; rfl, hS.nil⟩
  cases B0 : decide (1 ≤ po)
  ·
    have HA : Hid (ans = false) := Lib.hid (by rw [← ha]; simp only [B0, Bool.true_and, Bool.and_true, Bool.false_and, Bool.and_false])
    clear ha; (go_enter Try.func18, Try.ntmps18); go_wp2_with (first | (go_at_call 43; refine (HH.out _).mono ?_; rintro e w' ⟨rfl, h⟩; replace hS := hS.call h; clear h) | (go_at_call 42; refine (HR.out _).mono ?_; rintro e w' ⟨rfl, h⟩; replace hS := hS.call h; clear h) | (first | ((with_reducible refine g_load ?_); refine k_read rfl (h := ?_)) | ((with_reducible refine g_len ?_); refine k_len rfl (h := ?_)) | ((with_reducible refine g_box ?_); refine wl_of rfl ?_; refine wp_box hS rfl rfl rfl ?_; clear hS; intro gb w1 hS)))
    go_ret
    exact ⟨by rw [HA.out]; rfl, hS.nil⟩
  cases B1 : decide (1 ≤ cl)
  ·
    have HA : Hid (ans = false) := Lib.hid (by rw [← ha]; simp only [B0, B1, Bool.true_and, Bool.and_true, Bool.false_and, Bool.and_false])
    clear ha; (go_enter Try.func18, Try.ntmps18); go_wp2_with (first | (go_at_call 43; refine (HH.out _).mono ?_; rintro e w' ⟨rfl, h⟩; replace hS := hS.call h; clear h) | (go_at_call 42; refine (HR.out _).mono ?_; rintro e w' ⟨rfl, h⟩; replace hS := hS.call h; clear h) | (first | ((with_reducible refine g_load ?_); refine k_read rfl (h := ?_)) | ((with_reducible refine g_len ?_); refine k_len rfl (h := ?_)) | ((with_reducible refine g_box ?_); refine wl_of rfl ?_; refine wp_box hS rfl rfl rfl ?_; clear hS; intro gb w1 hS)))
    go_ret
    exact ⟨by rw [HA.out]; rfl, hS.nil⟩
  cases B2 : decide (1 ≤ opr)
  ·
    have HA : Hid (ans = false) := Lib.hid (by rw [← ha]; simp only [B0, B1, B2, Bool.true_and, Bool.and_true, Bool.false_and, Bool.and_false])
    clear ha; (go_enter Try.func18, Try.ntmps18); go_wp2_with (first | (go_at_call 43; refine (HH.out _).mono ?_; rintro e w' ⟨rfl, h⟩; replace hS := hS.call h; clear h) | (go_at_call 42; refine (HR.out _).mono ?_; rintro e w' ⟨rfl, h⟩; replace hS := hS.call h; clear h) | (first | ((with_reducible refine g_load ?_); refine k_read rfl (h := ?_)) | ((with_reducible refine g_len ?_); refine k_len rfl (h := ?_)) | ((with_reducible refine g_box ?_); refine wl_of rfl ?_; refine wp_box hS rfl rfl rfl ?_; clear hS; intro gb w1 hS)))
    go_ret
    exact ⟨by rw [HA.out]; rfl, hS.nil⟩
  cases B3 : decide (un ≤ vw)
  ·
    have HA : Hid (ans = false) := Lib.hid (by rw [← ha]; simp only [B0, B1, B2, B3, Bool.true_and, Bool.and_true, Bool.false_and, Bool.and_false])
    clear ha; (go_enter Try.func18, Try.ntmps18); go_wp2_with (first | (go_at_call 43; refine (HH.out _).mono ?_; rintro e w' ⟨rfl, h⟩; replace hS := hS.call h; clear h) | (go_at_call 42; refine (HR.out _).mono ?_; rintro e w' ⟨rfl, h⟩; replace hS := hS.call h; clear h) | (first | ((with_reducible refine g_load ?_); refine k_read rfl (h := ?_)) | ((with_reducible refine g_len ?_); refine k_len rfl (h := ?_)) | ((with_reducible refine g_box ?_); refine wl_of rfl ?_; refine wp_box hS rfl rfl rfl ?_; clear hS; intro gb w1 hS)))
    go_ret
    exact ⟨by rw [HA.out]; rfl, hS.nil⟩
  cases B4 : decide ((body.length : Int) ≤ 200)
  ·
    have HA : Hid (ans = false) := Lib.hid (by rw [← ha]; simp only [B0, B1, B2, B3, B4, Bool.true_and, Bool.and_true, Bool.false_and, Bool.and_false])
    clear ha; (go_enter Try.func18, Try.ntmps18); go_wp2_with (first | (go_at_call 43; refine (HH.out _).mono ?_; rintro e w' ⟨rfl, h⟩; replace hS := hS.call h; clear h) | (go_at_call 42; refine (HR.out _).mono ?_; rintro e w' ⟨rfl, h⟩; replace hS := hS.call h; clear h) | (first | ((with_reducible refine g_load ?_); refine k_read rfl (h := ?_)) | ((with_reducible refine g_len ?_); refine k_len rfl (h := ?_)) | ((with_reducible refine g_box ?_); refine wl_of rfl ?_; refine wp_box hS rfl rfl rfl ?_; clear hS; intro gb w1 hS)))
    go_ret
    exact ⟨by rw [HA.out]; rfl, hS.nil⟩
  have HA : Hid (ans = true) := Lib.hid (by rw [← ha]; simp only [B0, B1, B2, B3, B4, Bool.true_and, Bool.and_true, Bool.false_and, Bool.and_false])
  clear ha; (go_enter Try.func18, Try.ntmps18); go_wp2_with (first | (go_at_call 43; refine (HH.out _).mono ?_; rintro e w' ⟨rfl, h⟩; replace hS := hS.call h; clear h) | (go_at_call 42; refine (HR.out _).mono ?_; rintro e w' ⟨rfl, h⟩; replace hS := hS.call h; clear h) | (first | ((with_reducible refine g_load ?_); refine k_read rfl (h := ?_)) | ((with_reducible refine g_len ?_); refine k_len rfl (h := ?_)) | ((with_reducible refine g_box ?_); refine wl_of rfl ?_; refine wp_box hS rfl rfl rfl ?_; clear hS; intro gb w1 hS)))
  go_ret
  exact ⟨by rw [HA.out]; rfl, hS.nil⟩
theorem entRight_any (e : En) (_ : e.body.length ≤ 1000000000) (w : World) :
    Calls Try.prog 18 #[.agg e.cells.toArray] w fun x w' => x = .returned (.bool e.right) ∧ St [] w w' [] := entRightL_any e w
set_option maxHeartbeats 8000000 in
theorem entPack_any (e : En) (hp : e.parent < 18446744073709551616) (hb : e.body.length ≤ 1000000) (w : World) :
    Calls Try.prog 64 #[.agg e.cells.toArray] w fun x w' => x = .returned (.tuple #[.string ⟨(packE e).1.toArray⟩, .int .i64 (packE e).2]) ∧ St [] w w' [] := by
  have hS := St.init w
  have HH := Lib.hid (fun w => entHeader_any e w)
  have HR := Lib.hid (fun w => entRight_any e (by omega) w)
  have HP := Lib.hid (fun w => headPack_any (headE e) hp e.body hb w)
  cases hr : e.right
  · have ex := packE_bad hr
    rw [ex]
    rw [hr] at HR
    clear hr ex hp HP HH
    obtain ⟨vw, po, un, par, cl, se, rq, opr, body⟩ := e
    simp only [En.cells] at HR ⊢
    (go_enter Try.func64, Try.ntmps64)
    go_wp2_with (first | (go_at_call 18; refine (HR.out _).mono ?_; rintro e w' ⟨rfl, h⟩; replace hS := hS.call h; clear h) | (first | refine au1 (n := ?_) | (refine au2 (n := ?_); clear hS; intro w' hS) | (refine au3 (n := ?_); clear hS; intro gb w1 hS) | (refine au4 (n := ?_); clear hS; intro v1 w' hS) | ((with_reducible refine wl_guard ?_); refine stop_mem rfl rfl ?_)))
    go_ret2
    exact ⟨rfl, hS.nil⟩
  · have ex : packE e = packH (headE e) e.body := by unfold packE; rw [if_neg (by simp [hr])]
    rw [ex]
    rw [hr] at HR
    clear hr ex hp
    obtain ⟨vw, po, un, par, cl, se, rq, opr, body⟩ := e
    obtain ⟨PK, hPK⟩ : ∃ K, packH (headE ⟨vw, po, un, par, cl, se, rq, opr, body⟩) body = K := ⟨_, rfl⟩
    have HP2 : Hid (∀ w, Calls Try.prog 72 #[.agg (headE ⟨vw, po, un, par, cl, se, rq, opr, body⟩).cells.toArray, .string ⟨body.toArray⟩] w fun x w' => x = .returned (.tuple #[.string ⟨PK.1.toArray⟩, .int .i64 PK.2]) ∧ St [] w w' []) := Lib.hid (by rw [← hPK]; exact HP.out)
    rw [hPK]
    clear HP hPK
    obtain ⟨hcells, hhc⟩ : ∃ c, (headE ⟨vw, po, un, par, cl, se, rq, opr, body⟩).cells = c := ⟨_, rfl⟩
    rw [hhc] at HP2 HH
    clear hhc
    simp only [En.cells] at HR HH ⊢
    (go_enter Try.func64, Try.ntmps64)
    go_wp2_with (first | (go_at_call 18; refine (HR.out _).mono ?_; rintro e w' ⟨rfl, h⟩; replace hS := hS.call h; clear h) | (first | refine au1 (n := ?_) | (refine au2 (n := ?_); clear hS; intro w' hS) | (refine au3 (n := ?_); clear hS; intro gb w1 hS) | (refine au4 (n := ?_); clear hS; intro v1 w' hS) | ((with_reducible refine wl_guard ?_); refine stop_mem rfl rfl ?_)))
    refine region_calm (by kernel_rfl) (by kernel_rfl) hS ?_
    (refine Calm.read rfl (h := ?_); simp only [Act.put, List.setIfInBounds_toArray, List.set_cons_zero, List.set_cons_succ])
    (refine Calm.call (calm_makes HH.out) rfl (h := ?_); simp only [Act.put, List.setIfInBounds_toArray, List.set_cons_zero, List.set_cons_succ])
    (refine Calm.pure2 rfl (h := ?_); simp only [Act.put, List.setIfInBounds_toArray, List.set_cons_zero, List.set_cons_succ])
    (refine Calm.read rfl (h := ?_); simp only [Act.put, List.setIfInBounds_toArray, List.set_cons_zero, List.set_cons_succ])
    (refine Calm.call (calm_makes HP2.out) rfl (h := ?_); simp only [Act.put, List.setIfInBounds_toArray, List.set_cons_zero, List.set_cons_succ])
    (repeat (first | ((with_reducible refine c_call ?_); first | fail) | refine calm1 (n := ?_)))
    (refine Calm.nil ?_; clear hS; intro w8 hS)
    go_wp2_with (fail)
    go_ret2
    exact ⟨rfl, hS.nil⟩
end
end Go.Proofs.Ytnjboimjlbgdiaa
