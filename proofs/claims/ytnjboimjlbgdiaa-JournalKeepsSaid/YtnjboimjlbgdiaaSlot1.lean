/-
  Slots: the program lays them.
-/
import Derived.Test.YtnjboimjlbgdiaaSlotP
import Derived.Test.YtnjboimjlbgdiaaFieldV
import Derived.Test.YtnjboimjlbgdiaaEnt3
import Derived.Test.YtnjboimjlbgdiaaSeal1
set_option linter.unusedSimpArgs false
set_option linter.unusedVariables false
set_option linter.unusedSectionVars false
set_option maxRecDepth 100000
namespace Go.Proofs.Ytnjboimjlbgdiaa
open Go.RowKit Go.Cmp
set_option maxRecDepth 100000

section
variable {S : List Nat} {w0 w : World} {M : List Ent}
set_option maxHeartbeats 8000000 in
theorem slotRight_any (s : Stb) (w : World) :
    Calls Try.prog 60 #[.agg s.cells.toArray] w fun x w' => x = .returned (.bool s.right) ∧ St [] w w' [] := by
  have hS := St.init w
  generalize ha : s.right = ans
  unfold Stb.right at ha
  obtain ⟨so, sv, su, sp, ss⟩ := s
  simp only at ha
  simp only [Stb.cells]
  cases B0 : decide (1 ≤ so)
  ·
    have HA : Hid (ans = false) := Lib.hid (by rw [← ha]; simp only [B0, Bool.true_and, Bool.and_true, Bool.false_and, Bool.and_false])
    clear ha
    (go_enter Try.func60, Try.ntmps60)
    go_wp2_with (first | refine au1 (n := ?_) | (refine au2 (n := ?_); clear hS; intro w' hS) | (refine au3 (n := ?_); clear hS; intro gb w1 hS) | (refine au4 (n := ?_); clear hS; intro v1 w' hS) | ((with_reducible refine wl_guard ?_); refine stop_mem rfl rfl ?_))
    go_ret
    exact ⟨by rw [HA.out]; rfl, hS.nil⟩
  cases B1 : decide (so ≤ 72057594037927935)
  ·
    have HA : Hid (ans = false) := Lib.hid (by rw [← ha]; simp only [B0, B1, Bool.true_and, Bool.and_true, Bool.false_and, Bool.and_false])
    clear ha
    (go_enter Try.func60, Try.ntmps60)
    go_wp2_with (first | refine au1 (n := ?_) | (refine au2 (n := ?_); clear hS; intro w' hS) | (refine au3 (n := ?_); clear hS; intro gb w1 hS) | (refine au4 (n := ?_); clear hS; intro v1 w' hS) | ((with_reducible refine wl_guard ?_); refine stop_mem rfl rfl ?_))
    go_ret
    exact ⟨by rw [HA.out]; rfl, hS.nil⟩
  cases B2 : decide (0 ≤ su)
  ·
    have HA : Hid (ans = false) := Lib.hid (by rw [← ha]; simp only [B0, B1, B2, Bool.true_and, Bool.and_true, Bool.false_and, Bool.and_false])
    clear ha
    (go_enter Try.func60, Try.ntmps60)
    go_wp2_with (first | refine au1 (n := ?_) | (refine au2 (n := ?_); clear hS; intro w' hS) | (refine au3 (n := ?_); clear hS; intro gb w1 hS) | (refine au4 (n := ?_); clear hS; intro v1 w' hS) | ((with_reducible refine wl_guard ?_); refine stop_mem rfl rfl ?_))
    go_ret
    exact ⟨by rw [HA.out]; rfl, hS.nil⟩
  cases B3 : decide (su ≤ sv)
  ·
    have HA : Hid (ans = false) := Lib.hid (by rw [← ha]; simp only [B0, B1, B2, B3, Bool.true_and, Bool.and_true, Bool.false_and, Bool.and_false])
    clear ha
    (go_enter Try.func60, Try.ntmps60)
    go_wp2_with (first | refine au1 (n := ?_) | (refine au2 (n := ?_); clear hS; intro w' hS) | (refine au3 (n := ?_); clear hS; intro gb w1 hS) | (refine au4 (n := ?_); clear hS; intro v1 w' hS) | ((with_reducible refine wl_guard ?_); refine stop_mem rfl rfl ?_))
    go_ret
    exact ⟨by rw [HA.out]; rfl, hS.nil⟩
  cases B4 : decide (sv ≤ 72057594037927935)
  ·
    have HA : Hid (ans = false) := Lib.hid (by rw [← ha]; simp only [B0, B1, B2, B3, B4, Bool.true_and, Bool.and_true, Bool.false_and, Bool.and_false])
    clear ha
    (go_enter Try.func60, Try.ntmps60)
    go_wp2_with (first | refine au1 (n := ?_) | (refine au2 (n := ?_); clear hS; intro w' hS) | (refine au3 (n := ?_); clear hS; intro gb w1 hS) | (refine au4 (n := ?_); clear hS; intro v1 w' hS) | ((with_reducible refine wl_guard ?_); refine stop_mem rfl rfl ?_))
    go_ret
    exact ⟨by rw [HA.out]; rfl, hS.nil⟩
  have HA : Hid (ans = true) := Lib.hid (by rw [← ha]; simp only [B0, B1, B2, B3, B4, Bool.true_and, Bool.and_true, Bool.false_and, Bool.and_false])
  clear ha
  (go_enter Try.func60, Try.ntmps60)
  go_wp2_with (first | refine au1 (n := ?_) | (refine au2 (n := ?_); clear hS; intro w' hS) | (refine au3 (n := ?_); clear hS; intro gb w1 hS) | (refine au4 (n := ?_); clear hS; intro v1 w' hS) | ((with_reducible refine wl_guard ?_); refine stop_mem rfl rfl ?_))
  go_ret
  exact ⟨by rw [HA.out]; rfl, hS.nil⟩
set_option maxHeartbeats 8000000 in
theorem slotStubOf_any (e : En) (hp : e.parent < 18446744073709551616) (hb : e.body.length ≤ 1000000) (w : World) :
    Calls Try.prog 20 #[.agg e.cells.toArray] w fun x w' => x = .returned (.agg (stubE e).cells.toArray) ∧ St [] w w' [] := by
  have hS := St.init w
  have HR := Lib.hid (fun w => entRight_any e (by omega) w)
  have HM := Lib.hid (fun w => entMark_any e hp hb w)
  cases hr : e.right
  · have ex : stubE e = zeroB := by unfold stubE; rw [if_pos hr]
    rw [ex]
    rw [hr] at HR
    clear hr ex hp HM
    obtain ⟨vw, po, un, par, cl, se, rq, opr, body⟩ := e
    simp only [En.cells] at HR ⊢
    (go_enter Try.func20, Try.ntmps20)
    go_wp2_with (first | (go_at_call 18; refine (HR.out _).mono ?_; rintro e w' ⟨rfl, h⟩; replace hS := hS.call h; clear h) | (first | refine au1 (n := ?_) | (refine au2 (n := ?_); clear hS; intro w' hS) | (refine au3 (n := ?_); clear hS; intro gb w1 hS) | (refine au4 (n := ?_); clear hS; intro v1 w' hS) | ((with_reducible refine wl_guard ?_); refine stop_mem rfl rfl ?_)))
    exact end_cell hS rfl rfl 0 rfl rfl rfl rfl rfl ⟨rfl, hS.nil⟩
  · have ex : stubE e = ⟨e.op, e.view, e.under, e.parent, markSum e⟩ := by unfold stubE; rw [if_neg (by simp [hr])]
    have em : markE e = ⟨e.op, e.view, markSum e⟩ := by unfold markE; rw [packE_ok hr]; rfl
    rw [ex]
    rw [hr] at HR
    rw [em] at HM
    clear hr ex em hp
    obtain ⟨q, hq⟩ : ∃ q, markSum e = q := ⟨_, rfl⟩
    rw [hq] at HM ⊢
    clear hq
    obtain ⟨vw, po, un, par, cl, se, rq, opr, body⟩ := e
    simp only [En.cells, Mk.cells, Stb.cells] at HR HM ⊢
    (go_enter Try.func20, Try.ntmps20)
    go_wp2_with (first | ((with_reducible refine g_box ?_); refine wl_of rfl ?_; refine wp_box hS rfl rfl rfl ?_; clear hS; intro gb0 w1 hS) | (go_at_call 18; refine (HR.out _).mono ?_; rintro e w' ⟨rfl, h⟩; replace hS := hS.call h; clear h) | (first | refine au1 (n := ?_) | (refine au2 (n := ?_); clear hS; intro w' hS) | (refine au3 (n := ?_); clear hS; intro gb w1 hS) | (refine au4 (n := ?_); clear hS; intro v1 w' hS) | ((with_reducible refine wl_guard ?_); refine stop_mem rfl rfl ?_)))
    refine region_drift 12 [.row gb [.int .i64 0, .int .i64 0, .int .i64 0, .int .u64 0, .int .u64 0] 35 (0, 0)] [.row gb0 [.int .i64 vw, .int .i64 po, .int .i64 un, .int .u64 par, .int .i64 cl, .int .i64 se, .int .i64 rq, .int .i64 opr, .string ⟨body.toArray⟩] 24 (0, 0)] hS.pick (by kernel_rfl) ?_
    clear hS
    intro F wx hR hB hS
    (refine d_take 0 rfl rfl (by kernel_rfl) (by kernel_rfl) (by kernel_rfl) (fun _ _ _ h => h) (by kernel_rfl) rfl (fun W hW => (by (go_simp; try with_reducible rfl))) hS.base ?_; simp only [Act.put, List.setIfInBounds_toArray, List.set_cons_zero, List.set_cons_succ])
    (refine d_take 1 rfl rfl (by kernel_rfl) (by kernel_rfl) (by kernel_rfl) (fun _ _ _ h => h) (by kernel_rfl) rfl (fun W hW => rdR) hS.base ?_; simp only [Act.put, List.setIfInBounds_toArray, List.set_cons_zero, List.set_cons_succ])
    (refine d_take 2 rfl rfl (by kernel_rfl) (by kernel_rfl) (by kernel_rfl) (fun _ _ _ h => h) (by kernel_rfl) rfl (fun W hW => (by (go_simp; try with_reducible rfl))) hS.base ?_; simp only [Act.put, List.setIfInBounds_toArray, List.set_cons_zero, List.set_cons_succ])
    (refine d_take 3 rfl rfl (by kernel_rfl) (by kernel_rfl) (by kernel_rfl) (fun _ _ _ h => h) (by kernel_rfl) rfl (fun W hW => rdR) hS.base ?_; simp only [Act.put, List.setIfInBounds_toArray, List.set_cons_zero, List.set_cons_succ])
    (refine d_take 4 rfl rfl (by kernel_rfl) (by kernel_rfl) (by kernel_rfl) (fun _ _ _ h => h) (by kernel_rfl) rfl (fun W hW => (by (go_simp; try with_reducible rfl))) hS.base ?_; simp only [Act.put, List.setIfInBounds_toArray, List.set_cons_zero, List.set_cons_succ])
    (refine d_take 5 rfl rfl (by kernel_rfl) (by kernel_rfl) (by kernel_rfl) (fun _ _ _ h => h) (by kernel_rfl) rfl (fun W hW => rdR) hS.base ?_; simp only [Act.put, List.setIfInBounds_toArray, List.set_cons_zero, List.set_cons_succ])
    (refine d_take 6 rfl rfl (by kernel_rfl) (by kernel_rfl) (by kernel_rfl) (fun _ _ _ h => h) (by kernel_rfl) rfl (fun W hW => (by (go_simp; try with_reducible rfl))) hS.base ?_; simp only [Act.put, List.setIfInBounds_toArray, List.set_cons_zero, List.set_cons_succ])
    (refine d_take 7 rfl rfl (by kernel_rfl) (by kernel_rfl) (by kernel_rfl) (fun _ _ _ h => h) (by kernel_rfl) rfl (fun W hW => rdR) hS.base ?_; simp only [Act.put, List.setIfInBounds_toArray, List.set_cons_zero, List.set_cons_succ])
    (refine d_take 8 rfl rfl (by kernel_rfl) (by kernel_rfl) (by kernel_rfl) (fun _ _ _ h => h) (by kernel_rfl) rfl (fun W hW => rdR) hS.base ?_; simp only [Act.put, List.setIfInBounds_toArray, List.set_cons_zero, List.set_cons_succ])
    (refine d_call 9 rfl rfl (by kernel_rfl) (by kernel_rfl) (by kernel_rfl) (fun _ _ _ h => h) (by kernel_rfl) rfl (fun W => by go_simp) hS.base (fun W hW => HM.out W) ?_; simp only [Act.put, List.setIfInBounds_toArray, List.set_cons_zero, List.set_cons_succ])
    (refine d_take (v := (.int .u64 q)) 10 rfl rfl (by kernel_rfl) (by kernel_rfl) (by kernel_rfl) (fun _ _ _ h => h) (by kernel_rfl) rfl (fun W hW => by (exact a_fieldV rfl rfl rfl rfl rfl rfl rfl)) hS.base ?_; simp only [Act.put, List.setIfInBounds_toArray, List.set_cons_zero, List.set_cons_succ])
    (refine d_take 11 rfl rfl (by kernel_rfl) (by kernel_rfl) (by kernel_rfl) (fun _ _ _ h => h) (by kernel_rfl) rfl (fun W hW => (by (go_simp; try with_reducible rfl))) hS.base ?_; simp only [Act.put, List.setIfInBounds_toArray, List.set_cons_zero, List.set_cons_succ])
    (refine d_all (rs := [12]) (by kernel_rfl) (by simp) ?_; intro wd hd; replace hS := hS.same hd; clear hd; intro i hi; have hi := List.mem_singleton.1 hi; subst hi)
    refine won_of rfl rfl rfl (a_storeA (vs := [.int .i64 po, .int .i64 vw, .int .i64 un, .int .u64 par, .int .u64 q]) (cs' := [.int .i64 po, .int .i64 vw, .int .i64 un, .int .u64 par, .int .u64 q]) hS rfl rfl rfl (by rfl) (by simp [Value.oneCell']) Sw.here (by simp) (by rfl) ?_)
    clear hS
    intro w3 hS
    replace hS := hB _ _ hS
    (refine ⟨fun h => absurd rfl h, ?_⟩; refine d_done (by kernel_rfl) ?_ _; intro wd hd; replace hS := hS.same hd; clear hd)
    simp only [Act.put, List.setIfInBounds_toArray, List.set_cons_zero, List.set_cons_succ]
    go_wp2_with (fail)
    exact end_cell hS rfl rfl 0 rfl rfl rfl rfl rfl ⟨rfl, hS.nil⟩
set_option maxHeartbeats 4000000 in
theorem slotPrepare_any (old : List UInt8) (e : En) (ho : old.length ≤ 1000000) (hp : e.parent < 18446744073709551616) (hb : e.body.length ≤ 1000000) (w : World) :
    Calls Try.prog 56 #[.string ⟨old.toArray⟩, .agg e.cells.toArray] w fun x w' => x = .returned (.tuple #[.string ⟨(prepS old e).1.toArray⟩, .int .i64 (prepS old e).2]) ∧ St [] w w' [] := by
  have hS := St.init w
  have HP := Lib.hid (fun w => entPack_any e hp hb w)
  have herr := packE_err e
  have hlen := packE_len e
  have hx : prepS old e = if (packE e).2 = 0 then sealS old (packE e).1 else ([], (packE e).2) := rfl
  have HS := Lib.hid (fun w => seal_any old (packE e).1 ho (by omega) w)
  rw [hx]
  clear hx
  obtain ⟨PK, hPK⟩ : ∃ K, packE e = K := ⟨_, rfl⟩
  rw [hPK] at HP HS herr hlen ⊢
  obtain ⟨pk, f⟩ := PK
  simp only at HP HS herr hlen ⊢
  clear hPK
  obtain ⟨vw, po, un, par, cl, se, rq, opr, body⟩ := e
  simp only [En.cells] at HP ⊢
  rcases herr with rfl | rfl
  · rw [if_pos rfl]
    obtain ⟨R, hR⟩ : ∃ R, sealS old pk = R := ⟨_, rfl⟩
    rw [hR] at HS ⊢
    clear hR
    (go_enter Try.func56, Try.ntmps56)
    go_wp2_with (first | (go_at_call 64; refine (HP.out _).mono ?_; rintro e w' ⟨rfl, h⟩; replace hS := hS.call h; clear h) | (go_at_call 54; refine (HS.out _).mono ?_; rintro e w' ⟨rfl, h⟩; replace hS := hS.call h; clear h) | (first | refine au1 (n := ?_) | (refine au2 (n := ?_); clear hS; intro w' hS) | (refine au3 (n := ?_); clear hS; intro gb w1 hS) | (refine au4 (n := ?_); clear hS; intro v1 w' hS) | ((with_reducible refine wl_guard ?_); refine stop_mem rfl rfl ?_)))
    go_ret2
    exact ⟨rfl, hS.nil⟩
  · rw [if_neg (by decide)]
    clear HS
    (go_enter Try.func56, Try.ntmps56)
    go_wp2_with (first | (go_at_call 64; refine (HP.out _).mono ?_; rintro e w' ⟨rfl, h⟩; replace hS := hS.call h; clear h) | (first | refine au1 (n := ?_) | (refine au2 (n := ?_); clear hS; intro w' hS) | (refine au3 (n := ?_); clear hS; intro gb w1 hS) | (refine au4 (n := ?_); clear hS; intro v1 w' hS) | ((with_reducible refine wl_guard ?_); refine stop_mem rfl rfl ?_)))
    go_ret2
    exact ⟨rfl, hS.nil⟩
theorem slotVoid_any (old : List UInt8) (ho : old.length ≤ 1000000) (w : World) :
    Calls Try.prog 34 #[.string ⟨old.toArray⟩] w fun x w' => x = .returned (.string ⟨(voidS old).toArray⟩) ∧ St [] w w' [] := by
  have hS := St.init w
  have HS : Hid (∀ w, Calls Try.prog 54 #[.string ⟨old.toArray⟩, .string ⟨#[]⟩] w fun x w' => x = .returned (.tuple #[.string ⟨(voidS old).toArray⟩, .int .i64 (sealS old []).2]) ∧ St [] w w' []) := Lib.hid (fun w => seal_any old [] ho (by simp) w)
  generalize (sealS old []).2 = f at HS
  generalize voidS old = R at HS ⊢
  (go_enter Try.func34, Try.ntmps34)
  go_wp2_with (first | (go_at_call 54; refine (HS.out _).mono ?_; rintro e w' ⟨rfl, h⟩; replace hS := hS.call h; clear h) | (first | refine au1 (n := ?_) | (refine au2 (n := ?_); clear hS; intro w' hS) | (refine au3 (n := ?_); clear hS; intro gb w1 hS) | (refine au4 (n := ?_); clear hS; intro v1 w' hS) | ((with_reducible refine wl_guard ?_); refine stop_mem rfl rfl ?_)))
  go_ret
  exact ⟨rfl, hS.nil⟩
end
end Go.Proofs.Ytnjboimjlbgdiaa
