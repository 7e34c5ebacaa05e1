/-
  Entries: the document's.
-/
import Derived.Test.YtjjiibcnknljfaaGreatEntA
import Derived.Test.YtjjiibcnknljfaaGreatCrc
import Derived.Test.YtjjiibcnknljfaaGreatDrift
set_option linter.unusedSimpArgs false
set_option linter.unusedVariables false
set_option linter.unusedSectionVars false
set_option maxRecDepth 100000
namespace Go.Proofs.YtjjiibcnknljfaaGreat
open Go.RowKit Go.Cmp
set_option maxRecDepth 100000

section
variable {S : List Nat} {w0 w : World} {M : List Ent}
theorem refFits9_b (n l : Int) {b : Bool} (hb : decide (fitsL l n) = b) (w : World) :
    Calls Tryz.prog 78 #[.int .i64 n, .int .i64 l] w fun e w' => e = .returned (.bool b) ∧ w' = w := by
  subst hb
  by_cases h1 : l ≤ n
  · have e1 : decide (l ≤ n) = true := by simpa using h1
    by_cases h2 : n ≤ 72057594037927935
    · have e2 : decide (n ≤ 72057594037927935) = true := by simpa using h2
      have HA : Hid (decide (fitsL l n) = true) := Lib.hid (decide_eq_true ⟨h1, h2⟩)
      (go_enter Tryz.func78, Tryz.ntmps78)
      go_wp2
      go_ret
      exact ⟨by rw [HA.out]; rfl, rfl⟩
    · have e2 : decide (n ≤ 72057594037927935) = false := by simpa using h2
      have HA : Hid (decide (fitsL l n) = false) := Lib.hid (decide_eq_false (fun h => h2 h.2))
      (go_enter Tryz.func78, Tryz.ntmps78)
      go_wp2
      go_ret
      exact ⟨by rw [HA.out]; rfl, rfl⟩
  · have e1 : decide (l ≤ n) = false := by simpa using h1
    have HA : Hid (decide (fitsL l n) = false) := Lib.hid (decide_eq_false (fun h => h1 h.1))
    (go_enter Tryz.func78, Tryz.ntmps78)
    go_wp2
    go_ret
    exact ⟨by rw [HA.out]; rfl, rfl⟩
set_option maxHeartbeats 16000000 in
theorem refRight9_any (e : En) (hb : e.body.length ≤ 1000000000) (w : World) :
    Calls Tryz.prog 45 #[.agg e.cells.toArray] w fun x w' => x = .returned (.bool e.right) ∧ St [] w w' [] := by
  have hS := St.init w
  rw [en_right_eq]
  obtain ⟨vw, po, un, par, cl, se, rq, opr, body⟩ := e
  simp only at hb
  simp only [En.cells]
  generalize ha : (decide (fitsL 1 po) && decide (fitsL 1 cl) && decide (fitsL 0 vw) && decide (fitsL 0 un) && decide (fitsL 0 se) && decide (fitsL 0 rq) && decide (un ≤ vw) && decide (1 ≤ opr) && decide (opr ≤ 255) && decide ((body.length : Int) ≤ 200)) = ans
  cases B0 : decide (fitsL 1 po)
  ·
    have HA : Hid (ans = false) := Lib.hid (by rw [← ha]; simp only [B0, Bool.true_and, Bool.and_true, Bool.false_and, Bool.and_false])
    clear ha; (go_enter Tryz.func45, Tryz.ntmps45); go_wp2_with (first | (go_at_call 78; refine (refFits9_b _ _ (by assumption) _).mono ?_; rintro e w' ⟨rfl, rfl⟩) | (first | refine au1 (n := ?_) | (refine au2 (n := ?_); clear hS; intro w' hS) | (refine au3 (n := ?_); clear hS; intro gb w1 hS) | (refine au4 (n := ?_); clear hS; intro v1 w' hS) | ((with_reducible refine wl_guard ?_); refine stop_mem rfl rfl ?_)))
    go_ret
    exact ⟨by rw [HA.out]; rfl, hS.nil⟩
  cases B1 : decide (fitsL 1 cl)
  ·
    have HA : Hid (ans = false) := Lib.hid (by rw [← ha]; simp only [B0, B1, Bool.true_and, Bool.and_true, Bool.false_and, Bool.and_false])
    clear ha; (go_enter Tryz.func45, Tryz.ntmps45); go_wp2_with (first | (go_at_call 78; refine (refFits9_b _ _ (by assumption) _).mono ?_; rintro e w' ⟨rfl, rfl⟩) | (first | refine au1 (n := ?_) | (refine au2 (n := ?_); clear hS; intro w' hS) | (refine au3 (n := ?_); clear hS; intro gb w1 hS) | (refine au4 (n := ?_); clear hS; intro v1 w' hS) | ((with_reducible refine wl_guard ?_); refine stop_mem rfl rfl ?_)))
    go_ret
    exact ⟨by rw [HA.out]; rfl, hS.nil⟩
  cases B2 : decide (fitsL 0 vw)
  ·
    have HA : Hid (ans = false) := Lib.hid (by rw [← ha]; simp only [B0, B1, B2, Bool.true_and, Bool.and_true, Bool.false_and, Bool.and_false])
    clear ha; (go_enter Tryz.func45, Tryz.ntmps45); go_wp2_with (first | (go_at_call 78; refine (refFits9_b _ _ (by assumption) _).mono ?_; rintro e w' ⟨rfl, rfl⟩) | (first | refine au1 (n := ?_) | (refine au2 (n := ?_); clear hS; intro w' hS) | (refine au3 (n := ?_); clear hS; intro gb w1 hS) | (refine au4 (n := ?_); clear hS; intro v1 w' hS) | ((with_reducible refine wl_guard ?_); refine stop_mem rfl rfl ?_)))
    go_ret
    exact ⟨by rw [HA.out]; rfl, hS.nil⟩
  cases B3 : decide (fitsL 0 un)
  ·
    have HA : Hid (ans = false) := Lib.hid (by rw [← ha]; simp only [B0, B1, B2, B3, Bool.true_and, Bool.and_true, Bool.false_and, Bool.and_false])
    clear ha; (go_enter Tryz.func45, Tryz.ntmps45); go_wp2_with (first | (go_at_call 78; refine (refFits9_b _ _ (by assumption) _).mono ?_; rintro e w' ⟨rfl, rfl⟩) | (first | refine au1 (n := ?_) | (refine au2 (n := ?_); clear hS; intro w' hS) | (refine au3 (n := ?_); clear hS; intro gb w1 hS) | (refine au4 (n := ?_); clear hS; intro v1 w' hS) | ((with_reducible refine wl_guard ?_); refine stop_mem rfl rfl ?_)))
    go_ret
    exact ⟨by rw [HA.out]; rfl, hS.nil⟩
  cases B4 : decide (fitsL 0 se)
  ·
    have HA : Hid (ans = false) := Lib.hid (by rw [← ha]; simp only [B0, B1, B2, B3, B4, Bool.true_and, Bool.and_true, Bool.false_and, Bool.and_false])
    clear ha; (go_enter Tryz.func45, Tryz.ntmps45); go_wp2_with (first | (go_at_call 78; refine (refFits9_b _ _ (by assumption) _).mono ?_; rintro e w' ⟨rfl, rfl⟩) | (first | refine au1 (n := ?_) | (refine au2 (n := ?_); clear hS; intro w' hS) | (refine au3 (n := ?_); clear hS; intro gb w1 hS) | (refine au4 (n := ?_); clear hS; intro v1 w' hS) | ((with_reducible refine wl_guard ?_); refine stop_mem rfl rfl ?_)))
    go_ret
    exact ⟨by rw [HA.out]; rfl, hS.nil⟩
  cases B5 : decide (fitsL 0 rq)
  ·
    have HA : Hid (ans = false) := Lib.hid (by rw [← ha]; simp only [B0, B1, B2, B3, B4, B5, Bool.true_and, Bool.and_true, Bool.false_and, Bool.and_false])
    clear ha; (go_enter Tryz.func45, Tryz.ntmps45); go_wp2_with (first | (go_at_call 78; refine (refFits9_b _ _ (by assumption) _).mono ?_; rintro e w' ⟨rfl, rfl⟩) | (first | refine au1 (n := ?_) | (refine au2 (n := ?_); clear hS; intro w' hS) | (refine au3 (n := ?_); clear hS; intro gb w1 hS) | (refine au4 (n := ?_); clear hS; intro v1 w' hS) | ((with_reducible refine wl_guard ?_); refine stop_mem rfl rfl ?_)))
    go_ret
    exact ⟨by rw [HA.out]; rfl, hS.nil⟩
  cases B6 : decide (un ≤ vw)
  ·
    have HA : Hid (ans = false) := Lib.hid (by rw [← ha]; simp only [B0, B1, B2, B3, B4, B5, B6, Bool.true_and, Bool.and_true, Bool.false_and, Bool.and_false])
    clear ha; (go_enter Tryz.func45, Tryz.ntmps45); go_wp2_with (first | (go_at_call 78; refine (refFits9_b _ _ (by assumption) _).mono ?_; rintro e w' ⟨rfl, rfl⟩) | (first | refine au1 (n := ?_) | (refine au2 (n := ?_); clear hS; intro w' hS) | (refine au3 (n := ?_); clear hS; intro gb w1 hS) | (refine au4 (n := ?_); clear hS; intro v1 w' hS) | ((with_reducible refine wl_guard ?_); refine stop_mem rfl rfl ?_)))
    go_ret
    exact ⟨by rw [HA.out]; rfl, hS.nil⟩
  cases B7 : decide (1 ≤ opr)
  ·
    have HA : Hid (ans = false) := Lib.hid (by rw [← ha]; simp only [B0, B1, B2, B3, B4, B5, B6, B7, Bool.true_and, Bool.and_true, Bool.false_and, Bool.and_false])
    clear ha; (go_enter Tryz.func45, Tryz.ntmps45); go_wp2_with (first | (go_at_call 78; refine (refFits9_b _ _ (by assumption) _).mono ?_; rintro e w' ⟨rfl, rfl⟩) | (first | refine au1 (n := ?_) | (refine au2 (n := ?_); clear hS; intro w' hS) | (refine au3 (n := ?_); clear hS; intro gb w1 hS) | (refine au4 (n := ?_); clear hS; intro v1 w' hS) | ((with_reducible refine wl_guard ?_); refine stop_mem rfl rfl ?_)))
    go_ret
    exact ⟨by rw [HA.out]; rfl, hS.nil⟩
  cases B8 : decide (opr ≤ 255)
  ·
    have HA : Hid (ans = false) := Lib.hid (by rw [← ha]; simp only [B0, B1, B2, B3, B4, B5, B6, B7, B8, Bool.true_and, Bool.and_true, Bool.false_and, Bool.and_false])
    clear ha; (go_enter Tryz.func45, Tryz.ntmps45); go_wp2_with (first | (go_at_call 78; refine (refFits9_b _ _ (by assumption) _).mono ?_; rintro e w' ⟨rfl, rfl⟩) | (first | refine au1 (n := ?_) | (refine au2 (n := ?_); clear hS; intro w' hS) | (refine au3 (n := ?_); clear hS; intro gb w1 hS) | (refine au4 (n := ?_); clear hS; intro v1 w' hS) | ((with_reducible refine wl_guard ?_); refine stop_mem rfl rfl ?_)))
    go_ret
    exact ⟨by rw [HA.out]; rfl, hS.nil⟩
  cases B9 : decide ((body.length : Int) ≤ 200)
  ·
    have HA : Hid (ans = false) := Lib.hid (by rw [← ha]; simp only [B0, B1, B2, B3, B4, B5, B6, B7, B8, B9, Bool.true_and, Bool.and_true, Bool.false_and, Bool.and_false])
    clear ha; (go_enter Tryz.func45, Tryz.ntmps45); go_wp2_with (first | (go_at_call 78; refine (refFits9_b _ _ (by assumption) _).mono ?_; rintro e w' ⟨rfl, rfl⟩) | (first | refine au1 (n := ?_) | (refine au2 (n := ?_); clear hS; intro w' hS) | (refine au3 (n := ?_); clear hS; intro gb w1 hS) | (refine au4 (n := ?_); clear hS; intro v1 w' hS) | ((with_reducible refine wl_guard ?_); refine stop_mem rfl rfl ?_)))
    go_ret
    exact ⟨by rw [HA.out]; rfl, hS.nil⟩
  have HA : Hid (ans = true) := Lib.hid (by rw [← ha]; simp only [B0, B1, B2, B3, B4, B5, B6, B7, B8, B9, Bool.true_and, Bool.and_true, Bool.false_and, Bool.and_false])
  clear ha; (go_enter Tryz.func45, Tryz.ntmps45); go_wp2_with (first | (go_at_call 78; refine (refFits9_b _ _ (by assumption) _).mono ?_; rintro e w' ⟨rfl, rfl⟩) | (first | refine au1 (n := ?_) | (refine au2 (n := ?_); clear hS; intro w' hS) | (refine au3 (n := ?_); clear hS; intro gb w1 hS) | (refine au4 (n := ?_); clear hS; intro v1 w' hS) | ((with_reducible refine wl_guard ?_); refine stop_mem rfl rfl ?_)))
  go_ret
  exact ⟨by rw [HA.out]; rfl, hS.nil⟩
set_option maxHeartbeats 8000000 in
theorem refPack9_any (e : En) (hp : e.parent < 18446744073709551616) (hb : e.body.length ≤ 1000000) (w : World) :
    Calls Tryz.prog 109 #[.agg e.cells.toArray] w fun x w' => x = .returned (.tuple #[.string ⟨(packE e).1.toArray⟩, .int .i64 (packE e).2]) ∧ St [] w w' [] := by
  have hS := St.init w
  have HR := Lib.hid (fun w => refRight9_any e (by omega) w)
  have HP := Lib.hid (fun w => refPack_any (headE e) hp e.body hb w)
  cases hr : e.right
  · have ex := packE_bad hr
    rw [ex]
    rw [hr] at HR
    clear hr ex hp HP
    obtain ⟨vw, po, un, par, cl, se, rq, opr, body⟩ := e
    simp only [En.cells] at HR ⊢
    (go_enter Tryz.func109, Tryz.ntmps109)
    go_wp2_with (first | (go_at_call 45; refine (HR.out _).mono ?_; rintro e w' ⟨rfl, h⟩; replace hS := hS.call h; clear h) | (first | refine au1 (n := ?_) | (refine au2 (n := ?_); clear hS; intro w' hS) | (refine au3 (n := ?_); clear hS; intro gb w1 hS) | (refine au4 (n := ?_); clear hS; intro v1 w' hS) | ((with_reducible refine wl_guard ?_); refine stop_mem rfl rfl ?_)))
    go_ret2
    exact ⟨rfl, hS.nil⟩
  · have ex : packE e = packH (headE e) e.body := by unfold packE; rw [if_neg (by simp [hr])]
    rw [ex]
    rw [hr] at HR
    clear hr ex hp
    obtain ⟨vw, po, un, par, cl, se, rq, opr, body⟩ := e
    obtain ⟨PK, hPK⟩ : ∃ K, packH (headE ⟨vw, po, un, par, cl, se, rq, opr, body⟩) body = K := ⟨_, rfl⟩
    have HP2 : Hid (∀ w, Calls Tryz.prog 132 #[.agg (headE ⟨vw, po, un, par, cl, se, rq, opr, body⟩).cells.toArray, .string ⟨body.toArray⟩] w fun x w' => x = .returned (.tuple #[.string ⟨PK.1.toArray⟩, .int .i64 PK.2]) ∧ St [] w w' []) := Lib.hid (by rw [← hPK]; exact HP.out)
    rw [hPK]
    clear HP hPK
    simp only [En.cells, Hd.cells, headE] at HR HP2 ⊢
    (go_enter Tryz.func109, Tryz.ntmps109)
    go_wp2_with (first | (go_at_call 45; refine (HR.out _).mono ?_; rintro e w' ⟨rfl, h⟩; replace hS := hS.call h; clear h) | (go_at_call 132; refine (HP2.out _).mono ?_; rintro e w' ⟨rfl, h⟩; replace hS := hS.call h; clear h) | (first | refine au1 (n := ?_) | (refine au2 (n := ?_); clear hS; intro w' hS) | (refine au3 (n := ?_); clear hS; intro gb w1 hS) | (refine au4 (n := ?_); clear hS; intro v1 w' hS) | ((with_reducible refine wl_guard ?_); refine stop_mem rfl rfl ?_)))
    go_ret2
    exact ⟨rfl, hS.nil⟩
set_option maxHeartbeats 8000000 in
theorem refMark9_any (e : En) (hp : e.parent < 18446744073709551616) (hb : e.body.length ≤ 1000000) (w : World) :
    Calls Tryz.prog 79 #[.agg e.cells.toArray] w fun x w' => x = .returned (.agg (markE e).cells.toArray) ∧ St [] w w' [] := by
  have hS := St.init w
  have HP := Lib.hid (fun w => refPack9_any e hp hb w)
  have herr := packE_err e
  have hlen := packE_len e
  have HC := Lib.hid (fun w => refChain_any e.parent hp (packE e).1 (by omega) w)
  have hm : markE e = if (packE e).2 = 0 then ⟨e.op, e.view, markSum e⟩ else ⟨0, 0, 0⟩ := rfl
  unfold markSum at hm
  obtain ⟨m, hmm⟩ : ∃ m, markE e = m := ⟨_, rfl⟩
  rw [hmm] at hm ⊢
  obtain ⟨PK, hPK⟩ : ∃ K, packE e = K := ⟨_, rfl⟩
  rw [hPK] at HP HC herr hlen hm
  obtain ⟨pk, f⟩ := PK
  simp only at herr hlen HC hm HP
  clear hmm hPK
  obtain ⟨vw, po, un, par, cl, se, rq, opr, body⟩ := e
  simp only [En.cells] at HP HC hm ⊢
  obtain ⟨q, hq⟩ : ∃ q, chainOf par pk = q := ⟨_, rfl⟩
  rw [hq] at HC hm
  clear hq
  rcases herr with rfl | rfl
  · have HM : Hid (m = ⟨po, vw, q⟩) := Lib.hid (by rw [hm, if_pos rfl])
    clear hm
    (go_enter Tryz.func79, Tryz.ntmps79)
    go_wp2_with (first | ((with_reducible refine g_box ?_); refine wl_of rfl ?_; refine wp_box hS rfl rfl rfl ?_; clear hS; intro gb0 w1 hS) | (go_at_call 109; refine (HP.out _).mono ?_; rintro e w' ⟨rfl, h⟩; replace hS := hS.call h; clear h) | (first | refine au1 (n := ?_) | (refine au2 (n := ?_); clear hS; intro w' hS) | (refine au3 (n := ?_); clear hS; intro gb w1 hS) | (refine au4 (n := ?_); clear hS; intro v1 w' hS) | ((with_reducible refine wl_guard ?_); refine stop_mem rfl rfl ?_)))
    refine region_drift 9 [.row gb [.int .i64 0, .int .i64 0, .int .u64 0] 38 (0, 0)] [.row gb0 [.int .i64 vw, .int .i64 po, .int .i64 un, .int .u64 par, .int .i64 cl, .int .i64 se, .int .i64 rq, .int .i64 opr, .string ⟨body.toArray⟩] 34 (0, 0)] hS.pick (by kernel_rfl) ?_
    clear hS
    intro F wx hR hB hS
    (refine d_take 0 rfl rfl (by kernel_rfl) (by kernel_rfl) (by kernel_rfl) (fun _ _ _ h => h) (by kernel_rfl) rfl (fun W hW => (by (go_simp; try with_reducible rfl))) hS.base ?_; simp only [Act.put, List.setIfInBounds_toArray, List.set_cons_zero, List.set_cons_succ])
    (refine d_take 1 rfl rfl (by kernel_rfl) (by kernel_rfl) (by kernel_rfl) (fun _ _ _ h => h) (by kernel_rfl) rfl (fun W hW => rdR) hS.base ?_; simp only [Act.put, List.setIfInBounds_toArray, List.set_cons_zero, List.set_cons_succ])
    (refine d_take 2 rfl rfl (by kernel_rfl) (by kernel_rfl) (by kernel_rfl) (fun _ _ _ h => h) (by kernel_rfl) rfl (fun W hW => (by (go_simp; try with_reducible rfl))) hS.base ?_; simp only [Act.put, List.setIfInBounds_toArray, List.set_cons_zero, List.set_cons_succ])
    (refine d_take 3 rfl rfl (by kernel_rfl) (by kernel_rfl) (by kernel_rfl) (fun _ _ _ h => h) (by kernel_rfl) rfl (fun W hW => rdR) hS.base ?_; simp only [Act.put, List.setIfInBounds_toArray, List.set_cons_zero, List.set_cons_succ])
    (refine d_take 4 rfl rfl (by kernel_rfl) (by kernel_rfl) (by kernel_rfl) (fun _ _ _ h => h) (by kernel_rfl) rfl (fun W hW => (by (go_simp; try with_reducible rfl))) hS.base ?_; simp only [Act.put, List.setIfInBounds_toArray, List.set_cons_zero, List.set_cons_succ])
    (refine d_take 5 rfl rfl (by kernel_rfl) (by kernel_rfl) (by kernel_rfl) (fun _ _ _ h => h) (by kernel_rfl) rfl (fun W hW => rdR) hS.base ?_; simp only [Act.put, List.setIfInBounds_toArray, List.set_cons_zero, List.set_cons_succ])
    (refine d_take 6 rfl rfl (by kernel_rfl) (by kernel_rfl) (by kernel_rfl) (fun _ _ _ h => h) (by kernel_rfl) rfl (fun W hW => (by (go_simp; try with_reducible rfl))) hS.base ?_; simp only [Act.put, List.setIfInBounds_toArray, List.set_cons_zero, List.set_cons_succ])
    (refine d_call 7 rfl rfl (by kernel_rfl) (by kernel_rfl) (by kernel_rfl) (fun _ _ _ h => h) (by kernel_rfl) rfl (fun W => by go_simp) hS.base (fun W hW => (HC.out W).mono (fun _ _ k => ⟨k.1, k.2 ▸ St.init W⟩)) ?_; simp only [Act.put, List.setIfInBounds_toArray, List.set_cons_zero, List.set_cons_succ])
    (refine d_take 8 rfl rfl (by kernel_rfl) (by kernel_rfl) (by kernel_rfl) (fun _ _ _ h => h) (by kernel_rfl) rfl (fun W hW => (by (go_simp; try with_reducible rfl))) hS.base ?_; simp only [Act.put, List.setIfInBounds_toArray, List.set_cons_zero, List.set_cons_succ])
    (refine d_all (rs := [9]) (by kernel_rfl) (by simp) ?_; intro wd hd; replace hS := hS.same hd; clear hd; intro i hi; have hi := List.mem_singleton.1 hi; subst hi)
    refine won_of rfl rfl rfl (a_storeA (vs := [.int .i64 po, .int .i64 vw, .int .u64 q]) (cs' := [.int .i64 po, .int .i64 vw, .int .u64 q]) hS rfl rfl rfl (by rfl) (by simp [Value.oneCell']) Sw.here (by simp) (by rfl) ?_)
    clear hS
    intro w3 hS
    replace hS := hB _ _ hS
    (refine ⟨fun h => absurd rfl h, ?_⟩; refine d_done (by kernel_rfl) ?_ _; intro wd hd; replace hS := hS.same hd; clear hd)
    simp only [Act.put, List.setIfInBounds_toArray, List.set_cons_zero, List.set_cons_succ]
    go_wp2_with (fail)
    exact end_cell hS rfl rfl 0 rfl rfl rfl rfl rfl ⟨by rw [HM.out]; rfl, hS.nil⟩
  · have HM : Hid (m = ⟨0, 0, 0⟩) := Lib.hid (by rw [hm, if_neg (by decide)])
    clear hm
    (go_enter Tryz.func79, Tryz.ntmps79)
    go_wp2_with (first | (go_at_call 109; refine (HP.out _).mono ?_; rintro e w' ⟨rfl, h⟩; replace hS := hS.call h; clear h) | (first | refine au1 (n := ?_) | (refine au2 (n := ?_); clear hS; intro w' hS) | (refine au3 (n := ?_); clear hS; intro gb w1 hS) | (refine au4 (n := ?_); clear hS; intro v1 w' hS) | ((with_reducible refine wl_guard ?_); refine stop_mem rfl rfl ?_)))
    exact end_cell hS rfl rfl 0 rfl rfl rfl rfl rfl ⟨by rw [HM.out]; rfl, hS.nil⟩
end
end Go.Proofs.YtjjiibcnknljfaaGreat
