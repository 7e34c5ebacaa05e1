/-
  Superblocks on a disk: the document's Write.
-/
import Derived.Test.YtbfdnpahojoccaaSup12
import Derived.Test.YtbfdnpahojoccaaSupB
import Derived.Test.YtbfdnpahojoccaaSeal4
import Derived.Test.YtbfdnpahojoccaaRef3B
set_option linter.unusedSimpArgs false
set_option linter.unusedVariables false
set_option linter.unusedSectionVars false
set_option maxRecDepth 100000
namespace Go.Proofs.Ytbfdnpahojoccaa
open Go.RowKit Go.Cmp

section
variable {S : List Nat} {w0 w : World} {M : List Ent} {g : Nat} {D : Dsk}
set_option maxHeartbeats 16000000 in
theorem refWrite11_any (hS : St S w0 w (rdisk g D :: M)) (hD : D.Ok) (hw : D.way.length + 8 ≤ 1000000) (hst : D.steps + 8 ≤ 1000000000) (s : Sup) (hu : s.U64) :
    Calls Try.prog 25 #[.pointer (some ⟨g, 0, none⟩), .agg s.cells.toArray] w fun e w' => e = .returned (.int .i64 (writeU s D).1) ∧ St S w0 w' (rdisk g (writeU s D).2 :: M) := by
  have HP := Lib.hid (fun w => refPack11_any s hu w)
  have hbl := supB_len s
  cases hr : s.right
  · have e : writeU s D = (4, D) := by unfold writeU; rw [if_pos hr]
    have ep : packU s = ([], 4) := by unfold packU; rw [if_pos hr]
    rw [e]
    rw [ep] at HP
    clear hr e ep hu hbl hst hw hD
    (go_enter Try.func25, Try.ntmps25)
    go_wp2_with (first | go_skip | ((with_reducible refine g_box ?_); refine wl_of rfl ?_; refine wp_box hS rfl rfl rfl ?_; clear hS; intro gs w1 hS) | ((with_reducible refine g_load ?_); refine wl_run rfl (by first | exact a_load1 hS rfl rfl rfl rfl (by (repeat (first | exact Ix.here | apply Ix.there))) (by rfl) | exact a_loadR hS rfl rfl rfl rfl (by (repeat (first | exact Ix.here | apply Ix.there))) (by rfl) | fail) ?_) | (go_at_call 17; refine (HP.out _).mono ?_; rintro e w' ⟨rfl, h⟩; replace hS := hS.call h; clear h) | fail)
    go_ret
    exact ⟨rfl, hS.pick⟩
  · have ep : packU s = (supB s, 0) := by unfold packU; rw [if_neg (by simp [hr])]
    rw [ep] at HP
    obtain ⟨R, hR⟩ : ∃ R, writeU s D = R := ⟨_, rfl⟩
    have HR : Hid (writesU s 4 0 D = R) := Lib.hid (by rw [← hR]; unfold writeU; rw [if_neg (by simp [hr])])
    rw [hR]
    clear hr ep hu hR
    (go_enter Try.func25, Try.ntmps25)
    go_wp2_with (first | go_skip | ((with_reducible refine g_box ?_); refine wl_of rfl ?_; refine wp_box hS rfl rfl rfl ?_; clear hS; intro gs w1 hS) | ((with_reducible refine g_load ?_); refine wl_run rfl (by first | exact a_load1 hS rfl rfl rfl rfl (by (repeat (first | exact Ix.here | apply Ix.there))) (by rfl) | exact a_loadR hS rfl rfl rfl rfl (by (repeat (first | exact Ix.here | apply Ix.there))) (by rfl) | fail) ?_) | (go_at_call 17; refine (HP.out _).mono ?_; rintro e w' ⟨rfl, h⟩; replace hS := hS.call h; clear h) | fail)
    go_loopw [7] (fun k wz => ∃ (i : Nat) (D' : Dsk), i ≤ 4 ∧ k = .int .i64 i ∧ D'.Ok ∧ D'.lasts.length = D.lasts.length ∧ D'.way.length ≤ D.way.length + 2 * i ∧ D'.steps ≤ D.steps + 2 * (i : Int) ∧ Hid (R = writesU s (4 - i) i D') ∧ St S w0 wz (.row gs s.cells 28 (0, 0) :: rdisk g D' :: M)) (fun k _ => 4 - (intOf k).toNat)
    case atStart => exact ⟨0, D, by omega, rfl, hD, rfl, by omega, by omega, Lib.hid HR.out.symm, hS.pick⟩
    case round =>
      clear hS hD HR HP
      obtain ⟨i, D', hi, rfl, hD', hlen, hwl, hsl9, HW9, hS⟩ := hrel
      by_cases hi4 : i < 4
      · have hi41 : (i : Int) < 4 := by omega
        have HRD := Lib.hid (fun (W : World) (M : List Ent) (hS : St S w0 W (rdisk g D' :: M)) => rdisk_read hS hD' (i : Int))
        have hol := Dsk.read_len hD' (i : Int)
        have hone : oneU D' (i : Int) = if (D'.read i).2 ≠ 0 then (zeroU, [], false, (D'.read i).2) else ((hasU (D'.read i).1).1, (D'.read i).1, (hasU (D'.read i).1).2, 0) := rfl
        obtain ⟨Q, hQ⟩ : ∃ Q, D'.read (i : Int) = Q := ⟨_, rfl⟩
        rw [hQ] at HRD hol hone
        obtain ⟨old, er⟩ := Q
        simp only at HRD hol hone
        clear hQ
        have hW2 := HW9.out
        by_cases her : er = 0
        · subst her
          rw [if_neg (by decide)] at hone
          have HH := Lib.hid (fun w => refHas11_any old hol w)
          have HSL := Lib.hid (fun w => refSeal_any old (supB s) (by omega) (by omega) w)
          generalize hasU old = X at HH hone
          obtain ⟨was, ok⟩ := X
          simp only at HH hone
          rw [show 4 - i = (4 - (i + 1)) + 1 by omega, writesU_step s _ i D' hone] at hW2
          clear HW9 hone
          rw [if_neg (by decide)] at hW2
          cases ok
          · rw [if_neg (by simp)] at hW2
            obtain ⟨E1, hE1⟩ : ∃ E, D'.write (i : Int) (sealS old (supB s)).1 = E := ⟨_, rfl⟩
            have HW := Lib.hid (fun (W : World) (M : List Ent) (hS : St S w0 W (rdisk g D' :: M)) => rdisk_write hS hD' (i : Int) (sealS old (supB s)).1)
            have hn1 := Dsk.write_next hD' (i : Int) (sealS old (supB s)).1 (by omega) (by omega)
            rw [hE1] at HW hn1
            have hw2 := hW2
            rw [hE1] at hw2
            clear hW2
            generalize hsl : sealS old (supB s) = SL at HSL HW hE1 hw2
            obtain ⟨tx, te⟩ := SL
            obtain ⟨e1, D1⟩ := E1
            simp only at HSL HW hn1 hw2
            by_cases he1 : e1 = 0
            · subst he1
              obtain ⟨E2, hE2⟩ : ∃ E, D1.flush = E := ⟨_, rfl⟩
              have hD1 := hn1.ok
              have HF := Lib.hid (fun (W : World) (M : List Ent) (hS : St S w0 W (rdisk g D1 :: M)) => rdisk_flush hS hD1)
              have hn2 := Dsk.flush_next hD1 (by have := hn1.steps; omega)
              rw [hE2] at HF hn2 hw2
              obtain ⟨e2, D2⟩ := E2
              simp only at HF hn2 hw2
              rw [if_neg (by decide)] at hw2
              by_cases he2 : e2 = 0
              · subst he2
                rw [if_neg (by decide)] at hw2
                have HN := Lib.hid hw2
                have hD2 := hn2.ok
                have k1 : D2.lasts.length = D.lasts.length := by rw [hn2.len, hn1.len, hlen]
                have k2 : D2.way.length ≤ D.way.length + 2 * (i + 1) := by have := hn1.way; have := hn2.way; omega
                have k3 : D2.steps ≤ D.steps + 2 * ((i + 1 : Nat) : Int) := by have := hn1.steps; have := hn2.steps; omega
                clear hw2 hE1 hE2 hsl hn1 hn2
                go_wp2_with (first | go_skip | ((with_reducible refine g_alloc ?_); refine wl_of rfl ?_; refine wp_alloc hS rfl rfl rfl rfl ?_; clear hS; intro gx w1 hS) | ((with_reducible refine g_load ?_); refine wl_run rfl (by first | exact a_load1 hS rfl rfl rfl rfl (by (repeat (first | exact Ix.here | apply Ix.there))) (by rfl) | exact a_loadR hS rfl rfl rfl rfl (by (repeat (first | exact Ix.here | apply Ix.there))) (by rfl) | fail) ?_) | ((with_reducible refine g_store ?_); refine wl_of rfl ?_; refine a_storeA (vs := Sup.cells was) (cs' := Sup.cells was) hS rfl rfl rfl (by rfl) (sup_one _) (by (repeat (first | exact Sw.here | apply Sw.there))) (by exact Nat.le_refl 17) (by rfl) ?_; clear hS; intro w' hS) | (go_at_call 34; refine (HRD.out _ _ (hS.out (by (repeat (first | exact Out.here | apply Out.there))))).mono ?_; rintro e w' ⟨rfl, rfl⟩) | (go_at_call 50; refine (HH.out _).mono ?_; rintro e w' ⟨rfl, h⟩; replace hS := hS.call h; clear h) | (go_at_call 51; refine (HSL.out _).mono ?_; rintro e w' ⟨rfl, h⟩; replace hS := hS.call h; clear h) | (go_at_call 52; (refine (HW.out _ _ (hS.out (by (repeat (first | exact Out.here | apply Out.there))))).mono ?_; clear hS; rintro e w' ⟨rfl, hS⟩)) | (go_at_call 53; (refine (HF.out _ _ (hS.out (by (repeat (first | exact Out.here | apply Out.there))))).mono ?_; clear hS; rintro e w' ⟨rfl, hS⟩)) | fail)
                exact ⟨⟨i + 1, D2, by omega, by simp, hD2, k1, k2, k3, HN, hS.pick⟩, by simp [intOf]; omega⟩
              · rw [if_pos (by simpa using he2)] at hw2
                have hb2 : (e2 != 0) = true := by simpa using he2
                have HN := Lib.hid hw2
                clear hw2 hE1 hE2 hsl hn1 hn2 he2
                go_wp2_with (first | go_skip | ((with_reducible refine g_alloc ?_); refine wl_of rfl ?_; refine wp_alloc hS rfl rfl rfl rfl ?_; clear hS; intro gx w1 hS) | ((with_reducible refine g_load ?_); refine wl_run rfl (by first | exact a_load1 hS rfl rfl rfl rfl (by (repeat (first | exact Ix.here | apply Ix.there))) (by rfl) | exact a_loadR hS rfl rfl rfl rfl (by (repeat (first | exact Ix.here | apply Ix.there))) (by rfl) | fail) ?_) | ((with_reducible refine g_store ?_); refine wl_of rfl ?_; refine a_storeA (vs := Sup.cells was) (cs' := Sup.cells was) hS rfl rfl rfl (by rfl) (sup_one _) (by (repeat (first | exact Sw.here | apply Sw.there))) (by exact Nat.le_refl 17) (by rfl) ?_; clear hS; intro w' hS) | (go_at_call 34; refine (HRD.out _ _ (hS.out (by (repeat (first | exact Out.here | apply Out.there))))).mono ?_; rintro e w' ⟨rfl, rfl⟩) | (go_at_call 50; refine (HH.out _).mono ?_; rintro e w' ⟨rfl, h⟩; replace hS := hS.call h; clear h) | (go_at_call 51; refine (HSL.out _).mono ?_; rintro e w' ⟨rfl, h⟩; replace hS := hS.call h; clear h) | (go_at_call 52; (refine (HW.out _ _ (hS.out (by (repeat (first | exact Out.here | apply Out.there))))).mono ?_; clear hS; rintro e w' ⟨rfl, hS⟩)) | (go_at_call 53; (refine (HF.out _ _ (hS.out (by (repeat (first | exact Out.here | apply Out.there))))).mono ?_; clear hS; rintro e w' ⟨rfl, hS⟩)) | fail)
                go_ret
                exact ⟨by rw [HN.out]; rfl, by rw [HN.out]; exact hS.pick⟩
            · rw [if_pos (by simpa using he1)] at hw2
              have hb1 : (e1 != 0) = true := by simpa using he1
              have hb0 : (e1 == 0) = false := by rw [beq_eq_false_iff_ne]; exact he1
              have HN := Lib.hid hw2
              clear hw2 hE1 hsl hn1 he1
              go_wp2_with (first | go_skip | ((with_reducible refine g_alloc ?_); refine wl_of rfl ?_; refine wp_alloc hS rfl rfl rfl rfl ?_; clear hS; intro gx w1 hS) | ((with_reducible refine g_load ?_); refine wl_run rfl (by first | exact a_load1 hS rfl rfl rfl rfl (by (repeat (first | exact Ix.here | apply Ix.there))) (by rfl) | exact a_loadR hS rfl rfl rfl rfl (by (repeat (first | exact Ix.here | apply Ix.there))) (by rfl) | fail) ?_) | ((with_reducible refine g_store ?_); refine wl_of rfl ?_; refine a_storeA (vs := Sup.cells was) (cs' := Sup.cells was) hS rfl rfl rfl (by rfl) (sup_one _) (by (repeat (first | exact Sw.here | apply Sw.there))) (by exact Nat.le_refl 17) (by rfl) ?_; clear hS; intro w' hS) | (go_at_call 34; refine (HRD.out _ _ (hS.out (by (repeat (first | exact Out.here | apply Out.there))))).mono ?_; rintro e w' ⟨rfl, rfl⟩) | (go_at_call 50; refine (HH.out _).mono ?_; rintro e w' ⟨rfl, h⟩; replace hS := hS.call h; clear h) | (go_at_call 51; refine (HSL.out _).mono ?_; rintro e w' ⟨rfl, h⟩; replace hS := hS.call h; clear h) | (go_at_call 52; (refine (HW.out _ _ (hS.out (by (repeat (first | exact Out.here | apply Out.there))))).mono ?_; clear hS; rintro e w' ⟨rfl, hS⟩)) | (go_at_call 53; (refine (HF.out _ _ (hS.out (by (repeat (first | exact Out.here | apply Out.there))))).mono ?_; clear hS; rintro e w' ⟨rfl, hS⟩)) | fail)
              go_ret
              exact ⟨by rw [HN.out]; rfl, by rw [HN.out]; exact hS.pick⟩
          · have hq : eqV Try.prog 4 28 (.agg was.cells.toArray) (.agg s.cells.toArray) = some (decide (was = s)) := eqSup was s
            by_cases hws : was = s
            · rw [if_pos ⟨rfl, hws⟩] at hW2
              rw [decide_eq_true hws] at hq
              have HN := Lib.hid hW2
              clear hW2 hws HSL
              go_wp2_with (first | go_skip | ((with_reducible refine g_alloc ?_); refine wl_of rfl ?_; refine wp_alloc hS rfl rfl rfl rfl ?_; clear hS; intro gx w1 hS) | ((with_reducible refine g_load ?_); refine wl_run rfl (by first | exact a_load1 hS rfl rfl rfl rfl (by (repeat (first | exact Ix.here | apply Ix.there))) (by rfl) | exact a_loadR hS rfl rfl rfl rfl (by (repeat (first | exact Ix.here | apply Ix.there))) (by rfl) | fail) ?_) | ((with_reducible refine g_store ?_); refine wl_of rfl ?_; refine a_storeA (vs := Sup.cells was) (cs' := Sup.cells was) hS rfl rfl rfl (by rfl) (sup_one _) (by (repeat (first | exact Sw.here | apply Sw.there))) (by exact Nat.le_refl 17) (by rfl) ?_; clear hS; intro w' hS) | (go_at_call 34; refine (HRD.out _ _ (hS.out (by (repeat (first | exact Out.here | apply Out.there))))).mono ?_; rintro e w' ⟨rfl, rfl⟩) | (go_at_call 50; refine (HH.out _).mono ?_; rintro e w' ⟨rfl, h⟩; replace hS := hS.call h; clear h) | ((with_reducible refine g_eql (t := 28) ?_); refine wl_run rfl (x_structEq rfl rfl rfl supGuard hq) ?_) | fail)
              exact ⟨⟨i + 1, D', by omega, by simp, hD', hlen, by omega, by omega, HN, hS.pick⟩, by simp [intOf]; omega⟩
            · rw [if_neg (by simp [hws])] at hW2
              rw [decide_eq_false hws] at hq
              clear hws
              obtain ⟨E1, hE1⟩ : ∃ E, D'.write (i : Int) (sealS old (supB s)).1 = E := ⟨_, rfl⟩
              have HW := Lib.hid (fun (W : World) (M : List Ent) (hS : St S w0 W (rdisk g D' :: M)) => rdisk_write hS hD' (i : Int) (sealS old (supB s)).1)
              have hn1 := Dsk.write_next hD' (i : Int) (sealS old (supB s)).1 (by omega) (by omega)
              rw [hE1] at HW hn1
              have hw2 := hW2
              rw [hE1] at hw2
              clear hW2
              generalize hsl : sealS old (supB s) = SL at HSL HW hE1 hw2
              obtain ⟨tx, te⟩ := SL
              obtain ⟨e1, D1⟩ := E1
              simp only at HSL HW hn1 hw2
              by_cases he1 : e1 = 0
              · subst he1
                obtain ⟨E2, hE2⟩ : ∃ E, D1.flush = E := ⟨_, rfl⟩
                have hD1 := hn1.ok
                have HF := Lib.hid (fun (W : World) (M : List Ent) (hS : St S w0 W (rdisk g D1 :: M)) => rdisk_flush hS hD1)
                have hn2 := Dsk.flush_next hD1 (by have := hn1.steps; omega)
                rw [hE2] at HF hn2 hw2
                obtain ⟨e2, D2⟩ := E2
                simp only at HF hn2 hw2
                rw [if_neg (by decide)] at hw2
                by_cases he2 : e2 = 0
                · subst he2
                  rw [if_neg (by decide)] at hw2
                  have HN := Lib.hid hw2
                  have hD2 := hn2.ok
                  have k1 : D2.lasts.length = D.lasts.length := by rw [hn2.len, hn1.len, hlen]
                  have k2 : D2.way.length ≤ D.way.length + 2 * (i + 1) := by have := hn1.way; have := hn2.way; omega
                  have k3 : D2.steps ≤ D.steps + 2 * ((i + 1 : Nat) : Int) := by have := hn1.steps; have := hn2.steps; omega
                  clear hw2 hE1 hE2 hsl hn1 hn2
                  go_wp2_with (first | go_skip | ((with_reducible refine g_alloc ?_); refine wl_of rfl ?_; refine wp_alloc hS rfl rfl rfl rfl ?_; clear hS; intro gx w1 hS) | ((with_reducible refine g_load ?_); refine wl_run rfl (by first | exact a_load1 hS rfl rfl rfl rfl (by (repeat (first | exact Ix.here | apply Ix.there))) (by rfl) | exact a_loadR hS rfl rfl rfl rfl (by (repeat (first | exact Ix.here | apply Ix.there))) (by rfl) | fail) ?_) | ((with_reducible refine g_store ?_); refine wl_of rfl ?_; refine a_storeA (vs := Sup.cells was) (cs' := Sup.cells was) hS rfl rfl rfl (by rfl) (sup_one _) (by (repeat (first | exact Sw.here | apply Sw.there))) (by exact Nat.le_refl 17) (by rfl) ?_; clear hS; intro w' hS) | (go_at_call 34; refine (HRD.out _ _ (hS.out (by (repeat (first | exact Out.here | apply Out.there))))).mono ?_; rintro e w' ⟨rfl, rfl⟩) | (go_at_call 50; refine (HH.out _).mono ?_; rintro e w' ⟨rfl, h⟩; replace hS := hS.call h; clear h) | ((with_reducible refine g_eql (t := 28) ?_); refine wl_run rfl (x_structEq rfl rfl rfl supGuard hq) ?_) | (go_at_call 51; refine (HSL.out _).mono ?_; rintro e w' ⟨rfl, h⟩; replace hS := hS.call h; clear h) | (go_at_call 52; (refine (HW.out _ _ (hS.out (by (repeat (first | exact Out.here | apply Out.there))))).mono ?_; clear hS; rintro e w' ⟨rfl, hS⟩)) | (go_at_call 53; (refine (HF.out _ _ (hS.out (by (repeat (first | exact Out.here | apply Out.there))))).mono ?_; clear hS; rintro e w' ⟨rfl, hS⟩)) | fail)
                  exact ⟨⟨i + 1, D2, by omega, by simp, hD2, k1, k2, k3, HN, hS.pick⟩, by simp [intOf]; omega⟩
                · rw [if_pos (by simpa using he2)] at hw2
                  have hb2 : (e2 != 0) = true := by simpa using he2
                  have HN := Lib.hid hw2
                  clear hw2 hE1 hE2 hsl hn1 hn2 he2
                  go_wp2_with (first | go_skip | ((with_reducible refine g_alloc ?_); refine wl_of rfl ?_; refine wp_alloc hS rfl rfl rfl rfl ?_; clear hS; intro gx w1 hS) | ((with_reducible refine g_load ?_); refine wl_run rfl (by first | exact a_load1 hS rfl rfl rfl rfl (by (repeat (first | exact Ix.here | apply Ix.there))) (by rfl) | exact a_loadR hS rfl rfl rfl rfl (by (repeat (first | exact Ix.here | apply Ix.there))) (by rfl) | fail) ?_) | ((with_reducible refine g_store ?_); refine wl_of rfl ?_; refine a_storeA (vs := Sup.cells was) (cs' := Sup.cells was) hS rfl rfl rfl (by rfl) (sup_one _) (by (repeat (first | exact Sw.here | apply Sw.there))) (by exact Nat.le_refl 17) (by rfl) ?_; clear hS; intro w' hS) | (go_at_call 34; refine (HRD.out _ _ (hS.out (by (repeat (first | exact Out.here | apply Out.there))))).mono ?_; rintro e w' ⟨rfl, rfl⟩) | (go_at_call 50; refine (HH.out _).mono ?_; rintro e w' ⟨rfl, h⟩; replace hS := hS.call h; clear h) | ((with_reducible refine g_eql (t := 28) ?_); refine wl_run rfl (x_structEq rfl rfl rfl supGuard hq) ?_) | (go_at_call 51; refine (HSL.out _).mono ?_; rintro e w' ⟨rfl, h⟩; replace hS := hS.call h; clear h) | (go_at_call 52; (refine (HW.out _ _ (hS.out (by (repeat (first | exact Out.here | apply Out.there))))).mono ?_; clear hS; rintro e w' ⟨rfl, hS⟩)) | (go_at_call 53; (refine (HF.out _ _ (hS.out (by (repeat (first | exact Out.here | apply Out.there))))).mono ?_; clear hS; rintro e w' ⟨rfl, hS⟩)) | fail)
                  go_ret
                  exact ⟨by rw [HN.out]; rfl, by rw [HN.out]; exact hS.pick⟩
              · rw [if_pos (by simpa using he1)] at hw2
                have hb1 : (e1 != 0) = true := by simpa using he1
                have hb0 : (e1 == 0) = false := by rw [beq_eq_false_iff_ne]; exact he1
                have HN := Lib.hid hw2
                clear hw2 hE1 hsl hn1 he1
                go_wp2_with (first | go_skip | ((with_reducible refine g_alloc ?_); refine wl_of rfl ?_; refine wp_alloc hS rfl rfl rfl rfl ?_; clear hS; intro gx w1 hS) | ((with_reducible refine g_load ?_); refine wl_run rfl (by first | exact a_load1 hS rfl rfl rfl rfl (by (repeat (first | exact Ix.here | apply Ix.there))) (by rfl) | exact a_loadR hS rfl rfl rfl rfl (by (repeat (first | exact Ix.here | apply Ix.there))) (by rfl) | fail) ?_) | ((with_reducible refine g_store ?_); refine wl_of rfl ?_; refine a_storeA (vs := Sup.cells was) (cs' := Sup.cells was) hS rfl rfl rfl (by rfl) (sup_one _) (by (repeat (first | exact Sw.here | apply Sw.there))) (by exact Nat.le_refl 17) (by rfl) ?_; clear hS; intro w' hS) | (go_at_call 34; refine (HRD.out _ _ (hS.out (by (repeat (first | exact Out.here | apply Out.there))))).mono ?_; rintro e w' ⟨rfl, rfl⟩) | (go_at_call 50; refine (HH.out _).mono ?_; rintro e w' ⟨rfl, h⟩; replace hS := hS.call h; clear h) | ((with_reducible refine g_eql (t := 28) ?_); refine wl_run rfl (x_structEq rfl rfl rfl supGuard hq) ?_) | (go_at_call 51; refine (HSL.out _).mono ?_; rintro e w' ⟨rfl, h⟩; replace hS := hS.call h; clear h) | (go_at_call 52; (refine (HW.out _ _ (hS.out (by (repeat (first | exact Out.here | apply Out.there))))).mono ?_; clear hS; rintro e w' ⟨rfl, hS⟩)) | (go_at_call 53; (refine (HF.out _ _ (hS.out (by (repeat (first | exact Out.here | apply Out.there))))).mono ?_; clear hS; rintro e w' ⟨rfl, hS⟩)) | fail)
                go_ret
                exact ⟨by rw [HN.out]; rfl, by rw [HN.out]; exact hS.pick⟩
        · rw [if_pos (by simpa using her)] at hone
          rw [show 4 - i = (4 - (i + 1)) + 1 by omega, writesU_step s _ i D' hone, if_pos (by simpa using her)] at hW2
          clear HW9 hone
          have hb : (er != 0) = true := by simpa using her
          have HN := Lib.hid hW2
          clear hW2 her
          go_wp2_with (first | go_skip | ((with_reducible refine g_load ?_); refine wl_run rfl (by first | exact a_load1 hS rfl rfl rfl rfl (by (repeat (first | exact Ix.here | apply Ix.there))) (by rfl) | exact a_loadR hS rfl rfl rfl rfl (by (repeat (first | exact Ix.here | apply Ix.there))) (by rfl) | fail) ?_) | (go_at_call 34; refine (HRD.out _ _ (hS.out (by (repeat (first | exact Out.here | apply Out.there))))).mono ?_; rintro e w' ⟨rfl, rfl⟩) | fail)
          go_ret
          exact ⟨by rw [HN.out]; rfl, by rw [HN.out]; exact hS.pick⟩
      · obtain rfl : i = 4 := by omega
        have HN : Hid (R = (0, D')) := Lib.hid (by rw [HW9.out]; rfl)
        go_wp2_with (first | go_skip | fail | fail)
        go_ret
        exact ⟨by rw [HN.out]; rfl, by rw [HN.out]; exact hS.pick⟩
end
end Go.Proofs.Ytbfdnpahojoccaa
