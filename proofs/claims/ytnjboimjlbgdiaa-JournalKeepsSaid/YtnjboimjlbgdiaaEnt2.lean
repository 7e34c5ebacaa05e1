/-
  Entries: the program's Unpack, MarkOf.
-/
import Derived.Test.YtnjboimjlbgdiaaEnt1
import Derived.Test.YtnjboimjlbgdiaaEntA
set_option linter.unusedSimpArgs false
set_option linter.unusedVariables false
set_option linter.unusedSectionVars false
set_option maxRecDepth 100000
namespace Go.Proofs.Ytnjboimjlbgdiaa
open Go.RowKit Go.Cmp
set_option maxRecDepth 100000

section
variable {S : List Nat} {w0 w : World} {M : List Ent}
set_option maxHeartbeats 8000000 in
theorem entUnpack_any (s : List UInt8) (hl : s.length ≤ 1000000) (w : World) :
    Calls Try.prog 53 #[.string ⟨s.toArray⟩] w fun x w' => x = .returned (.tuple #[.agg (unpE s).1.cells.toArray, .int .i64 (unpE s).2]) ∧ St [] w w' [] := by
  have hS := St.init w
  have HU := Lib.hid (fun w => headUnpack_any s hl w)
  have herr := unpH_err s
  have hlen := unpH_len s
  have htest := unpE_test s
  have hR : unpE s = if (unpH s).2.2 = 0 ∧ packE (enOf (unpH s).1 (unpH s).2.1) = (s, 0) then (enOf (unpH s).1 (unpH s).2.1, 0) else (zeroE, 4) := rfl
  obtain ⟨R, hRR⟩ : ∃ R, unpE s = R := ⟨_, rfl⟩
  rw [hRR] at hR ⊢
  obtain ⟨U, hUU⟩ : ∃ U, unpH s = U := ⟨_, rfl⟩
  rw [hUU] at HU herr hlen htest hR
  clear hRR hUU
  obtain ⟨h, b, f⟩ := U
  simp only at HU herr hlen htest hR
  have hEH := Lib.hid (fun w => entHeader_any (enOf h b) w)
  have hER := Lib.hid (fun w => entRight_any (enOf h b) (show b.length ≤ _ by omega) w)
  have hht := head_test h b
  obtain ⟨rt, hrt⟩ : ∃ r, (enOf h b).right = r := ⟨_, rfl⟩
  rw [hrt] at hER htest
  rcases herr with rfl | rfl
  · by_cases hq : headE (enOf h b) = h
    · cases rt
      · have HR : Hid (R = (zeroE, 4)) := Lib.hid (by rw [hR, if_neg]; rintro ⟨_, hk⟩; exact absurd ((htest rfl).1 hk).2 (by decide))
        clear htest hrt hR
        obtain ⟨g1, g2, g3, g4⟩ := hht.1 hq
        obtain ⟨k1, k2, k3, n1, n2, n3, n4, n5, n6, n7, n8, par⟩ := h
        simp only at g1 g2 g3 g4
        subst g1 g2 g3 g4
        clear hht hq
        simp only [Hd.cells, En.cells, headE, enOf] at HU hEH hER
        (go_enter Try.func53, Try.ntmps53)
        go_wp2_with (first | (go_at_call 69; refine (HU.out _).mono ?_; rintro e w' ⟨rfl, h⟩; replace hS := hS.call h; clear h) | (first | refine au1 (n := ?_) | (refine au2 (n := ?_); clear hS; intro w' hS) | (refine au3 (n := ?_); clear hS; intro gb w1 hS) | (refine au4 (n := ?_); clear hS; intro v1 w' hS) | ((with_reducible refine wl_guard ?_); refine stop_mem rfl rfl ?_)))
        refine region_calm (by kernel_rfl) (by kernel_rfl) hS ?_
        (repeat (first | ((with_reducible refine c_call ?_); first | fail) | refine calm1 (n := ?_)))
        (refine Calm.call (calm_makes hEH.out) rfl (h := ?_); simp only [Act.put, List.setIfInBounds_toArray, List.set_cons_zero, List.set_cons_succ])
        (repeat (first | ((with_reducible refine c_call ?_); first | fail) | refine calm1 (n := ?_)))
        (refine Calm.call (calm_makes hER.out) rfl (h := ?_); simp only [Act.put, List.setIfInBounds_toArray, List.set_cons_zero, List.set_cons_succ])
        (repeat (first | ((with_reducible refine c_call ?_); first | fail) | refine calm1 (n := ?_)))
        (refine Calm.nil ?_; clear hS; intro w8 hS)
        go_wp2_with (first | refine au1 (n := ?_) | (refine au2 (n := ?_); clear hS; intro w' hS) | (refine au3 (n := ?_); clear hS; intro gb w1 hS) | (refine au4 (n := ?_); clear hS; intro v1 w' hS) | ((with_reducible refine wl_guard ?_); refine stop_mem rfl rfl ?_))
        exact end_cell2 hS rfl rfl rfl rfl rfl rfl (h := ⟨by rw [HR.out]; rfl, hS.nil⟩)
      · have HR : Hid (R = (enOf h b, 0)) := Lib.hid (by rw [hR, if_pos ⟨rfl, (htest rfl).2 ⟨hq, rfl⟩⟩])
        clear htest hrt hR
        obtain ⟨g1, g2, g3, g4⟩ := hht.1 hq
        obtain ⟨k1, k2, k3, n1, n2, n3, n4, n5, n6, n7, n8, par⟩ := h
        simp only at g1 g2 g3 g4
        subst g1 g2 g3 g4
        clear hht hq
        simp only [Hd.cells, En.cells, headE, enOf] at HU hEH hER
        (go_enter Try.func53, Try.ntmps53)
        go_wp2_with (first | (go_at_call 69; refine (HU.out _).mono ?_; rintro e w' ⟨rfl, h⟩; replace hS := hS.call h; clear h) | (first | refine au1 (n := ?_) | (refine au2 (n := ?_); clear hS; intro w' hS) | (refine au3 (n := ?_); clear hS; intro gb w1 hS) | (refine au4 (n := ?_); clear hS; intro v1 w' hS) | ((with_reducible refine wl_guard ?_); refine stop_mem rfl rfl ?_)))
        refine region_calm (by kernel_rfl) (by kernel_rfl) hS ?_
        (repeat (first | ((with_reducible refine c_call ?_); first | fail) | refine calm1 (n := ?_)))
        (refine Calm.call (calm_makes hEH.out) rfl (h := ?_); simp only [Act.put, List.setIfInBounds_toArray, List.set_cons_zero, List.set_cons_succ])
        (repeat (first | ((with_reducible refine c_call ?_); first | fail) | refine calm1 (n := ?_)))
        (refine Calm.call (calm_makes hER.out) rfl (h := ?_); simp only [Act.put, List.setIfInBounds_toArray, List.set_cons_zero, List.set_cons_succ])
        (repeat (first | ((with_reducible refine c_call ?_); first | fail) | refine calm1 (n := ?_)))
        (refine Calm.nil ?_; clear hS; intro w8 hS)
        go_wp2_with (first | refine au1 (n := ?_) | (refine au2 (n := ?_); clear hS; intro w' hS) | (refine au3 (n := ?_); clear hS; intro gb w1 hS) | (refine au4 (n := ?_); clear hS; intro v1 w' hS) | ((with_reducible refine wl_guard ?_); refine stop_mem rfl rfl ?_))
        exact end_cell2 hS rfl rfl rfl rfl rfl rfl (h := ⟨by rw [HR.out]; rfl, hS.nil⟩)
    · have HR : Hid (R = (zeroE, 4)) := Lib.hid (by rw [hR, if_neg]; rintro ⟨_, hk⟩; exact absurd ((htest rfl).1 hk).1 hq)
      have hne : ¬ (255 = h.kind ∧ 0 = h.frm ∧ 0 = h.commit ∧ 0 = h.b) := fun hk => hq (hht.2 hk)
      clear htest hrt hR hht hq
      obtain ⟨k1, k2, k3, n1, n2, n3, n4, n5, n6, n7, n8, par⟩ := h
      simp only at hne
      have HNE := Lib.hid hne
      clear hne
      simp only [Hd.cells, En.cells, headE, enOf] at HU hEH hER
      (go_enter Try.func53, Try.ntmps53)
      go_wp2_with (first | (go_at_call 69; refine (HU.out _).mono ?_; rintro e w' ⟨rfl, h⟩; replace hS := hS.call h; clear h) | (first | refine au1 (n := ?_) | (refine au2 (n := ?_); clear hS; intro w' hS) | (refine au3 (n := ?_); clear hS; intro gb w1 hS) | (refine au4 (n := ?_); clear hS; intro v1 w' hS) | ((with_reducible refine wl_guard ?_); refine stop_mem rfl rfl ?_)))
      refine region_calm (by kernel_rfl) (by kernel_rfl) hS ?_
      (repeat (first | ((with_reducible refine c_call ?_); first | fail) | refine calm1 (n := ?_)))
      (refine Calm.call (calm_makes hEH.out) rfl (h := ?_); simp only [Act.put, List.setIfInBounds_toArray, List.set_cons_zero, List.set_cons_succ])
      (refine Calm.read rfl (h := ?_); simp only [Act.put, List.setIfInBounds_toArray, List.set_cons_zero, List.set_cons_succ])
      refine Calm.run (v := .bool true) rfl (fun W hW => by (go_simp; exact fun a b c d => HNE.out ⟨a, b, c, d⟩)) ?_
      simp only [Act.put, List.setIfInBounds_toArray, List.set_cons_zero, List.set_cons_succ]
      (repeat (first | ((with_reducible refine c_call ?_); first | fail) | refine calm1 (n := ?_)))
      (refine Calm.nil ?_; clear hS; intro w8 hS)
      go_wp2_with (first | refine au1 (n := ?_) | (refine au2 (n := ?_); clear hS; intro w' hS) | (refine au3 (n := ?_); clear hS; intro gb w1 hS) | (refine au4 (n := ?_); clear hS; intro v1 w' hS) | ((with_reducible refine wl_guard ?_); refine stop_mem rfl rfl ?_))
      exact end_cell2 hS rfl rfl rfl rfl rfl rfl (h := ⟨by rw [HR.out]; rfl, hS.nil⟩)
  · have HR : Hid (R = (zeroE, 4)) := Lib.hid (by rw [hR, if_neg]; rintro ⟨hk, _⟩; exact absurd hk (by decide))
    clear htest hrt hR hht hEH hER
    obtain ⟨k1, k2, k3, n1, n2, n3, n4, n5, n6, n7, n8, par⟩ := h
    simp only [Hd.cells] at HU
    (go_enter Try.func53, Try.ntmps53)
    go_wp2_with (first | (go_at_call 69; refine (HU.out _).mono ?_; rintro e w' ⟨rfl, h⟩; replace hS := hS.call h; clear h) | (first | refine au1 (n := ?_) | (refine au2 (n := ?_); clear hS; intro w' hS) | (refine au3 (n := ?_); clear hS; intro gb w1 hS) | (refine au4 (n := ?_); clear hS; intro v1 w' hS) | ((with_reducible refine wl_guard ?_); refine stop_mem rfl rfl ?_)))
    refine region_calm (by kernel_rfl) (by kernel_rfl) hS ?_
    (repeat (first | ((with_reducible refine c_call ?_); first | fail) | refine calm1 (n := ?_)))
    (refine Calm.nil ?_; clear hS; intro w8 hS)
    go_wp2_with (first | refine au1 (n := ?_) | (refine au2 (n := ?_); clear hS; intro w' hS) | (refine au3 (n := ?_); clear hS; intro gb w1 hS) | (refine au4 (n := ?_); clear hS; intro v1 w' hS) | ((with_reducible refine wl_guard ?_); refine stop_mem rfl rfl ?_))
    exact end_cell2 hS rfl rfl rfl rfl rfl rfl (h := ⟨by rw [HR.out]; rfl, hS.nil⟩)
end
end Go.Proofs.Ytnjboimjlbgdiaa
