/-
  The program's machine: an entry is done; questions.
-/
import Derived.Test.YtjjiibcnknljfaaGreatMac2
import Derived.Test.YtjjiibcnknljfaaGreatMac3
import Derived.Test.YtjjiibcnknljfaaGreatLedC
set_option linter.unusedSimpArgs false
set_option linter.unusedVariables false
set_option linter.unusedSectionVars false
set_option maxRecDepth 100000
namespace Go.Proofs.YtjjiibcnknljfaaGreat
open Go.RowKit Go.Cmp

section
variable {S : List Nat} {w0 w : World} {M : List Ent} {g : Nat} {m : Mac}

set_option maxHeartbeats 16000000 in
theorem mach_apply (hS : St S w0 w (mach g m :: M)) (hm : m.Ok) (e : En) (hp : e.parent < 18446744073709551616) :
    Calls Tryz.prog 8 #[.pointer (some ⟨g, 0, none⟩), .agg e.cells.toArray] w fun x w' => x = .returned (.tuple #[.agg (m.apply e).1.1.cells.toArray, .int .i64 (m.apply e).1.2]) ∧ St S w0 w' (mach g (m.apply e).2 :: M) := by
  have HR := Lib.hid (fun w => entRightL_any e w)
  have HF := Lib.hid (fun w => entFollows_any m.mark e w)
  have HM := Lib.hid (fun (hr : e.right = true) w => entMark_any e hp (by have := (right_may hr).2.2.2.2; omega) w)
  have HOK := Lib.hid (fun hr => marked_ok hm (e := e) hr hp)
  have ha : m.apply e = if e.right = false then ((zAns, 4), m) else if followsE m.mark e = false then ((zAns, 12), m) else (((m.does e).1, 0), (m.does e).2) := rfl
  have hd : m.does e = if e.oper = 1 then Mac.reg { m with mark := markE e } e else Mac.req { m with mark := markE e } e := rfl
  rw [ha]
  clear ha hm
  obtain ⟨mk, T, D⟩ := m
  simp only at HF HOK hd ⊢
  generalize followsE mk e = b1 at HF ⊢
  obtain ⟨mo, mv, ms⟩ := mk
  cases hr : e.right
  · rw [if_pos rfl]
    rw [hr] at HR
    clear HF HM HOK hd
    obtain ⟨vw, po, un, par, cl, se, rq, opr, body⟩ := e
    simp only [En.cells, Ans.cells, zAns] at HR ⊢
    (have hU := St.unpack hS; clear hS; obtain ⟨⟨gs, gl⟩, _, hS⟩ := hU; simp only [List.cons_append, List.nil_append] at hS)
    (go_enter Tryz.func8, Tryz.ntmps8)
    go_wp2_with (first | ((with_reducible refine g_box ?_); refine wl_of rfl ?_; refine wp_box hS rfl rfl rfl ?_; clear hS; intro ge w1 hS) | ((with_reducible refine g_alloc ?_); refine wl_of rfl ?_; refine wp_alloc hS rfl rfl rfl rfl ?_; clear hS; intro gq w1 hS) | (go_at_call 12; refine (HR.out _).mono ?_; rintro e w' ⟨rfl, h⟩; replace hS := hS.call h; clear h) | (first | refine au1 (n := ?_) | (refine au2 (n := ?_); clear hS; intro w' hS) | (refine au3 (n := ?_); clear hS; intro gb w1 hS) | (refine au4 (n := ?_); clear hS; intro v1 w' hS) | ((with_reducible refine wl_guard ?_); refine stop_mem rfl rfl ?_)))
    exact end_cell2 hS rfl rfl rfl rfl rfl rfl (h := ⟨rfl, St.packs (gs, gl) hS⟩)
  rw [if_neg (by decide)]
  rw [hr] at HR
  cases b1
  · rw [if_pos rfl]
    clear HM HOK hd
    obtain ⟨vw, po, un, par, cl, se, rq, opr, body⟩ := e
    simp only [En.cells, Mk.cells, Ans.cells, zAns] at HR HF ⊢
    (have hU := St.unpack hS; clear hS; obtain ⟨⟨gs, gl⟩, _, hS⟩ := hU; simp only [List.cons_append, List.nil_append] at hS)
    (go_enter Tryz.func8, Tryz.ntmps8)
    go_wp2_with (first | ((with_reducible refine g_box ?_); refine wl_of rfl ?_; refine wp_box hS rfl rfl rfl ?_; clear hS; intro ge w1 hS) | ((with_reducible refine g_alloc ?_); refine wl_of rfl ?_; refine wp_alloc hS rfl rfl rfl rfl ?_; clear hS; intro gq w1 hS) | (go_at_call 12; refine (HR.out _).mono ?_; rintro e w' ⟨rfl, h⟩; replace hS := hS.call h; clear h) | (first | refine au1 (n := ?_) | (refine au2 (n := ?_); clear hS; intro w' hS) | (refine au3 (n := ?_); clear hS; intro gb w1 hS) | (refine au4 (n := ?_); clear hS; intro v1 w' hS) | ((with_reducible refine wl_guard ?_); refine stop_mem rfl rfl ?_)))
    refine region_calm (by kernel_rfl) (by kernel_rfl) hS ?_
    (repeat (first | ((with_reducible refine c_call ?_); first | fail) | refine calm1 (n := ?_)))
    ((with_reducible refine c_load ?_); refine Calm.run rfl (fun W hW => by exact a_loadA (vs := [_, _, _]) hW rfl rfl rfl rfl (by (repeat (first | exact Ix.here | apply Ix.there))) 3 (by rfl) (by rfl) (by rfl)) ?_; simp only [Act.put, List.setIfInBounds_toArray, List.set_cons_zero, List.set_cons_succ])
    (repeat (first | ((with_reducible refine c_call ?_); first | fail) | refine calm1 (n := ?_)))
    (refine Calm.call (calm_makes HF.out) rfl (h := ?_); simp only [Act.put, List.setIfInBounds_toArray, List.set_cons_zero, List.set_cons_succ])
    (repeat (first | ((with_reducible refine c_call ?_); first | fail) | refine calm1 (n := ?_)))
    (refine Calm.nil ?_; clear hS; intro w8 hS)
    go_wp2_with (first | refine au1 (n := ?_) | (refine au2 (n := ?_); clear hS; intro w' hS) | (refine au3 (n := ?_); clear hS; intro gb w1 hS) | (refine au4 (n := ?_); clear hS; intro v1 w' hS) | ((with_reducible refine wl_guard ?_); refine stop_mem rfl rfl ?_))
    exact end_cell2 hS rfl rfl rfl rfl rfl rfl (h := ⟨rfl, St.packs (gs, gl) hS⟩)
  rw [if_neg (by decide)]
  rw [hd]
  clear hd
  have HOK := Lib.hid (HOK.out hr)
  have HM := Lib.hid (HM.out hr)
  have HG := Lib.hid (fun (S : List Nat) (w0 w : World) (M : List Ent) (hS : St S w0 w (mach g ⟨markE e, T, D⟩ :: M)) => mach_register hS HOK.out e)
  have HQ := Lib.hid (fun (S : List Nat) (w0 w : World) (M : List Ent) (hS : St S w0 w (mach g ⟨markE e, T, D⟩ :: M)) => mach_request hS HOK.out e hr)
  clear HOK hr
  generalize Mac.reg ⟨markE e, T, D⟩ e = R1 at HG ⊢
  generalize Mac.req ⟨markE e, T, D⟩ e = R2 at HQ ⊢
  generalize markE e = mk2 at HG HQ HM
  obtain ⟨⟨ra1, ra2, ra3, ra4, ra5, ra6⟩, rm⟩ := R1
  obtain ⟨⟨qa1, qa2, qa3, qa4, qa5, qa6⟩, qm⟩ := R2
  obtain ⟨mo2, mv2, ms2⟩ := mk2
  obtain ⟨vw, po, un, par, cl, se, rq, opr, body⟩ := e
  simp only [En.cells, Mk.cells, Ans.cells, zAns] at HR HF HM HG HQ ⊢
  (have hU := St.unpack hS; clear hS; obtain ⟨⟨gs, gl⟩, _, hS⟩ := hU; simp only [List.cons_append, List.nil_append] at hS)
  by_cases h1 : opr = 1
  · subst h1
    rw [if_pos rfl]
    (go_enter Tryz.func8, Tryz.ntmps8)
    go_wp2_with (first | ((with_reducible refine g_box ?_); refine wl_of rfl ?_; refine wp_box hS rfl rfl rfl ?_; clear hS; intro ge w1 hS) | ((with_reducible refine g_alloc ?_); refine wl_of rfl ?_; refine wp_alloc hS rfl rfl rfl rfl ?_; clear hS; intro gq w1 hS) | (go_at_call 12; refine (HR.out _).mono ?_; rintro e w' ⟨rfl, h⟩; replace hS := hS.call h; clear h) | (first | refine au1 (n := ?_) | (refine au2 (n := ?_); clear hS; intro w' hS) | (refine au3 (n := ?_); clear hS; intro gb w1 hS) | (refine au4 (n := ?_); clear hS; intro v1 w' hS) | ((with_reducible refine wl_guard ?_); refine stop_mem rfl rfl ?_)))
    refine region_calm (by kernel_rfl) (by kernel_rfl) hS ?_
    (repeat (first | ((with_reducible refine c_call ?_); first | fail) | refine calm1 (n := ?_)))
    ((with_reducible refine c_load ?_); refine Calm.run rfl (fun W hW => by exact a_loadA (vs := [_, _, _]) hW rfl rfl rfl rfl (by (repeat (first | exact Ix.here | apply Ix.there))) 3 (by rfl) (by rfl) (by rfl)) ?_; simp only [Act.put, List.setIfInBounds_toArray, List.set_cons_zero, List.set_cons_succ])
    (repeat (first | ((with_reducible refine c_call ?_); first | fail) | refine calm1 (n := ?_)))
    (refine Calm.call (calm_makes HF.out) rfl (h := ?_); simp only [Act.put, List.setIfInBounds_toArray, List.set_cons_zero, List.set_cons_succ])
    (repeat (first | ((with_reducible refine c_call ?_); first | fail) | refine calm1 (n := ?_)))
    (refine Calm.nil ?_; clear hS; intro w8 hS)
    go_wp2_with (first | (go_at_call 27; refine (HM.out _).mono ?_; rintro e w' ⟨rfl, h⟩; replace hS := hS.call h; clear h) | (first | refine au1 (n := ?_) | (refine au2 (n := ?_); clear hS; intro w' hS) | (refine au3 (n := ?_); clear hS; intro gb w1 hS) | (refine au4 (n := ?_); clear hS; intro v1 w' hS) | ((with_reducible refine wl_guard ?_); refine stop_mem rfl rfl ?_)))
    (replace hS := ((hS.out (m := ledg gl _) (by (repeat (first | exact Out.here | apply Out.there)))).out (m := ses gs _) (by (repeat (first | exact Out.here | apply Out.there)))).out (m := .row g _ _ _) (by (repeat (first | exact Out.here | apply Out.there))); replace hS := mach_in ⟨⟨mo2, mv2, ms2⟩, T, D⟩ hS)
    refine (HG.out _ _ _ _ hS).mono ?_
    clear hS
    rintro e w5 ⟨rfl, hS⟩
    go_wp2_with (first | refine au1 (n := ?_) | (refine au2 (n := ?_); clear hS; intro w' hS) | (refine au3 (n := ?_); clear hS; intro gb w1 hS) | (refine au4 (n := ?_); clear hS; intro v1 w' hS) | ((with_reducible refine wl_guard ?_); refine stop_mem rfl rfl ?_))
    exact end_cell2 hS rfl rfl rfl rfl rfl rfl (h := ⟨rfl, hS.pick⟩)
  · rw [if_neg h1]
    (go_enter Tryz.func8, Tryz.ntmps8)
    go_wp2_with (first | ((with_reducible refine g_box ?_); refine wl_of rfl ?_; refine wp_box hS rfl rfl rfl ?_; clear hS; intro ge w1 hS) | ((with_reducible refine g_alloc ?_); refine wl_of rfl ?_; refine wp_alloc hS rfl rfl rfl rfl ?_; clear hS; intro gq w1 hS) | (go_at_call 12; refine (HR.out _).mono ?_; rintro e w' ⟨rfl, h⟩; replace hS := hS.call h; clear h) | (first | refine au1 (n := ?_) | (refine au2 (n := ?_); clear hS; intro w' hS) | (refine au3 (n := ?_); clear hS; intro gb w1 hS) | (refine au4 (n := ?_); clear hS; intro v1 w' hS) | ((with_reducible refine wl_guard ?_); refine stop_mem rfl rfl ?_)))
    refine region_calm (by kernel_rfl) (by kernel_rfl) hS ?_
    (repeat (first | ((with_reducible refine c_call ?_); first | fail) | refine calm1 (n := ?_)))
    ((with_reducible refine c_load ?_); refine Calm.run rfl (fun W hW => by exact a_loadA (vs := [_, _, _]) hW rfl rfl rfl rfl (by (repeat (first | exact Ix.here | apply Ix.there))) 3 (by rfl) (by rfl) (by rfl)) ?_; simp only [Act.put, List.setIfInBounds_toArray, List.set_cons_zero, List.set_cons_succ])
    (repeat (first | ((with_reducible refine c_call ?_); first | fail) | refine calm1 (n := ?_)))
    (refine Calm.call (calm_makes HF.out) rfl (h := ?_); simp only [Act.put, List.setIfInBounds_toArray, List.set_cons_zero, List.set_cons_succ])
    (repeat (first | ((with_reducible refine c_call ?_); first | fail) | refine calm1 (n := ?_)))
    (refine Calm.nil ?_; clear hS; intro w8 hS)
    go_wp2_with (first | (go_at_call 27; refine (HM.out _).mono ?_; rintro e w' ⟨rfl, h⟩; replace hS := hS.call h; clear h) | (first | refine au1 (n := ?_) | (refine au2 (n := ?_); clear hS; intro w' hS) | (refine au3 (n := ?_); clear hS; intro gb w1 hS) | (refine au4 (n := ?_); clear hS; intro v1 w' hS) | ((with_reducible refine wl_guard ?_); refine stop_mem rfl rfl ?_)))
    (replace hS := ((hS.out (m := ledg gl _) (by (repeat (first | exact Out.here | apply Out.there)))).out (m := ses gs _) (by (repeat (first | exact Out.here | apply Out.there)))).out (m := .row g _ _ _) (by (repeat (first | exact Out.here | apply Out.there))); replace hS := mach_in ⟨⟨mo2, mv2, ms2⟩, T, D⟩ hS)
    refine (HQ.out _ _ _ _ hS).mono ?_
    clear hS
    rintro e w5 ⟨rfl, hS⟩
    go_wp2_with (first | refine au1 (n := ?_) | (refine au2 (n := ?_); clear hS; intro w' hS) | (refine au3 (n := ?_); clear hS; intro gb w1 hS) | (refine au4 (n := ?_); clear hS; intro v1 w' hS) | ((with_reducible refine wl_guard ?_); refine stop_mem rfl rfl ?_))
    exact end_cell2 hS rfl rfl rfl rfl rfl rfl (h := ⟨rfl, hS.pick⟩)
end
end Go.Proofs.YtjjiibcnknljfaaGreat
