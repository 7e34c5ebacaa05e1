/-
  The document's machine: an entry is done; what would be told once more.
-/
import Derived.Test.YtjjiibcnknljfaaGreatMacRef2
set_option linter.unusedSimpArgs false
set_option linter.unusedVariables false
set_option linter.unusedSectionVars false
set_option maxRecDepth 100000
namespace Go.Proofs.YtjjiibcnknljfaaGreat
open Go.RowKit Go.Cmp

section
variable {S : List Nat} {w0 w : World} {M : List Ent} {g : Nat} {m : Mac}

set_option maxHeartbeats 16000000 in
theorem rmach_apply (hS : St S w0 w (rmach g m :: M)) (hm : m.Ok) (e : En) (hp : e.parent < 18446744073709551616) (hb : e.body.length ≤ 1000000) :
    Calls Tryz.prog 19 #[.pointer (some ⟨g, 0, none⟩), .agg e.cells.toArray] w fun x w' => x = .returned (.tuple #[.agg (m.apply e).1.1.cells.toArray, .int .i64 (m.apply e).1.2]) ∧ St S w0 w' (rmach g (m.apply e).2 :: M) := by
  have HR := Lib.hid (fun w => refRight9_any e (by omega) w)
  have HF := Lib.hid (fun w => ref9Follows_any m.mark e hb w)
  have HG := Lib.hid (fun (hr : e.right = true) (S : List Nat) (w0 w : World) (M : List Ent) (hS : St S w0 w (rmach g m :: M)) => rmach_does hS hm e hr hp)
  have ha : m.apply e = if e.right = false then ((zAns, 4), m) else if followsE m.mark e = false then ((zAns, 12), m) else (((m.does e).1, 0), (m.does e).2) := rfl
  rw [ha]
  clear ha hm
  generalize m.does e = R1 at HG ⊢
  obtain ⟨mk, T, D⟩ := m
  simp only at HF ⊢
  generalize followsE mk e = b1 at HF ⊢
  obtain ⟨mo, mv, ms⟩ := mk
  cases hr : e.right
  · rw [if_pos rfl]
    rw [hr] at HR
    clear HF HG
    obtain ⟨vw, po, un, par, cl, se, rq, opr, body⟩ := e
    simp only [En.cells, Ans.cells, zAns] at HR ⊢
    (have hU := St.unpack hS; clear hS; obtain ⟨⟨gs, gl⟩, _, hS⟩ := hU; simp only [List.cons_append, List.nil_append] at hS)
    (go_enter Tryz.func19, Tryz.ntmps19)
    go_wp2_with (first | ((with_reducible refine g_box ?_); refine wl_of rfl ?_; refine wp_box hS rfl rfl rfl ?_; clear hS; intro ge w1 hS) | ((with_reducible refine g_alloc ?_); refine wl_of rfl ?_; refine wp_alloc hS rfl rfl rfl rfl ?_; clear hS; intro gq w1 hS) | (go_at_call 45; refine (HR.out _).mono ?_; rintro e w' ⟨rfl, h⟩; replace hS := hS.call h; clear h) | (first | refine au1 (n := ?_) | (refine au2 (n := ?_); clear hS; intro w' hS) | (refine au3 (n := ?_); clear hS; intro gb w1 hS) | (refine au4 (n := ?_); clear hS; intro v1 w' hS) | ((with_reducible refine wl_guard ?_); refine stop_mem rfl rfl ?_)))
    exact end_cell2 hS rfl rfl rfl rfl rfl rfl (h := ⟨rfl, St.packs (gs, gl) hS⟩)
  rw [if_neg (by decide)]
  rw [hr] at HR
  have HG := Lib.hid (HG.out hr)
  clear hr
  cases b1
  · rw [if_pos rfl]
    clear HG
    obtain ⟨vw, po, un, par, cl, se, rq, opr, body⟩ := e
    simp only [En.cells, Mk.cells, Ans.cells, zAns] at HR HF ⊢
    (have hU := St.unpack hS; clear hS; obtain ⟨⟨gs, gl⟩, _, hS⟩ := hU; simp only [List.cons_append, List.nil_append] at hS)
    (go_enter Tryz.func19, Tryz.ntmps19)
    go_wp2_with (first | ((with_reducible refine g_box ?_); refine wl_of rfl ?_; refine wp_box hS rfl rfl rfl ?_; clear hS; intro ge w1 hS) | ((with_reducible refine g_alloc ?_); refine wl_of rfl ?_; refine wp_alloc hS rfl rfl rfl rfl ?_; clear hS; intro gq w1 hS) | (go_at_call 45; refine (HR.out _).mono ?_; rintro e w' ⟨rfl, h⟩; replace hS := hS.call h; clear h) | (first | refine au1 (n := ?_) | (refine au2 (n := ?_); clear hS; intro w' hS) | (refine au3 (n := ?_); clear hS; intro gb w1 hS) | (refine au4 (n := ?_); clear hS; intro v1 w' hS) | ((with_reducible refine wl_guard ?_); refine stop_mem rfl rfl ?_)))
    refine region_calm (by kernel_rfl) (by kernel_rfl) hS ?_
    (repeat (first | ((with_reducible refine c_call ?_); first | fail) | refine calm1 (n := ?_)))
    ((with_reducible refine c_load ?_); refine Calm.run rfl (fun W hW => by exact a_loadA (vs := [_, _, _]) hW rfl rfl rfl rfl (by (repeat (first | exact Ix.here | apply Ix.there))) 3 (by rfl) (by rfl) (by rfl)) ?_; simp only [Act.put, List.setIfInBounds_toArray, List.set_cons_zero, List.set_cons_succ])
    (repeat (first | ((with_reducible refine c_call ?_); first | fail) | refine calm1 (n := ?_)))
    (refine Calm.call (calm_makes HF.out) rfl (h := ?_); simp only [Act.put, List.setIfInBounds_toArray, List.set_cons_zero, List.set_cons_succ])
    (repeat (first | ((with_reducible refine c_call ?_); first | fail) | refine calm1 (n := ?_)))
    (refine Calm.nil ?_; clear hS; intro w8 hS)
    go_wp2_with (first | refine au1 (n := ?_) | (refine au2 (n := ?_); clear hS; intro w' hS) | (refine au3 (n := ?_); clear hS; intro gb w1 hS) | (refine au4 (n := ?_); clear hS; intro v1 w' hS) | ((with_reducible refine wl_guard ?_); refine stop_mem rfl rfl ?_))
    exact end_cell2 hS rfl rfl rfl rfl rfl rfl (h := ⟨rfl, St.packs (gs, gl) hS⟩)
  rw [if_neg (by decide)]
  obtain ⟨⟨ra1, ra2, ra3, ra4, ra5, ra6⟩, rm⟩ := R1
  obtain ⟨vw, po, un, par, cl, se, rq, opr, body⟩ := e
  simp only [En.cells, Mk.cells, Ans.cells, zAns] at HR HF HG ⊢
  (have hU := St.unpack hS; clear hS; obtain ⟨⟨gs, gl⟩, _, hS⟩ := hU; simp only [List.cons_append, List.nil_append] at hS)
  (go_enter Tryz.func19, Tryz.ntmps19)
  go_wp2_with (first | ((with_reducible refine g_box ?_); refine wl_of rfl ?_; refine wp_box hS rfl rfl rfl ?_; clear hS; intro ge w1 hS) | ((with_reducible refine g_alloc ?_); refine wl_of rfl ?_; refine wp_alloc hS rfl rfl rfl rfl ?_; clear hS; intro gq w1 hS) | (go_at_call 45; refine (HR.out _).mono ?_; rintro e w' ⟨rfl, h⟩; replace hS := hS.call h; clear h) | (first | refine au1 (n := ?_) | (refine au2 (n := ?_); clear hS; intro w' hS) | (refine au3 (n := ?_); clear hS; intro gb w1 hS) | (refine au4 (n := ?_); clear hS; intro v1 w' hS) | ((with_reducible refine wl_guard ?_); refine stop_mem rfl rfl ?_)))
  refine region_calm (by kernel_rfl) (by kernel_rfl) hS ?_
  (repeat (first | ((with_reducible refine c_call ?_); first | fail) | refine calm1 (n := ?_)))
  ((with_reducible refine c_load ?_); refine Calm.run rfl (fun W hW => by exact a_loadA (vs := [_, _, _]) hW rfl rfl rfl rfl (by (repeat (first | exact Ix.here | apply Ix.there))) 3 (by rfl) (by rfl) (by rfl)) ?_; simp only [Act.put, List.setIfInBounds_toArray, List.set_cons_zero, List.set_cons_succ])
  (repeat (first | ((with_reducible refine c_call ?_); first | fail) | refine calm1 (n := ?_)))
  (refine Calm.call (calm_makes HF.out) rfl (h := ?_); simp only [Act.put, List.setIfInBounds_toArray, List.set_cons_zero, List.set_cons_succ])
  (repeat (first | ((with_reducible refine c_call ?_); first | fail) | refine calm1 (n := ?_)))
  (refine Calm.nil ?_; clear hS; intro w8 hS)
  go_wp2_with (first | refine au1 (n := ?_) | (refine au2 (n := ?_); clear hS; intro w' hS) | (refine au3 (n := ?_); clear hS; intro gb w1 hS) | (refine au4 (n := ?_); clear hS; intro v1 w' hS) | ((with_reducible refine wl_guard ?_); refine stop_mem rfl rfl ?_))
  (replace hS := ((hS.out (m := rledg gl _) (by (repeat (first | exact Out.here | apply Out.there)))).out (m := rses gs _) (by (repeat (first | exact Out.here | apply Out.there)))).out (m := .row g _ _ _) (by (repeat (first | exact Out.here | apply Out.there))); replace hS := rmach_in ⟨⟨mo, mv, ms⟩, T, D⟩ hS)
  refine (HG.out _ _ _ _ hS).mono ?_
  clear hS
  rintro e w5 ⟨rfl, hS⟩
  go_wp2_with (first | refine au1 (n := ?_) | (refine au2 (n := ?_); clear hS; intro w' hS) | (refine au3 (n := ?_); clear hS; intro gb w1 hS) | (refine au4 (n := ?_); clear hS; intro v1 w' hS) | ((with_reducible refine wl_guard ?_); refine stop_mem rfl rfl ?_))
  exact end_cell2 hS rfl rfl rfl rfl rfl rfl (h := ⟨rfl, hS.pick⟩)

set_option maxHeartbeats 8000000 in
theorem rmach_cached (hS : St S w0 w (rmach g m :: M)) (hm : m.Ok) (c s r : Int) :
    Calls Tryz.prog 21 #[.pointer (some ⟨g, 0, none⟩), .int .i64 c, .int .i64 s, .int .i64 r] w fun x w' => x = .returned (.tuple #[.agg (m.cached c s r).1.cells.toArray, .bool (m.cached c s r).2]) ∧ St S w0 w' (rmach g m :: M) := by
  obtain ⟨mk, T, D⟩ := m
  have hl3 : T.length ≤ 3 := hm.good.ok.len
  have HL := Lib.hid (fun (S : List Nat) (w0 : World) (w : World) (M : List Ent) (g : Nat) (hS : St S w0 w (rses g T :: M)) => rses_look hS (by omega) c)
  have HV := Lib.hid (fun (S : List Nat) (w0 : World) (w : World) (M : List Ent) (g : Nat) (hS : St S w0 w (rses g T :: M)) => rses_verdict hS (by omega) c s r hm.good.ok.req)
  have HA := Lib.hid (fun w => told10_any (sLook T c).1 w)
  unfold Mac.cached
  simp only
  clear hm hl3
  generalize sVerdict T c s r = V at HV ⊢
  generalize sLook T c = Y at HL HA ⊢
  obtain ⟨⟨ya1, ya2, ya3, ya4, ya5⟩, yb⟩ := Y
  simp only [tellS, Ses.cells, Ans.cells] at HL HA ⊢
  by_cases hV : V = 2
  · subst hV
    rw [if_pos rfl]
    simp only
    (have hU := St.unpack hS; clear hS; obtain ⟨⟨gs, gl⟩, _, hS⟩ := hU; simp only [List.cons_append, List.nil_append] at hS)
    (go_enter Tryz.func21, Tryz.ntmps21)
    go_wp2_with (first | (go_at_call 23; refine (HV.out _ _ _ _ _ (hS.out (by (repeat (first | exact Out.here | apply Out.there))))).mono ?_; clear hS; rintro e w' ⟨rfl, hS⟩) | (go_at_call 51; refine (HL.out _ _ _ _ _ (hS.out (by (repeat (first | exact Out.here | apply Out.there))))).mono ?_; clear hS; rintro e w' ⟨rfl, hS⟩) | (go_at_call 52; refine (HA.out _).mono ?_; rintro e w' ⟨rfl, h⟩; replace hS := hS.call h; clear h) | (first | refine au1 (n := ?_) | (refine au2 (n := ?_); clear hS; intro w' hS) | (refine au3 (n := ?_); clear hS; intro gb w1 hS) | (refine au4 (n := ?_); clear hS; intro v1 w' hS) | ((with_reducible refine wl_guard ?_); refine stop_mem rfl rfl ?_)))
    exact end_cell2 hS rfl rfl rfl rfl rfl rfl (h := ⟨rfl, St.packs (gs, gl) hS⟩)
  · rw [if_neg hV]
    have hV1 : ((V : Int) != 2) = true := by rw [bne_iff_ne]; exact hV
    simp only [zAns]
    (have hU := St.unpack hS; clear hS; obtain ⟨⟨gs, gl⟩, _, hS⟩ := hU; simp only [List.cons_append, List.nil_append] at hS)
    (go_enter Tryz.func21, Tryz.ntmps21)
    go_wp2_with (first | (go_at_call 23; refine (HV.out _ _ _ _ _ (hS.out (by (repeat (first | exact Out.here | apply Out.there))))).mono ?_; clear hS; rintro e w' ⟨rfl, hS⟩) | (first | refine au1 (n := ?_) | (refine au2 (n := ?_); clear hS; intro w' hS) | (refine au3 (n := ?_); clear hS; intro gb w1 hS) | (refine au4 (n := ?_); clear hS; intro v1 w' hS) | ((with_reducible refine wl_guard ?_); refine stop_mem rfl rfl ?_)))
    exact end_cell2 hS rfl rfl rfl rfl rfl rfl (h := ⟨rfl, St.packs (gs, gl) hS⟩)
end
end Go.Proofs.YtjjiibcnknljfaaGreat
