/-
  The document's machine: what an entry does.
-/
import Derived.Test.YtjjiibcnknljfaaGreatMacRef1
import Derived.Test.YtjjiibcnknljfaaGreatMax
set_option linter.unusedSimpArgs false
set_option linter.unusedVariables false
set_option linter.unusedSectionVars false
set_option maxRecDepth 100000
namespace Go.Proofs.YtjjiibcnknljfaaGreat
open Go.RowKit Go.Cmp

section
variable {S : List Nat} {w0 w : World} {M : List Ent} {g : Nat} {m : Mac}

set_option maxHeartbeats 16000000 in
theorem rmach_does (hS : St S w0 w (rmach g m :: M)) (hm : m.Ok) (e : En) (hr : e.right = true) (hp : e.parent < 18446744073709551616) :
    Calls Tryz.prog 47 #[.pointer (some ⟨g, 0, none⟩), .agg e.cells.toArray] w fun x w' => x = .returned (.agg (m.does e).1.cells.toArray) ∧ St S w0 w' (rmach g (m.does e).2 :: M) := by
  obtain ⟨mk, T, D⟩ := m
  have hgd := hm.good
  have hl3 : T.length ≤ 3 := hm.good.ok.len
  obtain ⟨hmc, hmo, hmr, hmo0, hbody⟩ := right_may hr
  have HM := Lib.hid (fun w => refMark9_any e hp (by omega) w)
  have HL := Lib.hid (fun (S : List Nat) (w0 : World) (g : Nat) (w : World) (M : List Ent) (hS : St S w0 w (rses g T :: M)) => rses_look hS (by omega) e.client)
  have HO := Lib.hid (fun (S : List Nat) (w0 : World) (g : Nat) (w : World) (M : List Ent) (hS : St S w0 w (rses g T :: M)) => rses_open hS hgd e.client e.op)
  have HV := Lib.hid (fun (S : List Nat) (w0 : World) (g : Nat) (w : World) (M : List Ent) (hS : St S w0 w (rses g T :: M)) => rses_verdict hS (by omega) e.client e.session e.request hm.good.ok.req)
  have HD := Lib.hid (fun (S : List Nat) (w0 : World) (g : Nat) (w : World) (M : List Ent) (hS : St S w0 w (rledg g D :: M)) => rledg_do hS hm.led e.oper e.body (by omega))
  have HN := Lib.hid (fun (S : List Nat) (w0 : World) (g : Nat) (w : World) (M : List Ent) (hS : St S w0 w (rses g T :: M)) => rses_note hS (by omega) e.client e.request e.op (D.doIt e.oper e.body).1)
  have HA1 := Lib.hid (fun w => told10_any (sLook T e.client).1 w)
  have HO2 : Hid ((sLook T e.client).2 = false → tellS (sLook (sOpen T e.client e.op).2.2 e.client).1 = ⟨1, e.client, e.op, 0, e.op, []⟩) := Lib.hid (fun h => by rw [(look_open hgd hmc hmo h).2]; rfl)
  have HN2 : Hid (sVerdict T e.client e.session e.request = 1 → tellS (sLook (sNote T e.client e.request e.op (D.doIt e.oper e.body).1).2 e.client).1 = ⟨1, e.client, e.session, e.request, e.op, (D.doIt e.oper e.body).1⟩) := Lib.hid (fun h => by
    have h5 := verdict_look (T := T) (c := e.client) (s := e.session) (r := e.request) (by rw [h]; decide)
    rw [(look_note (t := (D.doIt e.oper e.body).1) hgd h5.1 hmr hmo0 (doIt_len _ _ _)).2]
    have hc := (look_some h5.1).2.2.1
    simp [tellS, hc, h5.2])
  have hq0 : 0 ≤ (sLook T e.client).1.request := by
    cases h : (sLook T e.client).2
    · have := look_none h
      unfold sLook
      rw [if_pos this]
      simp [zSes]
    · exact (hgd.ok.req _ (look_some h).2.2.2).1
  have hdoes : Mac.does ⟨mk, T, D⟩ e = if e.oper = 1 then
      (if (sLook T e.client).2 = true then (if 0 < (sLook T e.client).1.request then zAns else tellS (sLook T e.client).1, ⟨markE e, T, D⟩)
       else (tellS (sLook (sOpen T e.client e.op).2.2 e.client).1, ⟨markE e, (sOpen T e.client e.op).2.2, D⟩))
    else if sVerdict T e.client e.session e.request = 5 then (⟨2, e.client, e.session, e.request, e.op, []⟩, ⟨markE e, T, D⟩)
    else if sVerdict T e.client e.session e.request = 1 then
      (tellS (sLook (sNote T e.client e.request e.op (D.doIt e.oper e.body).1).2 e.client).1, ⟨markE e, (sNote T e.client e.request e.op (D.doIt e.oper e.body).1).2, (D.doIt e.oper e.body).2⟩)
    else if sVerdict T e.client e.session e.request = 2 then (tellS (sLook T e.client).1, ⟨markE e, T, D⟩)
    else (zAns, ⟨markE e, T, D⟩) := rfl
  have hv : sVerdict T e.client e.session e.request = 5 ∨ sVerdict T e.client e.session e.request = 1 ∨ sVerdict T e.client e.session e.request = 2 ∨ sVerdict T e.client e.session e.request = 3 ∨ sVerdict T e.client e.session e.request = 4 := by
    unfold sVerdict
    split
    · exact .inl rfl
    · split
      · exact .inr (.inr (.inl rfl))
      · split
        · exact .inr (.inr (.inr (.inl rfl)))
        · split
          · exact .inr (.inl rfl)
          · exact .inr (.inr (.inr (.inr rfl)))
  rw [hdoes]
  clear hdoes hm hgd hl3 hmc hmo hmr hmo0 hbody hr hp
  generalize tellS (sLook (sNote T e.client e.request e.op (D.doIt e.oper e.body).1).2 e.client).1 = A2 at HN2 ⊢
  generalize tellS (sLook (sOpen T e.client e.op).2.2 e.client).1 = A3 at HO2 ⊢
  generalize sNote T e.client e.request e.op (D.doIt e.oper e.body).1 = NT at HN ⊢
  generalize sOpen T e.client e.op = O at HO ⊢
  generalize D.doIt e.oper e.body = DD at HD HN HN2 ⊢
  generalize sVerdict T e.client e.session e.request = V at HV hv HN2 ⊢
  generalize sLook T e.client = Y at HL HA1 HO2 hq0 ⊢
  generalize markE e = mk2 at HM ⊢
  obtain ⟨ya, yb⟩ := Y
  obtain ⟨o1, T2⟩ := NT
  obtain ⟨q1, q2, T3⟩ := O
  obtain ⟨dr, D2⟩ := DD
  obtain ⟨mo2, mv2, ms2⟩ := mk2
  obtain ⟨mo, mv, ms⟩ := mk
  obtain ⟨vw, po, un, par, cl, se, rq, opr, body⟩ := e
  simp only at HL HV HD HN HO HA1 HO2 HN2 hq0 ⊢
  generalize ht1 : tellS ya = t1 at HA1 ⊢
  clear ht1
  obtain ⟨ya1, ya2, ya3, ya4, ya5⟩ := ya
  obtain ⟨t11, t12, t13, t14, t15, t16⟩ := t1
  simp only [Ses.cells, Ans.cells, En.cells, zAns, Mk.cells] at HL HV HD HN HO HA1 HM ⊢
  simp only at hq0
  (have hU := St.unpack hS; clear hS; obtain ⟨⟨gs, gl⟩, _, hS⟩ := hU; simp only [List.cons_append, List.nil_append] at hS)
  by_cases h1 : opr = 1
  · subst h1
    rw [if_pos rfl]
    clear hv HV HD HN HN2
    cases yb
    · have hA3 := HO2.out rfl
      subst hA3
      rw [if_neg (by decide)]
      (go_enter Tryz.func47, Tryz.ntmps47)
      go_wp2_with (first | ((with_reducible refine g_box ?_); refine wl_of rfl ?_; refine wp_box hS rfl rfl rfl ?_; clear hS; intro ge w1 hS) | ((with_reducible refine g_alloc ?_); refine wl_of rfl ?_; refine wp_alloc hS rfl rfl rfl rfl ?_; clear hS; intro gq w1 hS) | (go_at_call 79; refine (HM.out _).mono ?_; rintro e w' ⟨rfl, h⟩; replace hS := hS.call h; clear h) | (first | refine au1 (n := ?_) | (refine au2 (n := ?_); clear hS; intro w' hS) | (refine au3 (n := ?_); clear hS; intro gb w1 hS) | (refine au4 (n := ?_); clear hS; intro v1 w' hS) | ((with_reducible refine wl_guard ?_); refine stop_mem rfl rfl ?_)))
      obtain ⟨wa, rfl⟩ : ∃ wa, wa = w' := ⟨_, rfl⟩
      replace hS := hS.out (m := rses gs T) (by (repeat (first | exact Out.here | apply Out.there)))
      obtain ⟨F, hA, hR, hB⟩ := St.split (A := [rses gs T]) hS
      clear hS
      have hS := hA.drew
      clear hA
      refine wp_region_held (S := fun W => Cmp.Mod F wa W) (by kernel_rfl) ?_
      change wpAnyH _ _ _ _ _ _ _ _ (wa).drew
      generalize (wa).drew = w2 at hS ⊢
      (refine whd_take 0 rfl rfl (by kernel_rfl) (by kernel_rfl) (by kernel_rfl) (fun _ _ _ h => h) rfl (fun W hW => by (go_simp; try with_reducible rfl)) hS.base ?_; simp only [Act.put, List.setIfInBounds_toArray, List.set_cons_zero, List.set_cons_succ])
      (refine whd_take 1 rfl rfl (by kernel_rfl) (by kernel_rfl) (by kernel_rfl) (fun _ _ _ h => h) rfl (fun W hW => by (go_simp; try with_reducible rfl)) hS.base ?_; simp only [Act.put, List.setIfInBounds_toArray, List.set_cons_zero, List.set_cons_succ])
      (refine whd_take 2 rfl rfl (by kernel_rfl) (by kernel_rfl) (by kernel_rfl) (fun _ _ _ h => h) rfl (fun W hW => by (go_simp; try with_reducible rfl)) hS.base ?_; simp only [Act.put, List.setIfInBounds_toArray, List.set_cons_zero, List.set_cons_succ])
      (refine whd_take 3 rfl rfl (by kernel_rfl) (by kernel_rfl) (by kernel_rfl) (fun _ _ _ h => h) rfl (fun W hW => rdR) hS.base ?_; simp only [Act.put, List.setIfInBounds_toArray, List.set_cons_zero, List.set_cons_succ])
      (refine whd_take 4 rfl rfl (by kernel_rfl) (by kernel_rfl) (by kernel_rfl) (fun _ _ _ h => h) rfl (fun W hW => by (go_simp; try with_reducible rfl)) hS.base ?_; simp only [Act.put, List.setIfInBounds_toArray, List.set_cons_zero, List.set_cons_succ])
      (refine whd_take 5 rfl rfl (by kernel_rfl) (by kernel_rfl) (by kernel_rfl) (fun _ _ _ h => h) rfl (fun W hW => rdR) hS.base ?_; simp only [Act.put, List.setIfInBounds_toArray, List.set_cons_zero, List.set_cons_succ])
      apply mrg
      · intro kk
        have hS := hS
        (refine wpAnyH_all (rs := [6, 10]) (by kernel_rfl) (by simp) ?_; intro i hi; simp only [List.mem_cons, List.not_mem_nil, or_false] at hi)
        rcases hi with rfl | rfl
        · refine wod_of rfl rfl rfl (wp_call (by go_simp) (HL.out F wa gs _ _ (hS.out (by (repeat (first | exact Out.here | apply Out.there))))) ?_)
          clear hS
          rintro e w4 ⟨rfl, hS⟩
          refine ⟨_, rfl, hS.base, ?_⟩
          simp only [Act.put, List.setIfInBounds_toArray, List.set_cons_zero, List.set_cons_succ]
          (refine whd_take 7 rfl rfl (by kernel_rfl) (by kernel_rfl) (by kernel_rfl) (fun _ _ _ h => h) rfl (fun W hW => by (go_simp; try with_reducible rfl)) hS.base ?_; simp only [Act.put, List.setIfInBounds_toArray, List.set_cons_zero, List.set_cons_succ])
          (refine whd_take 8 rfl rfl (by kernel_rfl) (by kernel_rfl) (by kernel_rfl) (fun _ _ _ h => h) rfl (fun W hW => by (go_simp; try with_reducible rfl)) hS.base ?_; simp only [Act.put, List.setIfInBounds_toArray, List.set_cons_zero, List.set_cons_succ])
          (refine whd_take 9 rfl rfl (by kernel_rfl) (by kernel_rfl) (by kernel_rfl) (fun _ _ _ h => h) rfl (fun W hW => by (go_simp; try with_reducible rfl)) hS.base ?_; simp only [Act.put, List.setIfInBounds_toArray, List.set_cons_zero, List.set_cons_succ])
          (refine wpAnyH_all (rs := [10]) (by kernel_rfl) (by simp) ?_; intro i hi; have hi := List.mem_singleton.1 hi; subst hi)
          (refine wod_of rfl rfl rfl (wp_alloc hS rfl rfl rfl rfl ?_); clear hS; intro gz w3 hS; refine ⟨hS.base, ?_⟩; simp only [Act.put, List.setIfInBounds_toArray, List.set_cons_zero, List.set_cons_succ])
          (refine wpAnyH_all (rs := [11]) (by kernel_rfl) (by simp) ?_; intro i hi; have hi := List.mem_singleton.1 hi; subst hi)
          refine won_of rfl rfl rfl (k_sta hS rfl rfl rfl (h := ?_))
          clear hS
          intro w6 hS
          simp only [List.take, List.drop, List.cons_append, List.nil_append, List.length_cons, List.length_nil] at hS
          refine ⟨hS.base, ?_⟩
          simp only [Act.put, List.setIfInBounds_toArray, List.set_cons_zero, List.set_cons_succ]
          (refine whd_take 12 rfl rfl (by kernel_rfl) (by kernel_rfl) (by kernel_rfl) (fun _ _ _ h => h) rfl (fun W hW => by (go_simp; try with_reducible rfl)) hS.base ?_; simp only [Act.put, List.setIfInBounds_toArray, List.set_cons_zero, List.set_cons_succ])
          (refine wpAnyH_done (by kernel_rfl) ?_ _)
          replace hS := hB _ _ hS
          simp only [List.cons_append, List.nil_append] at hS
          revert gz w6 hS
          exact kk.out
        · (refine wod_of rfl rfl rfl (wp_alloc hS rfl rfl rfl rfl ?_); clear hS; intro gz w3 hS; refine ⟨hS.base, ?_⟩; simp only [Act.put, List.setIfInBounds_toArray, List.set_cons_zero, List.set_cons_succ])
          (refine wpAnyH_all (rs := [6]) (by kernel_rfl) (by simp) ?_; intro i hi; have hi := List.mem_singleton.1 hi; subst hi)
          refine wod_of rfl rfl rfl (wp_call (by go_simp) (HL.out F wa gs _ _ (hS.out (by (repeat (first | exact Out.here | apply Out.there))))) ?_)
          clear hS
          rintro e w4 ⟨rfl, hS⟩
          refine ⟨_, rfl, hS.base, ?_⟩
          simp only [Act.put, List.setIfInBounds_toArray, List.set_cons_zero, List.set_cons_succ]
          (refine whd_take 7 rfl rfl (by kernel_rfl) (by kernel_rfl) (by kernel_rfl) (fun _ _ _ h => h) rfl (fun W hW => by (go_simp; try with_reducible rfl)) hS.base ?_; simp only [Act.put, List.setIfInBounds_toArray, List.set_cons_zero, List.set_cons_succ])
          (refine whd_take 8 rfl rfl (by kernel_rfl) (by kernel_rfl) (by kernel_rfl) (fun _ _ _ h => h) rfl (fun W hW => by (go_simp; try with_reducible rfl)) hS.base ?_; simp only [Act.put, List.setIfInBounds_toArray, List.set_cons_zero, List.set_cons_succ])
          (refine whd_take 9 rfl rfl (by kernel_rfl) (by kernel_rfl) (by kernel_rfl) (fun _ _ _ h => h) rfl (fun W hW => by (go_simp; try with_reducible rfl)) hS.base ?_; simp only [Act.put, List.setIfInBounds_toArray, List.set_cons_zero, List.set_cons_succ])
          (refine wpAnyH_all (rs := [11]) (by kernel_rfl) (by simp) ?_; intro i hi; have hi := List.mem_singleton.1 hi; subst hi)
          refine won_of rfl rfl rfl (k_sta hS rfl rfl rfl (h := ?_))
          clear hS
          intro w6 hS
          simp only [List.take, List.drop, List.cons_append, List.nil_append, List.length_cons, List.length_nil] at hS
          refine ⟨hS.base, ?_⟩
          simp only [Act.put, List.setIfInBounds_toArray, List.set_cons_zero, List.set_cons_succ]
          (refine whd_take 12 rfl rfl (by kernel_rfl) (by kernel_rfl) (by kernel_rfl) (fun _ _ _ h => h) rfl (fun W hW => by (go_simp; try with_reducible rfl)) hS.base ?_; simp only [Act.put, List.setIfInBounds_toArray, List.set_cons_zero, List.set_cons_succ])
          (refine wpAnyH_done (by kernel_rfl) ?_ _)
          replace hS := hB _ _ hS
          simp only [List.cons_append, List.nil_append] at hS
          exact kk.out _ _ hS.pick
      clear hS
      intro gz w6 hS
      go_wp2_with (first | refine au1 (n := ?_) | (refine au2 (n := ?_); clear hS; intro w' hS) | (refine au3 (n := ?_); clear hS; intro gb w1 hS) | (refine au4 (n := ?_); clear hS; intro v1 w' hS) | ((with_reducible refine wl_guard ?_); refine stop_mem rfl rfl ?_))
      replace hS := hS.out (m := rses gs T) (by (repeat (first | exact Out.here | apply Out.there)))
      obtain ⟨F, hA, hR, hB⟩ := St.split (A := [rses gs T]) hS
      clear hS
      have hS := hA.drew
      clear hA
      refine wp_region_held (S := fun W => Cmp.Mod F w6 W) (by kernel_rfl) ?_
      change wpAnyH _ _ _ _ _ _ _ _ (w6).drew
      generalize (w6).drew = w2 at hS ⊢
      (refine whd_take 0 rfl rfl (by kernel_rfl) (by kernel_rfl) (by kernel_rfl) (fun _ _ _ h => h) rfl (fun W hW => by (go_simp; try with_reducible rfl)) hS.base ?_; simp only [Act.put, List.setIfInBounds_toArray, List.set_cons_zero, List.set_cons_succ])
      (refine whd_take 1 rfl rfl (by kernel_rfl) (by kernel_rfl) (by kernel_rfl) (fun _ _ _ h => h) rfl (fun W hW => by (go_simp; try with_reducible rfl)) hS.base ?_; simp only [Act.put, List.setIfInBounds_toArray, List.set_cons_zero, List.set_cons_succ])
      (refine whd_take 2 rfl rfl (by kernel_rfl) (by kernel_rfl) (by kernel_rfl) (fun _ _ _ h => h) rfl (fun W hW => by (go_simp; try with_reducible rfl)) hS.base ?_; simp only [Act.put, List.setIfInBounds_toArray, List.set_cons_zero, List.set_cons_succ])
      (refine whd_take 3 rfl rfl (by kernel_rfl) (by kernel_rfl) (by kernel_rfl) (fun _ _ _ h => h) rfl (fun W hW => rdR) hS.base ?_; simp only [Act.put, List.setIfInBounds_toArray, List.set_cons_zero, List.set_cons_succ])
      (refine whd_take 4 rfl rfl (by kernel_rfl) (by kernel_rfl) (by kernel_rfl) (fun _ _ _ h => h) rfl (fun W hW => by (go_simp; try with_reducible rfl)) hS.base ?_; simp only [Act.put, List.setIfInBounds_toArray, List.set_cons_zero, List.set_cons_succ])
      (refine whd_take 5 rfl rfl (by kernel_rfl) (by kernel_rfl) (by kernel_rfl) (fun _ _ _ h => h) rfl (fun W hW => rdR) hS.base ?_; simp only [Act.put, List.setIfInBounds_toArray, List.set_cons_zero, List.set_cons_succ])
      (refine whd_take 6 rfl rfl (by kernel_rfl) (by kernel_rfl) (by kernel_rfl) (fun _ _ _ h => h) rfl (fun W hW => by (go_simp; try with_reducible rfl)) hS.base ?_; simp only [Act.put, List.setIfInBounds_toArray, List.set_cons_zero, List.set_cons_succ])
      (refine whd_take 7 rfl rfl (by kernel_rfl) (by kernel_rfl) (by kernel_rfl) (fun _ _ _ h => h) rfl (fun W hW => rdR) hS.base ?_; simp only [Act.put, List.setIfInBounds_toArray, List.set_cons_zero, List.set_cons_succ])
      (refine wpAnyH_all (rs := [8]) (by kernel_rfl) (by simp) ?_; intro i hi; have hi := List.mem_singleton.1 hi; subst hi)
      refine wod_of rfl rfl rfl (wp_call (by go_simp) (HO.out F w6 gs _ _ (hS.out (by (repeat (first | exact Out.here | apply Out.there))))) ?_)
      clear hS
      rintro e w4 ⟨rfl, hS⟩
      refine ⟨_, rfl, hS.base, ?_⟩
      simp only [Act.put, List.setIfInBounds_toArray, List.set_cons_zero, List.set_cons_succ]
      (refine wpAnyH_done (by kernel_rfl) ?_ _)
      replace hS := hB _ _ hS
      simp only [List.cons_append, List.nil_append] at hS
      go_wp2_with (first | refine au1 (n := ?_) | (refine au2 (n := ?_); clear hS; intro w' hS) | (refine au3 (n := ?_); clear hS; intro gb w1 hS) | (refine au4 (n := ?_); clear hS; intro v1 w' hS) | ((with_reducible refine wl_guard ?_); refine stop_mem rfl rfl ?_))
      exact end_cell1 hS rfl rfl rfl rfl rfl (h := ⟨rfl, St.packs (gs, gl) hS⟩)
    · rw [if_pos rfl]
      by_cases hc : ya3 = 0
      · have hc0 : ¬ (0 : Int) < ya3 := by omega
        subst hc
        rw [if_neg hc0]
        clear hc0
        (go_enter Tryz.func47, Tryz.ntmps47)
        go_wp2_with (first | ((with_reducible refine g_box ?_); refine wl_of rfl ?_; refine wp_box hS rfl rfl rfl ?_; clear hS; intro ge w1 hS) | ((with_reducible refine g_alloc ?_); refine wl_of rfl ?_; refine wp_alloc hS rfl rfl rfl rfl ?_; clear hS; intro gq w1 hS) | (go_at_call 79; refine (HM.out _).mono ?_; rintro e w' ⟨rfl, h⟩; replace hS := hS.call h; clear h) | (first | refine au1 (n := ?_) | (refine au2 (n := ?_); clear hS; intro w' hS) | (refine au3 (n := ?_); clear hS; intro gb w1 hS) | (refine au4 (n := ?_); clear hS; intro v1 w' hS) | ((with_reducible refine wl_guard ?_); refine stop_mem rfl rfl ?_)))
        obtain ⟨wa, rfl⟩ : ∃ wa, wa = w' := ⟨_, rfl⟩
        replace hS := hS.out (m := rses gs T) (by (repeat (first | exact Out.here | apply Out.there)))
        obtain ⟨F, hA, hR, hB⟩ := St.split (A := [rses gs T]) hS
        clear hS
        have hS := hA.drew
        clear hA
        refine wp_region_held (S := fun W => Cmp.Mod F wa W) (by kernel_rfl) ?_
        change wpAnyH _ _ _ _ _ _ _ _ (wa).drew
        generalize (wa).drew = w2 at hS ⊢
        (refine whd_take 0 rfl rfl (by kernel_rfl) (by kernel_rfl) (by kernel_rfl) (fun _ _ _ h => h) rfl (fun W hW => by (go_simp; try with_reducible rfl)) hS.base ?_; simp only [Act.put, List.setIfInBounds_toArray, List.set_cons_zero, List.set_cons_succ])
        (refine whd_take 1 rfl rfl (by kernel_rfl) (by kernel_rfl) (by kernel_rfl) (fun _ _ _ h => h) rfl (fun W hW => by (go_simp; try with_reducible rfl)) hS.base ?_; simp only [Act.put, List.setIfInBounds_toArray, List.set_cons_zero, List.set_cons_succ])
        (refine whd_take 2 rfl rfl (by kernel_rfl) (by kernel_rfl) (by kernel_rfl) (fun _ _ _ h => h) rfl (fun W hW => by (go_simp; try with_reducible rfl)) hS.base ?_; simp only [Act.put, List.setIfInBounds_toArray, List.set_cons_zero, List.set_cons_succ])
        (refine whd_take 3 rfl rfl (by kernel_rfl) (by kernel_rfl) (by kernel_rfl) (fun _ _ _ h => h) rfl (fun W hW => rdR) hS.base ?_; simp only [Act.put, List.setIfInBounds_toArray, List.set_cons_zero, List.set_cons_succ])
        (refine whd_take 4 rfl rfl (by kernel_rfl) (by kernel_rfl) (by kernel_rfl) (fun _ _ _ h => h) rfl (fun W hW => by (go_simp; try with_reducible rfl)) hS.base ?_; simp only [Act.put, List.setIfInBounds_toArray, List.set_cons_zero, List.set_cons_succ])
        (refine whd_take 5 rfl rfl (by kernel_rfl) (by kernel_rfl) (by kernel_rfl) (fun _ _ _ h => h) rfl (fun W hW => rdR) hS.base ?_; simp only [Act.put, List.setIfInBounds_toArray, List.set_cons_zero, List.set_cons_succ])
        apply mrg
        · intro kk
          have hS := hS
          (refine wpAnyH_all (rs := [6, 10]) (by kernel_rfl) (by simp) ?_; intro i hi; simp only [List.mem_cons, List.not_mem_nil, or_false] at hi)
          rcases hi with rfl | rfl
          · refine wod_of rfl rfl rfl (wp_call (by go_simp) (HL.out F wa gs _ _ (hS.out (by (repeat (first | exact Out.here | apply Out.there))))) ?_)
            clear hS
            rintro e w4 ⟨rfl, hS⟩
            refine ⟨_, rfl, hS.base, ?_⟩
            simp only [Act.put, List.setIfInBounds_toArray, List.set_cons_zero, List.set_cons_succ]
            (refine whd_take 7 rfl rfl (by kernel_rfl) (by kernel_rfl) (by kernel_rfl) (fun _ _ _ h => h) rfl (fun W hW => by (go_simp; try with_reducible rfl)) hS.base ?_; simp only [Act.put, List.setIfInBounds_toArray, List.set_cons_zero, List.set_cons_succ])
            (refine whd_take 8 rfl rfl (by kernel_rfl) (by kernel_rfl) (by kernel_rfl) (fun _ _ _ h => h) rfl (fun W hW => by (go_simp; try with_reducible rfl)) hS.base ?_; simp only [Act.put, List.setIfInBounds_toArray, List.set_cons_zero, List.set_cons_succ])
            (refine whd_take 9 rfl rfl (by kernel_rfl) (by kernel_rfl) (by kernel_rfl) (fun _ _ _ h => h) rfl (fun W hW => by (go_simp; try with_reducible rfl)) hS.base ?_; simp only [Act.put, List.setIfInBounds_toArray, List.set_cons_zero, List.set_cons_succ])
            (refine wpAnyH_all (rs := [10]) (by kernel_rfl) (by simp) ?_; intro i hi; have hi := List.mem_singleton.1 hi; subst hi)
            (refine wod_of rfl rfl rfl (wp_alloc hS rfl rfl rfl rfl ?_); clear hS; intro gz w3 hS; refine ⟨hS.base, ?_⟩; simp only [Act.put, List.setIfInBounds_toArray, List.set_cons_zero, List.set_cons_succ])
            (refine wpAnyH_all (rs := [11]) (by kernel_rfl) (by simp) ?_; intro i hi; have hi := List.mem_singleton.1 hi; subst hi)
            refine won_of rfl rfl rfl (k_sta hS rfl rfl rfl (h := ?_))
            clear hS
            intro w6 hS
            simp only [List.take, List.drop, List.cons_append, List.nil_append, List.length_cons, List.length_nil] at hS
            refine ⟨hS.base, ?_⟩
            simp only [Act.put, List.setIfInBounds_toArray, List.set_cons_zero, List.set_cons_succ]
            (refine whd_take 12 rfl rfl (by kernel_rfl) (by kernel_rfl) (by kernel_rfl) (fun _ _ _ h => h) rfl (fun W hW => by (go_simp; try with_reducible rfl)) hS.base ?_; simp only [Act.put, List.setIfInBounds_toArray, List.set_cons_zero, List.set_cons_succ])
            (refine wpAnyH_done (by kernel_rfl) ?_ _)
            replace hS := hB _ _ hS
            simp only [List.cons_append, List.nil_append] at hS
            revert gz w6 hS
            exact kk.out
          · (refine wod_of rfl rfl rfl (wp_alloc hS rfl rfl rfl rfl ?_); clear hS; intro gz w3 hS; refine ⟨hS.base, ?_⟩; simp only [Act.put, List.setIfInBounds_toArray, List.set_cons_zero, List.set_cons_succ])
            (refine wpAnyH_all (rs := [6]) (by kernel_rfl) (by simp) ?_; intro i hi; have hi := List.mem_singleton.1 hi; subst hi)
            refine wod_of rfl rfl rfl (wp_call (by go_simp) (HL.out F wa gs _ _ (hS.out (by (repeat (first | exact Out.here | apply Out.there))))) ?_)
            clear hS
            rintro e w4 ⟨rfl, hS⟩
            refine ⟨_, rfl, hS.base, ?_⟩
            simp only [Act.put, List.setIfInBounds_toArray, List.set_cons_zero, List.set_cons_succ]
            (refine whd_take 7 rfl rfl (by kernel_rfl) (by kernel_rfl) (by kernel_rfl) (fun _ _ _ h => h) rfl (fun W hW => by (go_simp; try with_reducible rfl)) hS.base ?_; simp only [Act.put, List.setIfInBounds_toArray, List.set_cons_zero, List.set_cons_succ])
            (refine whd_take 8 rfl rfl (by kernel_rfl) (by kernel_rfl) (by kernel_rfl) (fun _ _ _ h => h) rfl (fun W hW => by (go_simp; try with_reducible rfl)) hS.base ?_; simp only [Act.put, List.setIfInBounds_toArray, List.set_cons_zero, List.set_cons_succ])
            (refine whd_take 9 rfl rfl (by kernel_rfl) (by kernel_rfl) (by kernel_rfl) (fun _ _ _ h => h) rfl (fun W hW => by (go_simp; try with_reducible rfl)) hS.base ?_; simp only [Act.put, List.setIfInBounds_toArray, List.set_cons_zero, List.set_cons_succ])
            (refine wpAnyH_all (rs := [11]) (by kernel_rfl) (by simp) ?_; intro i hi; have hi := List.mem_singleton.1 hi; subst hi)
            refine won_of rfl rfl rfl (k_sta hS rfl rfl rfl (h := ?_))
            clear hS
            intro w6 hS
            simp only [List.take, List.drop, List.cons_append, List.nil_append, List.length_cons, List.length_nil] at hS
            refine ⟨hS.base, ?_⟩
            simp only [Act.put, List.setIfInBounds_toArray, List.set_cons_zero, List.set_cons_succ]
            (refine whd_take 12 rfl rfl (by kernel_rfl) (by kernel_rfl) (by kernel_rfl) (fun _ _ _ h => h) rfl (fun W hW => by (go_simp; try with_reducible rfl)) hS.base ?_; simp only [Act.put, List.setIfInBounds_toArray, List.set_cons_zero, List.set_cons_succ])
            (refine wpAnyH_done (by kernel_rfl) ?_ _)
            replace hS := hB _ _ hS
            simp only [List.cons_append, List.nil_append] at hS
            exact kk.out _ _ hS.pick
        clear hS
        intro gz w6 hS
        go_wp2_with (first | (go_at_call 52; refine (HA1.out _).mono ?_; rintro e w' ⟨rfl, h⟩; replace hS := hS.call h; clear h) | (first | refine au1 (n := ?_) | (refine au2 (n := ?_); clear hS; intro w' hS) | (refine au3 (n := ?_); clear hS; intro gb w1 hS) | (refine au4 (n := ?_); clear hS; intro v1 w' hS) | ((with_reducible refine wl_guard ?_); refine stop_mem rfl rfl ?_)))
        exact end_cell1 hS rfl rfl rfl rfl rfl (h := ⟨rfl, St.packs (gs, gl) hS⟩)
      · have hc0 : (0 : Int) < ya3 := by omega
        rw [if_pos hc0]
        have hc1 : ((ya3 : Int) == 0) = false := by rw [beq_eq_false_iff_ne]; exact hc
        (go_enter Tryz.func47, Tryz.ntmps47)
        go_wp2_with (first | ((with_reducible refine g_box ?_); refine wl_of rfl ?_; refine wp_box hS rfl rfl rfl ?_; clear hS; intro ge w1 hS) | ((with_reducible refine g_alloc ?_); refine wl_of rfl ?_; refine wp_alloc hS rfl rfl rfl rfl ?_; clear hS; intro gq w1 hS) | (go_at_call 79; refine (HM.out _).mono ?_; rintro e w' ⟨rfl, h⟩; replace hS := hS.call h; clear h) | (first | refine au1 (n := ?_) | (refine au2 (n := ?_); clear hS; intro w' hS) | (refine au3 (n := ?_); clear hS; intro gb w1 hS) | (refine au4 (n := ?_); clear hS; intro v1 w' hS) | ((with_reducible refine wl_guard ?_); refine stop_mem rfl rfl ?_)))
        obtain ⟨wa, rfl⟩ : ∃ wa, wa = w' := ⟨_, rfl⟩
        replace hS := hS.out (m := rses gs T) (by (repeat (first | exact Out.here | apply Out.there)))
        obtain ⟨F, hA, hR, hB⟩ := St.split (A := [rses gs T]) hS
        clear hS
        have hS := hA.drew
        clear hA
        refine wp_region_held (S := fun W => Cmp.Mod F wa W) (by kernel_rfl) ?_
        change wpAnyH _ _ _ _ _ _ _ _ (wa).drew
        generalize (wa).drew = w2 at hS ⊢
        (refine whd_take 0 rfl rfl (by kernel_rfl) (by kernel_rfl) (by kernel_rfl) (fun _ _ _ h => h) rfl (fun W hW => by (go_simp; try with_reducible rfl)) hS.base ?_; simp only [Act.put, List.setIfInBounds_toArray, List.set_cons_zero, List.set_cons_succ])
        (refine whd_take 1 rfl rfl (by kernel_rfl) (by kernel_rfl) (by kernel_rfl) (fun _ _ _ h => h) rfl (fun W hW => by (go_simp; try with_reducible rfl)) hS.base ?_; simp only [Act.put, List.setIfInBounds_toArray, List.set_cons_zero, List.set_cons_succ])
        (refine whd_take 2 rfl rfl (by kernel_rfl) (by kernel_rfl) (by kernel_rfl) (fun _ _ _ h => h) rfl (fun W hW => by (go_simp; try with_reducible rfl)) hS.base ?_; simp only [Act.put, List.setIfInBounds_toArray, List.set_cons_zero, List.set_cons_succ])
        (refine whd_take 3 rfl rfl (by kernel_rfl) (by kernel_rfl) (by kernel_rfl) (fun _ _ _ h => h) rfl (fun W hW => rdR) hS.base ?_; simp only [Act.put, List.setIfInBounds_toArray, List.set_cons_zero, List.set_cons_succ])
        (refine whd_take 4 rfl rfl (by kernel_rfl) (by kernel_rfl) (by kernel_rfl) (fun _ _ _ h => h) rfl (fun W hW => by (go_simp; try with_reducible rfl)) hS.base ?_; simp only [Act.put, List.setIfInBounds_toArray, List.set_cons_zero, List.set_cons_succ])
        (refine whd_take 5 rfl rfl (by kernel_rfl) (by kernel_rfl) (by kernel_rfl) (fun _ _ _ h => h) rfl (fun W hW => rdR) hS.base ?_; simp only [Act.put, List.setIfInBounds_toArray, List.set_cons_zero, List.set_cons_succ])
        apply mrg
        · intro kk
          have hS := hS
          (refine wpAnyH_all (rs := [6, 10]) (by kernel_rfl) (by simp) ?_; intro i hi; simp only [List.mem_cons, List.not_mem_nil, or_false] at hi)
          rcases hi with rfl | rfl
          · refine wod_of rfl rfl rfl (wp_call (by go_simp) (HL.out F wa gs _ _ (hS.out (by (repeat (first | exact Out.here | apply Out.there))))) ?_)
            clear hS
            rintro e w4 ⟨rfl, hS⟩
            refine ⟨_, rfl, hS.base, ?_⟩
            simp only [Act.put, List.setIfInBounds_toArray, List.set_cons_zero, List.set_cons_succ]
            (refine whd_take 7 rfl rfl (by kernel_rfl) (by kernel_rfl) (by kernel_rfl) (fun _ _ _ h => h) rfl (fun W hW => by (go_simp; try with_reducible rfl)) hS.base ?_; simp only [Act.put, List.setIfInBounds_toArray, List.set_cons_zero, List.set_cons_succ])
            (refine whd_take 8 rfl rfl (by kernel_rfl) (by kernel_rfl) (by kernel_rfl) (fun _ _ _ h => h) rfl (fun W hW => by (go_simp; try with_reducible rfl)) hS.base ?_; simp only [Act.put, List.setIfInBounds_toArray, List.set_cons_zero, List.set_cons_succ])
            (refine whd_take 9 rfl rfl (by kernel_rfl) (by kernel_rfl) (by kernel_rfl) (fun _ _ _ h => h) rfl (fun W hW => by (go_simp; try with_reducible rfl)) hS.base ?_; simp only [Act.put, List.setIfInBounds_toArray, List.set_cons_zero, List.set_cons_succ])
            (refine wpAnyH_all (rs := [10]) (by kernel_rfl) (by simp) ?_; intro i hi; have hi := List.mem_singleton.1 hi; subst hi)
            (refine wod_of rfl rfl rfl (wp_alloc hS rfl rfl rfl rfl ?_); clear hS; intro gz w3 hS; refine ⟨hS.base, ?_⟩; simp only [Act.put, List.setIfInBounds_toArray, List.set_cons_zero, List.set_cons_succ])
            (refine wpAnyH_all (rs := [11]) (by kernel_rfl) (by simp) ?_; intro i hi; have hi := List.mem_singleton.1 hi; subst hi)
            refine won_of rfl rfl rfl (k_sta hS rfl rfl rfl (h := ?_))
            clear hS
            intro w6 hS
            simp only [List.take, List.drop, List.cons_append, List.nil_append, List.length_cons, List.length_nil] at hS
            refine ⟨hS.base, ?_⟩
            simp only [Act.put, List.setIfInBounds_toArray, List.set_cons_zero, List.set_cons_succ]
            (refine whd_take 12 rfl rfl (by kernel_rfl) (by kernel_rfl) (by kernel_rfl) (fun _ _ _ h => h) rfl (fun W hW => by (go_simp; try with_reducible rfl)) hS.base ?_; simp only [Act.put, List.setIfInBounds_toArray, List.set_cons_zero, List.set_cons_succ])
            (refine wpAnyH_done (by kernel_rfl) ?_ _)
            replace hS := hB _ _ hS
            simp only [List.cons_append, List.nil_append] at hS
            revert gz w6 hS
            exact kk.out
          · (refine wod_of rfl rfl rfl (wp_alloc hS rfl rfl rfl rfl ?_); clear hS; intro gz w3 hS; refine ⟨hS.base, ?_⟩; simp only [Act.put, List.setIfInBounds_toArray, List.set_cons_zero, List.set_cons_succ])
            (refine wpAnyH_all (rs := [6]) (by kernel_rfl) (by simp) ?_; intro i hi; have hi := List.mem_singleton.1 hi; subst hi)
            refine wod_of rfl rfl rfl (wp_call (by go_simp) (HL.out F wa gs _ _ (hS.out (by (repeat (first | exact Out.here | apply Out.there))))) ?_)
            clear hS
            rintro e w4 ⟨rfl, hS⟩
            refine ⟨_, rfl, hS.base, ?_⟩
            simp only [Act.put, List.setIfInBounds_toArray, List.set_cons_zero, List.set_cons_succ]
            (refine whd_take 7 rfl rfl (by kernel_rfl) (by kernel_rfl) (by kernel_rfl) (fun _ _ _ h => h) rfl (fun W hW => by (go_simp; try with_reducible rfl)) hS.base ?_; simp only [Act.put, List.setIfInBounds_toArray, List.set_cons_zero, List.set_cons_succ])
            (refine whd_take 8 rfl rfl (by kernel_rfl) (by kernel_rfl) (by kernel_rfl) (fun _ _ _ h => h) rfl (fun W hW => by (go_simp; try with_reducible rfl)) hS.base ?_; simp only [Act.put, List.setIfInBounds_toArray, List.set_cons_zero, List.set_cons_succ])
            (refine whd_take 9 rfl rfl (by kernel_rfl) (by kernel_rfl) (by kernel_rfl) (fun _ _ _ h => h) rfl (fun W hW => by (go_simp; try with_reducible rfl)) hS.base ?_; simp only [Act.put, List.setIfInBounds_toArray, List.set_cons_zero, List.set_cons_succ])
            (refine wpAnyH_all (rs := [11]) (by kernel_rfl) (by simp) ?_; intro i hi; have hi := List.mem_singleton.1 hi; subst hi)
            refine won_of rfl rfl rfl (k_sta hS rfl rfl rfl (h := ?_))
            clear hS
            intro w6 hS
            simp only [List.take, List.drop, List.cons_append, List.nil_append, List.length_cons, List.length_nil] at hS
            refine ⟨hS.base, ?_⟩
            simp only [Act.put, List.setIfInBounds_toArray, List.set_cons_zero, List.set_cons_succ]
            (refine whd_take 12 rfl rfl (by kernel_rfl) (by kernel_rfl) (by kernel_rfl) (fun _ _ _ h => h) rfl (fun W hW => by (go_simp; try with_reducible rfl)) hS.base ?_; simp only [Act.put, List.setIfInBounds_toArray, List.set_cons_zero, List.set_cons_succ])
            (refine wpAnyH_done (by kernel_rfl) ?_ _)
            replace hS := hB _ _ hS
            simp only [List.cons_append, List.nil_append] at hS
            exact kk.out _ _ hS.pick
        clear hS
        intro gz w6 hS
        go_wp2_with (first | refine au1 (n := ?_) | (refine au2 (n := ?_); clear hS; intro w' hS) | (refine au3 (n := ?_); clear hS; intro gb w1 hS) | (refine au4 (n := ?_); clear hS; intro v1 w' hS) | ((with_reducible refine wl_guard ?_); refine stop_mem rfl rfl ?_))
        exact end_cell1 hS rfl rfl rfl rfl rfl (h := ⟨rfl, St.packs (gs, gl) hS⟩)
  · rw [if_neg h1]
    have h11 : ((opr : Int) == 1) = false := by rw [beq_eq_false_iff_ne]; exact h1
    clear HO HO2
    rcases hv with rfl | rfl | rfl | rfl | rfl
    · rw [if_pos rfl]
      (go_enter Tryz.func47, Tryz.ntmps47)
      go_wp2_with (first | ((with_reducible refine g_box ?_); refine wl_of rfl ?_; refine wp_box hS rfl rfl rfl ?_; clear hS; intro ge w1 hS) | ((with_reducible refine g_alloc ?_); refine wl_of rfl ?_; refine wp_alloc hS rfl rfl rfl rfl ?_; clear hS; intro gq w1 hS) | (go_at_call 79; refine (HM.out _).mono ?_; rintro e w' ⟨rfl, h⟩; replace hS := hS.call h; clear h) | (first | refine au1 (n := ?_) | (refine au2 (n := ?_); clear hS; intro w' hS) | (refine au3 (n := ?_); clear hS; intro gb w1 hS) | (refine au4 (n := ?_); clear hS; intro v1 w' hS) | ((with_reducible refine wl_guard ?_); refine stop_mem rfl rfl ?_)))
      obtain ⟨wa, rfl⟩ : ∃ wa, wa = w' := ⟨_, rfl⟩
      replace hS := hS.out (m := rses gs T) (by (repeat (first | exact Out.here | apply Out.there)))
      obtain ⟨F, hA, hR, hB⟩ := St.split (A := [rses gs T]) hS
      clear hS
      have hS := hA.drew
      clear hA
      refine wp_region_held (S := fun W => Cmp.Mod F wa W) (by kernel_rfl) ?_
      change wpAnyH _ _ _ _ _ _ _ _ (wa).drew
      generalize (wa).drew = w2 at hS ⊢
      (refine whd_take 0 rfl rfl (by kernel_rfl) (by kernel_rfl) (by kernel_rfl) (fun _ _ _ h => h) rfl (fun W hW => by (go_simp; try with_reducible rfl)) hS.base ?_; simp only [Act.put, List.setIfInBounds_toArray, List.set_cons_zero, List.set_cons_succ])
      (refine whd_take 1 rfl rfl (by kernel_rfl) (by kernel_rfl) (by kernel_rfl) (fun _ _ _ h => h) rfl (fun W hW => by (go_simp; try with_reducible rfl)) hS.base ?_; simp only [Act.put, List.setIfInBounds_toArray, List.set_cons_zero, List.set_cons_succ])
      (refine whd_take 2 rfl rfl (by kernel_rfl) (by kernel_rfl) (by kernel_rfl) (fun _ _ _ h => h) rfl (fun W hW => by (go_simp; try with_reducible rfl)) hS.base ?_; simp only [Act.put, List.setIfInBounds_toArray, List.set_cons_zero, List.set_cons_succ])
      (refine whd_take 3 rfl rfl (by kernel_rfl) (by kernel_rfl) (by kernel_rfl) (fun _ _ _ h => h) rfl (fun W hW => rdR) hS.base ?_; simp only [Act.put, List.setIfInBounds_toArray, List.set_cons_zero, List.set_cons_succ])
      (refine whd_take 4 rfl rfl (by kernel_rfl) (by kernel_rfl) (by kernel_rfl) (fun _ _ _ h => h) rfl (fun W hW => by (go_simp; try with_reducible rfl)) hS.base ?_; simp only [Act.put, List.setIfInBounds_toArray, List.set_cons_zero, List.set_cons_succ])
      (refine whd_take 5 rfl rfl (by kernel_rfl) (by kernel_rfl) (by kernel_rfl) (fun _ _ _ h => h) rfl (fun W hW => rdR) hS.base ?_; simp only [Act.put, List.setIfInBounds_toArray, List.set_cons_zero, List.set_cons_succ])
      apply mrg
      · intro kk
        have hS := hS
        (refine wpAnyH_all (rs := [6, 10]) (by kernel_rfl) (by simp) ?_; intro i hi; simp only [List.mem_cons, List.not_mem_nil, or_false] at hi)
        rcases hi with rfl | rfl
        · refine wod_of rfl rfl rfl (wp_call (by go_simp) (HL.out F wa gs _ _ (hS.out (by (repeat (first | exact Out.here | apply Out.there))))) ?_)
          clear hS
          rintro e w4 ⟨rfl, hS⟩
          refine ⟨_, rfl, hS.base, ?_⟩
          simp only [Act.put, List.setIfInBounds_toArray, List.set_cons_zero, List.set_cons_succ]
          (refine whd_take 7 rfl rfl (by kernel_rfl) (by kernel_rfl) (by kernel_rfl) (fun _ _ _ h => h) rfl (fun W hW => by (go_simp; try with_reducible rfl)) hS.base ?_; simp only [Act.put, List.setIfInBounds_toArray, List.set_cons_zero, List.set_cons_succ])
          (refine whd_take 8 rfl rfl (by kernel_rfl) (by kernel_rfl) (by kernel_rfl) (fun _ _ _ h => h) rfl (fun W hW => by (go_simp; try with_reducible rfl)) hS.base ?_; simp only [Act.put, List.setIfInBounds_toArray, List.set_cons_zero, List.set_cons_succ])
          (refine whd_take 9 rfl rfl (by kernel_rfl) (by kernel_rfl) (by kernel_rfl) (fun _ _ _ h => h) rfl (fun W hW => by (go_simp; try with_reducible rfl)) hS.base ?_; simp only [Act.put, List.setIfInBounds_toArray, List.set_cons_zero, List.set_cons_succ])
          (refine wpAnyH_all (rs := [10]) (by kernel_rfl) (by simp) ?_; intro i hi; have hi := List.mem_singleton.1 hi; subst hi)
          (refine wod_of rfl rfl rfl (wp_alloc hS rfl rfl rfl rfl ?_); clear hS; intro gz w3 hS; refine ⟨hS.base, ?_⟩; simp only [Act.put, List.setIfInBounds_toArray, List.set_cons_zero, List.set_cons_succ])
          (refine wpAnyH_all (rs := [11]) (by kernel_rfl) (by simp) ?_; intro i hi; have hi := List.mem_singleton.1 hi; subst hi)
          refine won_of rfl rfl rfl (k_sta hS rfl rfl rfl (h := ?_))
          clear hS
          intro w6 hS
          simp only [List.take, List.drop, List.cons_append, List.nil_append, List.length_cons, List.length_nil] at hS
          refine ⟨hS.base, ?_⟩
          simp only [Act.put, List.setIfInBounds_toArray, List.set_cons_zero, List.set_cons_succ]
          (refine whd_take 12 rfl rfl (by kernel_rfl) (by kernel_rfl) (by kernel_rfl) (fun _ _ _ h => h) rfl (fun W hW => by (go_simp; try with_reducible rfl)) hS.base ?_; simp only [Act.put, List.setIfInBounds_toArray, List.set_cons_zero, List.set_cons_succ])
          (refine wpAnyH_done (by kernel_rfl) ?_ _)
          replace hS := hB _ _ hS
          simp only [List.cons_append, List.nil_append] at hS
          revert gz w6 hS
          exact kk.out
        · (refine wod_of rfl rfl rfl (wp_alloc hS rfl rfl rfl rfl ?_); clear hS; intro gz w3 hS; refine ⟨hS.base, ?_⟩; simp only [Act.put, List.setIfInBounds_toArray, List.set_cons_zero, List.set_cons_succ])
          (refine wpAnyH_all (rs := [6]) (by kernel_rfl) (by simp) ?_; intro i hi; have hi := List.mem_singleton.1 hi; subst hi)
          refine wod_of rfl rfl rfl (wp_call (by go_simp) (HL.out F wa gs _ _ (hS.out (by (repeat (first | exact Out.here | apply Out.there))))) ?_)
          clear hS
          rintro e w4 ⟨rfl, hS⟩
          refine ⟨_, rfl, hS.base, ?_⟩
          simp only [Act.put, List.setIfInBounds_toArray, List.set_cons_zero, List.set_cons_succ]
          (refine whd_take 7 rfl rfl (by kernel_rfl) (by kernel_rfl) (by kernel_rfl) (fun _ _ _ h => h) rfl (fun W hW => by (go_simp; try with_reducible rfl)) hS.base ?_; simp only [Act.put, List.setIfInBounds_toArray, List.set_cons_zero, List.set_cons_succ])
          (refine whd_take 8 rfl rfl (by kernel_rfl) (by kernel_rfl) (by kernel_rfl) (fun _ _ _ h => h) rfl (fun W hW => by (go_simp; try with_reducible rfl)) hS.base ?_; simp only [Act.put, List.setIfInBounds_toArray, List.set_cons_zero, List.set_cons_succ])
          (refine whd_take 9 rfl rfl (by kernel_rfl) (by kernel_rfl) (by kernel_rfl) (fun _ _ _ h => h) rfl (fun W hW => by (go_simp; try with_reducible rfl)) hS.base ?_; simp only [Act.put, List.setIfInBounds_toArray, List.set_cons_zero, List.set_cons_succ])
          (refine wpAnyH_all (rs := [11]) (by kernel_rfl) (by simp) ?_; intro i hi; have hi := List.mem_singleton.1 hi; subst hi)
          refine won_of rfl rfl rfl (k_sta hS rfl rfl rfl (h := ?_))
          clear hS
          intro w6 hS
          simp only [List.take, List.drop, List.cons_append, List.nil_append, List.length_cons, List.length_nil] at hS
          refine ⟨hS.base, ?_⟩
          simp only [Act.put, List.setIfInBounds_toArray, List.set_cons_zero, List.set_cons_succ]
          (refine whd_take 12 rfl rfl (by kernel_rfl) (by kernel_rfl) (by kernel_rfl) (fun _ _ _ h => h) rfl (fun W hW => by (go_simp; try with_reducible rfl)) hS.base ?_; simp only [Act.put, List.setIfInBounds_toArray, List.set_cons_zero, List.set_cons_succ])
          (refine wpAnyH_done (by kernel_rfl) ?_ _)
          replace hS := hB _ _ hS
          simp only [List.cons_append, List.nil_append] at hS
          exact kk.out _ _ hS.pick
      clear hS
      intro gz w6 hS
      go_wp2_with (first | refine au1 (n := ?_) | (refine au2 (n := ?_); clear hS; intro w' hS) | (refine au3 (n := ?_); clear hS; intro gb w1 hS) | (refine au4 (n := ?_); clear hS; intro v1 w' hS) | ((with_reducible refine wl_guard ?_); refine stop_mem rfl rfl ?_))
      replace hS := hS.out (m := rses gs T) (by (repeat (first | exact Out.here | apply Out.there)))
      obtain ⟨F, hA, hR, hB⟩ := St.split (A := [rses gs T]) hS
      clear hS
      have hS := hA.drew
      clear hA
      refine wp_region_held (S := fun W => Cmp.Mod F w6 W) (by kernel_rfl) ?_
      change wpAnyH _ _ _ _ _ _ _ _ (w6).drew
      generalize (w6).drew = w2 at hS ⊢
      (refine whd_take 0 rfl rfl (by kernel_rfl) (by kernel_rfl) (by kernel_rfl) (fun _ _ _ h => h) rfl (fun W hW => by (go_simp; try with_reducible rfl)) hS.base ?_; simp only [Act.put, List.setIfInBounds_toArray, List.set_cons_zero, List.set_cons_succ])
      (refine whd_take 1 rfl rfl (by kernel_rfl) (by kernel_rfl) (by kernel_rfl) (fun _ _ _ h => h) rfl (fun W hW => by (go_simp; try with_reducible rfl)) hS.base ?_; simp only [Act.put, List.setIfInBounds_toArray, List.set_cons_zero, List.set_cons_succ])
      (refine whd_take 2 rfl rfl (by kernel_rfl) (by kernel_rfl) (by kernel_rfl) (fun _ _ _ h => h) rfl (fun W hW => by (go_simp; try with_reducible rfl)) hS.base ?_; simp only [Act.put, List.setIfInBounds_toArray, List.set_cons_zero, List.set_cons_succ])
      (refine whd_take 3 rfl rfl (by kernel_rfl) (by kernel_rfl) (by kernel_rfl) (fun _ _ _ h => h) rfl (fun W hW => rdR) hS.base ?_; simp only [Act.put, List.setIfInBounds_toArray, List.set_cons_zero, List.set_cons_succ])
      (refine whd_take 4 rfl rfl (by kernel_rfl) (by kernel_rfl) (by kernel_rfl) (fun _ _ _ h => h) rfl (fun W hW => by (go_simp; try with_reducible rfl)) hS.base ?_; simp only [Act.put, List.setIfInBounds_toArray, List.set_cons_zero, List.set_cons_succ])
      (refine whd_take 5 rfl rfl (by kernel_rfl) (by kernel_rfl) (by kernel_rfl) (fun _ _ _ h => h) rfl (fun W hW => rdR) hS.base ?_; simp only [Act.put, List.setIfInBounds_toArray, List.set_cons_zero, List.set_cons_succ])
      (refine whd_take 6 rfl rfl (by kernel_rfl) (by kernel_rfl) (by kernel_rfl) (fun _ _ _ h => h) rfl (fun W hW => by (go_simp; try with_reducible rfl)) hS.base ?_; simp only [Act.put, List.setIfInBounds_toArray, List.set_cons_zero, List.set_cons_succ])
      (refine whd_take 7 rfl rfl (by kernel_rfl) (by kernel_rfl) (by kernel_rfl) (fun _ _ _ h => h) rfl (fun W hW => rdR) hS.base ?_; simp only [Act.put, List.setIfInBounds_toArray, List.set_cons_zero, List.set_cons_succ])
      (refine whd_take 8 rfl rfl (by kernel_rfl) (by kernel_rfl) (by kernel_rfl) (fun _ _ _ h => h) rfl (fun W hW => by (go_simp; try with_reducible rfl)) hS.base ?_; simp only [Act.put, List.setIfInBounds_toArray, List.set_cons_zero, List.set_cons_succ])
      (refine whd_take 9 rfl rfl (by kernel_rfl) (by kernel_rfl) (by kernel_rfl) (fun _ _ _ h => h) rfl (fun W hW => rdR) hS.base ?_; simp only [Act.put, List.setIfInBounds_toArray, List.set_cons_zero, List.set_cons_succ])
      (refine wpAnyH_all (rs := [10]) (by kernel_rfl) (by simp) ?_; intro i hi; have hi := List.mem_singleton.1 hi; subst hi)
      refine wod_of rfl rfl rfl (wp_call (by go_simp) (HV.out F w6 gs _ _ (hS.out (by (repeat (first | exact Out.here | apply Out.there))))) ?_)
      clear hS
      rintro e w4 ⟨rfl, hS⟩
      refine ⟨_, rfl, hS.base, ?_⟩
      simp only [Act.put, List.setIfInBounds_toArray, List.set_cons_zero, List.set_cons_succ]
      (refine whd_take 11 rfl rfl (by kernel_rfl) (by kernel_rfl) (by kernel_rfl) (fun _ _ _ h => h) rfl (fun W hW => by (go_simp; try with_reducible rfl)) hS.base ?_; simp only [Act.put, List.setIfInBounds_toArray, List.set_cons_zero, List.set_cons_succ])
      (refine wpAnyH_done (by kernel_rfl) ?_ _)
      replace hS := hB _ _ hS
      simp only [List.cons_append, List.nil_append] at hS
      go_wp2_with (first | refine au1 (n := ?_) | (refine au2 (n := ?_); clear hS; intro w' hS) | (refine au3 (n := ?_); clear hS; intro gb w1 hS) | (refine au4 (n := ?_); clear hS; intro v1 w' hS) | ((with_reducible refine wl_guard ?_); refine stop_mem rfl rfl ?_))
      exact end_cell1 hS rfl rfl rfl rfl rfl (h := ⟨rfl, St.packs (gs, gl) hS⟩)
    · rw [if_neg (by decide), if_pos rfl]
      have hA2 := HN2.out rfl
      subst hA2
      (go_enter Tryz.func47, Tryz.ntmps47)
      go_wp2_with (first | ((with_reducible refine g_box ?_); refine wl_of rfl ?_; refine wp_box hS rfl rfl rfl ?_; clear hS; intro ge w1 hS) | ((with_reducible refine g_alloc ?_); refine wl_of rfl ?_; refine wp_alloc hS rfl rfl rfl rfl ?_; clear hS; intro gq w1 hS) | (go_at_call 79; refine (HM.out _).mono ?_; rintro e w' ⟨rfl, h⟩; replace hS := hS.call h; clear h) | (first | refine au1 (n := ?_) | (refine au2 (n := ?_); clear hS; intro w' hS) | (refine au3 (n := ?_); clear hS; intro gb w1 hS) | (refine au4 (n := ?_); clear hS; intro v1 w' hS) | ((with_reducible refine wl_guard ?_); refine stop_mem rfl rfl ?_)))
      obtain ⟨wa, rfl⟩ : ∃ wa, wa = w' := ⟨_, rfl⟩
      replace hS := hS.out (m := rses gs T) (by (repeat (first | exact Out.here | apply Out.there)))
      obtain ⟨F, hA, hR, hB⟩ := St.split (A := [rses gs T]) hS
      clear hS
      have hS := hA.drew
      clear hA
      refine wp_region_held (S := fun W => Cmp.Mod F wa W) (by kernel_rfl) ?_
      change wpAnyH _ _ _ _ _ _ _ _ (wa).drew
      generalize (wa).drew = w2 at hS ⊢
      (refine whd_take 0 rfl rfl (by kernel_rfl) (by kernel_rfl) (by kernel_rfl) (fun _ _ _ h => h) rfl (fun W hW => by (go_simp; try with_reducible rfl)) hS.base ?_; simp only [Act.put, List.setIfInBounds_toArray, List.set_cons_zero, List.set_cons_succ])
      (refine whd_take 1 rfl rfl (by kernel_rfl) (by kernel_rfl) (by kernel_rfl) (fun _ _ _ h => h) rfl (fun W hW => by (go_simp; try with_reducible rfl)) hS.base ?_; simp only [Act.put, List.setIfInBounds_toArray, List.set_cons_zero, List.set_cons_succ])
      (refine whd_take 2 rfl rfl (by kernel_rfl) (by kernel_rfl) (by kernel_rfl) (fun _ _ _ h => h) rfl (fun W hW => by (go_simp; try with_reducible rfl)) hS.base ?_; simp only [Act.put, List.setIfInBounds_toArray, List.set_cons_zero, List.set_cons_succ])
      (refine whd_take 3 rfl rfl (by kernel_rfl) (by kernel_rfl) (by kernel_rfl) (fun _ _ _ h => h) rfl (fun W hW => rdR) hS.base ?_; simp only [Act.put, List.setIfInBounds_toArray, List.set_cons_zero, List.set_cons_succ])
      (refine whd_take 4 rfl rfl (by kernel_rfl) (by kernel_rfl) (by kernel_rfl) (fun _ _ _ h => h) rfl (fun W hW => by (go_simp; try with_reducible rfl)) hS.base ?_; simp only [Act.put, List.setIfInBounds_toArray, List.set_cons_zero, List.set_cons_succ])
      (refine whd_take 5 rfl rfl (by kernel_rfl) (by kernel_rfl) (by kernel_rfl) (fun _ _ _ h => h) rfl (fun W hW => rdR) hS.base ?_; simp only [Act.put, List.setIfInBounds_toArray, List.set_cons_zero, List.set_cons_succ])
      apply mrg
      · intro kk
        have hS := hS
        (refine wpAnyH_all (rs := [6, 10]) (by kernel_rfl) (by simp) ?_; intro i hi; simp only [List.mem_cons, List.not_mem_nil, or_false] at hi)
        rcases hi with rfl | rfl
        · refine wod_of rfl rfl rfl (wp_call (by go_simp) (HL.out F wa gs _ _ (hS.out (by (repeat (first | exact Out.here | apply Out.there))))) ?_)
          clear hS
          rintro e w4 ⟨rfl, hS⟩
          refine ⟨_, rfl, hS.base, ?_⟩
          simp only [Act.put, List.setIfInBounds_toArray, List.set_cons_zero, List.set_cons_succ]
          (refine whd_take 7 rfl rfl (by kernel_rfl) (by kernel_rfl) (by kernel_rfl) (fun _ _ _ h => h) rfl (fun W hW => by (go_simp; try with_reducible rfl)) hS.base ?_; simp only [Act.put, List.setIfInBounds_toArray, List.set_cons_zero, List.set_cons_succ])
          (refine whd_take 8 rfl rfl (by kernel_rfl) (by kernel_rfl) (by kernel_rfl) (fun _ _ _ h => h) rfl (fun W hW => by (go_simp; try with_reducible rfl)) hS.base ?_; simp only [Act.put, List.setIfInBounds_toArray, List.set_cons_zero, List.set_cons_succ])
          (refine whd_take 9 rfl rfl (by kernel_rfl) (by kernel_rfl) (by kernel_rfl) (fun _ _ _ h => h) rfl (fun W hW => by (go_simp; try with_reducible rfl)) hS.base ?_; simp only [Act.put, List.setIfInBounds_toArray, List.set_cons_zero, List.set_cons_succ])
          (refine wpAnyH_all (rs := [10]) (by kernel_rfl) (by simp) ?_; intro i hi; have hi := List.mem_singleton.1 hi; subst hi)
          (refine wod_of rfl rfl rfl (wp_alloc hS rfl rfl rfl rfl ?_); clear hS; intro gz w3 hS; refine ⟨hS.base, ?_⟩; simp only [Act.put, List.setIfInBounds_toArray, List.set_cons_zero, List.set_cons_succ])
          (refine wpAnyH_all (rs := [11]) (by kernel_rfl) (by simp) ?_; intro i hi; have hi := List.mem_singleton.1 hi; subst hi)
          refine won_of rfl rfl rfl (k_sta hS rfl rfl rfl (h := ?_))
          clear hS
          intro w6 hS
          simp only [List.take, List.drop, List.cons_append, List.nil_append, List.length_cons, List.length_nil] at hS
          refine ⟨hS.base, ?_⟩
          simp only [Act.put, List.setIfInBounds_toArray, List.set_cons_zero, List.set_cons_succ]
          (refine whd_take 12 rfl rfl (by kernel_rfl) (by kernel_rfl) (by kernel_rfl) (fun _ _ _ h => h) rfl (fun W hW => by (go_simp; try with_reducible rfl)) hS.base ?_; simp only [Act.put, List.setIfInBounds_toArray, List.set_cons_zero, List.set_cons_succ])
          (refine wpAnyH_done (by kernel_rfl) ?_ _)
          replace hS := hB _ _ hS
          simp only [List.cons_append, List.nil_append] at hS
          revert gz w6 hS
          exact kk.out
        · (refine wod_of rfl rfl rfl (wp_alloc hS rfl rfl rfl rfl ?_); clear hS; intro gz w3 hS; refine ⟨hS.base, ?_⟩; simp only [Act.put, List.setIfInBounds_toArray, List.set_cons_zero, List.set_cons_succ])
          (refine wpAnyH_all (rs := [6]) (by kernel_rfl) (by simp) ?_; intro i hi; have hi := List.mem_singleton.1 hi; subst hi)
          refine wod_of rfl rfl rfl (wp_call (by go_simp) (HL.out F wa gs _ _ (hS.out (by (repeat (first | exact Out.here | apply Out.there))))) ?_)
          clear hS
          rintro e w4 ⟨rfl, hS⟩
          refine ⟨_, rfl, hS.base, ?_⟩
          simp only [Act.put, List.setIfInBounds_toArray, List.set_cons_zero, List.set_cons_succ]
          (refine whd_take 7 rfl rfl (by kernel_rfl) (by kernel_rfl) (by kernel_rfl) (fun _ _ _ h => h) rfl (fun W hW => by (go_simp; try with_reducible rfl)) hS.base ?_; simp only [Act.put, List.setIfInBounds_toArray, List.set_cons_zero, List.set_cons_succ])
          (refine whd_take 8 rfl rfl (by kernel_rfl) (by kernel_rfl) (by kernel_rfl) (fun _ _ _ h => h) rfl (fun W hW => by (go_simp; try with_reducible rfl)) hS.base ?_; simp only [Act.put, List.setIfInBounds_toArray, List.set_cons_zero, List.set_cons_succ])
          (refine whd_take 9 rfl rfl (by kernel_rfl) (by kernel_rfl) (by kernel_rfl) (fun _ _ _ h => h) rfl (fun W hW => by (go_simp; try with_reducible rfl)) hS.base ?_; simp only [Act.put, List.setIfInBounds_toArray, List.set_cons_zero, List.set_cons_succ])
          (refine wpAnyH_all (rs := [11]) (by kernel_rfl) (by simp) ?_; intro i hi; have hi := List.mem_singleton.1 hi; subst hi)
          refine won_of rfl rfl rfl (k_sta hS rfl rfl rfl (h := ?_))
          clear hS
          intro w6 hS
          simp only [List.take, List.drop, List.cons_append, List.nil_append, List.length_cons, List.length_nil] at hS
          refine ⟨hS.base, ?_⟩
          simp only [Act.put, List.setIfInBounds_toArray, List.set_cons_zero, List.set_cons_succ]
          (refine whd_take 12 rfl rfl (by kernel_rfl) (by kernel_rfl) (by kernel_rfl) (fun _ _ _ h => h) rfl (fun W hW => by (go_simp; try with_reducible rfl)) hS.base ?_; simp only [Act.put, List.setIfInBounds_toArray, List.set_cons_zero, List.set_cons_succ])
          (refine wpAnyH_done (by kernel_rfl) ?_ _)
          replace hS := hB _ _ hS
          simp only [List.cons_append, List.nil_append] at hS
          exact kk.out _ _ hS.pick
      clear hS
      intro gz w6 hS
      go_wp2_with (first | refine au1 (n := ?_) | (refine au2 (n := ?_); clear hS; intro w' hS) | (refine au3 (n := ?_); clear hS; intro gb w1 hS) | (refine au4 (n := ?_); clear hS; intro v1 w' hS) | ((with_reducible refine wl_guard ?_); refine stop_mem rfl rfl ?_))
      replace hS := hS.out (m := rses gs T) (by (repeat (first | exact Out.here | apply Out.there)))
      obtain ⟨F, hA, hR, hB⟩ := St.split (A := [rses gs T]) hS
      clear hS
      have hS := hA.drew
      clear hA
      refine wp_region_held (S := fun W => Cmp.Mod F w6 W) (by kernel_rfl) ?_
      change wpAnyH _ _ _ _ _ _ _ _ (w6).drew
      generalize (w6).drew = w2 at hS ⊢
      (refine whd_take 0 rfl rfl (by kernel_rfl) (by kernel_rfl) (by kernel_rfl) (fun _ _ _ h => h) rfl (fun W hW => by (go_simp; try with_reducible rfl)) hS.base ?_; simp only [Act.put, List.setIfInBounds_toArray, List.set_cons_zero, List.set_cons_succ])
      (refine whd_take 1 rfl rfl (by kernel_rfl) (by kernel_rfl) (by kernel_rfl) (fun _ _ _ h => h) rfl (fun W hW => by (go_simp; try with_reducible rfl)) hS.base ?_; simp only [Act.put, List.setIfInBounds_toArray, List.set_cons_zero, List.set_cons_succ])
      (refine whd_take 2 rfl rfl (by kernel_rfl) (by kernel_rfl) (by kernel_rfl) (fun _ _ _ h => h) rfl (fun W hW => by (go_simp; try with_reducible rfl)) hS.base ?_; simp only [Act.put, List.setIfInBounds_toArray, List.set_cons_zero, List.set_cons_succ])
      (refine whd_take 3 rfl rfl (by kernel_rfl) (by kernel_rfl) (by kernel_rfl) (fun _ _ _ h => h) rfl (fun W hW => rdR) hS.base ?_; simp only [Act.put, List.setIfInBounds_toArray, List.set_cons_zero, List.set_cons_succ])
      (refine whd_take 4 rfl rfl (by kernel_rfl) (by kernel_rfl) (by kernel_rfl) (fun _ _ _ h => h) rfl (fun W hW => by (go_simp; try with_reducible rfl)) hS.base ?_; simp only [Act.put, List.setIfInBounds_toArray, List.set_cons_zero, List.set_cons_succ])
      (refine whd_take 5 rfl rfl (by kernel_rfl) (by kernel_rfl) (by kernel_rfl) (fun _ _ _ h => h) rfl (fun W hW => rdR) hS.base ?_; simp only [Act.put, List.setIfInBounds_toArray, List.set_cons_zero, List.set_cons_succ])
      (refine whd_take 6 rfl rfl (by kernel_rfl) (by kernel_rfl) (by kernel_rfl) (fun _ _ _ h => h) rfl (fun W hW => by (go_simp; try with_reducible rfl)) hS.base ?_; simp only [Act.put, List.setIfInBounds_toArray, List.set_cons_zero, List.set_cons_succ])
      (refine whd_take 7 rfl rfl (by kernel_rfl) (by kernel_rfl) (by kernel_rfl) (fun _ _ _ h => h) rfl (fun W hW => rdR) hS.base ?_; simp only [Act.put, List.setIfInBounds_toArray, List.set_cons_zero, List.set_cons_succ])
      (refine whd_take 8 rfl rfl (by kernel_rfl) (by kernel_rfl) (by kernel_rfl) (fun _ _ _ h => h) rfl (fun W hW => by (go_simp; try with_reducible rfl)) hS.base ?_; simp only [Act.put, List.setIfInBounds_toArray, List.set_cons_zero, List.set_cons_succ])
      (refine whd_take 9 rfl rfl (by kernel_rfl) (by kernel_rfl) (by kernel_rfl) (fun _ _ _ h => h) rfl (fun W hW => rdR) hS.base ?_; simp only [Act.put, List.setIfInBounds_toArray, List.set_cons_zero, List.set_cons_succ])
      (refine wpAnyH_all (rs := [10]) (by kernel_rfl) (by simp) ?_; intro i hi; have hi := List.mem_singleton.1 hi; subst hi)
      refine wod_of rfl rfl rfl (wp_call (by go_simp) (HV.out F w6 gs _ _ (hS.out (by (repeat (first | exact Out.here | apply Out.there))))) ?_)
      clear hS
      rintro e w4 ⟨rfl, hS⟩
      refine ⟨_, rfl, hS.base, ?_⟩
      simp only [Act.put, List.setIfInBounds_toArray, List.set_cons_zero, List.set_cons_succ]
      (refine whd_take 11 rfl rfl (by kernel_rfl) (by kernel_rfl) (by kernel_rfl) (fun _ _ _ h => h) rfl (fun W hW => by (go_simp; try with_reducible rfl)) hS.base ?_; simp only [Act.put, List.setIfInBounds_toArray, List.set_cons_zero, List.set_cons_succ])
      (refine wpAnyH_done (by kernel_rfl) ?_ _)
      replace hS := hB _ _ hS
      simp only [List.cons_append, List.nil_append] at hS
      go_wp2_with (fail)
      obtain ⟨wq, rfl⟩ : ∃ wq, wq = w4 := ⟨_, rfl⟩
      replace hS := hS.out (m := rledg gl D) (by (repeat (first | exact Out.here | apply Out.there)))
      obtain ⟨F, hA, hR, hB⟩ := St.split (A := [rledg gl D]) hS
      clear hS
      have hS := hA.drew
      clear hA
      refine wp_region_held (S := fun W => Cmp.Mod F wq W) (by kernel_rfl) ?_
      change wpAnyH _ _ _ _ _ _ _ _ (wq).drew
      generalize (wq).drew = w2 at hS ⊢
      (refine whd_take 0 rfl rfl (by kernel_rfl) (by kernel_rfl) (by kernel_rfl) (fun _ _ _ h => h) rfl (fun W hW => by (go_simp; try with_reducible rfl)) hS.base ?_; simp only [Act.put, List.setIfInBounds_toArray, List.set_cons_zero, List.set_cons_succ])
      (refine whd_take 1 rfl rfl (by kernel_rfl) (by kernel_rfl) (by kernel_rfl) (fun _ _ _ h => h) rfl (fun W hW => by (go_simp; try with_reducible rfl)) hS.base ?_; simp only [Act.put, List.setIfInBounds_toArray, List.set_cons_zero, List.set_cons_succ])
      (refine whd_take 2 rfl rfl (by kernel_rfl) (by kernel_rfl) (by kernel_rfl) (fun _ _ _ h => h) rfl (fun W hW => by (go_simp; try with_reducible rfl)) hS.base ?_; simp only [Act.put, List.setIfInBounds_toArray, List.set_cons_zero, List.set_cons_succ])
      (refine whd_take 3 rfl rfl (by kernel_rfl) (by kernel_rfl) (by kernel_rfl) (fun _ _ _ h => h) rfl (fun W hW => rdR) hS.base ?_; simp only [Act.put, List.setIfInBounds_toArray, List.set_cons_zero, List.set_cons_succ])
      (refine whd_take 4 rfl rfl (by kernel_rfl) (by kernel_rfl) (by kernel_rfl) (fun _ _ _ h => h) rfl (fun W hW => by (go_simp; try with_reducible rfl)) hS.base ?_; simp only [Act.put, List.setIfInBounds_toArray, List.set_cons_zero, List.set_cons_succ])
      (refine whd_take 5 rfl rfl (by kernel_rfl) (by kernel_rfl) (by kernel_rfl) (fun _ _ _ h => h) rfl (fun W hW => rdR) hS.base ?_; simp only [Act.put, List.setIfInBounds_toArray, List.set_cons_zero, List.set_cons_succ])
      (refine whd_take 6 rfl rfl (by kernel_rfl) (by kernel_rfl) (by kernel_rfl) (fun _ _ _ h => h) rfl (fun W hW => by (go_simp; try with_reducible rfl)) hS.base ?_; simp only [Act.put, List.setIfInBounds_toArray, List.set_cons_zero, List.set_cons_succ])
      (refine whd_take 7 rfl rfl (by kernel_rfl) (by kernel_rfl) (by kernel_rfl) (fun _ _ _ h => h) rfl (fun W hW => rdR) hS.base ?_; simp only [Act.put, List.setIfInBounds_toArray, List.set_cons_zero, List.set_cons_succ])
      (refine wpAnyH_all (rs := [8]) (by kernel_rfl) (by simp) ?_; intro i hi; have hi := List.mem_singleton.1 hi; subst hi)
      refine wod_of rfl rfl rfl (wp_call (by go_simp) (HD.out F wq gl _ _ (hS.out (by (repeat (first | exact Out.here | apply Out.there))))) ?_)
      clear hS
      rintro e w4 ⟨rfl, hS⟩
      refine ⟨_, rfl, hS.base, ?_⟩
      simp only [Act.put, List.setIfInBounds_toArray, List.set_cons_zero, List.set_cons_succ]
      (refine whd_take 9 rfl rfl (by kernel_rfl) (by kernel_rfl) (by kernel_rfl) (fun _ _ _ h => h) rfl (fun W hW => by (go_simp; try with_reducible rfl)) hS.base ?_; simp only [Act.put, List.setIfInBounds_toArray, List.set_cons_zero, List.set_cons_succ])
      (refine wpAnyH_done (by kernel_rfl) ?_ _)
      replace hS := hB _ _ hS
      simp only [List.cons_append, List.nil_append] at hS
      go_wp2_with (fail)
      obtain ⟨wp, rfl⟩ : ∃ wp, wp = w4 := ⟨_, rfl⟩
      replace hS := hS.out (m := rses gs T) (by (repeat (first | exact Out.here | apply Out.there)))
      obtain ⟨F, hA, hR, hB⟩ := St.split (A := [rses gs T]) hS
      clear hS
      have hS := hA.drew
      clear hA
      refine wp_region_held (S := fun W => Cmp.Mod F wp W) (by kernel_rfl) ?_
      change wpAnyH _ _ _ _ _ _ _ _ (wp).drew
      generalize (wp).drew = w2 at hS ⊢
      (refine whd_take 0 rfl rfl (by kernel_rfl) (by kernel_rfl) (by kernel_rfl) (fun _ _ _ h => h) rfl (fun W hW => by (go_simp; try with_reducible rfl)) hS.base ?_; simp only [Act.put, List.setIfInBounds_toArray, List.set_cons_zero, List.set_cons_succ])
      (refine whd_take 1 rfl rfl (by kernel_rfl) (by kernel_rfl) (by kernel_rfl) (fun _ _ _ h => h) rfl (fun W hW => by (go_simp; try with_reducible rfl)) hS.base ?_; simp only [Act.put, List.setIfInBounds_toArray, List.set_cons_zero, List.set_cons_succ])
      (refine whd_take 2 rfl rfl (by kernel_rfl) (by kernel_rfl) (by kernel_rfl) (fun _ _ _ h => h) rfl (fun W hW => by (go_simp; try with_reducible rfl)) hS.base ?_; simp only [Act.put, List.setIfInBounds_toArray, List.set_cons_zero, List.set_cons_succ])
      (refine whd_take 3 rfl rfl (by kernel_rfl) (by kernel_rfl) (by kernel_rfl) (fun _ _ _ h => h) rfl (fun W hW => rdR) hS.base ?_; simp only [Act.put, List.setIfInBounds_toArray, List.set_cons_zero, List.set_cons_succ])
      (refine whd_take 4 rfl rfl (by kernel_rfl) (by kernel_rfl) (by kernel_rfl) (fun _ _ _ h => h) rfl (fun W hW => by (go_simp; try with_reducible rfl)) hS.base ?_; simp only [Act.put, List.setIfInBounds_toArray, List.set_cons_zero, List.set_cons_succ])
      (refine whd_take 5 rfl rfl (by kernel_rfl) (by kernel_rfl) (by kernel_rfl) (fun _ _ _ h => h) rfl (fun W hW => rdR) hS.base ?_; simp only [Act.put, List.setIfInBounds_toArray, List.set_cons_zero, List.set_cons_succ])
      (refine whd_take 6 rfl rfl (by kernel_rfl) (by kernel_rfl) (by kernel_rfl) (fun _ _ _ h => h) rfl (fun W hW => by (go_simp; try with_reducible rfl)) hS.base ?_; simp only [Act.put, List.setIfInBounds_toArray, List.set_cons_zero, List.set_cons_succ])
      (refine whd_take 7 rfl rfl (by kernel_rfl) (by kernel_rfl) (by kernel_rfl) (fun _ _ _ h => h) rfl (fun W hW => rdR) hS.base ?_; simp only [Act.put, List.setIfInBounds_toArray, List.set_cons_zero, List.set_cons_succ])
      (refine whd_take 8 rfl rfl (by kernel_rfl) (by kernel_rfl) (by kernel_rfl) (fun _ _ _ h => h) rfl (fun W hW => by (go_simp; try with_reducible rfl)) hS.base ?_; simp only [Act.put, List.setIfInBounds_toArray, List.set_cons_zero, List.set_cons_succ])
      (refine whd_take 9 rfl rfl (by kernel_rfl) (by kernel_rfl) (by kernel_rfl) (fun _ _ _ h => h) rfl (fun W hW => rdR) hS.base ?_; simp only [Act.put, List.setIfInBounds_toArray, List.set_cons_zero, List.set_cons_succ])
      (refine whd_take 10 rfl rfl (by kernel_rfl) (by kernel_rfl) (by kernel_rfl) (fun _ _ _ h => h) rfl (fun W hW => by (go_simp; try with_reducible rfl)) hS.base ?_; simp only [Act.put, List.setIfInBounds_toArray, List.set_cons_zero, List.set_cons_succ])
      (refine wpAnyH_all (rs := [11]) (by kernel_rfl) (by simp) ?_; intro i hi; have hi := List.mem_singleton.1 hi; subst hi)
      refine wod_of rfl rfl rfl (wp_call (by go_simp) (HN.out F wp gs _ _ (hS.out (by (repeat (first | exact Out.here | apply Out.there))))) ?_)
      clear hS
      rintro e w4 ⟨rfl, hS⟩
      refine ⟨_, rfl, hS.base, ?_⟩
      simp only [Act.put, List.setIfInBounds_toArray, List.set_cons_zero, List.set_cons_succ]
      (refine wpAnyH_done (by kernel_rfl) ?_ _)
      replace hS := hB _ _ hS
      simp only [List.cons_append, List.nil_append] at hS
      go_wp2_with (first | refine au1 (n := ?_) | (refine au2 (n := ?_); clear hS; intro w' hS) | (refine au3 (n := ?_); clear hS; intro gb w1 hS) | (refine au4 (n := ?_); clear hS; intro v1 w' hS) | ((with_reducible refine wl_guard ?_); refine stop_mem rfl rfl ?_))
      exact end_cell1 hS rfl rfl rfl rfl rfl (h := ⟨rfl, St.packs (gs, gl) hS⟩)
    · rw [if_neg (by decide), if_neg (by decide), if_pos rfl]
      (go_enter Tryz.func47, Tryz.ntmps47)
      go_wp2_with (first | ((with_reducible refine g_box ?_); refine wl_of rfl ?_; refine wp_box hS rfl rfl rfl ?_; clear hS; intro ge w1 hS) | ((with_reducible refine g_alloc ?_); refine wl_of rfl ?_; refine wp_alloc hS rfl rfl rfl rfl ?_; clear hS; intro gq w1 hS) | (go_at_call 79; refine (HM.out _).mono ?_; rintro e w' ⟨rfl, h⟩; replace hS := hS.call h; clear h) | (first | refine au1 (n := ?_) | (refine au2 (n := ?_); clear hS; intro w' hS) | (refine au3 (n := ?_); clear hS; intro gb w1 hS) | (refine au4 (n := ?_); clear hS; intro v1 w' hS) | ((with_reducible refine wl_guard ?_); refine stop_mem rfl rfl ?_)))
      obtain ⟨wa, rfl⟩ : ∃ wa, wa = w' := ⟨_, rfl⟩
      replace hS := hS.out (m := rses gs T) (by (repeat (first | exact Out.here | apply Out.there)))
      obtain ⟨F, hA, hR, hB⟩ := St.split (A := [rses gs T]) hS
      clear hS
      have hS := hA.drew
      clear hA
      refine wp_region_held (S := fun W => Cmp.Mod F wa W) (by kernel_rfl) ?_
      change wpAnyH _ _ _ _ _ _ _ _ (wa).drew
      generalize (wa).drew = w2 at hS ⊢
      (refine whd_take 0 rfl rfl (by kernel_rfl) (by kernel_rfl) (by kernel_rfl) (fun _ _ _ h => h) rfl (fun W hW => by (go_simp; try with_reducible rfl)) hS.base ?_; simp only [Act.put, List.setIfInBounds_toArray, List.set_cons_zero, List.set_cons_succ])
      (refine whd_take 1 rfl rfl (by kernel_rfl) (by kernel_rfl) (by kernel_rfl) (fun _ _ _ h => h) rfl (fun W hW => by (go_simp; try with_reducible rfl)) hS.base ?_; simp only [Act.put, List.setIfInBounds_toArray, List.set_cons_zero, List.set_cons_succ])
      (refine whd_take 2 rfl rfl (by kernel_rfl) (by kernel_rfl) (by kernel_rfl) (fun _ _ _ h => h) rfl (fun W hW => by (go_simp; try with_reducible rfl)) hS.base ?_; simp only [Act.put, List.setIfInBounds_toArray, List.set_cons_zero, List.set_cons_succ])
      (refine whd_take 3 rfl rfl (by kernel_rfl) (by kernel_rfl) (by kernel_rfl) (fun _ _ _ h => h) rfl (fun W hW => rdR) hS.base ?_; simp only [Act.put, List.setIfInBounds_toArray, List.set_cons_zero, List.set_cons_succ])
      (refine whd_take 4 rfl rfl (by kernel_rfl) (by kernel_rfl) (by kernel_rfl) (fun _ _ _ h => h) rfl (fun W hW => by (go_simp; try with_reducible rfl)) hS.base ?_; simp only [Act.put, List.setIfInBounds_toArray, List.set_cons_zero, List.set_cons_succ])
      (refine whd_take 5 rfl rfl (by kernel_rfl) (by kernel_rfl) (by kernel_rfl) (fun _ _ _ h => h) rfl (fun W hW => rdR) hS.base ?_; simp only [Act.put, List.setIfInBounds_toArray, List.set_cons_zero, List.set_cons_succ])
      apply mrg
      · intro kk
        have hS := hS
        (refine wpAnyH_all (rs := [6, 10]) (by kernel_rfl) (by simp) ?_; intro i hi; simp only [List.mem_cons, List.not_mem_nil, or_false] at hi)
        rcases hi with rfl | rfl
        · refine wod_of rfl rfl rfl (wp_call (by go_simp) (HL.out F wa gs _ _ (hS.out (by (repeat (first | exact Out.here | apply Out.there))))) ?_)
          clear hS
          rintro e w4 ⟨rfl, hS⟩
          refine ⟨_, rfl, hS.base, ?_⟩
          simp only [Act.put, List.setIfInBounds_toArray, List.set_cons_zero, List.set_cons_succ]
          (refine whd_take 7 rfl rfl (by kernel_rfl) (by kernel_rfl) (by kernel_rfl) (fun _ _ _ h => h) rfl (fun W hW => by (go_simp; try with_reducible rfl)) hS.base ?_; simp only [Act.put, List.setIfInBounds_toArray, List.set_cons_zero, List.set_cons_succ])
          (refine whd_take 8 rfl rfl (by kernel_rfl) (by kernel_rfl) (by kernel_rfl) (fun _ _ _ h => h) rfl (fun W hW => by (go_simp; try with_reducible rfl)) hS.base ?_; simp only [Act.put, List.setIfInBounds_toArray, List.set_cons_zero, List.set_cons_succ])
          (refine whd_take 9 rfl rfl (by kernel_rfl) (by kernel_rfl) (by kernel_rfl) (fun _ _ _ h => h) rfl (fun W hW => by (go_simp; try with_reducible rfl)) hS.base ?_; simp only [Act.put, List.setIfInBounds_toArray, List.set_cons_zero, List.set_cons_succ])
          (refine wpAnyH_all (rs := [10]) (by kernel_rfl) (by simp) ?_; intro i hi; have hi := List.mem_singleton.1 hi; subst hi)
          (refine wod_of rfl rfl rfl (wp_alloc hS rfl rfl rfl rfl ?_); clear hS; intro gz w3 hS; refine ⟨hS.base, ?_⟩; simp only [Act.put, List.setIfInBounds_toArray, List.set_cons_zero, List.set_cons_succ])
          (refine wpAnyH_all (rs := [11]) (by kernel_rfl) (by simp) ?_; intro i hi; have hi := List.mem_singleton.1 hi; subst hi)
          refine won_of rfl rfl rfl (k_sta hS rfl rfl rfl (h := ?_))
          clear hS
          intro w6 hS
          simp only [List.take, List.drop, List.cons_append, List.nil_append, List.length_cons, List.length_nil] at hS
          refine ⟨hS.base, ?_⟩
          simp only [Act.put, List.setIfInBounds_toArray, List.set_cons_zero, List.set_cons_succ]
          (refine whd_take 12 rfl rfl (by kernel_rfl) (by kernel_rfl) (by kernel_rfl) (fun _ _ _ h => h) rfl (fun W hW => by (go_simp; try with_reducible rfl)) hS.base ?_; simp only [Act.put, List.setIfInBounds_toArray, List.set_cons_zero, List.set_cons_succ])
          (refine wpAnyH_done (by kernel_rfl) ?_ _)
          replace hS := hB _ _ hS
          simp only [List.cons_append, List.nil_append] at hS
          revert gz w6 hS
          exact kk.out
        · (refine wod_of rfl rfl rfl (wp_alloc hS rfl rfl rfl rfl ?_); clear hS; intro gz w3 hS; refine ⟨hS.base, ?_⟩; simp only [Act.put, List.setIfInBounds_toArray, List.set_cons_zero, List.set_cons_succ])
          (refine wpAnyH_all (rs := [6]) (by kernel_rfl) (by simp) ?_; intro i hi; have hi := List.mem_singleton.1 hi; subst hi)
          refine wod_of rfl rfl rfl (wp_call (by go_simp) (HL.out F wa gs _ _ (hS.out (by (repeat (first | exact Out.here | apply Out.there))))) ?_)
          clear hS
          rintro e w4 ⟨rfl, hS⟩
          refine ⟨_, rfl, hS.base, ?_⟩
          simp only [Act.put, List.setIfInBounds_toArray, List.set_cons_zero, List.set_cons_succ]
          (refine whd_take 7 rfl rfl (by kernel_rfl) (by kernel_rfl) (by kernel_rfl) (fun _ _ _ h => h) rfl (fun W hW => by (go_simp; try with_reducible rfl)) hS.base ?_; simp only [Act.put, List.setIfInBounds_toArray, List.set_cons_zero, List.set_cons_succ])
          (refine whd_take 8 rfl rfl (by kernel_rfl) (by kernel_rfl) (by kernel_rfl) (fun _ _ _ h => h) rfl (fun W hW => by (go_simp; try with_reducible rfl)) hS.base ?_; simp only [Act.put, List.setIfInBounds_toArray, List.set_cons_zero, List.set_cons_succ])
          (refine whd_take 9 rfl rfl (by kernel_rfl) (by kernel_rfl) (by kernel_rfl) (fun _ _ _ h => h) rfl (fun W hW => by (go_simp; try with_reducible rfl)) hS.base ?_; simp only [Act.put, List.setIfInBounds_toArray, List.set_cons_zero, List.set_cons_succ])
          (refine wpAnyH_all (rs := [11]) (by kernel_rfl) (by simp) ?_; intro i hi; have hi := List.mem_singleton.1 hi; subst hi)
          refine won_of rfl rfl rfl (k_sta hS rfl rfl rfl (h := ?_))
          clear hS
          intro w6 hS
          simp only [List.take, List.drop, List.cons_append, List.nil_append, List.length_cons, List.length_nil] at hS
          refine ⟨hS.base, ?_⟩
          simp only [Act.put, List.setIfInBounds_toArray, List.set_cons_zero, List.set_cons_succ]
          (refine whd_take 12 rfl rfl (by kernel_rfl) (by kernel_rfl) (by kernel_rfl) (fun _ _ _ h => h) rfl (fun W hW => by (go_simp; try with_reducible rfl)) hS.base ?_; simp only [Act.put, List.setIfInBounds_toArray, List.set_cons_zero, List.set_cons_succ])
          (refine wpAnyH_done (by kernel_rfl) ?_ _)
          replace hS := hB _ _ hS
          simp only [List.cons_append, List.nil_append] at hS
          exact kk.out _ _ hS.pick
      clear hS
      intro gz w6 hS
      go_wp2_with (first | refine au1 (n := ?_) | (refine au2 (n := ?_); clear hS; intro w' hS) | (refine au3 (n := ?_); clear hS; intro gb w1 hS) | (refine au4 (n := ?_); clear hS; intro v1 w' hS) | ((with_reducible refine wl_guard ?_); refine stop_mem rfl rfl ?_))
      replace hS := hS.out (m := rses gs T) (by (repeat (first | exact Out.here | apply Out.there)))
      obtain ⟨F, hA, hR, hB⟩ := St.split (A := [rses gs T]) hS
      clear hS
      have hS := hA.drew
      clear hA
      refine wp_region_held (S := fun W => Cmp.Mod F w6 W) (by kernel_rfl) ?_
      change wpAnyH _ _ _ _ _ _ _ _ (w6).drew
      generalize (w6).drew = w2 at hS ⊢
      (refine whd_take 0 rfl rfl (by kernel_rfl) (by kernel_rfl) (by kernel_rfl) (fun _ _ _ h => h) rfl (fun W hW => by (go_simp; try with_reducible rfl)) hS.base ?_; simp only [Act.put, List.setIfInBounds_toArray, List.set_cons_zero, List.set_cons_succ])
      (refine whd_take 1 rfl rfl (by kernel_rfl) (by kernel_rfl) (by kernel_rfl) (fun _ _ _ h => h) rfl (fun W hW => by (go_simp; try with_reducible rfl)) hS.base ?_; simp only [Act.put, List.setIfInBounds_toArray, List.set_cons_zero, List.set_cons_succ])
      (refine whd_take 2 rfl rfl (by kernel_rfl) (by kernel_rfl) (by kernel_rfl) (fun _ _ _ h => h) rfl (fun W hW => by (go_simp; try with_reducible rfl)) hS.base ?_; simp only [Act.put, List.setIfInBounds_toArray, List.set_cons_zero, List.set_cons_succ])
      (refine whd_take 3 rfl rfl (by kernel_rfl) (by kernel_rfl) (by kernel_rfl) (fun _ _ _ h => h) rfl (fun W hW => rdR) hS.base ?_; simp only [Act.put, List.setIfInBounds_toArray, List.set_cons_zero, List.set_cons_succ])
      (refine whd_take 4 rfl rfl (by kernel_rfl) (by kernel_rfl) (by kernel_rfl) (fun _ _ _ h => h) rfl (fun W hW => by (go_simp; try with_reducible rfl)) hS.base ?_; simp only [Act.put, List.setIfInBounds_toArray, List.set_cons_zero, List.set_cons_succ])
      (refine whd_take 5 rfl rfl (by kernel_rfl) (by kernel_rfl) (by kernel_rfl) (fun _ _ _ h => h) rfl (fun W hW => rdR) hS.base ?_; simp only [Act.put, List.setIfInBounds_toArray, List.set_cons_zero, List.set_cons_succ])
      (refine whd_take 6 rfl rfl (by kernel_rfl) (by kernel_rfl) (by kernel_rfl) (fun _ _ _ h => h) rfl (fun W hW => by (go_simp; try with_reducible rfl)) hS.base ?_; simp only [Act.put, List.setIfInBounds_toArray, List.set_cons_zero, List.set_cons_succ])
      (refine whd_take 7 rfl rfl (by kernel_rfl) (by kernel_rfl) (by kernel_rfl) (fun _ _ _ h => h) rfl (fun W hW => rdR) hS.base ?_; simp only [Act.put, List.setIfInBounds_toArray, List.set_cons_zero, List.set_cons_succ])
      (refine whd_take 8 rfl rfl (by kernel_rfl) (by kernel_rfl) (by kernel_rfl) (fun _ _ _ h => h) rfl (fun W hW => by (go_simp; try with_reducible rfl)) hS.base ?_; simp only [Act.put, List.setIfInBounds_toArray, List.set_cons_zero, List.set_cons_succ])
      (refine whd_take 9 rfl rfl (by kernel_rfl) (by kernel_rfl) (by kernel_rfl) (fun _ _ _ h => h) rfl (fun W hW => rdR) hS.base ?_; simp only [Act.put, List.setIfInBounds_toArray, List.set_cons_zero, List.set_cons_succ])
      (refine wpAnyH_all (rs := [10]) (by kernel_rfl) (by simp) ?_; intro i hi; have hi := List.mem_singleton.1 hi; subst hi)
      refine wod_of rfl rfl rfl (wp_call (by go_simp) (HV.out F w6 gs _ _ (hS.out (by (repeat (first | exact Out.here | apply Out.there))))) ?_)
      clear hS
      rintro e w4 ⟨rfl, hS⟩
      refine ⟨_, rfl, hS.base, ?_⟩
      simp only [Act.put, List.setIfInBounds_toArray, List.set_cons_zero, List.set_cons_succ]
      (refine whd_take 11 rfl rfl (by kernel_rfl) (by kernel_rfl) (by kernel_rfl) (fun _ _ _ h => h) rfl (fun W hW => by (go_simp; try with_reducible rfl)) hS.base ?_; simp only [Act.put, List.setIfInBounds_toArray, List.set_cons_zero, List.set_cons_succ])
      (refine wpAnyH_done (by kernel_rfl) ?_ _)
      replace hS := hB _ _ hS
      simp only [List.cons_append, List.nil_append] at hS
      go_wp2_with (first | (go_at_call 52; refine (HA1.out _).mono ?_; rintro e w' ⟨rfl, h⟩; replace hS := hS.call h; clear h) | (first | refine au1 (n := ?_) | (refine au2 (n := ?_); clear hS; intro w' hS) | (refine au3 (n := ?_); clear hS; intro gb w1 hS) | (refine au4 (n := ?_); clear hS; intro v1 w' hS) | ((with_reducible refine wl_guard ?_); refine stop_mem rfl rfl ?_)))
      exact end_cell1 hS rfl rfl rfl rfl rfl (h := ⟨rfl, St.packs (gs, gl) hS⟩)
    all_goals
      rw [if_neg (by decide), if_neg (by decide), if_neg (by decide)]
      (go_enter Tryz.func47, Tryz.ntmps47)
      go_wp2_with (first | ((with_reducible refine g_box ?_); refine wl_of rfl ?_; refine wp_box hS rfl rfl rfl ?_; clear hS; intro ge w1 hS) | ((with_reducible refine g_alloc ?_); refine wl_of rfl ?_; refine wp_alloc hS rfl rfl rfl rfl ?_; clear hS; intro gq w1 hS) | (go_at_call 79; refine (HM.out _).mono ?_; rintro e w' ⟨rfl, h⟩; replace hS := hS.call h; clear h) | (first | refine au1 (n := ?_) | (refine au2 (n := ?_); clear hS; intro w' hS) | (refine au3 (n := ?_); clear hS; intro gb w1 hS) | (refine au4 (n := ?_); clear hS; intro v1 w' hS) | ((with_reducible refine wl_guard ?_); refine stop_mem rfl rfl ?_)))
      obtain ⟨wa, rfl⟩ : ∃ wa, wa = w' := ⟨_, rfl⟩
      replace hS := hS.out (m := rses gs T) (by (repeat (first | exact Out.here | apply Out.there)))
      obtain ⟨F, hA, hR, hB⟩ := St.split (A := [rses gs T]) hS
      clear hS
      have hS := hA.drew
      clear hA
      refine wp_region_held (S := fun W => Cmp.Mod F wa W) (by kernel_rfl) ?_
      change wpAnyH _ _ _ _ _ _ _ _ (wa).drew
      generalize (wa).drew = w2 at hS ⊢
      (refine whd_take 0 rfl rfl (by kernel_rfl) (by kernel_rfl) (by kernel_rfl) (fun _ _ _ h => h) rfl (fun W hW => by (go_simp; try with_reducible rfl)) hS.base ?_; simp only [Act.put, List.setIfInBounds_toArray, List.set_cons_zero, List.set_cons_succ])
      (refine whd_take 1 rfl rfl (by kernel_rfl) (by kernel_rfl) (by kernel_rfl) (fun _ _ _ h => h) rfl (fun W hW => by (go_simp; try with_reducible rfl)) hS.base ?_; simp only [Act.put, List.setIfInBounds_toArray, List.set_cons_zero, List.set_cons_succ])
      (refine whd_take 2 rfl rfl (by kernel_rfl) (by kernel_rfl) (by kernel_rfl) (fun _ _ _ h => h) rfl (fun W hW => by (go_simp; try with_reducible rfl)) hS.base ?_; simp only [Act.put, List.setIfInBounds_toArray, List.set_cons_zero, List.set_cons_succ])
      (refine whd_take 3 rfl rfl (by kernel_rfl) (by kernel_rfl) (by kernel_rfl) (fun _ _ _ h => h) rfl (fun W hW => rdR) hS.base ?_; simp only [Act.put, List.setIfInBounds_toArray, List.set_cons_zero, List.set_cons_succ])
      (refine whd_take 4 rfl rfl (by kernel_rfl) (by kernel_rfl) (by kernel_rfl) (fun _ _ _ h => h) rfl (fun W hW => by (go_simp; try with_reducible rfl)) hS.base ?_; simp only [Act.put, List.setIfInBounds_toArray, List.set_cons_zero, List.set_cons_succ])
      (refine whd_take 5 rfl rfl (by kernel_rfl) (by kernel_rfl) (by kernel_rfl) (fun _ _ _ h => h) rfl (fun W hW => rdR) hS.base ?_; simp only [Act.put, List.setIfInBounds_toArray, List.set_cons_zero, List.set_cons_succ])
      apply mrg
      · intro kk
        have hS := hS
        (refine wpAnyH_all (rs := [6, 10]) (by kernel_rfl) (by simp) ?_; intro i hi; simp only [List.mem_cons, List.not_mem_nil, or_false] at hi)
        rcases hi with rfl | rfl
        · refine wod_of rfl rfl rfl (wp_call (by go_simp) (HL.out F wa gs _ _ (hS.out (by (repeat (first | exact Out.here | apply Out.there))))) ?_)
          clear hS
          rintro e w4 ⟨rfl, hS⟩
          refine ⟨_, rfl, hS.base, ?_⟩
          simp only [Act.put, List.setIfInBounds_toArray, List.set_cons_zero, List.set_cons_succ]
          (refine whd_take 7 rfl rfl (by kernel_rfl) (by kernel_rfl) (by kernel_rfl) (fun _ _ _ h => h) rfl (fun W hW => by (go_simp; try with_reducible rfl)) hS.base ?_; simp only [Act.put, List.setIfInBounds_toArray, List.set_cons_zero, List.set_cons_succ])
          (refine whd_take 8 rfl rfl (by kernel_rfl) (by kernel_rfl) (by kernel_rfl) (fun _ _ _ h => h) rfl (fun W hW => by (go_simp; try with_reducible rfl)) hS.base ?_; simp only [Act.put, List.setIfInBounds_toArray, List.set_cons_zero, List.set_cons_succ])
          (refine whd_take 9 rfl rfl (by kernel_rfl) (by kernel_rfl) (by kernel_rfl) (fun _ _ _ h => h) rfl (fun W hW => by (go_simp; try with_reducible rfl)) hS.base ?_; simp only [Act.put, List.setIfInBounds_toArray, List.set_cons_zero, List.set_cons_succ])
          (refine wpAnyH_all (rs := [10]) (by kernel_rfl) (by simp) ?_; intro i hi; have hi := List.mem_singleton.1 hi; subst hi)
          (refine wod_of rfl rfl rfl (wp_alloc hS rfl rfl rfl rfl ?_); clear hS; intro gz w3 hS; refine ⟨hS.base, ?_⟩; simp only [Act.put, List.setIfInBounds_toArray, List.set_cons_zero, List.set_cons_succ])
          (refine wpAnyH_all (rs := [11]) (by kernel_rfl) (by simp) ?_; intro i hi; have hi := List.mem_singleton.1 hi; subst hi)
          refine won_of rfl rfl rfl (k_sta hS rfl rfl rfl (h := ?_))
          clear hS
          intro w6 hS
          simp only [List.take, List.drop, List.cons_append, List.nil_append, List.length_cons, List.length_nil] at hS
          refine ⟨hS.base, ?_⟩
          simp only [Act.put, List.setIfInBounds_toArray, List.set_cons_zero, List.set_cons_succ]
          (refine whd_take 12 rfl rfl (by kernel_rfl) (by kernel_rfl) (by kernel_rfl) (fun _ _ _ h => h) rfl (fun W hW => by (go_simp; try with_reducible rfl)) hS.base ?_; simp only [Act.put, List.setIfInBounds_toArray, List.set_cons_zero, List.set_cons_succ])
          (refine wpAnyH_done (by kernel_rfl) ?_ _)
          replace hS := hB _ _ hS
          simp only [List.cons_append, List.nil_append] at hS
          revert gz w6 hS
          exact kk.out
        · (refine wod_of rfl rfl rfl (wp_alloc hS rfl rfl rfl rfl ?_); clear hS; intro gz w3 hS; refine ⟨hS.base, ?_⟩; simp only [Act.put, List.setIfInBounds_toArray, List.set_cons_zero, List.set_cons_succ])
          (refine wpAnyH_all (rs := [6]) (by kernel_rfl) (by simp) ?_; intro i hi; have hi := List.mem_singleton.1 hi; subst hi)
          refine wod_of rfl rfl rfl (wp_call (by go_simp) (HL.out F wa gs _ _ (hS.out (by (repeat (first | exact Out.here | apply Out.there))))) ?_)
          clear hS
          rintro e w4 ⟨rfl, hS⟩
          refine ⟨_, rfl, hS.base, ?_⟩
          simp only [Act.put, List.setIfInBounds_toArray, List.set_cons_zero, List.set_cons_succ]
          (refine whd_take 7 rfl rfl (by kernel_rfl) (by kernel_rfl) (by kernel_rfl) (fun _ _ _ h => h) rfl (fun W hW => by (go_simp; try with_reducible rfl)) hS.base ?_; simp only [Act.put, List.setIfInBounds_toArray, List.set_cons_zero, List.set_cons_succ])
          (refine whd_take 8 rfl rfl (by kernel_rfl) (by kernel_rfl) (by kernel_rfl) (fun _ _ _ h => h) rfl (fun W hW => by (go_simp; try with_reducible rfl)) hS.base ?_; simp only [Act.put, List.setIfInBounds_toArray, List.set_cons_zero, List.set_cons_succ])
          (refine whd_take 9 rfl rfl (by kernel_rfl) (by kernel_rfl) (by kernel_rfl) (fun _ _ _ h => h) rfl (fun W hW => by (go_simp; try with_reducible rfl)) hS.base ?_; simp only [Act.put, List.setIfInBounds_toArray, List.set_cons_zero, List.set_cons_succ])
          (refine wpAnyH_all (rs := [11]) (by kernel_rfl) (by simp) ?_; intro i hi; have hi := List.mem_singleton.1 hi; subst hi)
          refine won_of rfl rfl rfl (k_sta hS rfl rfl rfl (h := ?_))
          clear hS
          intro w6 hS
          simp only [List.take, List.drop, List.cons_append, List.nil_append, List.length_cons, List.length_nil] at hS
          refine ⟨hS.base, ?_⟩
          simp only [Act.put, List.setIfInBounds_toArray, List.set_cons_zero, List.set_cons_succ]
          (refine whd_take 12 rfl rfl (by kernel_rfl) (by kernel_rfl) (by kernel_rfl) (fun _ _ _ h => h) rfl (fun W hW => by (go_simp; try with_reducible rfl)) hS.base ?_; simp only [Act.put, List.setIfInBounds_toArray, List.set_cons_zero, List.set_cons_succ])
          (refine wpAnyH_done (by kernel_rfl) ?_ _)
          replace hS := hB _ _ hS
          simp only [List.cons_append, List.nil_append] at hS
          exact kk.out _ _ hS.pick
      clear hS
      intro gz w6 hS
      go_wp2_with (first | refine au1 (n := ?_) | (refine au2 (n := ?_); clear hS; intro w' hS) | (refine au3 (n := ?_); clear hS; intro gb w1 hS) | (refine au4 (n := ?_); clear hS; intro v1 w' hS) | ((with_reducible refine wl_guard ?_); refine stop_mem rfl rfl ?_))
      replace hS := hS.out (m := rses gs T) (by (repeat (first | exact Out.here | apply Out.there)))
      obtain ⟨F, hA, hR, hB⟩ := St.split (A := [rses gs T]) hS
      clear hS
      have hS := hA.drew
      clear hA
      refine wp_region_held (S := fun W => Cmp.Mod F w6 W) (by kernel_rfl) ?_
      change wpAnyH _ _ _ _ _ _ _ _ (w6).drew
      generalize (w6).drew = w2 at hS ⊢
      (refine whd_take 0 rfl rfl (by kernel_rfl) (by kernel_rfl) (by kernel_rfl) (fun _ _ _ h => h) rfl (fun W hW => by (go_simp; try with_reducible rfl)) hS.base ?_; simp only [Act.put, List.setIfInBounds_toArray, List.set_cons_zero, List.set_cons_succ])
      (refine whd_take 1 rfl rfl (by kernel_rfl) (by kernel_rfl) (by kernel_rfl) (fun _ _ _ h => h) rfl (fun W hW => by (go_simp; try with_reducible rfl)) hS.base ?_; simp only [Act.put, List.setIfInBounds_toArray, List.set_cons_zero, List.set_cons_succ])
      (refine whd_take 2 rfl rfl (by kernel_rfl) (by kernel_rfl) (by kernel_rfl) (fun _ _ _ h => h) rfl (fun W hW => by (go_simp; try with_reducible rfl)) hS.base ?_; simp only [Act.put, List.setIfInBounds_toArray, List.set_cons_zero, List.set_cons_succ])
      (refine whd_take 3 rfl rfl (by kernel_rfl) (by kernel_rfl) (by kernel_rfl) (fun _ _ _ h => h) rfl (fun W hW => rdR) hS.base ?_; simp only [Act.put, List.setIfInBounds_toArray, List.set_cons_zero, List.set_cons_succ])
      (refine whd_take 4 rfl rfl (by kernel_rfl) (by kernel_rfl) (by kernel_rfl) (fun _ _ _ h => h) rfl (fun W hW => by (go_simp; try with_reducible rfl)) hS.base ?_; simp only [Act.put, List.setIfInBounds_toArray, List.set_cons_zero, List.set_cons_succ])
      (refine whd_take 5 rfl rfl (by kernel_rfl) (by kernel_rfl) (by kernel_rfl) (fun _ _ _ h => h) rfl (fun W hW => rdR) hS.base ?_; simp only [Act.put, List.setIfInBounds_toArray, List.set_cons_zero, List.set_cons_succ])
      (refine whd_take 6 rfl rfl (by kernel_rfl) (by kernel_rfl) (by kernel_rfl) (fun _ _ _ h => h) rfl (fun W hW => by (go_simp; try with_reducible rfl)) hS.base ?_; simp only [Act.put, List.setIfInBounds_toArray, List.set_cons_zero, List.set_cons_succ])
      (refine whd_take 7 rfl rfl (by kernel_rfl) (by kernel_rfl) (by kernel_rfl) (fun _ _ _ h => h) rfl (fun W hW => rdR) hS.base ?_; simp only [Act.put, List.setIfInBounds_toArray, List.set_cons_zero, List.set_cons_succ])
      (refine whd_take 8 rfl rfl (by kernel_rfl) (by kernel_rfl) (by kernel_rfl) (fun _ _ _ h => h) rfl (fun W hW => by (go_simp; try with_reducible rfl)) hS.base ?_; simp only [Act.put, List.setIfInBounds_toArray, List.set_cons_zero, List.set_cons_succ])
      (refine whd_take 9 rfl rfl (by kernel_rfl) (by kernel_rfl) (by kernel_rfl) (fun _ _ _ h => h) rfl (fun W hW => rdR) hS.base ?_; simp only [Act.put, List.setIfInBounds_toArray, List.set_cons_zero, List.set_cons_succ])
      (refine wpAnyH_all (rs := [10]) (by kernel_rfl) (by simp) ?_; intro i hi; have hi := List.mem_singleton.1 hi; subst hi)
      refine wod_of rfl rfl rfl (wp_call (by go_simp) (HV.out F w6 gs _ _ (hS.out (by (repeat (first | exact Out.here | apply Out.there))))) ?_)
      clear hS
      rintro e w4 ⟨rfl, hS⟩
      refine ⟨_, rfl, hS.base, ?_⟩
      simp only [Act.put, List.setIfInBounds_toArray, List.set_cons_zero, List.set_cons_succ]
      (refine whd_take 11 rfl rfl (by kernel_rfl) (by kernel_rfl) (by kernel_rfl) (fun _ _ _ h => h) rfl (fun W hW => by (go_simp; try with_reducible rfl)) hS.base ?_; simp only [Act.put, List.setIfInBounds_toArray, List.set_cons_zero, List.set_cons_succ])
      (refine wpAnyH_done (by kernel_rfl) ?_ _)
      replace hS := hB _ _ hS
      simp only [List.cons_append, List.nil_append] at hS
      go_wp2_with (first | refine au1 (n := ?_) | (refine au2 (n := ?_); clear hS; intro w' hS) | (refine au3 (n := ?_); clear hS; intro gb w1 hS) | (refine au4 (n := ?_); clear hS; intro v1 w' hS) | ((with_reducible refine wl_guard ?_); refine stop_mem rfl rfl ?_))
      exact end_cell1 hS rfl rfl rfl rfl rfl (h := ⟨rfl, St.packs (gs, gl) hS⟩)
end
end Go.Proofs.YtjjiibcnknljfaaGreat
