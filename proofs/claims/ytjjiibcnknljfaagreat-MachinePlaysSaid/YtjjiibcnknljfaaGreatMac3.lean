/-
  The program's machine: a client asks.
-/
import Derived.Test.YtjjiibcnknljfaaGreatMac1
import Derived.Test.YtjjiibcnknljfaaGreatMax
set_option linter.unusedSimpArgs false
set_option linter.unusedVariables false
set_option linter.unusedSectionVars false
set_option maxRecDepth 100000
namespace Go.Proofs.YtjjiibcnknljfaaGreat
open Go.RowKit Go.Cmp

section
variable {S : List Nat} {w0 w : World} {M : List Ent} {g : Nat} {m : Mac}

set_option maxHeartbeats 16000000 in
theorem mach_request (hS : St S w0 w (mach g m :: M)) (hm : m.Ok) (e : En) (hr : e.right = true) :
    Calls Tryz.prog 32 #[.pointer (some ⟨g, 0, none⟩), .agg e.cells.toArray] w fun x w' => x = .returned (.agg (m.req e).1.cells.toArray) ∧ St S w0 w' (mach g (m.req e).2 :: M) := by
  obtain ⟨mk, T, D⟩ := m
  have hl3 : T.length ≤ 3 := hm.good.ok.len
  obtain ⟨_, _, hrq, _, hbody⟩ := right_may hr
  have hrq : -9223372036854775808 ≤ e.request ∧ e.request ≤ 9223372036854775807 := by simp [may] at hrq; omega
  have HL := Lib.hid (fun (S : List Nat) (w0 : World) (g : Nat) (w : World) (M : List Ent) (hS : St S w0 w (ses g T :: M)) => ses_look hS (by omega) e.client)
  have HV := Lib.hid (fun (S : List Nat) (w0 : World) (g : Nat) (w : World) (M : List Ent) (hS : St S w0 w (ses g T :: M)) => ses_verdict hS (by omega) e.client e.session e.request hm.good.ok.req hrq.1 hrq.2)
  have HD := Lib.hid (fun (S : List Nat) (w0 : World) (g : Nat) (w : World) (M : List Ent) (hS : St S w0 w (ledg g D :: M)) => ledg_do hS hm.led e.oper e.body (by omega))
  have HN := Lib.hid (fun (S : List Nat) (w0 : World) (g : Nat) (w : World) (M : List Ent) (hS : St S w0 w (ses g T :: M)) => ses_note hS (by omega) e.client e.request e.op (D.doIt e.oper e.body).1)
  have hl4 : (sNote T e.client e.request e.op (D.doIt e.oper e.body).1).2.length ≤ 3 := (note_good hm.good e.client e.request e.op (D.doIt e.oper e.body).1).ok.len
  have HL2 := Lib.hid (fun (S : List Nat) (w0 : World) (g : Nat) (w : World) (M : List Ent) (hS : St S w0 w (ses g (sNote T e.client e.request e.op (D.doIt e.oper e.body).1).2 :: M)) => ses_look hS (by omega) e.client)
  have HA1 := Lib.hid (fun w => again_any (sLook T e.client).1 w)
  have HA2 := Lib.hid (fun w => again_any (sLook (sNote T e.client e.request e.op (D.doIt e.oper e.body).1).2 e.client).1 w)
  clear hm hl3 hl4 hr hrq hbody
  have hreq : Mac.req ⟨mk, T, D⟩ e = if sVerdict T e.client e.session e.request = 5 then (⟨2, e.client, e.session, e.request, e.op, []⟩, ⟨mk, T, D⟩)
    else if sVerdict T e.client e.session e.request = 1 then
      (tellS (sLook (sNote T e.client e.request e.op (D.doIt e.oper e.body).1).2 e.client).1, ⟨mk, (sNote T e.client e.request e.op (D.doIt e.oper e.body).1).2, (D.doIt e.oper e.body).2⟩)
    else if sVerdict T e.client e.session e.request = 2 then (tellS (sLook T e.client).1, ⟨mk, T, D⟩)
    else (zAns, ⟨mk, T, D⟩) := rfl
  have hv : sVerdict T e.client e.session e.request = 5 ∨ sVerdict T e.client e.session e.request = 1 ∨ sVerdict T e.client e.session e.request = 2 ∨ sVerdict T e.client e.session e.request = 3 ∨ sVerdict T e.client e.session e.request = 4 := by
    unfold sVerdict
    split
    · exact .inl rfl
    · split
      · exact .inr (.inr (.inl rfl))
      · split
        · exact .inr (.inr (.inr (.inl rfl)))
        · split
          · exact .inr (.inl rfl)
          · exact .inr (.inr (.inr (.inr rfl)))
  rw [hreq]
  clear hreq
  generalize sLook (sNote T e.client e.request e.op (D.doIt e.oper e.body).1).2 e.client = Y2 at HL2 HA2 ⊢
  generalize sNote T e.client e.request e.op (D.doIt e.oper e.body).1 = O at HN HL2 ⊢
  generalize D.doIt e.oper e.body = DD at HD HN ⊢
  generalize sLook T e.client = Y at HL HA1 ⊢
  generalize sVerdict T e.client e.session e.request = V at HV hv ⊢
  obtain ⟨ya, yb⟩ := Y
  obtain ⟨y2, yb2⟩ := Y2
  obtain ⟨o1, T2⟩ := O
  obtain ⟨dr, D2⟩ := DD
  obtain ⟨vw, po, un, par, cl, se, rq, opr, body⟩ := e
  simp only at HL HV HD HN HL2 HA1 HA2 ⊢
  generalize ht2 : tellS y2 = t2 at HA2 ⊢
  generalize ht1 : tellS ya = t1 at HA1 ⊢
  clear ht1 ht2
  obtain ⟨ya1, ya2, ya3, ya4, ya5⟩ := ya
  obtain ⟨y21, y22, y23, y24, y25⟩ := y2
  obtain ⟨t11, t12, t13, t14, t15, t16⟩ := t1
  obtain ⟨t21, t22, t23, t24, t25, t26⟩ := t2
  simp only [Ses.cells, Ans.cells, En.cells, zAns] at HL HV HD HN HL2 HA1 HA2 ⊢
  (have hU := St.unpack hS; clear hS; obtain ⟨⟨gs, gl⟩, _, hS⟩ := hU; simp only [List.cons_append, List.nil_append] at hS)
  rcases hv with rfl | rfl | rfl | rfl | rfl
  · rw [if_pos rfl]
    (go_enter Tryz.func32, Tryz.ntmps32)
    go_wp2_with (first | ((with_reducible refine g_box ?_); refine wl_of rfl ?_; refine wp_box hS rfl rfl rfl ?_; clear hS; intro ge w1 hS) | ((with_reducible refine g_alloc ?_); refine wl_of rfl ?_; refine wp_alloc hS rfl rfl rfl rfl ?_; clear hS; intro gq w1 hS))
    replace hS := hS.out (m := ses gs T) (by (repeat (first | exact Out.here | apply Out.there)))
    obtain ⟨F, hA, hR, hB⟩ := St.split (A := [ses gs T]) hS
    clear hS
    have hS := hA.drew
    clear hA
    refine wp_region_held (S := fun W => Cmp.Mod F w1 W) (by kernel_rfl) ?_
    change wpAnyH _ _ _ _ _ _ _ _ (w1).drew
    generalize (w1).drew = w2 at hS ⊢
    (refine whd_take 0 rfl rfl (by kernel_rfl) (by kernel_rfl) (by kernel_rfl) (fun _ _ _ h => h) rfl (fun W hW => by (go_simp; try with_reducible rfl)) hS.base ?_; simp only [Act.put, List.setIfInBounds_toArray, List.set_cons_zero, List.set_cons_succ])
    (refine whd_take 1 rfl rfl (by kernel_rfl) (by kernel_rfl) (by kernel_rfl) (fun _ _ _ h => h) rfl (fun W hW => by (go_simp; try with_reducible rfl)) hS.base ?_; simp only [Act.put, List.setIfInBounds_toArray, List.set_cons_zero, List.set_cons_succ])
    (refine whd_take 2 rfl rfl (by kernel_rfl) (by kernel_rfl) (by kernel_rfl) (fun _ _ _ h => h) rfl (fun W hW => by (go_simp; try with_reducible rfl)) hS.base ?_; simp only [Act.put, List.setIfInBounds_toArray, List.set_cons_zero, List.set_cons_succ])
    (refine whd_take 3 rfl rfl (by kernel_rfl) (by kernel_rfl) (by kernel_rfl) (fun _ _ _ h => h) rfl (fun W hW => rdR) hS.base ?_; simp only [Act.put, List.setIfInBounds_toArray, List.set_cons_zero, List.set_cons_succ])
    (refine whd_take 4 rfl rfl (by kernel_rfl) (by kernel_rfl) (by kernel_rfl) (fun _ _ _ h => h) rfl (fun W hW => by (go_simp; try with_reducible rfl)) hS.base ?_; simp only [Act.put, List.setIfInBounds_toArray, List.set_cons_zero, List.set_cons_succ])
    (refine whd_take 5 rfl rfl (by kernel_rfl) (by kernel_rfl) (by kernel_rfl) (fun _ _ _ h => h) rfl (fun W hW => rdR) hS.base ?_; simp only [Act.put, List.setIfInBounds_toArray, List.set_cons_zero, List.set_cons_succ])
    (refine whd_take 6 rfl rfl (by kernel_rfl) (by kernel_rfl) (by kernel_rfl) (fun _ _ _ h => h) rfl (fun W hW => by (go_simp; try with_reducible rfl)) hS.base ?_; simp only [Act.put, List.setIfInBounds_toArray, List.set_cons_zero, List.set_cons_succ])
    (refine whd_take 7 rfl rfl (by kernel_rfl) (by kernel_rfl) (by kernel_rfl) (fun _ _ _ h => h) rfl (fun W hW => rdR) hS.base ?_; simp only [Act.put, List.setIfInBounds_toArray, List.set_cons_zero, List.set_cons_succ])
    (refine whd_take 8 rfl rfl (by kernel_rfl) (by kernel_rfl) (by kernel_rfl) (fun _ _ _ h => h) rfl (fun W hW => by (go_simp; try with_reducible rfl)) hS.base ?_; simp only [Act.put, List.setIfInBounds_toArray, List.set_cons_zero, List.set_cons_succ])
    (refine whd_take 9 rfl rfl (by kernel_rfl) (by kernel_rfl) (by kernel_rfl) (fun _ _ _ h => h) rfl (fun W hW => rdR) hS.base ?_; simp only [Act.put, List.setIfInBounds_toArray, List.set_cons_zero, List.set_cons_succ])
    (refine wpAnyH_all (rs := [10]) (by kernel_rfl) (by simp) ?_; intro i hi; have hi := List.mem_singleton.1 hi; subst hi)
    refine wod_of rfl rfl rfl (wp_call (by go_simp) (HV.out F w1 gs _ _ hS) ?_)
    clear hS
    rintro e w4 ⟨rfl, hS⟩
    refine ⟨_, rfl, hS.base, ?_⟩
    simp only [Act.put, List.setIfInBounds_toArray, List.set_cons_zero, List.set_cons_succ]
    (refine wpAnyH_done (by kernel_rfl) ?_ _)
    replace hS := hB _ _ hS
    simp only [List.cons_append, List.nil_append] at hS
    go_wp2_with (first | refine au1 (n := ?_) | (refine au2 (n := ?_); clear hS; intro w' hS) | (refine au3 (n := ?_); clear hS; intro gb w1 hS) | (refine au4 (n := ?_); clear hS; intro v1 w' hS) | ((with_reducible refine wl_guard ?_); refine stop_mem rfl rfl ?_))
    exact end_cell1 hS rfl rfl rfl rfl rfl (h := ⟨rfl, St.packs (gs, gl) hS⟩)
  · rw [if_neg (by decide), if_pos rfl]
    (go_enter Tryz.func32, Tryz.ntmps32)
    go_wp2_with (first | ((with_reducible refine g_box ?_); refine wl_of rfl ?_; refine wp_box hS rfl rfl rfl ?_; clear hS; intro ge w1 hS) | ((with_reducible refine g_alloc ?_); refine wl_of rfl ?_; refine wp_alloc hS rfl rfl rfl rfl ?_; clear hS; intro gq w1 hS))
    replace hS := hS.out (m := ses gs T) (by (repeat (first | exact Out.here | apply Out.there)))
    obtain ⟨F, hA, hR, hB⟩ := St.split (A := [ses gs T]) hS
    clear hS
    have hS := hA.drew
    clear hA
    refine wp_region_held (S := fun W => Cmp.Mod F w1 W) (by kernel_rfl) ?_
    change wpAnyH _ _ _ _ _ _ _ _ (w1).drew
    generalize (w1).drew = w2 at hS ⊢
    (refine whd_take 0 rfl rfl (by kernel_rfl) (by kernel_rfl) (by kernel_rfl) (fun _ _ _ h => h) rfl (fun W hW => by (go_simp; try with_reducible rfl)) hS.base ?_; simp only [Act.put, List.setIfInBounds_toArray, List.set_cons_zero, List.set_cons_succ])
    (refine whd_take 1 rfl rfl (by kernel_rfl) (by kernel_rfl) (by kernel_rfl) (fun _ _ _ h => h) rfl (fun W hW => by (go_simp; try with_reducible rfl)) hS.base ?_; simp only [Act.put, List.setIfInBounds_toArray, List.set_cons_zero, List.set_cons_succ])
    (refine whd_take 2 rfl rfl (by kernel_rfl) (by kernel_rfl) (by kernel_rfl) (fun _ _ _ h => h) rfl (fun W hW => by (go_simp; try with_reducible rfl)) hS.base ?_; simp only [Act.put, List.setIfInBounds_toArray, List.set_cons_zero, List.set_cons_succ])
    (refine whd_take 3 rfl rfl (by kernel_rfl) (by kernel_rfl) (by kernel_rfl) (fun _ _ _ h => h) rfl (fun W hW => rdR) hS.base ?_; simp only [Act.put, List.setIfInBounds_toArray, List.set_cons_zero, List.set_cons_succ])
    (refine whd_take 4 rfl rfl (by kernel_rfl) (by kernel_rfl) (by kernel_rfl) (fun _ _ _ h => h) rfl (fun W hW => by (go_simp; try with_reducible rfl)) hS.base ?_; simp only [Act.put, List.setIfInBounds_toArray, List.set_cons_zero, List.set_cons_succ])
    (refine whd_take 5 rfl rfl (by kernel_rfl) (by kernel_rfl) (by kernel_rfl) (fun _ _ _ h => h) rfl (fun W hW => rdR) hS.base ?_; simp only [Act.put, List.setIfInBounds_toArray, List.set_cons_zero, List.set_cons_succ])
    (refine whd_take 6 rfl rfl (by kernel_rfl) (by kernel_rfl) (by kernel_rfl) (fun _ _ _ h => h) rfl (fun W hW => by (go_simp; try with_reducible rfl)) hS.base ?_; simp only [Act.put, List.setIfInBounds_toArray, List.set_cons_zero, List.set_cons_succ])
    (refine whd_take 7 rfl rfl (by kernel_rfl) (by kernel_rfl) (by kernel_rfl) (fun _ _ _ h => h) rfl (fun W hW => rdR) hS.base ?_; simp only [Act.put, List.setIfInBounds_toArray, List.set_cons_zero, List.set_cons_succ])
    (refine whd_take 8 rfl rfl (by kernel_rfl) (by kernel_rfl) (by kernel_rfl) (fun _ _ _ h => h) rfl (fun W hW => by (go_simp; try with_reducible rfl)) hS.base ?_; simp only [Act.put, List.setIfInBounds_toArray, List.set_cons_zero, List.set_cons_succ])
    (refine whd_take 9 rfl rfl (by kernel_rfl) (by kernel_rfl) (by kernel_rfl) (fun _ _ _ h => h) rfl (fun W hW => rdR) hS.base ?_; simp only [Act.put, List.setIfInBounds_toArray, List.set_cons_zero, List.set_cons_succ])
    (refine wpAnyH_all (rs := [10]) (by kernel_rfl) (by simp) ?_; intro i hi; have hi := List.mem_singleton.1 hi; subst hi)
    refine wod_of rfl rfl rfl (wp_call (by go_simp) (HV.out F w1 gs _ _ hS) ?_)
    clear hS
    rintro e w4 ⟨rfl, hS⟩
    refine ⟨_, rfl, hS.base, ?_⟩
    simp only [Act.put, List.setIfInBounds_toArray, List.set_cons_zero, List.set_cons_succ]
    (refine wpAnyH_done (by kernel_rfl) ?_ _)
    replace hS := hB _ _ hS
    simp only [List.cons_append, List.nil_append] at hS
    go_wp2_with (fail)
    obtain ⟨wq, rfl⟩ : ∃ wq, wq = w4 := ⟨_, rfl⟩
    replace hS := (hS.out (m := ledg gl D) (by (repeat (first | exact Out.here | apply Out.there)))).out (m := ses gs T) (by (repeat (first | exact Out.here | apply Out.there)))
    obtain ⟨F, hA, hR, hB⟩ := St.split (A := [ses gs T, ledg gl D]) hS
    clear hS
    have hS := hA.drew
    clear hA
    refine wp_region_held (S := fun W => Cmp.Mod F wq W) (by kernel_rfl) ?_
    change wpAnyH _ _ _ _ _ _ _ _ (wq).drew
    generalize (wq).drew = w2 at hS ⊢
    (refine whd_take 0 rfl rfl (by kernel_rfl) (by kernel_rfl) (by kernel_rfl) (fun _ _ _ h => h) rfl (fun W hW => by (go_simp; try with_reducible rfl)) hS.base ?_; simp only [Act.put, List.setIfInBounds_toArray, List.set_cons_zero, List.set_cons_succ])
    (refine whd_take 1 rfl rfl (by kernel_rfl) (by kernel_rfl) (by kernel_rfl) (fun _ _ _ h => h) rfl (fun W hW => by (go_simp; try with_reducible rfl)) hS.base ?_; simp only [Act.put, List.setIfInBounds_toArray, List.set_cons_zero, List.set_cons_succ])
    (refine whd_take 2 rfl rfl (by kernel_rfl) (by kernel_rfl) (by kernel_rfl) (fun _ _ _ h => h) rfl (fun W hW => by (go_simp; try with_reducible rfl)) hS.base ?_; simp only [Act.put, List.setIfInBounds_toArray, List.set_cons_zero, List.set_cons_succ])
    (refine whd_take 3 rfl rfl (by kernel_rfl) (by kernel_rfl) (by kernel_rfl) (fun _ _ _ h => h) rfl (fun W hW => rdR) hS.base ?_; simp only [Act.put, List.setIfInBounds_toArray, List.set_cons_zero, List.set_cons_succ])
    (refine whd_take 4 rfl rfl (by kernel_rfl) (by kernel_rfl) (by kernel_rfl) (fun _ _ _ h => h) rfl (fun W hW => by (go_simp; try with_reducible rfl)) hS.base ?_; simp only [Act.put, List.setIfInBounds_toArray, List.set_cons_zero, List.set_cons_succ])
    (refine whd_take 5 rfl rfl (by kernel_rfl) (by kernel_rfl) (by kernel_rfl) (fun _ _ _ h => h) rfl (fun W hW => rdR) hS.base ?_; simp only [Act.put, List.setIfInBounds_toArray, List.set_cons_zero, List.set_cons_succ])
    (refine whd_take 6 rfl rfl (by kernel_rfl) (by kernel_rfl) (by kernel_rfl) (fun _ _ _ h => h) rfl (fun W hW => by (go_simp; try with_reducible rfl)) hS.base ?_; simp only [Act.put, List.setIfInBounds_toArray, List.set_cons_zero, List.set_cons_succ])
    (refine whd_take 7 rfl rfl (by kernel_rfl) (by kernel_rfl) (by kernel_rfl) (fun _ _ _ h => h) rfl (fun W hW => rdR) hS.base ?_; simp only [Act.put, List.setIfInBounds_toArray, List.set_cons_zero, List.set_cons_succ])
    (refine whd_take 8 rfl rfl (by kernel_rfl) (by kernel_rfl) (by kernel_rfl) (fun _ _ _ h => h) rfl (fun W hW => by (go_simp; try with_reducible rfl)) hS.base ?_; simp only [Act.put, List.setIfInBounds_toArray, List.set_cons_zero, List.set_cons_succ])
    (refine whd_take 9 rfl rfl (by kernel_rfl) (by kernel_rfl) (by kernel_rfl) (fun _ _ _ h => h) rfl (fun W hW => rdR) hS.base ?_; simp only [Act.put, List.setIfInBounds_toArray, List.set_cons_zero, List.set_cons_succ])
    (refine whd_take 10 rfl rfl (by kernel_rfl) (by kernel_rfl) (by kernel_rfl) (fun _ _ _ h => h) rfl (fun W hW => by (go_simp; try with_reducible rfl)) hS.base ?_; simp only [Act.put, List.setIfInBounds_toArray, List.set_cons_zero, List.set_cons_succ])
    (refine whd_take 11 rfl rfl (by kernel_rfl) (by kernel_rfl) (by kernel_rfl) (fun _ _ _ h => h) rfl (fun W hW => by (go_simp; try with_reducible rfl)) hS.base ?_; simp only [Act.put, List.setIfInBounds_toArray, List.set_cons_zero, List.set_cons_succ])
    (refine whd_take 12 rfl rfl (by kernel_rfl) (by kernel_rfl) (by kernel_rfl) (fun _ _ _ h => h) rfl (fun W hW => by (go_simp; try with_reducible rfl)) hS.base ?_; simp only [Act.put, List.setIfInBounds_toArray, List.set_cons_zero, List.set_cons_succ])
    (refine whd_take 13 rfl rfl (by kernel_rfl) (by kernel_rfl) (by kernel_rfl) (fun _ _ _ h => h) rfl (fun W hW => rdR) hS.base ?_; simp only [Act.put, List.setIfInBounds_toArray, List.set_cons_zero, List.set_cons_succ])
    (refine whd_take 14 rfl rfl (by kernel_rfl) (by kernel_rfl) (by kernel_rfl) (fun _ _ _ h => h) rfl (fun W hW => by (go_simp; try with_reducible rfl)) hS.base ?_; simp only [Act.put, List.setIfInBounds_toArray, List.set_cons_zero, List.set_cons_succ])
    (refine whd_take 15 rfl rfl (by kernel_rfl) (by kernel_rfl) (by kernel_rfl) (fun _ _ _ h => h) rfl (fun W hW => rdR) hS.base ?_; simp only [Act.put, List.setIfInBounds_toArray, List.set_cons_zero, List.set_cons_succ])
    (refine whd_take 16 rfl rfl (by kernel_rfl) (by kernel_rfl) (by kernel_rfl) (fun _ _ _ h => h) rfl (fun W hW => by (go_simp; try with_reducible rfl)) hS.base ?_; simp only [Act.put, List.setIfInBounds_toArray, List.set_cons_zero, List.set_cons_succ])
    (refine whd_take 17 rfl rfl (by kernel_rfl) (by kernel_rfl) (by kernel_rfl) (fun _ _ _ h => h) rfl (fun W hW => rdR) hS.base ?_; simp only [Act.put, List.setIfInBounds_toArray, List.set_cons_zero, List.set_cons_succ])
    (refine wpAnyH_all (rs := [18]) (by kernel_rfl) (by simp) ?_; intro i hi; have hi := List.mem_singleton.1 hi; subst hi)
    refine wod_of rfl rfl rfl (wp_call (by go_simp) (HD.out F wq gl _ _ (hS.out (by (repeat (first | exact Out.here | apply Out.there))))) ?_)
    clear hS
    rintro e w4 ⟨rfl, hS⟩
    refine ⟨_, rfl, hS.base, ?_⟩
    simp only [Act.put, List.setIfInBounds_toArray, List.set_cons_zero, List.set_cons_succ]
    (refine wpAnyH_all (rs := [19]) (by kernel_rfl) (by simp) ?_; intro i hi; have hi := List.mem_singleton.1 hi; subst hi)
    refine wod_of rfl rfl rfl (wp_call (by go_simp) (HN.out F wq gs _ _ (hS.out (by (repeat (first | exact Out.here | apply Out.there))))) ?_)
    clear hS
    rintro e w4 ⟨rfl, hS⟩
    refine ⟨_, rfl, hS.base, ?_⟩
    simp only [Act.put, List.setIfInBounds_toArray, List.set_cons_zero, List.set_cons_succ]
    (refine wpAnyH_done (by kernel_rfl) ?_ _)
    replace hS := hB _ _ hS
    simp only [List.cons_append, List.nil_append] at hS
    go_wp2_with (fail)
    replace hS := hS.out (m := ses gs T2) (by (repeat (first | exact Out.here | apply Out.there)))
    obtain ⟨F, hA, hR, hB⟩ := St.split (A := [ses gs T2]) hS
    clear hS
    have hS := hA.drew
    clear hA
    refine wp_region_held (S := fun W => Cmp.Mod F w4 W) (by kernel_rfl) ?_
    change wpAnyH _ _ _ _ _ _ _ _ (w4).drew
    generalize (w4).drew = w2 at hS ⊢
    (refine whd_take 0 rfl rfl (by kernel_rfl) (by kernel_rfl) (by kernel_rfl) (fun _ _ _ h => h) rfl (fun W hW => by (go_simp; try with_reducible rfl)) hS.base ?_; simp only [Act.put, List.setIfInBounds_toArray, List.set_cons_zero, List.set_cons_succ])
    (refine whd_take 1 rfl rfl (by kernel_rfl) (by kernel_rfl) (by kernel_rfl) (fun _ _ _ h => h) rfl (fun W hW => by (go_simp; try with_reducible rfl)) hS.base ?_; simp only [Act.put, List.setIfInBounds_toArray, List.set_cons_zero, List.set_cons_succ])
    (refine whd_take 2 rfl rfl (by kernel_rfl) (by kernel_rfl) (by kernel_rfl) (fun _ _ _ h => h) rfl (fun W hW => by (go_simp; try with_reducible rfl)) hS.base ?_; simp only [Act.put, List.setIfInBounds_toArray, List.set_cons_zero, List.set_cons_succ])
    (refine whd_take 3 rfl rfl (by kernel_rfl) (by kernel_rfl) (by kernel_rfl) (fun _ _ _ h => h) rfl (fun W hW => rdR) hS.base ?_; simp only [Act.put, List.setIfInBounds_toArray, List.set_cons_zero, List.set_cons_succ])
    (refine whd_take 4 rfl rfl (by kernel_rfl) (by kernel_rfl) (by kernel_rfl) (fun _ _ _ h => h) rfl (fun W hW => by (go_simp; try with_reducible rfl)) hS.base ?_; simp only [Act.put, List.setIfInBounds_toArray, List.set_cons_zero, List.set_cons_succ])
    (refine whd_take 5 rfl rfl (by kernel_rfl) (by kernel_rfl) (by kernel_rfl) (fun _ _ _ h => h) rfl (fun W hW => rdR) hS.base ?_; simp only [Act.put, List.setIfInBounds_toArray, List.set_cons_zero, List.set_cons_succ])
    apply mrg
    · intro kk
      have hS := hS
      (refine wpAnyH_all (rs := [6, 10]) (by kernel_rfl) (by simp) ?_; intro i hi; simp only [List.mem_cons, List.not_mem_nil, or_false] at hi)
      rcases hi with rfl | rfl
      · refine wod_of rfl rfl rfl (wp_call (by go_simp) (HL2.out F w4 gs _ _ (hS.out (by (repeat (first | exact Out.here | apply Out.there))))) ?_)
        clear hS
        rintro e w4 ⟨rfl, hS⟩
        refine ⟨_, rfl, hS.base, ?_⟩
        simp only [Act.put, List.setIfInBounds_toArray, List.set_cons_zero, List.set_cons_succ]
        (refine whd_take 7 rfl rfl (by kernel_rfl) (by kernel_rfl) (by kernel_rfl) (fun _ _ _ h => h) rfl (fun W hW => by (go_simp; try with_reducible rfl)) hS.base ?_; simp only [Act.put, List.setIfInBounds_toArray, List.set_cons_zero, List.set_cons_succ])
        (refine whd_take 8 rfl rfl (by kernel_rfl) (by kernel_rfl) (by kernel_rfl) (fun _ _ _ h => h) rfl (fun W hW => by (go_simp; try with_reducible rfl)) hS.base ?_; simp only [Act.put, List.setIfInBounds_toArray, List.set_cons_zero, List.set_cons_succ])
        (refine whd_take 9 rfl rfl (by kernel_rfl) (by kernel_rfl) (by kernel_rfl) (fun _ _ _ h => h) rfl (fun W hW => by (go_simp; try with_reducible rfl)) hS.base ?_; simp only [Act.put, List.setIfInBounds_toArray, List.set_cons_zero, List.set_cons_succ])
        (refine wpAnyH_all (rs := [10]) (by kernel_rfl) (by simp) ?_; intro i hi; have hi := List.mem_singleton.1 hi; subst hi)
        (refine wod_of rfl rfl rfl (wp_alloc hS rfl rfl rfl rfl ?_); clear hS; intro gz w3 hS; refine ⟨hS.base, ?_⟩; simp only [Act.put, List.setIfInBounds_toArray, List.set_cons_zero, List.set_cons_succ])
        (refine wpAnyH_all (rs := [11]) (by kernel_rfl) (by simp) ?_; intro i hi; have hi := List.mem_singleton.1 hi; subst hi)
        refine won_of rfl rfl rfl (k_sta hS rfl rfl rfl (h := ?_))
        clear hS
        intro w6 hS
        simp only [List.take, List.drop, List.cons_append, List.nil_append, List.length_cons, List.length_nil] at hS
        refine ⟨hS.base, ?_⟩
        simp only [Act.put, List.setIfInBounds_toArray, List.set_cons_zero, List.set_cons_succ]
        (refine whd_take 12 rfl rfl (by kernel_rfl) (by kernel_rfl) (by kernel_rfl) (fun _ _ _ h => h) rfl (fun W hW => by (go_simp; try with_reducible rfl)) hS.base ?_; simp only [Act.put, List.setIfInBounds_toArray, List.set_cons_zero, List.set_cons_succ])
        (refine wpAnyH_done (by kernel_rfl) ?_ _)
        replace hS := hB _ _ hS
        simp only [List.cons_append, List.nil_append] at hS
        revert gz w6 hS
        exact kk.out
      · (refine wod_of rfl rfl rfl (wp_alloc hS rfl rfl rfl rfl ?_); clear hS; intro gz w3 hS; refine ⟨hS.base, ?_⟩; simp only [Act.put, List.setIfInBounds_toArray, List.set_cons_zero, List.set_cons_succ])
        (refine wpAnyH_all (rs := [6]) (by kernel_rfl) (by simp) ?_; intro i hi; have hi := List.mem_singleton.1 hi; subst hi)
        refine wod_of rfl rfl rfl (wp_call (by go_simp) (HL2.out F w4 gs _ _ (hS.out (by (repeat (first | exact Out.here | apply Out.there))))) ?_)
        clear hS
        rintro e w4 ⟨rfl, hS⟩
        refine ⟨_, rfl, hS.base, ?_⟩
        simp only [Act.put, List.setIfInBounds_toArray, List.set_cons_zero, List.set_cons_succ]
        (refine whd_take 7 rfl rfl (by kernel_rfl) (by kernel_rfl) (by kernel_rfl) (fun _ _ _ h => h) rfl (fun W hW => by (go_simp; try with_reducible rfl)) hS.base ?_; simp only [Act.put, List.setIfInBounds_toArray, List.set_cons_zero, List.set_cons_succ])
        (refine whd_take 8 rfl rfl (by kernel_rfl) (by kernel_rfl) (by kernel_rfl) (fun _ _ _ h => h) rfl (fun W hW => by (go_simp; try with_reducible rfl)) hS.base ?_; simp only [Act.put, List.setIfInBounds_toArray, List.set_cons_zero, List.set_cons_succ])
        (refine whd_take 9 rfl rfl (by kernel_rfl) (by kernel_rfl) (by kernel_rfl) (fun _ _ _ h => h) rfl (fun W hW => by (go_simp; try with_reducible rfl)) hS.base ?_; simp only [Act.put, List.setIfInBounds_toArray, List.set_cons_zero, List.set_cons_succ])
        (refine wpAnyH_all (rs := [11]) (by kernel_rfl) (by simp) ?_; intro i hi; have hi := List.mem_singleton.1 hi; subst hi)
        refine won_of rfl rfl rfl (k_sta hS rfl rfl rfl (h := ?_))
        clear hS
        intro w6 hS
        simp only [List.take, List.drop, List.cons_append, List.nil_append, List.length_cons, List.length_nil] at hS
        refine ⟨hS.base, ?_⟩
        simp only [Act.put, List.setIfInBounds_toArray, List.set_cons_zero, List.set_cons_succ]
        (refine whd_take 12 rfl rfl (by kernel_rfl) (by kernel_rfl) (by kernel_rfl) (fun _ _ _ h => h) rfl (fun W hW => by (go_simp; try with_reducible rfl)) hS.base ?_; simp only [Act.put, List.setIfInBounds_toArray, List.set_cons_zero, List.set_cons_succ])
        (refine wpAnyH_done (by kernel_rfl) ?_ _)
        replace hS := hB _ _ hS
        simp only [List.cons_append, List.nil_append] at hS
        exact kk.out _ _ hS.pick
    clear hS
    intro gz w6 hS
    all_goals
      go_wp2_with (first | (go_at_call 50; refine (HA2.out _).mono ?_; rintro e w' ⟨rfl, h⟩; replace hS := hS.call h; clear h) | (first | refine au1 (n := ?_) | (refine au2 (n := ?_); clear hS; intro w' hS) | (refine au3 (n := ?_); clear hS; intro gb w1 hS) | (refine au4 (n := ?_); clear hS; intro v1 w' hS) | ((with_reducible refine wl_guard ?_); refine stop_mem rfl rfl ?_)))
      exact end_cell1 hS rfl rfl rfl rfl rfl (h := ⟨rfl, St.packs (gs, gl) hS⟩)
  · rw [if_neg (by decide), if_neg (by decide), if_pos rfl]
    (go_enter Tryz.func32, Tryz.ntmps32)
    go_wp2_with (first | ((with_reducible refine g_box ?_); refine wl_of rfl ?_; refine wp_box hS rfl rfl rfl ?_; clear hS; intro ge w1 hS) | ((with_reducible refine g_alloc ?_); refine wl_of rfl ?_; refine wp_alloc hS rfl rfl rfl rfl ?_; clear hS; intro gq w1 hS))
    replace hS := hS.out (m := ses gs T) (by (repeat (first | exact Out.here | apply Out.there)))
    obtain ⟨F, hA, hR, hB⟩ := St.split (A := [ses gs T]) hS
    clear hS
    have hS := hA.drew
    clear hA
    refine wp_region_held (S := fun W => Cmp.Mod F w1 W) (by kernel_rfl) ?_
    change wpAnyH _ _ _ _ _ _ _ _ (w1).drew
    generalize (w1).drew = w2 at hS ⊢
    (refine whd_take 0 rfl rfl (by kernel_rfl) (by kernel_rfl) (by kernel_rfl) (fun _ _ _ h => h) rfl (fun W hW => by (go_simp; try with_reducible rfl)) hS.base ?_; simp only [Act.put, List.setIfInBounds_toArray, List.set_cons_zero, List.set_cons_succ])
    (refine whd_take 1 rfl rfl (by kernel_rfl) (by kernel_rfl) (by kernel_rfl) (fun _ _ _ h => h) rfl (fun W hW => by (go_simp; try with_reducible rfl)) hS.base ?_; simp only [Act.put, List.setIfInBounds_toArray, List.set_cons_zero, List.set_cons_succ])
    (refine whd_take 2 rfl rfl (by kernel_rfl) (by kernel_rfl) (by kernel_rfl) (fun _ _ _ h => h) rfl (fun W hW => by (go_simp; try with_reducible rfl)) hS.base ?_; simp only [Act.put, List.setIfInBounds_toArray, List.set_cons_zero, List.set_cons_succ])
    (refine whd_take 3 rfl rfl (by kernel_rfl) (by kernel_rfl) (by kernel_rfl) (fun _ _ _ h => h) rfl (fun W hW => rdR) hS.base ?_; simp only [Act.put, List.setIfInBounds_toArray, List.set_cons_zero, List.set_cons_succ])
    (refine whd_take 4 rfl rfl (by kernel_rfl) (by kernel_rfl) (by kernel_rfl) (fun _ _ _ h => h) rfl (fun W hW => by (go_simp; try with_reducible rfl)) hS.base ?_; simp only [Act.put, List.setIfInBounds_toArray, List.set_cons_zero, List.set_cons_succ])
    (refine whd_take 5 rfl rfl (by kernel_rfl) (by kernel_rfl) (by kernel_rfl) (fun _ _ _ h => h) rfl (fun W hW => rdR) hS.base ?_; simp only [Act.put, List.setIfInBounds_toArray, List.set_cons_zero, List.set_cons_succ])
    (refine whd_take 6 rfl rfl (by kernel_rfl) (by kernel_rfl) (by kernel_rfl) (fun _ _ _ h => h) rfl (fun W hW => by (go_simp; try with_reducible rfl)) hS.base ?_; simp only [Act.put, List.setIfInBounds_toArray, List.set_cons_zero, List.set_cons_succ])
    (refine whd_take 7 rfl rfl (by kernel_rfl) (by kernel_rfl) (by kernel_rfl) (fun _ _ _ h => h) rfl (fun W hW => rdR) hS.base ?_; simp only [Act.put, List.setIfInBounds_toArray, List.set_cons_zero, List.set_cons_succ])
    (refine whd_take 8 rfl rfl (by kernel_rfl) (by kernel_rfl) (by kernel_rfl) (fun _ _ _ h => h) rfl (fun W hW => by (go_simp; try with_reducible rfl)) hS.base ?_; simp only [Act.put, List.setIfInBounds_toArray, List.set_cons_zero, List.set_cons_succ])
    (refine whd_take 9 rfl rfl (by kernel_rfl) (by kernel_rfl) (by kernel_rfl) (fun _ _ _ h => h) rfl (fun W hW => rdR) hS.base ?_; simp only [Act.put, List.setIfInBounds_toArray, List.set_cons_zero, List.set_cons_succ])
    (refine wpAnyH_all (rs := [10]) (by kernel_rfl) (by simp) ?_; intro i hi; have hi := List.mem_singleton.1 hi; subst hi)
    refine wod_of rfl rfl rfl (wp_call (by go_simp) (HV.out F w1 gs _ _ hS) ?_)
    clear hS
    rintro e w4 ⟨rfl, hS⟩
    refine ⟨_, rfl, hS.base, ?_⟩
    simp only [Act.put, List.setIfInBounds_toArray, List.set_cons_zero, List.set_cons_succ]
    (refine wpAnyH_done (by kernel_rfl) ?_ _)
    replace hS := hB _ _ hS
    simp only [List.cons_append, List.nil_append] at hS
    go_wp2_with (fail)
    replace hS := hS.out (m := ses gs T) (by (repeat (first | exact Out.here | apply Out.there)))
    obtain ⟨F, hA, hR, hB⟩ := St.split (A := [ses gs T]) hS
    clear hS
    have hS := hA.drew
    clear hA
    refine wp_region_held (S := fun W => Cmp.Mod F w4 W) (by kernel_rfl) ?_
    change wpAnyH _ _ _ _ _ _ _ _ (w4).drew
    generalize (w4).drew = w2 at hS ⊢
    (refine whd_take 0 rfl rfl (by kernel_rfl) (by kernel_rfl) (by kernel_rfl) (fun _ _ _ h => h) rfl (fun W hW => by (go_simp; try with_reducible rfl)) hS.base ?_; simp only [Act.put, List.setIfInBounds_toArray, List.set_cons_zero, List.set_cons_succ])
    (refine whd_take 1 rfl rfl (by kernel_rfl) (by kernel_rfl) (by kernel_rfl) (fun _ _ _ h => h) rfl (fun W hW => by (go_simp; try with_reducible rfl)) hS.base ?_; simp only [Act.put, List.setIfInBounds_toArray, List.set_cons_zero, List.set_cons_succ])
    (refine whd_take 2 rfl rfl (by kernel_rfl) (by kernel_rfl) (by kernel_rfl) (fun _ _ _ h => h) rfl (fun W hW => by (go_simp; try with_reducible rfl)) hS.base ?_; simp only [Act.put, List.setIfInBounds_toArray, List.set_cons_zero, List.set_cons_succ])
    (refine whd_take 3 rfl rfl (by kernel_rfl) (by kernel_rfl) (by kernel_rfl) (fun _ _ _ h => h) rfl (fun W hW => rdR) hS.base ?_; simp only [Act.put, List.setIfInBounds_toArray, List.set_cons_zero, List.set_cons_succ])
    (refine whd_take 4 rfl rfl (by kernel_rfl) (by kernel_rfl) (by kernel_rfl) (fun _ _ _ h => h) rfl (fun W hW => by (go_simp; try with_reducible rfl)) hS.base ?_; simp only [Act.put, List.setIfInBounds_toArray, List.set_cons_zero, List.set_cons_succ])
    (refine whd_take 5 rfl rfl (by kernel_rfl) (by kernel_rfl) (by kernel_rfl) (fun _ _ _ h => h) rfl (fun W hW => rdR) hS.base ?_; simp only [Act.put, List.setIfInBounds_toArray, List.set_cons_zero, List.set_cons_succ])
    apply mrg
    · intro kk
      have hS := hS
      (refine wpAnyH_all (rs := [6, 10]) (by kernel_rfl) (by simp) ?_; intro i hi; simp only [List.mem_cons, List.not_mem_nil, or_false] at hi)
      rcases hi with rfl | rfl
      · refine wod_of rfl rfl rfl (wp_call (by go_simp) (HL.out F w4 gs _ _ (hS.out (by (repeat (first | exact Out.here | apply Out.there))))) ?_)
        clear hS
        rintro e w4 ⟨rfl, hS⟩
        refine ⟨_, rfl, hS.base, ?_⟩
        simp only [Act.put, List.setIfInBounds_toArray, List.set_cons_zero, List.set_cons_succ]
        (refine whd_take 7 rfl rfl (by kernel_rfl) (by kernel_rfl) (by kernel_rfl) (fun _ _ _ h => h) rfl (fun W hW => by (go_simp; try with_reducible rfl)) hS.base ?_; simp only [Act.put, List.setIfInBounds_toArray, List.set_cons_zero, List.set_cons_succ])
        (refine whd_take 8 rfl rfl (by kernel_rfl) (by kernel_rfl) (by kernel_rfl) (fun _ _ _ h => h) rfl (fun W hW => by (go_simp; try with_reducible rfl)) hS.base ?_; simp only [Act.put, List.setIfInBounds_toArray, List.set_cons_zero, List.set_cons_succ])
        (refine whd_take 9 rfl rfl (by kernel_rfl) (by kernel_rfl) (by kernel_rfl) (fun _ _ _ h => h) rfl (fun W hW => by (go_simp; try with_reducible rfl)) hS.base ?_; simp only [Act.put, List.setIfInBounds_toArray, List.set_cons_zero, List.set_cons_succ])
        (refine wpAnyH_all (rs := [10]) (by kernel_rfl) (by simp) ?_; intro i hi; have hi := List.mem_singleton.1 hi; subst hi)
        (refine wod_of rfl rfl rfl (wp_alloc hS rfl rfl rfl rfl ?_); clear hS; intro gz w3 hS; refine ⟨hS.base, ?_⟩; simp only [Act.put, List.setIfInBounds_toArray, List.set_cons_zero, List.set_cons_succ])
        (refine wpAnyH_all (rs := [11]) (by kernel_rfl) (by simp) ?_; intro i hi; have hi := List.mem_singleton.1 hi; subst hi)
        refine won_of rfl rfl rfl (k_sta hS rfl rfl rfl (h := ?_))
        clear hS
        intro w6 hS
        simp only [List.take, List.drop, List.cons_append, List.nil_append, List.length_cons, List.length_nil] at hS
        refine ⟨hS.base, ?_⟩
        simp only [Act.put, List.setIfInBounds_toArray, List.set_cons_zero, List.set_cons_succ]
        (refine whd_take 12 rfl rfl (by kernel_rfl) (by kernel_rfl) (by kernel_rfl) (fun _ _ _ h => h) rfl (fun W hW => by (go_simp; try with_reducible rfl)) hS.base ?_; simp only [Act.put, List.setIfInBounds_toArray, List.set_cons_zero, List.set_cons_succ])
        (refine wpAnyH_done (by kernel_rfl) ?_ _)
        replace hS := hB _ _ hS
        simp only [List.cons_append, List.nil_append] at hS
        revert gz w6 hS
        exact kk.out
      · (refine wod_of rfl rfl rfl (wp_alloc hS rfl rfl rfl rfl ?_); clear hS; intro gz w3 hS; refine ⟨hS.base, ?_⟩; simp only [Act.put, List.setIfInBounds_toArray, List.set_cons_zero, List.set_cons_succ])
        (refine wpAnyH_all (rs := [6]) (by kernel_rfl) (by simp) ?_; intro i hi; have hi := List.mem_singleton.1 hi; subst hi)
        refine wod_of rfl rfl rfl (wp_call (by go_simp) (HL.out F w4 gs _ _ (hS.out (by (repeat (first | exact Out.here | apply Out.there))))) ?_)
        clear hS
        rintro e w4 ⟨rfl, hS⟩
        refine ⟨_, rfl, hS.base, ?_⟩
        simp only [Act.put, List.setIfInBounds_toArray, List.set_cons_zero, List.set_cons_succ]
        (refine whd_take 7 rfl rfl (by kernel_rfl) (by kernel_rfl) (by kernel_rfl) (fun _ _ _ h => h) rfl (fun W hW => by (go_simp; try with_reducible rfl)) hS.base ?_; simp only [Act.put, List.setIfInBounds_toArray, List.set_cons_zero, List.set_cons_succ])
        (refine whd_take 8 rfl rfl (by kernel_rfl) (by kernel_rfl) (by kernel_rfl) (fun _ _ _ h => h) rfl (fun W hW => by (go_simp; try with_reducible rfl)) hS.base ?_; simp only [Act.put, List.setIfInBounds_toArray, List.set_cons_zero, List.set_cons_succ])
        (refine whd_take 9 rfl rfl (by kernel_rfl) (by kernel_rfl) (by kernel_rfl) (fun _ _ _ h => h) rfl (fun W hW => by (go_simp; try with_reducible rfl)) hS.base ?_; simp only [Act.put, List.setIfInBounds_toArray, List.set_cons_zero, List.set_cons_succ])
        (refine wpAnyH_all (rs := [11]) (by kernel_rfl) (by simp) ?_; intro i hi; have hi := List.mem_singleton.1 hi; subst hi)
        refine won_of rfl rfl rfl (k_sta hS rfl rfl rfl (h := ?_))
        clear hS
        intro w6 hS
        simp only [List.take, List.drop, List.cons_append, List.nil_append, List.length_cons, List.length_nil] at hS
        refine ⟨hS.base, ?_⟩
        simp only [Act.put, List.setIfInBounds_toArray, List.set_cons_zero, List.set_cons_succ]
        (refine whd_take 12 rfl rfl (by kernel_rfl) (by kernel_rfl) (by kernel_rfl) (fun _ _ _ h => h) rfl (fun W hW => by (go_simp; try with_reducible rfl)) hS.base ?_; simp only [Act.put, List.setIfInBounds_toArray, List.set_cons_zero, List.set_cons_succ])
        (refine wpAnyH_done (by kernel_rfl) ?_ _)
        replace hS := hB _ _ hS
        simp only [List.cons_append, List.nil_append] at hS
        exact kk.out _ _ hS.pick
    clear hS
    intro gz w6 hS
    all_goals
      go_wp2_with (first | (go_at_call 50; refine (HA1.out _).mono ?_; rintro e w' ⟨rfl, h⟩; replace hS := hS.call h; clear h) | (first | refine au1 (n := ?_) | (refine au2 (n := ?_); clear hS; intro w' hS) | (refine au3 (n := ?_); clear hS; intro gb w1 hS) | (refine au4 (n := ?_); clear hS; intro v1 w' hS) | ((with_reducible refine wl_guard ?_); refine stop_mem rfl rfl ?_)))
      exact end_cell1 hS rfl rfl rfl rfl rfl (h := ⟨rfl, St.packs (gs, gl) hS⟩)
  all_goals
    rw [if_neg (by decide), if_neg (by decide), if_neg (by decide)]
    (go_enter Tryz.func32, Tryz.ntmps32)
    go_wp2_with (first | ((with_reducible refine g_box ?_); refine wl_of rfl ?_; refine wp_box hS rfl rfl rfl ?_; clear hS; intro ge w1 hS) | ((with_reducible refine g_alloc ?_); refine wl_of rfl ?_; refine wp_alloc hS rfl rfl rfl rfl ?_; clear hS; intro gq w1 hS))
    replace hS := hS.out (m := ses gs T) (by (repeat (first | exact Out.here | apply Out.there)))
    obtain ⟨F, hA, hR, hB⟩ := St.split (A := [ses gs T]) hS
    clear hS
    have hS := hA.drew
    clear hA
    refine wp_region_held (S := fun W => Cmp.Mod F w1 W) (by kernel_rfl) ?_
    change wpAnyH _ _ _ _ _ _ _ _ (w1).drew
    generalize (w1).drew = w2 at hS ⊢
    (refine whd_take 0 rfl rfl (by kernel_rfl) (by kernel_rfl) (by kernel_rfl) (fun _ _ _ h => h) rfl (fun W hW => by (go_simp; try with_reducible rfl)) hS.base ?_; simp only [Act.put, List.setIfInBounds_toArray, List.set_cons_zero, List.set_cons_succ])
    (refine whd_take 1 rfl rfl (by kernel_rfl) (by kernel_rfl) (by kernel_rfl) (fun _ _ _ h => h) rfl (fun W hW => by (go_simp; try with_reducible rfl)) hS.base ?_; simp only [Act.put, List.setIfInBounds_toArray, List.set_cons_zero, List.set_cons_succ])
    (refine whd_take 2 rfl rfl (by kernel_rfl) (by kernel_rfl) (by kernel_rfl) (fun _ _ _ h => h) rfl (fun W hW => by (go_simp; try with_reducible rfl)) hS.base ?_; simp only [Act.put, List.setIfInBounds_toArray, List.set_cons_zero, List.set_cons_succ])
    (refine whd_take 3 rfl rfl (by kernel_rfl) (by kernel_rfl) (by kernel_rfl) (fun _ _ _ h => h) rfl (fun W hW => rdR) hS.base ?_; simp only [Act.put, List.setIfInBounds_toArray, List.set_cons_zero, List.set_cons_succ])
    (refine whd_take 4 rfl rfl (by kernel_rfl) (by kernel_rfl) (by kernel_rfl) (fun _ _ _ h => h) rfl (fun W hW => by (go_simp; try with_reducible rfl)) hS.base ?_; simp only [Act.put, List.setIfInBounds_toArray, List.set_cons_zero, List.set_cons_succ])
    (refine whd_take 5 rfl rfl (by kernel_rfl) (by kernel_rfl) (by kernel_rfl) (fun _ _ _ h => h) rfl (fun W hW => rdR) hS.base ?_; simp only [Act.put, List.setIfInBounds_toArray, List.set_cons_zero, List.set_cons_succ])
    (refine whd_take 6 rfl rfl (by kernel_rfl) (by kernel_rfl) (by kernel_rfl) (fun _ _ _ h => h) rfl (fun W hW => by (go_simp; try with_reducible rfl)) hS.base ?_; simp only [Act.put, List.setIfInBounds_toArray, List.set_cons_zero, List.set_cons_succ])
    (refine whd_take 7 rfl rfl (by kernel_rfl) (by kernel_rfl) (by kernel_rfl) (fun _ _ _ h => h) rfl (fun W hW => rdR) hS.base ?_; simp only [Act.put, List.setIfInBounds_toArray, List.set_cons_zero, List.set_cons_succ])
    (refine whd_take 8 rfl rfl (by kernel_rfl) (by kernel_rfl) (by kernel_rfl) (fun _ _ _ h => h) rfl (fun W hW => by (go_simp; try with_reducible rfl)) hS.base ?_; simp only [Act.put, List.setIfInBounds_toArray, List.set_cons_zero, List.set_cons_succ])
    (refine whd_take 9 rfl rfl (by kernel_rfl) (by kernel_rfl) (by kernel_rfl) (fun _ _ _ h => h) rfl (fun W hW => rdR) hS.base ?_; simp only [Act.put, List.setIfInBounds_toArray, List.set_cons_zero, List.set_cons_succ])
    (refine wpAnyH_all (rs := [10]) (by kernel_rfl) (by simp) ?_; intro i hi; have hi := List.mem_singleton.1 hi; subst hi)
    refine wod_of rfl rfl rfl (wp_call (by go_simp) (HV.out F w1 gs _ _ hS) ?_)
    clear hS
    rintro e w4 ⟨rfl, hS⟩
    refine ⟨_, rfl, hS.base, ?_⟩
    simp only [Act.put, List.setIfInBounds_toArray, List.set_cons_zero, List.set_cons_succ]
    (refine wpAnyH_done (by kernel_rfl) ?_ _)
    replace hS := hB _ _ hS
    simp only [List.cons_append, List.nil_append] at hS
    go_wp2_with (first | refine au1 (n := ?_) | (refine au2 (n := ?_); clear hS; intro w' hS) | (refine au3 (n := ?_); clear hS; intro gb w1 hS) | (refine au4 (n := ?_); clear hS; intro v1 w' hS) | ((with_reducible refine wl_guard ?_); refine stop_mem rfl rfl ?_))
    exact end_cell1 hS rfl rfl rfl rfl rfl (h := ⟨rfl, St.packs (gs, gl) hS⟩)
end
end Go.Proofs.YtjjiibcnknljfaaGreat
