/-
  The statement that a request takes effect at most once: the walk.
-/
import Derived.Test.YtjjiibcnknljfaaOnceSpec
import Derived.Test.YtjjiibcnknljfaaMacAw
import Derived.Test.YtjjiibcnknljfaaMacSes
import Derived.Test.YtjjiibcnknljfaaBack10Law
import Derived.Test.YtjjiibcnknljfaaMax
import Derived.Test.YtjjiibcnknljfaaFieldV
set_option linter.unusedSimpArgs false
set_option linter.unusedVariables false
set_option linter.unusedSectionVars false
set_option maxRecDepth 100000
namespace Go.Proofs.Ytjjiibcnknljfaa
open Go.RowKit Go.Cmp

structure OnceAll (m : Mac) (O : List En) (A : List Ans) : Prop where
  gd : m.Gd
  low : m.Low
  len : A.length = O.length
  par : parL O
  each : ∀ q, q < O.length → Once m (nth O q) (nth A q)
theorem once_all {m : Mac} {O : List En} {A : List Ans} (h : OnceAll m O A) {e : En} (hp : e.parent < 18446744073709551616) : OnceAll (m.apply e).2 O A :=
  ⟨step_gd h.gd hp, (low_step h.low h.gd.1 hp).1, h.len, h.par, fun q hq => once_step h.low h.gd.1 hp (h.each q hq)⟩
theorem once_more {m : Mac} {O : List En} {A : List Ans} (h : OnceAll m O A) {e : En} (hp : e.parent < 18446744073709551616) (h0 : (m.apply e).1.2 = 0) (hk : (m.apply e).1.1.kind = 1) (hop : (m.apply e).1.1.op = e.op) :
    OnceAll (m.apply e).2 (O ++ [e]) (A ++ [(m.apply e).1.1]) := by
  refine ⟨step_gd h.gd hp, (low_step h.low h.gd.1 hp).1, by simp [h.len], fun x hx => ?_, fun q hq => ?_⟩
  · rcases List.mem_append.1 hx with hx | hx
    · exact h.par x hx
    · simp only [List.mem_singleton] at hx; subst hx; exact hp
  · rw [nth_append, nth_append]
    by_cases hqo : q < O.length
    · rw [if_pos hqo, if_pos (by rw [h.len]; exact hqo)]
      exact once_step h.low h.gd.1 hp (h.each q hqo)
    · simp only [List.length_append, List.length_singleton] at hq
      obtain rfl : q = O.length := by omega
      rw [if_neg (by omega), if_neg (by rw [h.len]; omega), h.len]
      simp only [Nat.sub_self]
      exact once_new h.low h.gd.1 hp h0 hk hop

section
set_option maxHeartbeats 16000000 in
theorem law_once10 (vl : Value) (L : List En) (k : Int) (w : World) (hL : Rd w 9 vl L.length (L.flatMap En.cells)) (hpar : parL L) :
    Calls Try.prog 3 #[vl, .int .i64 k] w fun x w' => x = .returned (.bool true) ∧ St [] w w' [] := by
  have hS := St.init w
  have HP := Lib.hid (fun (w1 : World) (M : List Ent) (hS : St [] w w1 M) => put_any10 hS (Reads.old (M := M) hL) hpar)
  have hn := logOf_len L
  have hq := logOf_par hpar
  clear hL hpar
  generalize logOf L = N at HP hn hq
  have HQ := Lib.hid hq
  clear hq
  have hn1 : (N.length : Int) ≤ 60 := by omega
  have K0 : Hid (OnceAll newMac [] []) := Lib.hid ⟨newMac_gd, ⟨by simp [newMac], by simp [newMac]⟩, rfl, (by intro x hx; cases hx), (by intro q hq; simp at hq)⟩
  (go_enter Try.func3, Try.ntmps3)
  go_wp2_with (first | (go_at_call 6; refine (awake10_any _).mono ?_; rintro e w' ⟨rfl, h⟩; replace hS := hS.call h; clear h) | (go_at_call 7; refine (HP.out _ _ hS).mono ?_; clear hS; rintro e w' ⟨u, rfl, hS⟩) | (go_at_call 8; refine (mach_new hS).mono ?_; clear hS; rintro e w' ⟨g, rfl, hS⟩) | ((with_reducible refine g_bs ?_); refine wl_of rfl ?_; refine a_build0 hS rfl rfl (by rfl) ?_; clear hS; intro v1 w' hS) | (first | refine au1 (n := ?_) | (refine au2 (n := ?_); clear hS; intro w' hS) | (refine au3 (n := ?_); clear hS; intro gb w1 hS) | (refine au4 (n := ?_); clear hS; intro v1 w' hS) | ((with_reducible refine wl_guard ?_); refine stop_mem rfl rfl ?_)))
  go_loopw [6, 7, 8] (fun o t i wr => ∃ (j : Nat) (O : List En) (A : List Ans) (m : Mac), j ≤ N.length ∧ O.length ≤ j ∧ A.length = O.length ∧ i = .int .i64 j ∧ m.mark.op ≤ j ∧ Hid (OnceAll m O A) ∧ St [] w wr [mach g m, .vec u 35 9 N.length (N.flatMap En.cells), .vec o 35 9 O.length (O.flatMap En.cells), .vec t 29 6 A.length (A.flatMap Ans.cells)]) (fun _ _ i _ => (N.length - intOf i).toNat)
  case atStart => exact ⟨0, [], [], newMac, by omega, by simp, rfl, rfl, by simp [newMac], K0, hS.pick⟩
  case round =>
    clear hS K0
    obtain ⟨j, O, A, m, hj, hol, hal, rfl, hmo, HO, hS⟩ := hrel
    by_cases hlt : j < N.length
    · have hlt1 : (j : Int) < N.length := by omega
      have hget := get_lt (L := N) hlt
      have hpx := HQ.out _ (nth_mem hlt)
      obtain ⟨x, hX⟩ : ∃ X, nth N j = X := ⟨_, rfl⟩
      rw [hX] at hget hpx
      clear hX
      have hoa := HO.out
      have hmo2 : (m.apply x).2.mark.op ≤ (j + 1 : Nat) := by have := (low_step hoa.low hoa.gd.1 hpx).2; omega
      have HA := Lib.hid (fun (S : List Nat) (w0 w : World) (M : List Ent) (g : Nat) (hS : St S w0 w (mach g m :: M)) => mach_apply hS hoa.gd.1 x hpx)
      have HO1 := Lib.hid (once_all hoa hpx)
      have HO2 := Lib.hid (once_more hoa hpx)
      clear hoa HO hpx
      generalize (m.apply x).2 = m2 at HA HO1 HO2 hmo2
      generalize (m.apply x).1 = R at HA HO2
      obtain ⟨⟨a1, a2, a3, a4, a5, a6⟩, er⟩ := R
      obtain ⟨vw, po, un, par, cl, se, rq, opr, body⟩ := x
      simp only at HO2
      simp only [Ans.cells, En.cells] at HA
      go_wp2_with (first | (go_at_call 9; refine (HA.out _ _ _ _ _ (hS.out (by (repeat (first | exact Out.here | apply Out.there))))).mono ?_; clear hS; rintro e w' ⟨rfl, hS⟩) | ((with_reducible refine g_load ?_); refine wl_run rfl (by exact a_loadG (vs := [.int .i64 vw, .int .i64 po, .int .i64 un, .int .u64 par, .int .i64 cl, .int .i64 se, .int .i64 rq, .int .i64 opr, .string ⟨body.toArray⟩]) rfl (by (first | exact St.rdx hS (by (repeat (first | exact Ix.here | apply Ix.there))) | exact Reads.at (by assumption) hS (by (repeat (first | exact List.Sublist.refl _ | apply List.Sublist.cons))) | exact St.old0 hS (by assumption))) rfl rfl rfl (by rfl) (by intro _; rfl) hget (by rfl)) ?_) | ((with_reducible refine g_alloc ?_); refine wl_of rfl ?_; refine wp_alloc hS rfl rfl rfl rfl ?_; clear hS; intro ga w1 hS) | (first | refine au1 (n := ?_) | (refine au2 (n := ?_); clear hS; intro w' hS) | (refine au3 (n := ?_); clear hS; intro gb w1 hS) | (refine au4 (n := ?_); clear hS; intro v1 w' hS) | ((with_reducible refine wl_guard ?_); refine stop_mem rfl rfl ?_)))
      have bo : O.length + 1 ≤ 1000 := by omega
      have ba : A.length + 1 ≤ 1000 := by omega
      by_cases c1 : er = 0
      · subst c1
        by_cases c2 : a1 = 1
        · subst c2
          by_cases c3 : a5 = po
          · subst c3
            have HO3 := Lib.hid (HO2.out rfl rfl rfl)
            clear HO2 HO1
            refine region_calm (by kernel_rfl) (by kernel_rfl) hS ?_
            (repeat (first | ((with_reducible refine c_call ?_); first | fail) | refine calm1 (n := ?_)))
            (refine Calm.nil ?_; clear hS; intro w8 hS)
            go_wp2_with (first | ((with_reducible refine g_load ?_); refine wl_run rfl (by exact a_loadG (vs := [.int .i64 vw, .int .i64 a5, .int .i64 un, .int .u64 par, .int .i64 cl, .int .i64 se, .int .i64 rq, .int .i64 opr, .string ⟨body.toArray⟩]) rfl (by (first | exact St.rdx hS (by (repeat (first | exact Ix.here | apply Ix.there))) | exact Reads.at (by assumption) hS (by (repeat (first | exact List.Sublist.refl _ | apply List.Sublist.cons))) | exact St.old0 hS (by assumption))) rfl rfl rfl (by rfl) (by intro _; rfl) hget (by rfl)) ?_) | ((with_reducible refine g_append ?_); refine wl_of rfl ?_; refine k_app (z := (⟨vw, a5, un, par, cl, se, rq, opr, body⟩ : En)) hS rfl rfl rfl rfl (h1 := by simp [En.cells, Value.oneCell']) (h := ?_); clear hS; intro v2 w' hS hv2) | ((with_reducible refine g_append ?_); refine wl_of rfl ?_; refine k_app (z := (⟨1, a2, a3, a4, a5, a6⟩ : Ans)) hS rfl rfl rfl rfl (h1 := by simp [Ans.cells, Value.oneCell']) (h := ?_); clear hS; intro v2 w' hS hv2) | (first | refine au1 (n := ?_) | (refine au2 (n := ?_); clear hS; intro w' hS) | (refine au3 (n := ?_); clear hS; intro gb w1 hS) | (refine au4 (n := ?_); clear hS; intro v1 w' hS) | ((with_reducible refine wl_guard ?_); refine stop_mem rfl rfl ?_)))
            refine ⟨⟨j + 1, _, _, m2, by omega, by simp; omega, by simp; omega, by go_num, hmo2, HO3, hS.pick⟩, by simp [intOf]; omega⟩
          · have hc3 : ((a5 : Int) == po) = false := by rw [beq_eq_false_iff_ne]; exact c3
            refine region_calm (by kernel_rfl) (by kernel_rfl) hS ?_
            (repeat (first | ((with_reducible refine c_call ?_); first | fail) | refine calm1 (n := ?_)))
            (refine Calm.nil ?_; clear hS; intro w8 hS)
            go_wp2_with (first | refine au1 (n := ?_) | (refine au2 (n := ?_); clear hS; intro w' hS) | (refine au3 (n := ?_); clear hS; intro gb w1 hS) | (refine au4 (n := ?_); clear hS; intro v1 w' hS) | ((with_reducible refine wl_guard ?_); refine stop_mem rfl rfl ?_))
            refine ⟨⟨j + 1, O, A, m2, by omega, by omega, hal, by go_num, hmo2, HO1, hS.pick⟩, by simp [intOf]; omega⟩
        · have hc2 : ((a1 : Int) == 1) = false := by rw [beq_eq_false_iff_ne]; exact c2
          refine region_calm (by kernel_rfl) (by kernel_rfl) hS ?_
          (repeat (first | ((with_reducible refine c_call ?_); first | fail) | refine calm1 (n := ?_)))
          (refine Calm.nil ?_; clear hS; intro w8 hS)
          go_wp2_with (first | refine au1 (n := ?_) | (refine au2 (n := ?_); clear hS; intro w' hS) | (refine au3 (n := ?_); clear hS; intro gb w1 hS) | (refine au4 (n := ?_); clear hS; intro v1 w' hS) | ((with_reducible refine wl_guard ?_); refine stop_mem rfl rfl ?_))
          refine ⟨⟨j + 1, O, A, m2, by omega, by omega, hal, by go_num, hmo2, HO1, hS.pick⟩, by simp [intOf]; omega⟩
      · have hc1 : ((er : Int) == 0) = false := by rw [beq_eq_false_iff_ne]; exact c1
        refine region_calm (by kernel_rfl) (by kernel_rfl) hS ?_
        (repeat (first | ((with_reducible refine c_call ?_); first | fail) | refine calm1 (n := ?_)))
        (refine Calm.nil ?_; clear hS; intro w8 hS)
        go_wp2_with (first | refine au1 (n := ?_) | (refine au2 (n := ?_); clear hS; intro w' hS) | (refine au3 (n := ?_); clear hS; intro gb w1 hS) | (refine au4 (n := ?_); clear hS; intro v1 w' hS) | ((with_reducible refine wl_guard ?_); refine stop_mem rfl rfl ?_))
        refine ⟨⟨j + 1, O, A, m2, by omega, by omega, hal, by go_num, hmo2, HO1, hS.pick⟩, by simp [intOf]; omega⟩
    · obtain rfl : j = N.length := by omega
      have bo : O.length ≤ 60 := by omega
      by_cases hz : O.length = 0
      · have hz1 : ((O.length : Int) == 0) = true := by rw [hz]; rfl
        go_wp2_with (first | refine au1 (n := ?_) | (refine au2 (n := ?_); clear hS; intro w' hS) | (refine au3 (n := ?_); clear hS; intro gb w1 hS) | (refine au4 (n := ?_); clear hS; intro v1 w' hS) | ((with_reducible refine wl_guard ?_); refine stop_mem rfl rfl ?_))
        go_ret
        exact ⟨rfl, hS.nil⟩
      · have hz1 : ((O.length : Int) == 0) = false := by rw [beq_eq_false_iff_ne]; omega
        go_wp2_with (first | ((with_reducible refine g_len ?_); refine k_len rfl (h := ?_)) | ((with_reducible refine wl_guard ?_); refine stop_mem rfl rfl ?_))
        obtain ⟨c, hc, hce⟩ := cut_fact2 k O.length hz (by omega)
        rw [hce]
        clear hce
        have hoa := HO.out
        have hcA : c < A.length := by omega
        have hgO := get_lt (L := O) hc
        have hgA := get_lt (L := A) hcA
        have hon := hoa.each c hc
        have hpd := hoa.par _ (nth_mem hc)
        obtain ⟨d, hd⟩ : ∃ d, nth O c = d := ⟨_, rfl⟩
        obtain ⟨t, ht⟩ : ∃ t, nth A c = t := ⟨_, rfl⟩
        rw [hd] at hgO hon hpd
        rw [ht] at hgA hon
        clear hd ht
        have hmok := hoa.gd.1
        have hl3 := hmok.good.ok.len
        have hsay := again_says hmok (by omega) hon
        have hpx : (againE m d).parent < 18446744073709551616 := hmok.sum
        have HSE := Lib.hid (fun (S : List Nat) (w0 w : World) (M : List Ent) (g : Nat) (hS : St S w0 w (mach g m :: M)) => session10_any hS hl3 d.client)
        have HTR := Lib.hid (fun (S : List Nat) (w0 w : World) (M : List Ent) (g : Nat) (hS : St S w0 w (mach g m :: M)) => mach_transfers hS hmok.led)
        have HAC := Lib.hid (fun (S : List Nat) (w0 w : World) (M : List Ent) (g : Nat) (hS : St S w0 w (mach g m :: M)) => mach_accounts hS hmok.led)
        have HMK := Lib.hid (fun (S : List Nat) (w0 w : World) (M : List Ent) (g : Nat) (hS : St S w0 w (mach g m :: M)) => mach_mark hS)
        have HNX := Lib.hid (fun w => entNext_any m.mark { d with view := if d.view < m.mark.view then m.mark.view else d.view } w)
        have HAP := Lib.hid (fun (S : List Nat) (w0 w : World) (M : List Ent) (g : Nat) (hS : St S w0 w (mach g m :: M)) => mach_apply hS hmok (againE m d) hpx)
        have hok2 := apply_ok hmok hpx
        have HTR2 := Lib.hid (fun (S : List Nat) (w0 w : World) (M : List Ent) (g : Nat) (hS : St S w0 w (mach g (m.apply (againE m d)).2 :: M)) => mach_transfers hS hok2.led)
        have HAC2 := Lib.hid (fun (S : List Nat) (w0 w : World) (M : List Ent) (g : Nat) (hS : St S w0 w (mach g (m.apply (againE m d)).2 :: M)) => mach_accounts hS hok2.led)
        have HSAY := Lib.hid hsay
        have hca : nextE m.mark { d with view := if d.view < m.mark.view then m.mark.view else d.view } = againE m d := rfl
        rw [hca] at HNX
        clear hoa HO hon hpd hmok hsay hpx hok2 hca hmo
        generalize (m.apply (againE m d)).2 = m2 at HAP HTR2 HAC2 HSAY
        generalize (m.apply (againE m d)).1 = R at HAP HSAY
        generalize sLook m.T d.client = Y at HSE HSAY
        generalize againE m d = x at HNX HAP
        generalize m.mark = mk at HMK HNX
        obtain ⟨⟨r1, r2, r3, r4, r5, r6⟩, er⟩ := R
        obtain ⟨⟨y1, y2, y3, y4, y5⟩, yb⟩ := Y
        obtain ⟨dvw, dpo, dun, dpar, dcl, dse, drq, dopr, dbody⟩ := d
        obtain ⟨xvw, xpo, xun, xpar, xcl, xse, xrq, xopr, xbody⟩ := x
        obtain ⟨t1, t2, t3, t4, t5, t6⟩ := t
        obtain ⟨mo, mv, ms⟩ := mk
        simp only at HNX HSAY
        simp only [En.cells, Ses.cells, Ans.cells, Mk.cells] at HSE HAP HMK HNX
        unfold Stop
        go_wp2_with (first | (go_at_call 10; refine (HSE.out _ _ _ _ _ (hS.out (by (repeat (first | exact Out.here | apply Out.there))))).mono ?_; clear hS; rintro e w' ⟨rfl, hS⟩) | (go_at_call 11; refine (HTR.out _ _ _ _ _ (hS.out (by (repeat (first | exact Out.here | apply Out.there))))).mono ?_; clear hS; rintro e w' ⟨ut, rfl, hS⟩) | (go_at_call 12; refine (HAC.out _ _ _ _ _ (hS.out (by (repeat (first | exact Out.here | apply Out.there))))).mono ?_; clear hS; rintro e w' ⟨ua, rfl, hS⟩) | ((with_reducible refine g_load ?_); refine wl_run rfl (by exact a_loadG (vs := [.int .i64 dvw, .int .i64 dpo, .int .i64 dun, .int .u64 dpar, .int .i64 dcl, .int .i64 dse, .int .i64 drq, .int .i64 dopr, .string ⟨dbody.toArray⟩]) rfl (by (first | exact St.rdx hS (by (repeat (first | exact Ix.here | apply Ix.there))) | exact Reads.at (by assumption) hS (by (repeat (first | exact List.Sublist.refl _ | apply List.Sublist.cons))) | exact St.old0 hS (by assumption))) rfl rfl rfl (by rfl) (by intro _; rfl) hgO (by rfl)) ?_) | ((with_reducible refine g_alloc ?_); refine wl_of rfl ?_; refine wp_alloc hS rfl rfl rfl rfl ?_; clear hS; intro gx w1 hS) | (first | refine au1 (n := ?_) | (refine au2 (n := ?_); clear hS; intro w' hS) | (refine au3 (n := ?_); clear hS; intro gb w1 hS) | (refine au4 (n := ?_); clear hS; intro v1 w' hS) | ((with_reducible refine wl_guard ?_); refine stop_mem rfl rfl ?_)))
        obtain ⟨vv, hvv⟩ : ∃ vv, (if dvw < mv then mv else dvw) = vv := ⟨_, rfl⟩
        rw [hvv] at HNX
        have HVV := Lib.hid hvv
        clear hvv
        refine region_drift0 7 hS (by kernel_rfl) ?_
        clear hS
        intro wx hR hB hS
        (refine d_take 0 rfl rfl (by kernel_rfl) (by kernel_rfl) (by kernel_rfl) (fun _ _ _ h => h) (by kernel_rfl) rfl (fun W hW => (by (go_simp; try with_reducible rfl))) hS.base ?_; simp only [Act.put, List.setIfInBounds_toArray, List.set_cons_zero, List.set_cons_succ])
        (refine d_take 1 rfl rfl (by kernel_rfl) (by kernel_rfl) (by kernel_rfl) (fun _ _ _ h => h) (by kernel_rfl) rfl (fun W hW => rdR) hS.base ?_; simp only [Act.put, List.setIfInBounds_toArray, List.set_cons_zero, List.set_cons_succ])
        (refine d_take 2 rfl rfl (by kernel_rfl) (by kernel_rfl) (by kernel_rfl) (fun _ _ _ h => h) (by kernel_rfl) rfl (fun W hW => (by (go_simp; try with_reducible rfl))) hS.base ?_; simp only [Act.put, List.setIfInBounds_toArray, List.set_cons_zero, List.set_cons_succ])
        (refine d_call 3 rfl rfl (by kernel_rfl) (by kernel_rfl) (by kernel_rfl) (fun _ _ _ h => h) (by kernel_rfl) rfl (fun W => by go_simp) hS.base (fun W hW => HMK.out _ _ _ _ g ((hR W hW).out (by (repeat (first | exact Out.here | apply Out.there))))) ?_; simp only [Act.put, List.setIfInBounds_toArray, List.set_cons_zero, List.set_cons_succ])
        (refine d_take (v := .int .i64 mv) 4 rfl rfl (by kernel_rfl) (by kernel_rfl) (by kernel_rfl) (fun _ _ _ h => h) (by kernel_rfl) rfl (fun W hW => by exact a_fieldV rfl rfl rfl rfl rfl rfl rfl) hS.base ?_; simp only [Act.put, List.setIfInBounds_toArray, List.set_cons_zero, List.set_cons_succ])
        (refine d_take (v := .int .i64 vv) 5 rfl rfl (by kernel_rfl) (by kernel_rfl) (by kernel_rfl) (fun _ _ _ h => h) (by kernel_rfl) rfl (fun W hW => by exact x_max rfl rfl rfl HVV.out) hS.base ?_; simp only [Act.put, List.setIfInBounds_toArray, List.set_cons_zero, List.set_cons_succ])
        (refine d_take 6 rfl rfl (by kernel_rfl) (by kernel_rfl) (by kernel_rfl) (fun _ _ _ h => h) (by kernel_rfl) rfl (fun W hW => (by (go_simp; try with_reducible rfl))) hS.base ?_; simp only [Act.put, List.setIfInBounds_toArray, List.set_cons_zero, List.set_cons_succ])
        (refine d_all (rs := [7]) (by kernel_rfl) (by simp) ?_; intro wd hd; replace hS := hS.same hd; clear hd; intro i hi; have hi := List.mem_singleton.1 hi; subst hi)
        replace hS := hR _ hS.base
        refine won_of rfl rfl rfl (k_st1 (v := .int _ _) hS rfl rfl rfl (h := ?_))
        clear hS
        intro w3 hS
        simp only [List.set_cons_zero, List.set_cons_succ] at hS
        (refine ⟨fun h => absurd rfl h, ?_⟩; refine d_done (by kernel_rfl) ?_ _; intro wd hd; replace hS := hS.same hd; clear hd)
        simp only [Act.put, List.setIfInBounds_toArray, List.set_cons_zero, List.set_cons_succ]
        go_wp2_with (fail)
        replace hS := hS.out (m := mach g m) (by (repeat (first | exact Out.here | apply Out.there)))
        obtain ⟨wq, rfl⟩ : ∃ wq, wq = wd := ⟨_, rfl⟩
        obtain ⟨F, hA, hR, hB⟩ := St.split (A := [mach g m]) hS
        clear hS
        have hS := hA.drew
        clear hA
        refine wp_region_held (S := fun W => Cmp.Mod F wq W) (by kernel_rfl) ?_
        change wpAnyH _ _ _ _ _ _ _ _ (wq).drew
        generalize (wq).drew = w2 at hS ⊢
        (refine whd_take 0 rfl rfl (by kernel_rfl) (by kernel_rfl) (by kernel_rfl) (fun _ _ _ h => h) rfl (fun W hW => by (go_simp; try with_reducible rfl)) hS.base ?_; simp only [Act.put, List.setIfInBounds_toArray, List.set_cons_zero, List.set_cons_succ])
        (refine whd_take 1 rfl rfl (by kernel_rfl) (by kernel_rfl) (by kernel_rfl) (fun _ _ _ h => h) rfl (fun W hW => by (go_simp; try with_reducible rfl)) hS.base ?_; simp only [Act.put, List.setIfInBounds_toArray, List.set_cons_zero, List.set_cons_succ])
        (refine whd_take 3 rfl rfl (by kernel_rfl) (by kernel_rfl) (by kernel_rfl) (fun _ _ _ h => h) rfl (fun W hW => rdR) hS.base ?_; simp only [Act.put, List.setIfInBounds_toArray, List.set_cons_zero, List.set_cons_succ])
        apply mrg
        · intro kk
          (refine wpAnyH_all (rs := [2, 9]) (by kernel_rfl) (by simp) ?_; intro i hi; simp only [List.mem_cons, List.not_mem_nil, or_false] at hi)
          rcases hi with rfl | rfl
          ·
            refine wod_of rfl rfl rfl (wp_call (by go_simp) (HMK.out F wq _ _ g (hS.out (by (repeat (first | exact Out.here | apply Out.there))))) ?_)
            rintro e w4 ⟨rfl, h⟩
            replace hS := hS.same h.base
            clear h
            refine ⟨_, rfl, hS.base, ?_⟩
            simp only [Act.put, List.setIfInBounds_toArray, List.set_cons_zero, List.set_cons_succ]
            (refine wpAnyH_all (rs := [4, 9]) (by kernel_rfl) (by simp) ?_; intro i hi; simp only [List.mem_cons, List.not_mem_nil, or_false] at hi)
            rcases hi with rfl | rfl
            ·
              refine wod_of rfl rfl rfl (wp_call (by go_simp) (HNX.out _) ?_)
              rintro e w4 ⟨rfl, h⟩
              replace hS := hS.same h.base
              clear h
              refine ⟨_, rfl, hS.base, ?_⟩
              simp only [Act.put, List.setIfInBounds_toArray, List.set_cons_zero, List.set_cons_succ]
              (refine wpAnyH_all (rs := [5, 9]) (by kernel_rfl) (by simp) ?_; intro i hi; simp only [List.mem_cons, List.not_mem_nil, or_false] at hi)
              rcases hi with rfl | rfl
              ·
                refine wod_of rfl rfl rfl (wp_call (by go_simp) (HAP.out F wq _ _ g (hS.out (by (repeat (first | exact Out.here | apply Out.there))))) ?_)
                clear hS
                rintro e w4 ⟨rfl, hS⟩
                refine ⟨_, rfl, hS.base, ?_⟩
                simp only [Act.put, List.setIfInBounds_toArray, List.set_cons_zero, List.set_cons_succ]
                (refine whd_take 6 rfl rfl (by kernel_rfl) (by kernel_rfl) (by kernel_rfl) (fun _ _ _ h => h) rfl (fun W hW => by (go_simp; try with_reducible rfl)) hS.base ?_; simp only [Act.put, List.setIfInBounds_toArray, List.set_cons_zero, List.set_cons_succ])
                (refine whd_take 7 rfl rfl (by kernel_rfl) (by kernel_rfl) (by kernel_rfl) (fun _ _ _ h => h) rfl (fun W hW => by (go_simp; try with_reducible rfl)) hS.base ?_; simp only [Act.put, List.setIfInBounds_toArray, List.set_cons_zero, List.set_cons_succ])
                (refine whd_take 8 rfl rfl (by kernel_rfl) (by kernel_rfl) (by kernel_rfl) (fun _ _ _ h => h) rfl (fun W hW => by (go_simp; try with_reducible rfl)) hS.base ?_; simp only [Act.put, List.setIfInBounds_toArray, List.set_cons_zero, List.set_cons_succ])
                (refine wpAnyH_all (rs := [9]) (by kernel_rfl) (by simp) ?_; intro i hi; have hi := List.mem_singleton.1 hi; subst hi)
                (refine wod_of rfl rfl rfl (wp_alloc hS rfl rfl rfl rfl ?_); clear hS; intro gz w3 hS; refine ⟨hS.base, ?_⟩; simp only [Act.put, List.setIfInBounds_toArray, List.set_cons_zero, List.set_cons_succ])
                (refine wpAnyH_all (rs := [10]) (by kernel_rfl) (by simp) ?_; intro i hi; have hi := List.mem_singleton.1 hi; subst hi)
                refine won_of rfl rfl rfl (k_sta hS rfl rfl rfl (h := ?_))
                clear hS
                intro w6 hS
                simp only [List.take, List.drop, List.cons_append, List.nil_append, List.length_cons, List.length_nil] at hS
                refine ⟨hS.base, ?_⟩
                simp only [Act.put, List.setIfInBounds_toArray, List.set_cons_zero, List.set_cons_succ]
                (refine whd_take 11 rfl rfl (by kernel_rfl) (by kernel_rfl) (by kernel_rfl) (fun _ _ _ h => h) rfl (fun W hW => by (go_simp; try with_reducible rfl)) hS.base ?_; simp only [Act.put, List.setIfInBounds_toArray, List.set_cons_zero, List.set_cons_succ])
                (refine wpAnyH_done (by kernel_rfl) ?_ _)
                replace hS := hB _ _ hS
                simp only [List.cons_append, List.nil_append] at hS
                revert gz w6 hS
                exact kk.out
              · (refine wod_of rfl rfl rfl (wp_alloc hS rfl rfl rfl rfl ?_); clear hS; intro gz w3 hS; refine ⟨hS.base, ?_⟩; simp only [Act.put, List.setIfInBounds_toArray, List.set_cons_zero, List.set_cons_succ])
                (refine wpAnyH_all (rs := [5]) (by kernel_rfl) (by simp) ?_; intro i hi; have hi := List.mem_singleton.1 hi; subst hi)
                refine wod_of rfl rfl rfl (wp_call (by go_simp) (HAP.out F wq _ _ g (hS.out (by (repeat (first | exact Out.here | apply Out.there))))) ?_)
                clear hS
                rintro e w4 ⟨rfl, hS⟩
                refine ⟨_, rfl, hS.base, ?_⟩
                simp only [Act.put, List.setIfInBounds_toArray, List.set_cons_zero, List.set_cons_succ]
                (refine whd_take 6 rfl rfl (by kernel_rfl) (by kernel_rfl) (by kernel_rfl) (fun _ _ _ h => h) rfl (fun W hW => by (go_simp; try with_reducible rfl)) hS.base ?_; simp only [Act.put, List.setIfInBounds_toArray, List.set_cons_zero, List.set_cons_succ])
                (refine whd_take 7 rfl rfl (by kernel_rfl) (by kernel_rfl) (by kernel_rfl) (fun _ _ _ h => h) rfl (fun W hW => by (go_simp; try with_reducible rfl)) hS.base ?_; simp only [Act.put, List.setIfInBounds_toArray, List.set_cons_zero, List.set_cons_succ])
                (refine whd_take 8 rfl rfl (by kernel_rfl) (by kernel_rfl) (by kernel_rfl) (fun _ _ _ h => h) rfl (fun W hW => by (go_simp; try with_reducible rfl)) hS.base ?_; simp only [Act.put, List.setIfInBounds_toArray, List.set_cons_zero, List.set_cons_succ])
                (refine wpAnyH_all (rs := [10]) (by kernel_rfl) (by simp) ?_; intro i hi; have hi := List.mem_singleton.1 hi; subst hi)
                refine won_of rfl rfl rfl (k_sta hS rfl rfl rfl (h := ?_))
                clear hS
                intro w6 hS
                simp only [List.take, List.drop, List.cons_append, List.nil_append, List.length_cons, List.length_nil] at hS
                refine ⟨hS.base, ?_⟩
                simp only [Act.put, List.setIfInBounds_toArray, List.set_cons_zero, List.set_cons_succ]
                (refine whd_take 11 rfl rfl (by kernel_rfl) (by kernel_rfl) (by kernel_rfl) (fun _ _ _ h => h) rfl (fun W hW => by (go_simp; try with_reducible rfl)) hS.base ?_; simp only [Act.put, List.setIfInBounds_toArray, List.set_cons_zero, List.set_cons_succ])
                (refine wpAnyH_done (by kernel_rfl) ?_ _)
                replace hS := hB _ _ hS
                simp only [List.cons_append, List.nil_append] at hS
                exact kk.out _ _ hS.pick
            · (refine wod_of rfl rfl rfl (wp_alloc hS rfl rfl rfl rfl ?_); clear hS; intro gz w3 hS; refine ⟨hS.base, ?_⟩; simp only [Act.put, List.setIfInBounds_toArray, List.set_cons_zero, List.set_cons_succ])
              (refine wpAnyH_all (rs := [4]) (by kernel_rfl) (by simp) ?_; intro i hi; have hi := List.mem_singleton.1 hi; subst hi)
              refine wod_of rfl rfl rfl (wp_call (by go_simp) (HNX.out _) ?_)
              rintro e w4 ⟨rfl, h⟩
              replace hS := hS.same h.base
              clear h
              refine ⟨_, rfl, hS.base, ?_⟩
              simp only [Act.put, List.setIfInBounds_toArray, List.set_cons_zero, List.set_cons_succ]
              (refine wpAnyH_all (rs := [5]) (by kernel_rfl) (by simp) ?_; intro i hi; have hi := List.mem_singleton.1 hi; subst hi)
              refine wod_of rfl rfl rfl (wp_call (by go_simp) (HAP.out F wq _ _ g (hS.out (by (repeat (first | exact Out.here | apply Out.there))))) ?_)
              clear hS
              rintro e w4 ⟨rfl, hS⟩
              refine ⟨_, rfl, hS.base, ?_⟩
              simp only [Act.put, List.setIfInBounds_toArray, List.set_cons_zero, List.set_cons_succ]
              (refine whd_take 6 rfl rfl (by kernel_rfl) (by kernel_rfl) (by kernel_rfl) (fun _ _ _ h => h) rfl (fun W hW => by (go_simp; try with_reducible rfl)) hS.base ?_; simp only [Act.put, List.setIfInBounds_toArray, List.set_cons_zero, List.set_cons_succ])
              (refine whd_take 7 rfl rfl (by kernel_rfl) (by kernel_rfl) (by kernel_rfl) (fun _ _ _ h => h) rfl (fun W hW => by (go_simp; try with_reducible rfl)) hS.base ?_; simp only [Act.put, List.setIfInBounds_toArray, List.set_cons_zero, List.set_cons_succ])
              (refine whd_take 8 rfl rfl (by kernel_rfl) (by kernel_rfl) (by kernel_rfl) (fun _ _ _ h => h) rfl (fun W hW => by (go_simp; try with_reducible rfl)) hS.base ?_; simp only [Act.put, List.setIfInBounds_toArray, List.set_cons_zero, List.set_cons_succ])
              (refine wpAnyH_all (rs := [10]) (by kernel_rfl) (by simp) ?_; intro i hi; have hi := List.mem_singleton.1 hi; subst hi)
              refine won_of rfl rfl rfl (k_sta hS rfl rfl rfl (h := ?_))
              clear hS
              intro w6 hS
              simp only [List.take, List.drop, List.cons_append, List.nil_append, List.length_cons, List.length_nil] at hS
              refine ⟨hS.base, ?_⟩
              simp only [Act.put, List.setIfInBounds_toArray, List.set_cons_zero, List.set_cons_succ]
              (refine whd_take 11 rfl rfl (by kernel_rfl) (by kernel_rfl) (by kernel_rfl) (fun _ _ _ h => h) rfl (fun W hW => by (go_simp; try with_reducible rfl)) hS.base ?_; simp only [Act.put, List.setIfInBounds_toArray, List.set_cons_zero, List.set_cons_succ])
              (refine wpAnyH_done (by kernel_rfl) ?_ _)
              replace hS := hB _ _ hS
              simp only [List.cons_append, List.nil_append] at hS
              exact kk.out _ _ hS.pick
          · (refine wod_of rfl rfl rfl (wp_alloc hS rfl rfl rfl rfl ?_); clear hS; intro gz w3 hS; refine ⟨hS.base, ?_⟩; simp only [Act.put, List.setIfInBounds_toArray, List.set_cons_zero, List.set_cons_succ])
            (refine wpAnyH_all (rs := [2]) (by kernel_rfl) (by simp) ?_; intro i hi; have hi := List.mem_singleton.1 hi; subst hi)
            refine wod_of rfl rfl rfl (wp_call (by go_simp) (HMK.out F wq _ _ g (hS.out (by (repeat (first | exact Out.here | apply Out.there))))) ?_)
            rintro e w4 ⟨rfl, h⟩
            replace hS := hS.same h.base
            clear h
            refine ⟨_, rfl, hS.base, ?_⟩
            simp only [Act.put, List.setIfInBounds_toArray, List.set_cons_zero, List.set_cons_succ]
            (refine wpAnyH_all (rs := [4]) (by kernel_rfl) (by simp) ?_; intro i hi; have hi := List.mem_singleton.1 hi; subst hi)
            refine wod_of rfl rfl rfl (wp_call (by go_simp) (HNX.out _) ?_)
            rintro e w4 ⟨rfl, h⟩
            replace hS := hS.same h.base
            clear h
            refine ⟨_, rfl, hS.base, ?_⟩
            simp only [Act.put, List.setIfInBounds_toArray, List.set_cons_zero, List.set_cons_succ]
            (refine wpAnyH_all (rs := [5]) (by kernel_rfl) (by simp) ?_; intro i hi; have hi := List.mem_singleton.1 hi; subst hi)
            refine wod_of rfl rfl rfl (wp_call (by go_simp) (HAP.out F wq _ _ g (hS.out (by (repeat (first | exact Out.here | apply Out.there))))) ?_)
            clear hS
            rintro e w4 ⟨rfl, hS⟩
            refine ⟨_, rfl, hS.base, ?_⟩
            simp only [Act.put, List.setIfInBounds_toArray, List.set_cons_zero, List.set_cons_succ]
            (refine whd_take 6 rfl rfl (by kernel_rfl) (by kernel_rfl) (by kernel_rfl) (fun _ _ _ h => h) rfl (fun W hW => by (go_simp; try with_reducible rfl)) hS.base ?_; simp only [Act.put, List.setIfInBounds_toArray, List.set_cons_zero, List.set_cons_succ])
            (refine whd_take 7 rfl rfl (by kernel_rfl) (by kernel_rfl) (by kernel_rfl) (fun _ _ _ h => h) rfl (fun W hW => by (go_simp; try with_reducible rfl)) hS.base ?_; simp only [Act.put, List.setIfInBounds_toArray, List.set_cons_zero, List.set_cons_succ])
            (refine whd_take 8 rfl rfl (by kernel_rfl) (by kernel_rfl) (by kernel_rfl) (fun _ _ _ h => h) rfl (fun W hW => by (go_simp; try with_reducible rfl)) hS.base ?_; simp only [Act.put, List.setIfInBounds_toArray, List.set_cons_zero, List.set_cons_succ])
            (refine wpAnyH_all (rs := [10]) (by kernel_rfl) (by simp) ?_; intro i hi; have hi := List.mem_singleton.1 hi; subst hi)
            refine won_of rfl rfl rfl (k_sta hS rfl rfl rfl (h := ?_))
            clear hS
            intro w6 hS
            simp only [List.take, List.drop, List.cons_append, List.nil_append, List.length_cons, List.length_nil] at hS
            refine ⟨hS.base, ?_⟩
            simp only [Act.put, List.setIfInBounds_toArray, List.set_cons_zero, List.set_cons_succ]
            (refine whd_take 11 rfl rfl (by kernel_rfl) (by kernel_rfl) (by kernel_rfl) (fun _ _ _ h => h) rfl (fun W hW => by (go_simp; try with_reducible rfl)) hS.base ?_; simp only [Act.put, List.setIfInBounds_toArray, List.set_cons_zero, List.set_cons_succ])
            (refine wpAnyH_done (by kernel_rfl) ?_ _)
            replace hS := hB _ _ hS
            simp only [List.cons_append, List.nil_append] at hS
            exact kk.out _ _ hS.pick
        clear hS
        intro gz w6 hS
        go_wp2_with (fail)
        cases yb
        ·
          refine region_calm (by kernel_rfl) (by kernel_rfl) hS ?_
          (repeat (first | ((with_reducible refine c_call ?_); first | fail) | refine calm1 (n := ?_)))
          (refine Calm.nil ?_; clear hS; intro w8 hS)
          go_wp2_with (first | refine au1 (n := ?_) | (refine au2 (n := ?_); clear hS; intro w' hS) | (refine au3 (n := ?_); clear hS; intro gb w1 hS) | (refine au4 (n := ?_); clear hS; intro v1 w' hS) | ((with_reducible refine wl_guard ?_); refine stop_mem rfl rfl ?_))
          go_ret
          exact ⟨rfl, hS.nil⟩
        · by_cases hys : y2 = t3
          · subst hys
            obtain ⟨hR1, hD⟩ := HSAY.out rfl rfl
            simp only [Prod.mk.injEq] at hR1
            obtain ⟨hr, rfl⟩ := hR1
            rw [hD] at HTR2 HAC2
            refine region_calm (by kernel_rfl) (by kernel_rfl) hS ?_
            (repeat (first | ((with_reducible refine c_call ?_); first | fail) | refine calm1 (n := ?_)))
            (refine Calm.nil ?_; clear hS; intro w8 hS)
            go_wp2_with (first | (go_at_call 11; refine (HTR2.out _ _ _ _ _ (hS.out (by (repeat (first | exact Out.here | apply Out.there))))).mono ?_; clear hS; rintro e w' ⟨ut2, rfl, hS⟩) | (go_at_call 12; refine (HAC2.out _ _ _ _ _ (hS.out (by (repeat (first | exact Out.here | apply Out.there))))).mono ?_; clear hS; rintro e w' ⟨ua2, rfl, hS⟩) | (first | refine au1 (n := ?_) | (refine au2 (n := ?_); clear hS; intro w' hS) | (refine au3 (n := ?_); clear hS; intro gb w1 hS) | (refine au4 (n := ?_); clear hS; intro v1 w' hS) | ((with_reducible refine wl_guard ?_); refine stop_mem rfl rfl ?_)))
            by_cases hyr : y3 = t4
            · subst hyr
              rw [if_pos rfl] at hr
              simp only [Ans.mk.injEq] at hr
              obtain ⟨rfl, rfl, rfl, rfl, rfl, rfl⟩ := hr
              refine region_calm (by kernel_rfl) (by kernel_rfl) hS ?_
              (repeat (first | ((with_reducible refine c_call ?_); first | fail) | refine calm1 (n := ?_)))
              (refine Calm.nil ?_; clear hS; intro w8 hS)
              go_wp2_with (fail)
              refine region_calm (by kernel_rfl) (by kernel_rfl) hS ?_
              (repeat (first | ((with_reducible refine c_call ?_); first | fail) | refine calm1 (n := ?_)))
              ((with_reducible refine c_load ?_); refine Calm.run rfl (fun W hW => by exact a_loadG (vs := [.int .i64 r1, .int .i64 r2, .int .i64 r3, .int .i64 r4, .int .i64 r5, .string ⟨r6.toArray⟩]) rfl (by (first | exact St.rdx hW (by (repeat (first | exact Ix.here | apply Ix.there))) | exact Reads.at (by assumption) hW (by (repeat (first | exact List.Sublist.refl _ | apply List.Sublist.cons))) | exact St.old0 hW (by assumption))) rfl rfl rfl (by rfl) (by intro _; rfl) hgA (by rfl)) ?_; simp only [Act.put, List.setIfInBounds_toArray, List.set_cons_zero, List.set_cons_succ])
              (repeat (first | ((with_reducible refine c_call ?_); first | fail) | refine calm1 (n := ?_)))
              (refine Calm.nil ?_; clear hS; intro w8 hS)
              go_wp2_with (first | refine au1 (n := ?_) | (refine au2 (n := ?_); clear hS; intro w' hS) | (refine au3 (n := ?_); clear hS; intro gb w1 hS) | (refine au4 (n := ?_); clear hS; intro v1 w' hS) | ((with_reducible refine wl_guard ?_); refine stop_mem rfl rfl ?_))
              go_ret
              exact ⟨rfl, hS.nil⟩
            · rw [if_neg hyr] at hr
              simp only [zAns, Ans.mk.injEq] at hr
              obtain ⟨rfl, rfl, rfl, rfl, rfl, rfl⟩ := hr
              have hyr1 : ((y3 : Int) == t4) = false := by rw [beq_eq_false_iff_ne]; exact hyr
              refine region_calm (by kernel_rfl) (by kernel_rfl) hS ?_
              (repeat (first | ((with_reducible refine c_call ?_); first | fail) | refine calm1 (n := ?_)))
              (refine Calm.nil ?_; clear hS; intro w8 hS)
              go_wp2_with (first | refine au1 (n := ?_) | (refine au2 (n := ?_); clear hS; intro w' hS) | (refine au3 (n := ?_); clear hS; intro gb w1 hS) | (refine au4 (n := ?_); clear hS; intro v1 w' hS) | ((with_reducible refine wl_guard ?_); refine stop_mem rfl rfl ?_))
              go_ret
              exact ⟨rfl, hS.nil⟩
          · have hys1 : ((y2 : Int) != t3) = true := by rw [bne_iff_ne]; exact hys
            refine region_calm (by kernel_rfl) (by kernel_rfl) hS ?_
            (repeat (first | ((with_reducible refine c_call ?_); first | fail) | refine calm1 (n := ?_)))
            (refine Calm.nil ?_; clear hS; intro w8 hS)
            go_wp2_with (first | refine au1 (n := ?_) | (refine au2 (n := ?_); clear hS; intro w' hS) | (refine au3 (n := ?_); clear hS; intro gb w1 hS) | (refine au4 (n := ?_); clear hS; intro v1 w' hS) | ((with_reducible refine wl_guard ?_); refine stop_mem rfl rfl ?_))
            go_ret
            exact ⟨rfl, hS.nil⟩
end
end Go.Proofs.Ytjjiibcnknljfaa
