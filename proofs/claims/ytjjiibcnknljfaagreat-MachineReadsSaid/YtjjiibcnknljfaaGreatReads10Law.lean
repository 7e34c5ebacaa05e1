/-
  The statement on questions to a machine: the walk.
-/
import Derived.Test.YtjjiibcnknljfaaGreatReads10Spec
import Derived.Test.YtjjiibcnknljfaaGreatMacAw
import Derived.Test.YtjjiibcnknljfaaGreatMac5
import Derived.Test.YtjjiibcnknljfaaGreatLedRefP
import Derived.Test.YtjjiibcnknljfaaGreatMax
import Derived.Test.YtjjiibcnknljfaaGreatFieldV
set_option linter.unusedSimpArgs false
set_option linter.unusedVariables false
set_option linter.unusedSectionVars false
set_option maxRecDepth 100000
namespace Go.Proofs.YtjjiibcnknljfaaGreat
open Go.RowKit Go.Cmp

section
set_option maxHeartbeats 16000000 in
theorem law_reads10 (vl : Value) (L : List En) (ids : List UInt8) (tr : Bool) (w : World) (hL : Rd w 9 vl L.length (L.flatMap En.cells)) (hpar : parL L) :
    Calls Tryz.prog 3 #[vl, .string ⟨ids.toArray⟩, .bool tr] w fun x w' => x = .returned (.bool true) ∧ St [] w w' [] := by
  have hS := St.init w
  have HP := Lib.hid (fun (w1 : World) (M : List Ent) (hS : St [] w w1 M) => put_any10 hS (Reads.old (M := M) hL) hpar)
  have hn := logOf_len L
  have hq := logOf_par hpar
  clear hL hpar
  generalize logOf L = N at HP hn hq
  have HQ := Lib.hid hq
  clear hq
  have hn1 : (N.length : Int) ≤ 60 := by omega
  (go_enter Tryz.func3, Tryz.ntmps3)
  go_wp2_with (first | (go_at_call 5; refine (awake10_any _).mono ?_; rintro e w' ⟨rfl, h⟩; replace hS := hS.call h; clear h) | (go_at_call 6; refine (HP.out _ _ hS).mono ?_; clear hS; rintro e w' ⟨u, rfl, hS⟩) | (go_at_call 7; refine (mach_new hS).mono ?_; clear hS; rintro e w' ⟨g, rfl, hS⟩) | (first | refine au1 (n := ?_) | (refine au2 (n := ?_); clear hS; intro w' hS) | (refine au3 (n := ?_); clear hS; intro gb w1 hS) | (refine au4 (n := ?_); clear hS; intro v1 w' hS) | ((with_reducible refine wl_guard ?_); refine stop_mem rfl rfl ?_)))
  go_loopw [8] (fun i wr => ∃ j : Nat, j ≤ N.length ∧ i = .int .i64 j ∧ St [] w wr [mach g (runM newMac (N.take j)), .vec u 34 9 N.length (N.flatMap En.cells)]) (fun i _ => (N.length - intOf i).toNat)
  case atStart => exact ⟨0, by omega, rfl, by rw [List.take_zero]; exact hS.pick⟩
  case round =>
    clear hS
    obtain ⟨j, hj, rfl, hS⟩ := hrel
    have hgd := runM_gd (N.take j) newMac_gd (parL_take HQ.out j)
    by_cases hlt2 : j < N.length
    · have hlt1 : (j : Int) < N.length := by omega
      have hget := get_lt (L := N) hlt2
      have hnx := runM_next newMac hlt2
      have HA := Lib.hid (fun (S : List Nat) (w0 w : World) (M : List Ent) (g : Nat) (hS : St S w0 w (mach g (runM newMac (N.take j)) :: M)) => mach_apply hS hgd.1 (nth N j) (HQ.out _ (nth_mem hlt2)))
      simp only [← hnx] at HA
      clear hnx hgd
      obtain ⟨m2, hm2⟩ : ∃ m, runM newMac (N.take (j + 1)) = m := ⟨_, rfl⟩
      rw [hm2] at HA
      have HM := Lib.hid hm2
      clear hm2
      generalize runM newMac (N.take j) = m1 at HA hS
      go_wp2_with (first | (go_at_call 8; refine (HA.out _ _ _ _ _ (hS.out (by (repeat (first | exact Out.here | apply Out.there))))).mono ?_; clear hS; rintro e w' ⟨rfl, hS⟩) | ((with_reducible refine g_load ?_); refine wl_run rfl (by exact a_loadG (vs := En.cells (nth N j)) rfl (by (first | exact St.rdx hS (by (repeat (first | exact Ix.here | apply Ix.there))) | exact Reads.at (by assumption) hS (by (repeat (first | exact List.Sublist.refl _ | apply List.Sublist.cons))) | exact St.old0 hS (by assumption))) rfl rfl rfl (by rfl) (by intro _; rfl) hget rfl) ?_) | (first | refine au1 (n := ?_) | (refine au2 (n := ?_); clear hS; intro w' hS) | (refine au3 (n := ?_); clear hS; intro gb w1 hS) | (refine au4 (n := ?_); clear hS; intro v1 w' hS) | ((with_reducible refine wl_guard ?_); refine stop_mem rfl rfl ?_)))
      refine ⟨⟨j + 1, by omega, by go_num, by rw [HM.out]; exact hS.pick⟩, by simp [intOf]; omega⟩
    · obtain rfl : j = N.length := by omega
      have hmo := run_op (N.take N.length) newMac_ok (parL_take HQ.out N.length)
      have hmo : (runM newMac (N.take N.length)).mark.op ≤ 60 := by
        have h0 : newMac.mark.op = 0 := rfl
        have h1 : (N.take N.length).length = N.length := by rw [List.take_length]
        omega
      generalize runM newMac (N.take N.length) = m at hgd hmo hS
      have hok := hgd.1
      have hl3 := hok.good.ok.len
      clear hgd hj hlt2
      have HSE := Lib.hid (fun (S : List Nat) (w0 w : World) (M : List Ent) (g : Nat) (hS : St S w0 w (mach g m :: M)) => mach_sessions hS hl3)
      by_cases hz : m.T.length = 0
      · have hz1 : ((m.T.length : Int) == 0) = true := by rw [hz]; rfl
        clear hok hmo
        go_wp2_with (first | (go_at_call 9; refine (HSE.out _ _ _ _ _ (hS.out (by (repeat (first | exact Out.here | apply Out.there))))).mono ?_; clear hS; rintro e w' ⟨us, rfl, hS⟩) | (first | refine au1 (n := ?_) | (refine au2 (n := ?_); clear hS; intro w' hS) | (refine au3 (n := ?_); clear hS; intro gb w1 hS) | (refine au4 (n := ?_); clear hS; intro v1 w' hS) | ((with_reducible refine wl_guard ?_); refine stop_mem rfl rfl ?_)))
        go_ret
        exact ⟨rfl, hS.nil⟩
      · have hz1 : ((m.T.length : Int) == 0) = false := by rw [beq_eq_false_iff_ne]; omega
        have hpos : 0 < m.T.length := by omega
        have hpos1 : (0 : Int) < m.T.length := by omega
        have hgs := get_lt (L := m.T) hpos
        have hms := nth_mem (L := m.T) hpos
        obtain ⟨s, hs⟩ : ∃ s, nth m.T 0 = s := ⟨_, rfl⟩
        rw [hs] at hgs hms
        clear hs
        have hrq := hok.good.ok.req _ hms
        have hw1 : IntKind.i64.wrap (s.request + 1) = s.request + 1 := IntWalk.i64_in _ (by omega)
        have hsay := fun (op : Int) (h45 : op = 4 ∨ op = 5) => ask_says hok hmo hms (op := op) h45 ids
        have HMK := Lib.hid (fun (S : List Nat) (w0 w : World) (M : List Ent) (g : Nat) (hS : St S w0 w (mach g m :: M)) => mach_mark hS)
        have HAC := Lib.hid (fun (S : List Nat) (w0 w : World) (M : List Ent) (g : Nat) (hS : St S w0 w (mach g m :: M)) => mach_accounts hS hok.led)
        have HTR := Lib.hid (fun (S : List Nat) (w0 w : World) (M : List Ent) (g : Nat) (hS : St S w0 w (mach g m :: M)) => mach_transfers hS hok.led)
        have HNX := Lib.hid (fun (op : Int) w => entNext_any m.mark ⟨m.mark.view, 0, 0, 0, s.client, s.session, s.request + 1, op, ids⟩ w)
        have hpx : ∀ op, (askE m s op ids).parent < 18446744073709551616 := fun _ => hok.sum
        have HAP := Lib.hid (fun (op : Int) (S : List Nat) (w0 w : World) (M : List Ent) (g : Nat) (hS : St S w0 w (mach g m :: M)) => mach_apply hS hok (askE m s op ids) (hpx op))
        have HRI := Lib.hid (fun (op : Int) w => entRightL_any (askE m s op ids) w)
        have hl8 := hok.led
        have hax : ∀ op, nextE m.mark ⟨m.mark.view, 0, 0, 0, s.client, s.session, s.request + 1, op, ids⟩ = askE m s op ids := fun _ => rfl
        simp only [hax] at HNX
        have HOP : Hid (m.Ok) := Lib.hid hok
        clear hax hms hmo hrq hok hl3
        have HSAY := Lib.hid hsay
        clear hsay
        generalize m.mark = mk at HMK HNX
        obtain ⟨mo, mv, ms⟩ := mk
        simp only [Mk.cells] at HMK
        go_wp2_with (first | (go_at_call 9; refine (HSE.out _ _ _ _ _ (hS.out (by (repeat (first | exact Out.here | apply Out.there))))).mono ?_; clear hS; rintro e w' ⟨us, rfl, hS⟩) | (first | refine au1 (n := ?_) | (refine au2 (n := ?_); clear hS; intro w' hS) | (refine au3 (n := ?_); clear hS; intro gb w1 hS) | (refine au4 (n := ?_); clear hS; intro v1 w' hS) | ((with_reducible refine wl_guard ?_); refine stop_mem rfl rfl ?_)))
        refine region_drift0 19 hS (by kernel_rfl) ?_
        clear hS
        intro wx hR hB hS
        (refine d_take 0 rfl rfl (by kernel_rfl) (by kernel_rfl) (by kernel_rfl) (fun _ _ _ h => h) (by kernel_rfl) rfl (fun W hW => (by (go_simp; try with_reducible rfl))) hS.base ?_; simp only [Act.put, List.setIfInBounds_toArray, List.set_cons_zero, List.set_cons_succ])
        (refine d_call 1 rfl rfl (by kernel_rfl) (by kernel_rfl) (by kernel_rfl) (fun _ _ _ h => h) (by kernel_rfl) rfl (fun W => by go_simp) hS.base (fun W hW => HMK.out _ _ _ _ g ((hR W hW).out (by (repeat (first | exact Out.here | apply Out.there))))) ?_; simp only [Act.put, List.setIfInBounds_toArray, List.set_cons_zero, List.set_cons_succ])
        (refine d_take (v := .int .i64 mv) 2 rfl rfl (by kernel_rfl) (by kernel_rfl) (by kernel_rfl) (fun _ _ _ h => h) (by kernel_rfl) rfl (fun W hW => by exact a_fieldV rfl rfl rfl rfl rfl rfl rfl) hS.base ?_; simp only [Act.put, List.setIfInBounds_toArray, List.set_cons_zero, List.set_cons_succ])
        (refine d_take 3 rfl rfl (by kernel_rfl) (by kernel_rfl) (by kernel_rfl) (fun _ _ _ h => h) (by kernel_rfl) rfl (fun W hW => (by (go_simp; try with_reducible rfl))) hS.base ?_; simp only [Act.put, List.setIfInBounds_toArray, List.set_cons_zero, List.set_cons_succ])
        (refine d_take 4 rfl rfl (by kernel_rfl) (by kernel_rfl) (by kernel_rfl) (fun _ _ _ h => h) (by kernel_rfl) rfl (fun W hW => (by (first | exact a_indexI 0 (hR W hW) rfl rfl rfl rfl rfl (by rfl) (by omega) (by omega) | exact a_indexI 1 (hR W hW) rfl rfl rfl rfl rfl (by rfl) (by omega) (by omega) | exact a_indexI 2 (hR W hW) rfl rfl rfl rfl rfl (by rfl) (by omega) (by omega) | exact a_indexI 3 (hR W hW) rfl rfl rfl rfl rfl (by rfl) (by omega) (by omega) | exact a_indexI 4 (hR W hW) rfl rfl rfl rfl rfl (by rfl) (by omega) (by omega) | exact a_indexI 5 (hR W hW) rfl rfl rfl rfl rfl (by rfl) (by omega) (by omega) | exact a_indexI 6 (hR W hW) rfl rfl rfl rfl rfl (by rfl) (by omega) (by omega) | exact a_indexI 7 (hR W hW) rfl rfl rfl rfl rfl (by rfl) (by omega) (by omega) | exact a_indexI 8 (hR W hW) rfl rfl rfl rfl rfl (by rfl) (by omega) (by omega) | exact a_indexI 9 (hR W hW) rfl rfl rfl rfl rfl (by rfl) (by omega) (by omega) | exact a_index rfl rfl rfl rfl (by (first | exact St.rdx (hR W hW) (by (repeat (first | exact Ix.here | apply Ix.there))) | exact Reads.at (by assumption) (hR W hW) (by (repeat (first | exact List.Sublist.refl _ | apply List.Sublist.cons))) | exact St.old0 (hR W hW) (by assumption))) (by rfl) (by omega) (by omega)))) hS.base ?_; simp only [Act.put, List.setIfInBounds_toArray, List.set_cons_zero, List.set_cons_succ])
        (refine d_take 5 rfl rfl (by kernel_rfl) (by kernel_rfl) (by kernel_rfl) (fun _ _ _ h => h) (by kernel_rfl) rfl (fun W hW => (by exact a_field rfl rfl (by (first | exact St.rdx (hR W hW) (by (repeat (first | exact Ix.here | apply Ix.there))) | exact Reads.at (by assumption) (hR W hW) (by (repeat (first | exact List.Sublist.refl _ | apply List.Sublist.cons))) | exact St.old0 (hR W hW) (by assumption))) (by omega) rfl rfl rfl (by rfl))) hS.base ?_; simp only [Act.put, List.setIfInBounds_toArray, List.set_cons_zero, List.set_cons_succ])
        (refine d_take 6 rfl rfl (by kernel_rfl) (by kernel_rfl) (by kernel_rfl) (fun _ _ _ h => h) (by kernel_rfl) rfl (fun W hW => rdR) hS.base ?_; simp only [Act.put, List.setIfInBounds_toArray, List.set_cons_zero, List.set_cons_succ])
        (refine d_take 7 rfl rfl (by kernel_rfl) (by kernel_rfl) (by kernel_rfl) (fun _ _ _ h => h) (by kernel_rfl) rfl (fun W hW => (by (go_simp; try with_reducible rfl))) hS.base ?_; simp only [Act.put, List.setIfInBounds_toArray, List.set_cons_zero, List.set_cons_succ])
        (refine d_take 8 rfl rfl (by kernel_rfl) (by kernel_rfl) (by kernel_rfl) (fun _ _ _ h => h) (by kernel_rfl) rfl (fun W hW => (by (first | exact a_indexI 0 (hR W hW) rfl rfl rfl rfl rfl (by rfl) (by omega) (by omega) | exact a_indexI 1 (hR W hW) rfl rfl rfl rfl rfl (by rfl) (by omega) (by omega) | exact a_indexI 2 (hR W hW) rfl rfl rfl rfl rfl (by rfl) (by omega) (by omega) | exact a_indexI 3 (hR W hW) rfl rfl rfl rfl rfl (by rfl) (by omega) (by omega) | exact a_indexI 4 (hR W hW) rfl rfl rfl rfl rfl (by rfl) (by omega) (by omega) | exact a_indexI 5 (hR W hW) rfl rfl rfl rfl rfl (by rfl) (by omega) (by omega) | exact a_indexI 6 (hR W hW) rfl rfl rfl rfl rfl (by rfl) (by omega) (by omega) | exact a_indexI 7 (hR W hW) rfl rfl rfl rfl rfl (by rfl) (by omega) (by omega) | exact a_indexI 8 (hR W hW) rfl rfl rfl rfl rfl (by rfl) (by omega) (by omega) | exact a_indexI 9 (hR W hW) rfl rfl rfl rfl rfl (by rfl) (by omega) (by omega) | exact a_index rfl rfl rfl rfl (by (first | exact St.rdx (hR W hW) (by (repeat (first | exact Ix.here | apply Ix.there))) | exact Reads.at (by assumption) (hR W hW) (by (repeat (first | exact List.Sublist.refl _ | apply List.Sublist.cons))) | exact St.old0 (hR W hW) (by assumption))) (by rfl) (by omega) (by omega)))) hS.base ?_; simp only [Act.put, List.setIfInBounds_toArray, List.set_cons_zero, List.set_cons_succ])
        (refine d_take 9 rfl rfl (by kernel_rfl) (by kernel_rfl) (by kernel_rfl) (fun _ _ _ h => h) (by kernel_rfl) rfl (fun W hW => (by exact a_field rfl rfl (by (first | exact St.rdx (hR W hW) (by (repeat (first | exact Ix.here | apply Ix.there))) | exact Reads.at (by assumption) (hR W hW) (by (repeat (first | exact List.Sublist.refl _ | apply List.Sublist.cons))) | exact St.old0 (hR W hW) (by assumption))) (by omega) rfl rfl rfl (by rfl))) hS.base ?_; simp only [Act.put, List.setIfInBounds_toArray, List.set_cons_zero, List.set_cons_succ])
        (refine d_take 10 rfl rfl (by kernel_rfl) (by kernel_rfl) (by kernel_rfl) (fun _ _ _ h => h) (by kernel_rfl) rfl (fun W hW => rdR) hS.base ?_; simp only [Act.put, List.setIfInBounds_toArray, List.set_cons_zero, List.set_cons_succ])
        (refine d_take 11 rfl rfl (by kernel_rfl) (by kernel_rfl) (by kernel_rfl) (fun _ _ _ h => h) (by kernel_rfl) rfl (fun W hW => (by (go_simp; try with_reducible rfl))) hS.base ?_; simp only [Act.put, List.setIfInBounds_toArray, List.set_cons_zero, List.set_cons_succ])
        (refine d_take 12 rfl rfl (by kernel_rfl) (by kernel_rfl) (by kernel_rfl) (fun _ _ _ h => h) (by kernel_rfl) rfl (fun W hW => (by (first | exact a_indexI 0 (hR W hW) rfl rfl rfl rfl rfl (by rfl) (by omega) (by omega) | exact a_indexI 1 (hR W hW) rfl rfl rfl rfl rfl (by rfl) (by omega) (by omega) | exact a_indexI 2 (hR W hW) rfl rfl rfl rfl rfl (by rfl) (by omega) (by omega) | exact a_indexI 3 (hR W hW) rfl rfl rfl rfl rfl (by rfl) (by omega) (by omega) | exact a_indexI 4 (hR W hW) rfl rfl rfl rfl rfl (by rfl) (by omega) (by omega) | exact a_indexI 5 (hR W hW) rfl rfl rfl rfl rfl (by rfl) (by omega) (by omega) | exact a_indexI 6 (hR W hW) rfl rfl rfl rfl rfl (by rfl) (by omega) (by omega) | exact a_indexI 7 (hR W hW) rfl rfl rfl rfl rfl (by rfl) (by omega) (by omega) | exact a_indexI 8 (hR W hW) rfl rfl rfl rfl rfl (by rfl) (by omega) (by omega) | exact a_indexI 9 (hR W hW) rfl rfl rfl rfl rfl (by rfl) (by omega) (by omega) | exact a_index rfl rfl rfl rfl (by (first | exact St.rdx (hR W hW) (by (repeat (first | exact Ix.here | apply Ix.there))) | exact Reads.at (by assumption) (hR W hW) (by (repeat (first | exact List.Sublist.refl _ | apply List.Sublist.cons))) | exact St.old0 (hR W hW) (by assumption))) (by rfl) (by omega) (by omega)))) hS.base ?_; simp only [Act.put, List.setIfInBounds_toArray, List.set_cons_zero, List.set_cons_succ])
        (refine d_take 13 rfl rfl (by kernel_rfl) (by kernel_rfl) (by kernel_rfl) (fun _ _ _ h => h) (by kernel_rfl) rfl (fun W hW => (by exact a_field rfl rfl (by (first | exact St.rdx (hR W hW) (by (repeat (first | exact Ix.here | apply Ix.there))) | exact Reads.at (by assumption) (hR W hW) (by (repeat (first | exact List.Sublist.refl _ | apply List.Sublist.cons))) | exact St.old0 (hR W hW) (by assumption))) (by omega) rfl rfl rfl (by rfl))) hS.base ?_; simp only [Act.put, List.setIfInBounds_toArray, List.set_cons_zero, List.set_cons_succ])
        (refine d_take 14 rfl rfl (by kernel_rfl) (by kernel_rfl) (by kernel_rfl) (fun _ _ _ h => h) (by kernel_rfl) rfl (fun W hW => rdR) hS.base ?_; simp only [Act.put, List.setIfInBounds_toArray, List.set_cons_zero, List.set_cons_succ])
        (refine d_take 15 rfl rfl (by kernel_rfl) (by kernel_rfl) (by kernel_rfl) (fun _ _ _ h => h) (by kernel_rfl) rfl (fun W hW => (by (go_simp; try with_reducible rfl))) hS.base ?_; simp only [Act.put, List.setIfInBounds_toArray, List.set_cons_zero, List.set_cons_succ])
        (refine d_take 16 rfl rfl (by kernel_rfl) (by kernel_rfl) (by kernel_rfl) (fun _ _ _ h => h) (by kernel_rfl) rfl (fun W hW => (by (go_simp; try with_reducible rfl))) hS.base ?_; simp only [Act.put, List.setIfInBounds_toArray, List.set_cons_zero, List.set_cons_succ])
        (refine d_take 17 rfl rfl (by kernel_rfl) (by kernel_rfl) (by kernel_rfl) (fun _ _ _ h => h) (by kernel_rfl) rfl (fun W hW => (by (go_simp; try with_reducible rfl))) hS.base ?_; simp only [Act.put, List.setIfInBounds_toArray, List.set_cons_zero, List.set_cons_succ])
        (refine d_all (rs := [18]) (by kernel_rfl) (by simp) ?_; intro wd hd; replace hS := hS.same hd; clear hd; intro i hi; have hi := List.mem_singleton.1 hi; subst hi)
        refine wod_of rfl rfl rfl (wp_alloc hS rfl rfl rfl rfl ?_)
        clear hS
        intro gx w3 hS
        (refine ⟨fun _ => hS.base, ?_⟩; simp only [Act.put, List.setIfInBounds_toArray, List.set_cons_zero, List.set_cons_succ])
        (refine d_all (rs := [19]) (by kernel_rfl) (by simp) ?_; intro wd hd; replace hS := hS.same hd; clear hd; intro i hi; have hi := List.mem_singleton.1 hi; subst hi)
        refine won_of rfl rfl rfl (k_sta hS rfl rfl rfl (h := ?_))
        clear hS
        intro w3 hS
        simp only [List.take, List.drop, List.cons_append, List.nil_append, List.length_cons, List.length_nil] at hS
        replace hS := hB _ _ hS
        simp only [List.cons_append, List.nil_append] at hS
        (refine ⟨fun h => absurd rfl h, ?_⟩; refine d_done (by kernel_rfl) ?_ _; intro wd hd; replace hS := hS.same hd; clear hd)
        simp only [Act.put, List.setIfInBounds_toArray, List.set_cons_zero, List.set_cons_succ]
        cases tr
        ·
          have HNX := Lib.hid (HNX.out 4)
          have HAP := Lib.hid (HAP.out 4)
          have HRI := Lib.hid (HRI.out 4)
          have HSAY := Lib.hid (HSAY.out 4 (.inl rfl))
          have HDO := Lib.hid (fun (hb : ids.length ≤ 1000) (pq : Value × Value → Prop) (S : List Nat) (w0 w : World) (M : List Ent) (g : Nat) (hS : St S w0 w (rledgP pq g m.D :: M)) => rledgP_do hS hl8 4 (.inl rfl) ids hb)
          have HBO : Hid ((askE m s 4 ids).right = true → ids.length ≤ 1000) := Lib.hid (fun hr => by
            have h := (right_may hr).2.2.2.2
            have e : (askE m s 4 ids).body = ids := rfl
            rw [e] at h
            omega)
          go_wp2_with (first | refine au1 (n := ?_) | (refine au2 (n := ?_); clear hS; intro w' hS) | (refine au3 (n := ?_); clear hS; intro gb w1 hS) | (refine au4 (n := ?_); clear hS; intro v1 w' hS) | ((with_reducible refine wl_guard ?_); refine stop_mem rfl rfl ?_))
          generalize (m.D.doIt 4 ids).1 = rp at HSAY HDO
          obtain ⟨m2, hm2⟩ : ∃ m2, (m.apply (askE m s 4 ids)).2 = m2 := ⟨_, rfl⟩
          have hok2 : m2.Ok := by rw [← hm2]; exact apply_ok HOP.out (hpx 4)
          rw [hm2] at HAP HSAY
          clear hm2
          generalize (m.apply (askE m s 4 ids)).1 = R at HAP HSAY
          have hxo : (askE m s 4 ids).oper = 4 := rfl
          generalize askE m s 4 ids = x at HNX HAP HRI HSAY HBO hxo
          obtain ⟨xr, hxr⟩ : ∃ b, x.right = b := ⟨_, rfl⟩
          rw [hxr] at HRI HSAY HBO
          clear hxr
          obtain ⟨⟨r1, r2, r3, r4, r5, r6⟩, er⟩ := R
          obtain ⟨xvw, xpo, xun, xpar, xcl, xse, xrq, xopr, xbody⟩ := x
          obtain ⟨s1, s2, s3, s4, s5⟩ := s
          simp only at hxo
          subst hxo
          try simp only at HSAY
          simp only [En.cells, Ans.cells, Mk.cells] at HNX HAP HRI
          refine region_drift0 4 hS (by kernel_rfl) ?_
          clear hS
          intro wx hR hB hS
          (refine d_take 0 rfl rfl (by kernel_rfl) (by kernel_rfl) (by kernel_rfl) (fun _ _ _ h => h) (by kernel_rfl) rfl (fun W hW => (by (go_simp; try with_reducible rfl))) hS.base ?_; simp only [Act.put, List.setIfInBounds_toArray, List.set_cons_zero, List.set_cons_succ])
          (refine d_call 1 rfl rfl (by kernel_rfl) (by kernel_rfl) (by kernel_rfl) (fun _ _ _ h => h) (by kernel_rfl) rfl (fun W => by go_simp) hS.base (fun W hW => HMK.out _ _ _ _ g ((hR W hW).out (by (repeat (first | exact Out.here | apply Out.there))))) ?_; simp only [Act.put, List.setIfInBounds_toArray, List.set_cons_zero, List.set_cons_succ])
          (refine d_take 2 rfl rfl (by kernel_rfl) (by kernel_rfl) (by kernel_rfl) (fun _ _ _ h => h) (by kernel_rfl) rfl (fun W hW => rdR) hS.base ?_; simp only [Act.put, List.setIfInBounds_toArray, List.set_cons_zero, List.set_cons_succ])
          (refine d_call 3 rfl rfl (by kernel_rfl) (by kernel_rfl) (by kernel_rfl) (fun _ _ _ h => h) (by kernel_rfl) rfl (fun W => by go_simp) hS.base (fun W hW => HNX.out W) ?_; simp only [Act.put, List.setIfInBounds_toArray, List.set_cons_zero, List.set_cons_succ])
          (refine d_all (rs := [4]) (by kernel_rfl) (by simp) ?_; intro wd hd; replace hS := hS.same hd; clear hd; intro i hi; have hi := List.mem_singleton.1 hi; subst hi)
          replace hS := hR _ hS.base
          refine won_of rfl rfl rfl (k_sta hS rfl rfl rfl (h := ?_))
          clear hS
          intro w3 hS
          simp only [List.take, List.drop, List.cons_append, List.nil_append, List.length_cons, List.length_nil] at hS
          (refine ⟨fun h => absurd rfl h, ?_⟩; refine d_done (by kernel_rfl) ?_ _; intro wd hd; replace hS := hS.same hd; clear hd)
          simp only [Act.put, List.setIfInBounds_toArray, List.set_cons_zero, List.set_cons_succ]
          cases xr
          · go_wp2_with (first | (go_at_call 12; refine (HRI.out _).mono ?_; rintro e w' ⟨rfl, h⟩; replace hS := hS.call h; clear h) | (first | refine au1 (n := ?_) | (refine au2 (n := ?_); clear hS; intro w' hS) | (refine au3 (n := ?_); clear hS; intro gb w1 hS) | (refine au4 (n := ?_); clear hS; intro v1 w' hS) | ((with_reducible refine wl_guard ?_); refine stop_mem rfl rfl ?_)))
            go_ret
            exact ⟨rfl, hS.nil⟩
          · obtain ⟨he, hk, hbd, hD⟩ := HSAY.out rfl
            have HDO := Lib.hid (HDO.out (HBO.out rfl))
            subst he hk hbd
            try simp only [Ans.cells] at HAP
            have HAC2 := Lib.hid (fun (S : List Nat) (w0 w : World) (M : List Ent) (g : Nat) (hS : St S w0 w (mach g m2 :: M)) => mach_accounts hS hok2.led)
            have HTR2 := Lib.hid (fun (S : List Nat) (w0 w : World) (M : List Ent) (g : Nat) (hS : St S w0 w (mach g m2 :: M)) => mach_transfers hS hok2.led)
            rw [hD] at HAC2 HTR2
            have hlA := hl8.la
            have hlT := hl8.lt
            clear HSAY HBO hok2 hD
            go_wp2_with (first | (go_at_call 12; refine (HRI.out _).mono ?_; rintro e w' ⟨rfl, h⟩; replace hS := hS.call h; clear h) | (go_at_call 13; refine (HAC.out _ _ _ _ _ (hS.out (by (repeat (first | exact Out.here | apply Out.there))))).mono ?_; clear hS; rintro e w' ⟨ua, rfl, hS⟩; obtain ⟨pa, ca, rfl⟩ := (hS.rdx Ix.here).shape) | (go_at_call 14; refine (HTR.out _ _ _ _ _ (hS.out (by (repeat (first | exact Out.here | apply Out.there))))).mono ?_; clear hS; rintro e w' ⟨ut, rfl, hS⟩; obtain ⟨pt, ct, rfl⟩ := (hS.rdx Ix.here).shape) | (go_at_call 8; refine (HAP.out _ _ _ _ _ (hS.out (by (repeat (first | exact Out.here | apply Out.there))))).mono ?_; clear hS; rintro e w' ⟨rfl, hS⟩) | ((with_reducible refine g_box (e := 50) ?_); refine wl_of rfl ?_; refine wp_box hS rfl rfl rfl ?_; clear hS; intro gl w1 hS) | ((with_reducible refine g_alloc ?_); refine wl_of rfl ?_; refine wp_alloc hS rfl rfl rfl rfl ?_; clear hS; intro gq w1 hS) | (first | refine au1 (n := ?_) | (refine au2 (n := ?_); clear hS; intro w' hS) | (refine au3 (n := ?_); clear hS; intro gb w1 hS) | (refine au4 (n := ?_); clear hS; intro v1 w' hS) | ((with_reducible refine wl_guard ?_); refine stop_mem rfl rfl ?_)))
            replace hS := ((hS.out (m := .vec (Value.slice pt m.D.T.length ct) _ _ _ _) (by (repeat (first | exact Out.here | apply Out.there)))).out (m := .vec (Value.slice pa m.D.A.length ca) _ _ _ _) (by (repeat (first | exact Out.here | apply Out.there)))).out (m := .row gl _ _ _) (by (repeat (first | exact Out.here | apply Out.there)))
            replace hS := packsP' (p := fun x : Value × Value => x = ((Value.slice pa m.D.A.length ca), (Value.slice pt m.D.T.length ct))) (l := fun x => [.row gl [x.1, x.2] 50 (0, 0), .vec x.1 86 4 m.D.A.length (m.D.A.flatMap Acc.cells), .vec x.2 91 4 m.D.T.length (m.D.T.flatMap Tra.cells)]) (M := _) ((Value.slice pa m.D.A.length ca), (Value.slice pt m.D.T.length ct)) rfl hS Sel.refl
            change St [] w _ (rledgP (fun x : Value × Value => x = ((Value.slice pa m.D.A.length ca), (Value.slice pt m.D.T.length ct))) gl m.D :: _) at hS
            obtain ⟨wq, rfl⟩ : ∃ wq, wq = w' := ⟨_, rfl⟩
            replace hS := (hS.out (m := mach g m2) (by (repeat (first | exact Out.here | apply Out.there)))).out (m := rledgP _ gl m.D) (by (repeat (first | exact Out.here | apply Out.there)))
            obtain ⟨F, hA, hR, hB⟩ := St.split (A := [rledgP (fun x : Value × Value => x = ((Value.slice pa m.D.A.length ca), (Value.slice pt m.D.T.length ct))) gl m.D, mach g m2]) hS
            clear hS
            have hS := hA.drew
            clear hA
            refine wp_region_held (S := fun W => Cmp.Mod F wq W) (by kernel_rfl) ?_
            change wpAnyH _ _ _ _ _ _ _ _ (wq).drew
            generalize (wq).drew = w2 at hS ⊢
            (refine whd_take 0 rfl rfl (by kernel_rfl) (by kernel_rfl) (by kernel_rfl) (fun _ _ _ h => h) rfl (fun W hW => by (go_simp; try with_reducible rfl)) hS.base ?_; simp only [Act.put, List.setIfInBounds_toArray, List.set_cons_zero, List.set_cons_succ])
            (refine whd_take 1 rfl rfl (by kernel_rfl) (by kernel_rfl) (by kernel_rfl) (fun _ _ _ h => h) rfl (fun W hW => by (go_simp; try with_reducible rfl)) hS.base ?_; simp only [Act.put, List.setIfInBounds_toArray, List.set_cons_zero, List.set_cons_succ])
            (refine whd_take 2 rfl rfl (by kernel_rfl) (by kernel_rfl) (by kernel_rfl) (fun _ _ _ h => h) rfl (fun W hW => by (go_simp; try with_reducible rfl)) hS.base ?_; simp only [Act.put, List.setIfInBounds_toArray, List.set_cons_zero, List.set_cons_succ])
            (refine whd_take 3 rfl rfl (by kernel_rfl) (by kernel_rfl) (by kernel_rfl) (fun _ _ _ h => h) rfl (fun W hW => by (go_simp; try with_reducible rfl)) hS.base ?_; simp only [Act.put, List.setIfInBounds_toArray, List.set_cons_zero, List.set_cons_succ])
            (refine whd_take 4 rfl rfl (by kernel_rfl) (by kernel_rfl) (by kernel_rfl) (fun _ _ _ h => h) rfl (fun W hW => rdR) hS.base ?_; simp only [Act.put, List.setIfInBounds_toArray, List.set_cons_zero, List.set_cons_succ])
            (refine whd_take 5 rfl rfl (by kernel_rfl) (by kernel_rfl) (by kernel_rfl) (fun _ _ _ h => h) rfl (fun W hW => by (go_simp; try with_reducible rfl)) hS.base ?_; simp only [Act.put, List.setIfInBounds_toArray, List.set_cons_zero, List.set_cons_succ])
            (refine whd_take 6 rfl rfl (by kernel_rfl) (by kernel_rfl) (by kernel_rfl) (fun _ _ _ h => h) rfl (fun W hW => by (go_simp; try with_reducible rfl)) hS.base ?_; simp only [Act.put, List.setIfInBounds_toArray, List.set_cons_zero, List.set_cons_succ])
            (refine whd_take 7 rfl rfl (by kernel_rfl) (by kernel_rfl) (by kernel_rfl) (fun _ _ _ h => h) rfl (fun W hW => by (go_simp; try with_reducible rfl)) hS.base ?_; simp only [Act.put, List.setIfInBounds_toArray, List.set_cons_zero, List.set_cons_succ])
            (refine whd_take 8 rfl rfl (by kernel_rfl) (by kernel_rfl) (by kernel_rfl) (fun _ _ _ h => h) rfl (fun W hW => by (go_simp; try with_reducible rfl)) hS.base ?_; simp only [Act.put, List.setIfInBounds_toArray, List.set_cons_zero, List.set_cons_succ])
            (refine whd_take 9 rfl rfl (by kernel_rfl) (by kernel_rfl) (by kernel_rfl) (fun _ _ _ h => h) rfl (fun W hW => rdR) hS.base ?_; simp only [Act.put, List.setIfInBounds_toArray, List.set_cons_zero, List.set_cons_succ])
            (refine whd_take 10 rfl rfl (by kernel_rfl) (by kernel_rfl) (by kernel_rfl) (fun _ _ _ h => h) rfl (fun W hW => by (go_simp; try with_reducible rfl)) hS.base ?_; simp only [Act.put, List.setIfInBounds_toArray, List.set_cons_zero, List.set_cons_succ])
            (refine whd_take 11 rfl rfl (by kernel_rfl) (by kernel_rfl) (by kernel_rfl) (fun _ _ _ h => h) rfl (fun W hW => by (go_simp; try with_reducible rfl)) hS.base ?_; simp only [Act.put, List.setIfInBounds_toArray, List.set_cons_zero, List.set_cons_succ])
            (refine whd_take 12 rfl rfl (by kernel_rfl) (by kernel_rfl) (by kernel_rfl) (fun _ _ _ h => h) rfl (fun W hW => rdR) hS.base ?_; simp only [Act.put, List.setIfInBounds_toArray, List.set_cons_zero, List.set_cons_succ])
            (refine whd_take 13 rfl rfl (by kernel_rfl) (by kernel_rfl) (by kernel_rfl) (fun _ _ _ h => h) rfl (fun W hW => by (go_simp; try with_reducible rfl)) hS.base ?_; simp only [Act.put, List.setIfInBounds_toArray, List.set_cons_zero, List.set_cons_succ])
            (refine wpAnyH_all (rs := [14]) (by kernel_rfl) (by simp) ?_; intro i hi; have hi := List.mem_singleton.1 hi; subst hi)
            refine wod_of rfl rfl rfl (wp_call (by go_simp) (HDO.out _ F wq _ _ gl (hS.out (by (repeat (first | exact Out.here | apply Out.there))))) ?_)
            clear hS
            rintro e w4 ⟨rfl, hS⟩
            refine ⟨_, rfl, hS.base, ?_⟩
            simp only [Act.put, List.setIfInBounds_toArray, List.set_cons_zero, List.set_cons_succ]
            (refine whd_take 15 rfl rfl (by kernel_rfl) (by kernel_rfl) (by kernel_rfl) (fun _ _ _ h => h) rfl (fun W hW => by (go_simp; try with_reducible rfl)) hS.base ?_; simp only [Act.put, List.setIfInBounds_toArray, List.set_cons_zero, List.set_cons_succ])
            (refine whd_take 16 rfl rfl (by kernel_rfl) (by kernel_rfl) (by kernel_rfl) (fun _ _ _ h => h) rfl (fun W hW => by (go_simp; try with_reducible rfl)) hS.base ?_; simp only [Act.put, List.setIfInBounds_toArray, List.set_cons_zero, List.set_cons_succ])
            (refine whd_take 17 rfl rfl (by kernel_rfl) (by kernel_rfl) (by kernel_rfl) (fun _ _ _ h => h) rfl (fun W hW => by (go_simp; try with_reducible rfl)) hS.base ?_; simp only [Act.put, List.setIfInBounds_toArray, List.set_cons_zero, List.set_cons_succ])
            (refine whd_take 18 rfl rfl (by kernel_rfl) (by kernel_rfl) (by kernel_rfl) (fun _ _ _ h => h) rfl (fun W hW => by (go_simp; try with_reducible rfl)) hS.base ?_; simp only [Act.put, List.setIfInBounds_toArray, List.set_cons_zero, List.set_cons_succ])
            (refine whd_take 20 rfl rfl (by kernel_rfl) (by kernel_rfl) (by kernel_rfl) (fun _ _ _ h => h) rfl (fun W hW => by (go_simp; try with_reducible rfl)) hS.base ?_; simp only [Act.put, List.setIfInBounds_toArray, List.set_cons_zero, List.set_cons_succ])
            (refine wpAnyH_all (rs := [19]) (by kernel_rfl) (by simp) ?_; intro i hi; have hi := List.mem_singleton.1 hi; subst hi)
            refine wod_of rfl rfl rfl (wp_call (by go_simp) (HAC2.out F wq _ _ g (hS.out (by (repeat (first | exact Out.here | apply Out.there))))) ?_)
            clear hS
            rintro e w5 ⟨ub, rfl, hS⟩
            refine ⟨_, rfl, hS.base, ?_⟩
            simp only [Act.put, List.setIfInBounds_toArray, List.set_cons_zero, List.set_cons_succ]
            obtain ⟨z, hz, hS⟩ := St.unpack (hS.out (m := rledgP _ gl m.D) (by (repeat (first | exact Out.here | apply Out.there))))
            subst hz
            simp only [List.cons_append, List.nil_append] at hS
            (refine wpAnyH_all (rs := [21]) (by kernel_rfl) (by simp) ?_; intro i hi; have hi := List.mem_singleton.1 hi; subst hi)
            refine wod_of rfl rfl rfl (wp_call (by go_simp) (sameAccounts_any m.D.A m.D.A ub (Value.slice pa m.D.A.length ca) _ _ _ rfl rfl (hS.rdx (by (repeat (first | exact Ix.here | apply Ix.there)))) (hS.rdx (by (repeat (first | exact Ix.here | apply Ix.there))))) ?_)
            rintro e w6 ⟨rfl, h⟩
            replace hS := hS.same h.base
            clear h
            refine ⟨_, rfl, hS.base, ?_⟩
            simp only [Act.put, List.setIfInBounds_toArray, List.set_cons_zero, List.set_cons_succ]
            simp only [decide_true]
            (refine whd_take 22 rfl rfl (by kernel_rfl) (by kernel_rfl) (by kernel_rfl) (fun _ _ _ h => h) rfl (fun W hW => by (go_simp; try with_reducible rfl)) hS.base ?_; simp only [Act.put, List.setIfInBounds_toArray, List.set_cons_zero, List.set_cons_succ])
            (refine whd_take 23 rfl rfl (by kernel_rfl) (by kernel_rfl) (by kernel_rfl) (fun _ _ _ h => h) rfl (fun W hW => by (go_simp; try with_reducible rfl)) hS.base ?_; simp only [Act.put, List.setIfInBounds_toArray, List.set_cons_zero, List.set_cons_succ])
            (refine whd_take 24 rfl rfl (by kernel_rfl) (by kernel_rfl) (by kernel_rfl) (fun _ _ _ h => h) rfl (fun W hW => by (go_simp; try with_reducible rfl)) hS.base ?_; simp only [Act.put, List.setIfInBounds_toArray, List.set_cons_zero, List.set_cons_succ])
            (refine whd_take 26 rfl rfl (by kernel_rfl) (by kernel_rfl) (by kernel_rfl) (fun _ _ _ h => h) rfl (fun W hW => by (go_simp; try with_reducible rfl)) hS.base ?_; simp only [Act.put, List.setIfInBounds_toArray, List.set_cons_zero, List.set_cons_succ])
            (refine wpAnyH_all (rs := [25]) (by kernel_rfl) (by simp) ?_; intro i hi; have hi := List.mem_singleton.1 hi; subst hi)
            refine wod_of rfl rfl rfl (wp_call (by go_simp) (HTR2.out F wq _ _ g (hS.out (by (repeat (first | exact Out.here | apply Out.there))))) ?_)
            clear hS
            rintro e w5 ⟨uc, rfl, hS⟩
            refine ⟨_, rfl, hS.base, ?_⟩
            simp only [Act.put, List.setIfInBounds_toArray, List.set_cons_zero, List.set_cons_succ]
            (refine wpAnyH_all (rs := [27]) (by kernel_rfl) (by simp) ?_; intro i hi; have hi := List.mem_singleton.1 hi; subst hi)
            refine wod_of rfl rfl rfl (wp_call (by go_simp) (sameTransfers_any m.D.T m.D.T uc (Value.slice pt m.D.T.length ct) _ _ _ rfl rfl (hS.rdx (by (repeat (first | exact Ix.here | apply Ix.there)))) (hS.rdx (by (repeat (first | exact Ix.here | apply Ix.there))))) ?_)
            rintro e w6 ⟨rfl, h⟩
            replace hS := hS.same h.base
            clear h
            refine ⟨_, rfl, hS.base, ?_⟩
            simp only [Act.put, List.setIfInBounds_toArray, List.set_cons_zero, List.set_cons_succ]
            simp only [decide_true]
            (refine whd_take 28 rfl rfl (by kernel_rfl) (by kernel_rfl) (by kernel_rfl) (fun _ _ _ h => h) rfl (fun W hW => by (go_simp; try with_reducible rfl)) hS.base ?_; simp only [Act.put, List.setIfInBounds_toArray, List.set_cons_zero, List.set_cons_succ])
            (refine whd_take 29 rfl rfl (by kernel_rfl) (by kernel_rfl) (by kernel_rfl) (fun _ _ _ h => h) rfl (fun W hW => by (go_simp; try with_reducible rfl)) hS.base ?_; simp only [Act.put, List.setIfInBounds_toArray, List.set_cons_zero, List.set_cons_succ])
            (refine wpAnyH_done (by kernel_rfl) ?_ _)
            replace hS := hB _ _ hS
            go_wp2_with (fail)
            go_ret
            exact ⟨rfl, hS.nil⟩
        ·
          have HNX := Lib.hid (HNX.out 5)
          have HAP := Lib.hid (HAP.out 5)
          have HRI := Lib.hid (HRI.out 5)
          have HSAY := Lib.hid (HSAY.out 5 (.inr rfl))
          have HDO := Lib.hid (fun (hb : ids.length ≤ 1000) (pq : Value × Value → Prop) (S : List Nat) (w0 w : World) (M : List Ent) (g : Nat) (hS : St S w0 w (rledgP pq g m.D :: M)) => rledgP_do hS hl8 5 (.inr rfl) ids hb)
          have HBO : Hid ((askE m s 5 ids).right = true → ids.length ≤ 1000) := Lib.hid (fun hr => by
            have h := (right_may hr).2.2.2.2
            have e : (askE m s 5 ids).body = ids := rfl
            rw [e] at h
            omega)
          go_wp2_with (first | refine au1 (n := ?_) | (refine au2 (n := ?_); clear hS; intro w' hS) | (refine au3 (n := ?_); clear hS; intro gb w1 hS) | (refine au4 (n := ?_); clear hS; intro v1 w' hS) | ((with_reducible refine wl_guard ?_); refine stop_mem rfl rfl ?_))
          generalize (m.D.doIt 5 ids).1 = rp at HSAY HDO
          obtain ⟨m2, hm2⟩ : ∃ m2, (m.apply (askE m s 5 ids)).2 = m2 := ⟨_, rfl⟩
          have hok2 : m2.Ok := by rw [← hm2]; exact apply_ok HOP.out (hpx 5)
          rw [hm2] at HAP HSAY
          clear hm2
          generalize (m.apply (askE m s 5 ids)).1 = R at HAP HSAY
          have hxo : (askE m s 5 ids).oper = 5 := rfl
          generalize askE m s 5 ids = x at HNX HAP HRI HSAY HBO hxo
          obtain ⟨xr, hxr⟩ : ∃ b, x.right = b := ⟨_, rfl⟩
          rw [hxr] at HRI HSAY HBO
          clear hxr
          obtain ⟨⟨r1, r2, r3, r4, r5, r6⟩, er⟩ := R
          obtain ⟨xvw, xpo, xun, xpar, xcl, xse, xrq, xopr, xbody⟩ := x
          obtain ⟨s1, s2, s3, s4, s5⟩ := s
          simp only at hxo
          subst hxo
          try simp only at HSAY
          simp only [En.cells, Ans.cells, Mk.cells] at HNX HAP HRI
          refine region_drift0 4 hS (by kernel_rfl) ?_
          clear hS
          intro wx hR hB hS
          (refine d_take 0 rfl rfl (by kernel_rfl) (by kernel_rfl) (by kernel_rfl) (fun _ _ _ h => h) (by kernel_rfl) rfl (fun W hW => (by (go_simp; try with_reducible rfl))) hS.base ?_; simp only [Act.put, List.setIfInBounds_toArray, List.set_cons_zero, List.set_cons_succ])
          (refine d_call 1 rfl rfl (by kernel_rfl) (by kernel_rfl) (by kernel_rfl) (fun _ _ _ h => h) (by kernel_rfl) rfl (fun W => by go_simp) hS.base (fun W hW => HMK.out _ _ _ _ g ((hR W hW).out (by (repeat (first | exact Out.here | apply Out.there))))) ?_; simp only [Act.put, List.setIfInBounds_toArray, List.set_cons_zero, List.set_cons_succ])
          (refine d_take 2 rfl rfl (by kernel_rfl) (by kernel_rfl) (by kernel_rfl) (fun _ _ _ h => h) (by kernel_rfl) rfl (fun W hW => rdR) hS.base ?_; simp only [Act.put, List.setIfInBounds_toArray, List.set_cons_zero, List.set_cons_succ])
          (refine d_call 3 rfl rfl (by kernel_rfl) (by kernel_rfl) (by kernel_rfl) (fun _ _ _ h => h) (by kernel_rfl) rfl (fun W => by go_simp) hS.base (fun W hW => HNX.out W) ?_; simp only [Act.put, List.setIfInBounds_toArray, List.set_cons_zero, List.set_cons_succ])
          (refine d_all (rs := [4]) (by kernel_rfl) (by simp) ?_; intro wd hd; replace hS := hS.same hd; clear hd; intro i hi; have hi := List.mem_singleton.1 hi; subst hi)
          replace hS := hR _ hS.base
          refine won_of rfl rfl rfl (k_sta hS rfl rfl rfl (h := ?_))
          clear hS
          intro w3 hS
          simp only [List.take, List.drop, List.cons_append, List.nil_append, List.length_cons, List.length_nil] at hS
          (refine ⟨fun h => absurd rfl h, ?_⟩; refine d_done (by kernel_rfl) ?_ _; intro wd hd; replace hS := hS.same hd; clear hd)
          simp only [Act.put, List.setIfInBounds_toArray, List.set_cons_zero, List.set_cons_succ]
          cases xr
          · go_wp2_with (first | (go_at_call 12; refine (HRI.out _).mono ?_; rintro e w' ⟨rfl, h⟩; replace hS := hS.call h; clear h) | (first | refine au1 (n := ?_) | (refine au2 (n := ?_); clear hS; intro w' hS) | (refine au3 (n := ?_); clear hS; intro gb w1 hS) | (refine au4 (n := ?_); clear hS; intro v1 w' hS) | ((with_reducible refine wl_guard ?_); refine stop_mem rfl rfl ?_)))
            go_ret
            exact ⟨rfl, hS.nil⟩
          · obtain ⟨he, hk, hbd, hD⟩ := HSAY.out rfl
            have HDO := Lib.hid (HDO.out (HBO.out rfl))
            subst he hk hbd
            try simp only [Ans.cells] at HAP
            have HAC2 := Lib.hid (fun (S : List Nat) (w0 w : World) (M : List Ent) (g : Nat) (hS : St S w0 w (mach g m2 :: M)) => mach_accounts hS hok2.led)
            have HTR2 := Lib.hid (fun (S : List Nat) (w0 w : World) (M : List Ent) (g : Nat) (hS : St S w0 w (mach g m2 :: M)) => mach_transfers hS hok2.led)
            rw [hD] at HAC2 HTR2
            have hlA := hl8.la
            have hlT := hl8.lt
            clear HSAY HBO hok2 hD
            go_wp2_with (first | (go_at_call 12; refine (HRI.out _).mono ?_; rintro e w' ⟨rfl, h⟩; replace hS := hS.call h; clear h) | (go_at_call 13; refine (HAC.out _ _ _ _ _ (hS.out (by (repeat (first | exact Out.here | apply Out.there))))).mono ?_; clear hS; rintro e w' ⟨ua, rfl, hS⟩; obtain ⟨pa, ca, rfl⟩ := (hS.rdx Ix.here).shape) | (go_at_call 14; refine (HTR.out _ _ _ _ _ (hS.out (by (repeat (first | exact Out.here | apply Out.there))))).mono ?_; clear hS; rintro e w' ⟨ut, rfl, hS⟩; obtain ⟨pt, ct, rfl⟩ := (hS.rdx Ix.here).shape) | (go_at_call 8; refine (HAP.out _ _ _ _ _ (hS.out (by (repeat (first | exact Out.here | apply Out.there))))).mono ?_; clear hS; rintro e w' ⟨rfl, hS⟩) | ((with_reducible refine g_box (e := 50) ?_); refine wl_of rfl ?_; refine wp_box hS rfl rfl rfl ?_; clear hS; intro gl w1 hS) | ((with_reducible refine g_alloc ?_); refine wl_of rfl ?_; refine wp_alloc hS rfl rfl rfl rfl ?_; clear hS; intro gq w1 hS) | (first | refine au1 (n := ?_) | (refine au2 (n := ?_); clear hS; intro w' hS) | (refine au3 (n := ?_); clear hS; intro gb w1 hS) | (refine au4 (n := ?_); clear hS; intro v1 w' hS) | ((with_reducible refine wl_guard ?_); refine stop_mem rfl rfl ?_)))
            replace hS := ((hS.out (m := .vec (Value.slice pt m.D.T.length ct) _ _ _ _) (by (repeat (first | exact Out.here | apply Out.there)))).out (m := .vec (Value.slice pa m.D.A.length ca) _ _ _ _) (by (repeat (first | exact Out.here | apply Out.there)))).out (m := .row gl _ _ _) (by (repeat (first | exact Out.here | apply Out.there)))
            replace hS := packsP' (p := fun x : Value × Value => x = ((Value.slice pa m.D.A.length ca), (Value.slice pt m.D.T.length ct))) (l := fun x => [.row gl [x.1, x.2] 50 (0, 0), .vec x.1 86 4 m.D.A.length (m.D.A.flatMap Acc.cells), .vec x.2 91 4 m.D.T.length (m.D.T.flatMap Tra.cells)]) (M := _) ((Value.slice pa m.D.A.length ca), (Value.slice pt m.D.T.length ct)) rfl hS Sel.refl
            change St [] w _ (rledgP (fun x : Value × Value => x = ((Value.slice pa m.D.A.length ca), (Value.slice pt m.D.T.length ct))) gl m.D :: _) at hS
            obtain ⟨wq, rfl⟩ : ∃ wq, wq = w' := ⟨_, rfl⟩
            replace hS := (hS.out (m := mach g m2) (by (repeat (first | exact Out.here | apply Out.there)))).out (m := rledgP _ gl m.D) (by (repeat (first | exact Out.here | apply Out.there)))
            obtain ⟨F, hA, hR, hB⟩ := St.split (A := [rledgP (fun x : Value × Value => x = ((Value.slice pa m.D.A.length ca), (Value.slice pt m.D.T.length ct))) gl m.D, mach g m2]) hS
            clear hS
            have hS := hA.drew
            clear hA
            refine wp_region_held (S := fun W => Cmp.Mod F wq W) (by kernel_rfl) ?_
            change wpAnyH _ _ _ _ _ _ _ _ (wq).drew
            generalize (wq).drew = w2 at hS ⊢
            (refine whd_take 0 rfl rfl (by kernel_rfl) (by kernel_rfl) (by kernel_rfl) (fun _ _ _ h => h) rfl (fun W hW => by (go_simp; try with_reducible rfl)) hS.base ?_; simp only [Act.put, List.setIfInBounds_toArray, List.set_cons_zero, List.set_cons_succ])
            (refine whd_take 1 rfl rfl (by kernel_rfl) (by kernel_rfl) (by kernel_rfl) (fun _ _ _ h => h) rfl (fun W hW => by (go_simp; try with_reducible rfl)) hS.base ?_; simp only [Act.put, List.setIfInBounds_toArray, List.set_cons_zero, List.set_cons_succ])
            (refine whd_take 2 rfl rfl (by kernel_rfl) (by kernel_rfl) (by kernel_rfl) (fun _ _ _ h => h) rfl (fun W hW => by (go_simp; try with_reducible rfl)) hS.base ?_; simp only [Act.put, List.setIfInBounds_toArray, List.set_cons_zero, List.set_cons_succ])
            (refine whd_take 3 rfl rfl (by kernel_rfl) (by kernel_rfl) (by kernel_rfl) (fun _ _ _ h => h) rfl (fun W hW => by (go_simp; try with_reducible rfl)) hS.base ?_; simp only [Act.put, List.setIfInBounds_toArray, List.set_cons_zero, List.set_cons_succ])
            (refine whd_take 4 rfl rfl (by kernel_rfl) (by kernel_rfl) (by kernel_rfl) (fun _ _ _ h => h) rfl (fun W hW => rdR) hS.base ?_; simp only [Act.put, List.setIfInBounds_toArray, List.set_cons_zero, List.set_cons_succ])
            (refine whd_take 5 rfl rfl (by kernel_rfl) (by kernel_rfl) (by kernel_rfl) (fun _ _ _ h => h) rfl (fun W hW => by (go_simp; try with_reducible rfl)) hS.base ?_; simp only [Act.put, List.setIfInBounds_toArray, List.set_cons_zero, List.set_cons_succ])
            (refine whd_take 6 rfl rfl (by kernel_rfl) (by kernel_rfl) (by kernel_rfl) (fun _ _ _ h => h) rfl (fun W hW => by (go_simp; try with_reducible rfl)) hS.base ?_; simp only [Act.put, List.setIfInBounds_toArray, List.set_cons_zero, List.set_cons_succ])
            (refine whd_take 7 rfl rfl (by kernel_rfl) (by kernel_rfl) (by kernel_rfl) (fun _ _ _ h => h) rfl (fun W hW => by (go_simp; try with_reducible rfl)) hS.base ?_; simp only [Act.put, List.setIfInBounds_toArray, List.set_cons_zero, List.set_cons_succ])
            (refine whd_take 8 rfl rfl (by kernel_rfl) (by kernel_rfl) (by kernel_rfl) (fun _ _ _ h => h) rfl (fun W hW => by (go_simp; try with_reducible rfl)) hS.base ?_; simp only [Act.put, List.setIfInBounds_toArray, List.set_cons_zero, List.set_cons_succ])
            (refine whd_take 9 rfl rfl (by kernel_rfl) (by kernel_rfl) (by kernel_rfl) (fun _ _ _ h => h) rfl (fun W hW => rdR) hS.base ?_; simp only [Act.put, List.setIfInBounds_toArray, List.set_cons_zero, List.set_cons_succ])
            (refine whd_take 10 rfl rfl (by kernel_rfl) (by kernel_rfl) (by kernel_rfl) (fun _ _ _ h => h) rfl (fun W hW => by (go_simp; try with_reducible rfl)) hS.base ?_; simp only [Act.put, List.setIfInBounds_toArray, List.set_cons_zero, List.set_cons_succ])
            (refine whd_take 11 rfl rfl (by kernel_rfl) (by kernel_rfl) (by kernel_rfl) (fun _ _ _ h => h) rfl (fun W hW => by (go_simp; try with_reducible rfl)) hS.base ?_; simp only [Act.put, List.setIfInBounds_toArray, List.set_cons_zero, List.set_cons_succ])
            (refine whd_take 12 rfl rfl (by kernel_rfl) (by kernel_rfl) (by kernel_rfl) (fun _ _ _ h => h) rfl (fun W hW => rdR) hS.base ?_; simp only [Act.put, List.setIfInBounds_toArray, List.set_cons_zero, List.set_cons_succ])
            (refine whd_take 13 rfl rfl (by kernel_rfl) (by kernel_rfl) (by kernel_rfl) (fun _ _ _ h => h) rfl (fun W hW => by (go_simp; try with_reducible rfl)) hS.base ?_; simp only [Act.put, List.setIfInBounds_toArray, List.set_cons_zero, List.set_cons_succ])
            (refine wpAnyH_all (rs := [14]) (by kernel_rfl) (by simp) ?_; intro i hi; have hi := List.mem_singleton.1 hi; subst hi)
            refine wod_of rfl rfl rfl (wp_call (by go_simp) (HDO.out _ F wq _ _ gl (hS.out (by (repeat (first | exact Out.here | apply Out.there))))) ?_)
            clear hS
            rintro e w4 ⟨rfl, hS⟩
            refine ⟨_, rfl, hS.base, ?_⟩
            simp only [Act.put, List.setIfInBounds_toArray, List.set_cons_zero, List.set_cons_succ]
            (refine whd_take 15 rfl rfl (by kernel_rfl) (by kernel_rfl) (by kernel_rfl) (fun _ _ _ h => h) rfl (fun W hW => by (go_simp; try with_reducible rfl)) hS.base ?_; simp only [Act.put, List.setIfInBounds_toArray, List.set_cons_zero, List.set_cons_succ])
            (refine whd_take 16 rfl rfl (by kernel_rfl) (by kernel_rfl) (by kernel_rfl) (fun _ _ _ h => h) rfl (fun W hW => by (go_simp; try with_reducible rfl)) hS.base ?_; simp only [Act.put, List.setIfInBounds_toArray, List.set_cons_zero, List.set_cons_succ])
            (refine whd_take 17 rfl rfl (by kernel_rfl) (by kernel_rfl) (by kernel_rfl) (fun _ _ _ h => h) rfl (fun W hW => by (go_simp; try with_reducible rfl)) hS.base ?_; simp only [Act.put, List.setIfInBounds_toArray, List.set_cons_zero, List.set_cons_succ])
            (refine whd_take 18 rfl rfl (by kernel_rfl) (by kernel_rfl) (by kernel_rfl) (fun _ _ _ h => h) rfl (fun W hW => by (go_simp; try with_reducible rfl)) hS.base ?_; simp only [Act.put, List.setIfInBounds_toArray, List.set_cons_zero, List.set_cons_succ])
            (refine whd_take 20 rfl rfl (by kernel_rfl) (by kernel_rfl) (by kernel_rfl) (fun _ _ _ h => h) rfl (fun W hW => by (go_simp; try with_reducible rfl)) hS.base ?_; simp only [Act.put, List.setIfInBounds_toArray, List.set_cons_zero, List.set_cons_succ])
            (refine wpAnyH_all (rs := [19]) (by kernel_rfl) (by simp) ?_; intro i hi; have hi := List.mem_singleton.1 hi; subst hi)
            refine wod_of rfl rfl rfl (wp_call (by go_simp) (HAC2.out F wq _ _ g (hS.out (by (repeat (first | exact Out.here | apply Out.there))))) ?_)
            clear hS
            rintro e w5 ⟨ub, rfl, hS⟩
            refine ⟨_, rfl, hS.base, ?_⟩
            simp only [Act.put, List.setIfInBounds_toArray, List.set_cons_zero, List.set_cons_succ]
            obtain ⟨z, hz, hS⟩ := St.unpack (hS.out (m := rledgP _ gl m.D) (by (repeat (first | exact Out.here | apply Out.there))))
            subst hz
            simp only [List.cons_append, List.nil_append] at hS
            (refine wpAnyH_all (rs := [21]) (by kernel_rfl) (by simp) ?_; intro i hi; have hi := List.mem_singleton.1 hi; subst hi)
            refine wod_of rfl rfl rfl (wp_call (by go_simp) (sameAccounts_any m.D.A m.D.A ub (Value.slice pa m.D.A.length ca) _ _ _ rfl rfl (hS.rdx (by (repeat (first | exact Ix.here | apply Ix.there)))) (hS.rdx (by (repeat (first | exact Ix.here | apply Ix.there))))) ?_)
            rintro e w6 ⟨rfl, h⟩
            replace hS := hS.same h.base
            clear h
            refine ⟨_, rfl, hS.base, ?_⟩
            simp only [Act.put, List.setIfInBounds_toArray, List.set_cons_zero, List.set_cons_succ]
            simp only [decide_true]
            (refine whd_take 22 rfl rfl (by kernel_rfl) (by kernel_rfl) (by kernel_rfl) (fun _ _ _ h => h) rfl (fun W hW => by (go_simp; try with_reducible rfl)) hS.base ?_; simp only [Act.put, List.setIfInBounds_toArray, List.set_cons_zero, List.set_cons_succ])
            (refine whd_take 23 rfl rfl (by kernel_rfl) (by kernel_rfl) (by kernel_rfl) (fun _ _ _ h => h) rfl (fun W hW => by (go_simp; try with_reducible rfl)) hS.base ?_; simp only [Act.put, List.setIfInBounds_toArray, List.set_cons_zero, List.set_cons_succ])
            (refine whd_take 24 rfl rfl (by kernel_rfl) (by kernel_rfl) (by kernel_rfl) (fun _ _ _ h => h) rfl (fun W hW => by (go_simp; try with_reducible rfl)) hS.base ?_; simp only [Act.put, List.setIfInBounds_toArray, List.set_cons_zero, List.set_cons_succ])
            (refine whd_take 26 rfl rfl (by kernel_rfl) (by kernel_rfl) (by kernel_rfl) (fun _ _ _ h => h) rfl (fun W hW => by (go_simp; try with_reducible rfl)) hS.base ?_; simp only [Act.put, List.setIfInBounds_toArray, List.set_cons_zero, List.set_cons_succ])
            (refine wpAnyH_all (rs := [25]) (by kernel_rfl) (by simp) ?_; intro i hi; have hi := List.mem_singleton.1 hi; subst hi)
            refine wod_of rfl rfl rfl (wp_call (by go_simp) (HTR2.out F wq _ _ g (hS.out (by (repeat (first | exact Out.here | apply Out.there))))) ?_)
            clear hS
            rintro e w5 ⟨uc, rfl, hS⟩
            refine ⟨_, rfl, hS.base, ?_⟩
            simp only [Act.put, List.setIfInBounds_toArray, List.set_cons_zero, List.set_cons_succ]
            (refine wpAnyH_all (rs := [27]) (by kernel_rfl) (by simp) ?_; intro i hi; have hi := List.mem_singleton.1 hi; subst hi)
            refine wod_of rfl rfl rfl (wp_call (by go_simp) (sameTransfers_any m.D.T m.D.T uc (Value.slice pt m.D.T.length ct) _ _ _ rfl rfl (hS.rdx (by (repeat (first | exact Ix.here | apply Ix.there)))) (hS.rdx (by (repeat (first | exact Ix.here | apply Ix.there))))) ?_)
            rintro e w6 ⟨rfl, h⟩
            replace hS := hS.same h.base
            clear h
            refine ⟨_, rfl, hS.base, ?_⟩
            simp only [Act.put, List.setIfInBounds_toArray, List.set_cons_zero, List.set_cons_succ]
            simp only [decide_true]
            (refine whd_take 28 rfl rfl (by kernel_rfl) (by kernel_rfl) (by kernel_rfl) (fun _ _ _ h => h) rfl (fun W hW => by (go_simp; try with_reducible rfl)) hS.base ?_; simp only [Act.put, List.setIfInBounds_toArray, List.set_cons_zero, List.set_cons_succ])
            (refine whd_take 29 rfl rfl (by kernel_rfl) (by kernel_rfl) (by kernel_rfl) (fun _ _ _ h => h) rfl (fun W hW => by (go_simp; try with_reducible rfl)) hS.base ?_; simp only [Act.put, List.setIfInBounds_toArray, List.set_cons_zero, List.set_cons_succ])
            (refine wpAnyH_done (by kernel_rfl) ?_ _)
            replace hS := hB _ _ hS
            go_wp2_with (fail)
            go_ret
            exact ⟨rfl, hS.nil⟩
end
end Go.Proofs.YtjjiibcnknljfaaGreat
