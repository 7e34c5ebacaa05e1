/-
  The statement on a machine that was packed: the walk.
-/
import Derived.Test.YtjjiibcnknljfaaMacRun
import Derived.Test.YtjjiibcnknljfaaMacAw
import Derived.Test.YtjjiibcnknljfaaMacUnp
set_option linter.unusedSimpArgs false
set_option linter.unusedVariables false
set_option linter.unusedSectionVars false
set_option maxRecDepth 100000
namespace Go.Proofs.Ytjjiibcnknljfaa
open Go.RowKit Go.Cmp

theorem cut_fact (k : Int) (n : Nat) (hn : n ≤ 1000000) : ∃ c : Nat, c ≤ n ∧ wrap64 ((IntKind.u64.wrap k).tmod ((n : Int) + 1)) = c := by
  have e : IntKind.u64.wrap k = k % 18446744073709551616 := by simp [IntKind.wrap, IntKind.signed, IntKind.bits]
  have h0 : 0 ≤ k % 18446744073709551616 := Int.emod_nonneg _ (by omega)
  rw [e, Int.tmod_eq_emod_of_nonneg h0]
  have h1 := Int.emod_nonneg (k % 18446744073709551616) (show ((n : Int) + 1) ≠ 0 by omega)
  have h2 := Int.emod_lt_of_pos (k % 18446744073709551616) (show 0 < ((n : Int) + 1) by omega)
  generalize k % 18446744073709551616 % ((n : Int) + 1) = r at h1 h2
  refine ⟨r.toNat, by omega, ?_⟩
  unfold wrap64
  omega
theorem cut_fact2 (k : Int) (n : Nat) (h0 : n ≠ 0) (hn : n ≤ 1000000) : ∃ c : Nat, c < n ∧ wrap64 ((IntKind.u64.wrap k).tmod (n : Int)) = c := by
  obtain ⟨n', rfl⟩ : ∃ n', n = n' + 1 := ⟨n - 1, by omega⟩
  obtain ⟨c, h1, h2⟩ := cut_fact k n' (by omega)
  exact ⟨c, by omega, by simpa using h2⟩

section
set_option maxHeartbeats 16000000 in
theorem law_back10 (vl : Value) (L : List En) (k : Int) (w : World) (hL : Rd w 9 vl L.length (L.flatMap En.cells)) (hpar : parL L) :
    Calls Try.prog 5 #[vl, .int .i64 k] w fun x w' => x = .returned (.bool true) ∧ St [] w w' [] := by
  have hS := St.init w
  have HP := Lib.hid (fun (w1 : World) (M : List Ent) (hS : St [] w w1 M) => put_any10 hS (Reads.old (M := M) hL) hpar)
  have hn := logOf_len L
  have hq := logOf_par hpar
  clear hL hpar
  generalize logOf L = N at HP hn hq
  have HQ := Lib.hid hq
  clear hq
  have hn1 : (N.length : Int) ≤ 60 := by omega
  (go_enter Try.func5, Try.ntmps5)
  go_wp2_with (first | (go_at_call 6; refine (awake10_any _).mono ?_; rintro e w' ⟨rfl, h⟩; replace hS := hS.call h; clear h) | (go_at_call 7; refine (HP.out _ _ hS).mono ?_; clear hS; rintro e w' ⟨u, rfl, hS⟩) | (go_at_call 8; refine (mach_new hS).mono ?_; clear hS; rintro e w' ⟨g, rfl, hS⟩) | (first | refine au1 (n := ?_) | (refine au2 (n := ?_); clear hS; intro w' hS) | (refine au3 (n := ?_); clear hS; intro gb w1 hS) | (refine au4 (n := ?_); clear hS; intro v1 w' hS) | ((with_reducible refine wl_guard ?_); refine stop_mem rfl rfl ?_)))
  obtain ⟨c, hc, hce⟩ := cut_fact k N.length (by omega)
  rw [hce]
  clear hce
  go_loopw [6] (fun i wr => ∃ j : Nat, j ≤ c ∧ i = .int .i64 j ∧ St [] w wr [mach g (runM newMac (N.take j)), .vec u 35 9 N.length (N.flatMap En.cells)]) (fun i _ => (c - intOf i).toNat)
  case atStart => exact ⟨0, by omega, rfl, by rw [List.take_zero]; exact hS.pick⟩
  case round =>
    clear hS
    obtain ⟨j, hj, rfl, hS⟩ := hrel
    have hgd := runM_gd (N.take j) newMac_gd (parL_take HQ.out j)
    by_cases hlt : j < c
    · have hlt1 : (j : Int) < c := by omega
      have hlt2 : j < N.length := by omega
      have hget := get_lt (L := N) hlt2
      have hnx := runM_next newMac hlt2
      have HA := Lib.hid (fun (S : List Nat) (w0 w : World) (M : List Ent) (g : Nat) (hS : St S w0 w (mach g (runM newMac (N.take j)) :: M)) => mach_apply hS hgd.1 (nth N j) (HQ.out _ (nth_mem hlt2)))
      simp only [← hnx] at HA
      clear hnx hgd
      obtain ⟨m2, hm2⟩ : ∃ m, runM newMac (N.take (j + 1)) = m := ⟨_, rfl⟩
      rw [hm2] at HA
      have HM := Lib.hid hm2
      clear hm2
      generalize runM newMac (N.take j) = m1 at HA hS
      go_wp2_with (first | (go_at_call 9; refine (HA.out _ _ _ _ _ (hS.out (by (repeat (first | exact Out.here | apply Out.there))))).mono ?_; clear hS; rintro e w' ⟨rfl, hS⟩) | ((with_reducible refine g_load ?_); refine wl_run rfl (by exact a_loadG (vs := En.cells (nth N j)) rfl (by (first | exact St.rdx hS (by (repeat (first | exact Ix.here | apply Ix.there))) | exact Reads.at (by assumption) hS (by (repeat (first | exact List.Sublist.refl _ | apply List.Sublist.cons))) | exact St.old0 hS (by assumption))) rfl rfl rfl (by rfl) (by intro _; rfl) hget rfl) ?_) | (first | refine au1 (n := ?_) | (refine au2 (n := ?_); clear hS; intro w' hS) | (refine au3 (n := ?_); clear hS; intro gb w1 hS) | (refine au4 (n := ?_); clear hS; intro v1 w' hS) | ((with_reducible refine wl_guard ?_); refine stop_mem rfl rfl ?_)))
      refine ⟨⟨j + 1, by omega, by go_num, by rw [HM.out]; exact hS.pick⟩, by simp [intOf]; omega⟩
    · obtain rfl : j = c := by omega
      have HPK := Lib.hid (fun (S : List Nat) (w0 w : World) (M : List Ent) (g : Nat) (hS : St S w0 w (mach g (runM newMac (N.take j)) :: M)) => mach_pack hS hgd.1)
      have HUN := Lib.hid (fun (S : List Nat) (w0 w : World) (M : List Ent) (hS : St S w0 w M) => mach_unpack hS hgd.1 hgd.2)
      have hpl := mPack_le hgd.1
      obtain ⟨m1, hm1⟩ : ∃ m, runM newMac (N.take j) = m := ⟨_, rfl⟩
      rw [hm1] at HPK HUN hpl hS
      have HM := Lib.hid hm1
      clear hm1 hgd hj
      generalize mPack m1 = p at HPK HUN hpl
      have hpl1 : ¬ (1920 : Int) < p.length := by omega
      have hpl2 : decide ((1920 : Int) < p.length) = false := decide_eq_false hpl1
      go_wp2_with (first | (go_at_call 17; refine (HPK.out _ _ _ _ _ (hS.out (by (repeat (first | exact Out.here | apply Out.there))))).mono ?_; clear hS; rintro e w' ⟨rfl, hS⟩) | (go_at_call 18; refine (HUN.out _ _ _ _ hS).mono ?_; clear hS; rintro e w' ⟨g2, rfl, hS⟩) | (first | refine au1 (n := ?_) | (refine au2 (n := ?_); clear hS; intro w' hS) | (refine au3 (n := ?_); clear hS; intro gb w1 hS) | (refine au4 (n := ?_); clear hS; intro v1 w' hS) | ((with_reducible refine wl_guard ?_); refine stop_mem rfl rfl ?_)))
      go_loopw [10] (fun i wr => ∃ q : Nat, j ≤ q ∧ q ≤ N.length ∧ i = .int .i64 q ∧ St [] w wr [mach g (runM newMac (N.take q)), mach g2 (runM newMac (N.take q)), .vec u 35 9 N.length (N.flatMap En.cells)]) (fun i _ => (N.length - intOf i).toNat)
      case atStart => exact ⟨j, by omega, by omega, rfl, by rw [HM.out]; exact hS.pick⟩
      case round =>
        clear hS HM HPK HUN hpl hpl1 hpl2
        obtain ⟨q, hjq, hqn, rfl, hS⟩ := hrel
        have hgd := runM_gd (N.take q) newMac_gd (parL_take HQ.out q)
        by_cases hlt2 : q < N.length
        · have hlt1 : (q : Int) < N.length := by omega
          have hget := get_lt (L := N) hlt2
          have hnx := runM_next newMac hlt2
          have HA := Lib.hid (fun (S : List Nat) (w0 w : World) (M : List Ent) (g : Nat) (hS : St S w0 w (mach g (runM newMac (N.take q)) :: M)) => mach_apply hS hgd.1 (nth N q) (HQ.out _ (nth_mem hlt2)))
          simp only [← hnx] at HA
          clear hnx hgd
          obtain ⟨m2, hm2⟩ : ∃ m, runM newMac (N.take (q + 1)) = m := ⟨_, rfl⟩
          rw [hm2] at HA
          have HM := Lib.hid hm2
          clear hm2
          generalize runM newMac (N.take q) = m1 at HA hS
          generalize (m1.apply (nth N q)).1 = R at HA
          obtain ⟨⟨a1, a2, a3, a4, a5, a6⟩, er⟩ := R
          simp only [Ans.cells] at HA
          go_wp2_with (first | (go_at_call 9; refine (HA.out _ _ _ _ _ (hS.out (by (repeat (first | exact Out.here | apply Out.there))))).mono ?_; clear hS; rintro e w' ⟨rfl, hS⟩) | ((with_reducible refine g_load ?_); refine wl_run rfl (by exact a_loadG (vs := En.cells (nth N q)) rfl (by (first | exact St.rdx hS (by (repeat (first | exact Ix.here | apply Ix.there))) | exact Reads.at (by assumption) hS (by (repeat (first | exact List.Sublist.refl _ | apply List.Sublist.cons))) | exact St.old0 hS (by assumption))) rfl rfl rfl (by rfl) (by intro _; rfl) hget rfl) ?_) | (first | refine au1 (n := ?_) | (refine au2 (n := ?_); clear hS; intro w' hS) | (refine au3 (n := ?_); clear hS; intro gb w1 hS) | (refine au4 (n := ?_); clear hS; intro v1 w' hS) | ((with_reducible refine wl_guard ?_); refine stop_mem rfl rfl ?_)))
          refine ⟨⟨q + 1, by omega, by omega, by go_num, by rw [HM.out]; exact hS.pick⟩, by simp [intOf]; omega⟩
        · obtain rfl : q = N.length := by omega
          have HPK := Lib.hid (fun (S : List Nat) (w0 w : World) (M : List Ent) (g : Nat) (hS : St S w0 w (mach g (runM newMac (N.take N.length)) :: M)) => mach_pack hS hgd.1)
          generalize runM newMac (N.take N.length) = m1 at HPK hS
          generalize mPack m1 = p at HPK
          go_wp2_with (first | (go_at_call 17; refine (HPK.out _ _ _ _ _ (hS.out (by (repeat (first | exact Out.here | apply Out.there))))).mono ?_; clear hS; rintro e w' ⟨rfl, hS⟩) | (first | refine au1 (n := ?_) | (refine au2 (n := ?_); clear hS; intro w' hS) | (refine au3 (n := ?_); clear hS; intro gb w1 hS) | (refine au4 (n := ?_); clear hS; intro v1 w' hS) | ((with_reducible refine wl_guard ?_); refine stop_mem rfl rfl ?_)))
          go_ret
          exact ⟨rfl, hS.nil⟩
end
end Go.Proofs.Ytjjiibcnknljfaa
