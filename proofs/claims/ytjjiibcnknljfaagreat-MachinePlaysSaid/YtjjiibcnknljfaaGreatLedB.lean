/-
  The program's ledger: a transfer is made.
  The program's ledger: lists of events.
  The program's ledger: questions.
  The program's ledger: an operation.
-/
import Derived.Test.YtjjiibcnknljfaaGreatLedA
import Derived.Test.YtjjiibcnknljfaaGreatGen
set_option linter.unusedSimpArgs false
set_option linter.unusedVariables false
set_option linter.unusedSectionVars false
set_option maxRecDepth 100000
namespace Go.Proofs.YtjjiibcnknljfaaGreat
open Go.RowKit Go.Cmp

theorem u64_in {n : Int} (h0 : 0 ≤ n) (h1 : n < 18446744073709551616) : IntKind.u64.wrap n = n := by
  simp only [IntKind.wrap, IntKind.bits, IntKind.signed]
  simp
  omega
theorem u64_over {n : Int} (h0 : 18446744073709551616 ≤ n) (h1 : n < 36893488147419103232) : IntKind.u64.wrap n = n - 18446744073709551616 := by
  simp only [IntKind.wrap, IntKind.bits, IntKind.signed]
  simp
  omega

section
variable {S : List Nat} {w0 w : World} {M : List Ent} {g : Nat} {D : Led}

set_option maxRecDepth 100000 in
set_option maxHeartbeats 16000000 in
theorem ledg_move (hS : St S w0 w (ledg g D :: M)) (hD : D.Ok) (t : Tra) (ht : t.Ok) :
    Calls Tryz.prog 101 #[.pointer (some ⟨g, 0, none⟩), .agg t.cells.toArray] w fun e w' => e = .returned (.int .u8 ((D.move t).1.toNat : Int)) ∧ St S w0 w' (ledg g (D.move t).2 :: M) := by
  obtain ⟨hDa, hDt, hDl, hDm⟩ := hD
  obtain ⟨ht1, ht2, ht3, ht4⟩ := ht
  have hacc := fun (c : Nat) (W : World) (M : List Ent) (hS : St S w0 W (ledg g D :: M)) => ledg_account hS (show D.A.length ≤ 1000000 by omega) c
  have htra := fun (c : Nat) (W : World) (M : List Ent) (hS : St S w0 W (ledg g D :: M)) => ledg_transfer hS (show D.T.length ≤ 1000000 by omega) c
  obtain ⟨b, hb⟩ : ∃ b, D.move t = b := ⟨_, rfl⟩
  have hb' := hb
  unfold Led.move at hb
  rw [hb']
  clear hb'
  obtain ⟨A, T⟩ := D
  obtain ⟨id, deb, cred, amt⟩ := t
  simp only at hb hacc htra hDa hDt hDl hDm ht1 ht2 ht3 ht4
  have HD := Lib.hid (hacc deb)
  have HC := Lib.hid (hacc cred)
  have HT := Lib.hid (htra id)
  clear hacc htra
  have rd := accAt_range deb A
  have rc := accAt_range cred A
  have kd := accAt_hit (c := deb) (A := A)
  have kc := accAt_hit (c := cred) (A := A)
  obtain ⟨nd, hnd⟩ : ∃ n, accAt deb A = n := ⟨_, rfl⟩
  obtain ⟨nc, hnc⟩ : ∃ n, accAt cred A = n := ⟨_, rfl⟩
  obtain ⟨nt, hnt⟩ : ∃ n, traAt id T = n := ⟨_, rfl⟩
  rw [hnd] at HD hb rd kd
  rw [hnc] at HC hb rc kc
  rw [hnt] at HT hb
  clear hnd hnc hnt
  have HKD := Lib.hid kd
  have HKC := Lib.hid kc
  have HDA := Lib.hid hDa
  have HRD := Lib.hid rd
  have HRC := Lib.hid rc
  clear kd kc hDa hDt rd rc
  simp only [Tra.cells]
  (go_enter Tryz.func101, Tryz.ntmps101)
  go_wp2_with (first | refine au1 (n := ?_) | (refine au2 (n := ?_); clear hS; intro w' hS) | (refine au3 (n := ?_); clear hS; intro gb w1 hS) | (refine au4 (n := ?_); clear hS; intro v1 w' hS) | ((with_reducible refine wl_guard ?_); refine stop_mem rfl rfl ?_))
  replace hS : St S w0 _ (ledg g ⟨A, T⟩ :: .row gb [.int .u64 id, .int .u64 deb, .int .u64 cred, .int .u64 amt] 91 (0, 0) :: M) := hS.pick
  refine region_calm (by kernel_rfl) (by kernel_rfl) hS ?_
  (refine Calm.pure rfl (h := ?_); simp only [Act.put, List.setIfInBounds_toArray, List.set_cons_zero, List.set_cons_succ])
  (refine Calm.pure rfl (h := ?_); simp only [Act.put, List.setIfInBounds_toArray, List.set_cons_zero, List.set_cons_succ])
  (refine Calm.read rfl (h := ?_); simp only [Act.put, List.setIfInBounds_toArray, List.set_cons_zero, List.set_cons_succ])
  (refine Calm.call2 (fun W hW => HD.out W _ hW) rfl (h := ?_); simp only [Act.put, List.setIfInBounds_toArray, List.set_cons_zero, List.set_cons_succ])
  (refine Calm.pure rfl (h := ?_); simp only [Act.put, List.setIfInBounds_toArray, List.set_cons_zero, List.set_cons_succ])
  (refine Calm.pure rfl (h := ?_); simp only [Act.put, List.setIfInBounds_toArray, List.set_cons_zero, List.set_cons_succ])
  (refine Calm.read rfl (h := ?_); simp only [Act.put, List.setIfInBounds_toArray, List.set_cons_zero, List.set_cons_succ])
  (refine Calm.call2 (fun W hW => HC.out W _ hW) rfl (h := ?_); simp only [Act.put, List.setIfInBounds_toArray, List.set_cons_zero, List.set_cons_succ])
  (refine Calm.pure rfl (h := ?_); simp only [Act.put, List.setIfInBounds_toArray, List.set_cons_zero, List.set_cons_succ])
  (refine Calm.pure rfl (h := ?_); simp only [Act.put, List.setIfInBounds_toArray, List.set_cons_zero, List.set_cons_succ])
  (refine Calm.nil ?_; clear hS; intro w8 hS)
  by_cases h1 : id = 0
  · rw [if_pos h1] at hb
    subst hb
    subst h1
    go_wp2_with (first | refine au1 (n := ?_) | (refine au2 (n := ?_); clear hS; intro w' hS) | (refine au3 (n := ?_); clear hS; intro gb w1 hS) | (refine au4 (n := ?_); clear hS; intro v1 w' hS) | ((with_reducible refine wl_guard ?_); refine stop_mem rfl rfl ?_))
    go_ret
    exact ⟨rfl, hS.pick⟩
  rw [if_neg h1] at hb
  have h1' : ¬ (id : Int) = 0 := by omega
  by_cases h2 : 0 ≤ nt
  · rw [if_pos h2] at hb
    subst hb
    go_wp2_with (first | (go_at_call 106; refine (HT.out _ _ (hS.out (by (repeat (first | exact Out.here | apply Out.there))))).mono ?_; clear hS; rintro e w' ⟨rfl, hS⟩) | (first | refine au1 (n := ?_) | (refine au2 (n := ?_); clear hS; intro w' hS) | (refine au3 (n := ?_); clear hS; intro gb w1 hS) | (refine au4 (n := ?_); clear hS; intro v1 w' hS) | ((with_reducible refine wl_guard ?_); refine stop_mem rfl rfl ?_)))
    go_ret
    exact ⟨rfl, hS.pick⟩
  rw [if_neg h2] at hb
  by_cases h3 : deb = cred
  · rw [if_pos h3] at hb
    subst hb
    subst h3
    go_wp2_with (first | (go_at_call 106; refine (HT.out _ _ (hS.out (by (repeat (first | exact Out.here | apply Out.there))))).mono ?_; clear hS; rintro e w' ⟨rfl, hS⟩) | (first | refine au1 (n := ?_) | (refine au2 (n := ?_); clear hS; intro w' hS) | (refine au3 (n := ?_); clear hS; intro gb w1 hS) | (refine au4 (n := ?_); clear hS; intro v1 w' hS) | ((with_reducible refine wl_guard ?_); refine stop_mem rfl rfl ?_)))
    go_ret
    exact ⟨rfl, hS.pick⟩
  rw [if_neg h3] at hb
  have h3' : ¬ (deb : Int) = cred := by omega
  by_cases h4 : nd < 0
  · rw [if_pos h4] at hb
    subst hb
    go_wp2_with (first | (go_at_call 106; refine (HT.out _ _ (hS.out (by (repeat (first | exact Out.here | apply Out.there))))).mono ?_; clear hS; rintro e w' ⟨rfl, hS⟩) | (first | refine au1 (n := ?_) | (refine au2 (n := ?_); clear hS; intro w' hS) | (refine au3 (n := ?_); clear hS; intro gb w1 hS) | (refine au4 (n := ?_); clear hS; intro v1 w' hS) | ((with_reducible refine wl_guard ?_); refine stop_mem rfl rfl ?_)))
    go_ret
    exact ⟨rfl, hS.pick⟩
  rw [if_neg h4] at hb
  by_cases h5 : nc < 0
  · rw [if_pos h5] at hb
    subst hb
    go_wp2_with (first | (go_at_call 106; refine (HT.out _ _ (hS.out (by (repeat (first | exact Out.here | apply Out.there))))).mono ?_; clear hS; rintro e w' ⟨rfl, hS⟩) | (first | refine au1 (n := ?_) | (refine au2 (n := ?_); clear hS; intro w' hS) | (refine au3 (n := ?_); clear hS; intro gb w1 hS) | (refine au4 (n := ?_); clear hS; intro v1 w' hS) | ((with_reducible refine wl_guard ?_); refine stop_mem rfl rfl ?_)))
    go_ret
    exact ⟨rfl, hS.pick⟩
  rw [if_neg h5] at hb
  by_cases h6 : amt = 0
  · rw [if_pos h6] at hb
    subst hb
    subst h6
    go_wp2_with (first | (go_at_call 106; refine (HT.out _ _ (hS.out (by (repeat (first | exact Out.here | apply Out.there))))).mono ?_; clear hS; rintro e w' ⟨rfl, hS⟩) | (first | refine au1 (n := ?_) | (refine au2 (n := ?_); clear hS; intro w' hS) | (refine au3 (n := ?_); clear hS; intro gb w1 hS) | (refine au4 (n := ?_); clear hS; intro v1 w' hS) | ((with_reducible refine wl_guard ?_); refine stop_mem rfl rfl ?_)))
    go_ret
    exact ⟨rfl, hS.pick⟩
  rw [if_neg h6] at hb
  have h6' : ¬ (amt : Int) = 0 := by omega
  obtain ⟨p, rfl⟩ := Int.eq_ofNat_of_zero_le (show 0 ≤ nd by omega)
  obtain ⟨q, rfl⟩ := Int.eq_ofNat_of_zero_le (show 0 ≤ nc by omega)
  have hpl : p < A.length := by have := HRD.out.2; omega
  have hql : q < A.length := by have := HRC.out.2; omega
  have hkd := HKD.out (by omega)
  have hkc := HKC.out (by omega)
  rw [Int.toNat_natCast] at hkd hkc
  simp only [Int.toNat_natCast] at hb
  have hpq : p ≠ q := by intro e; rw [e] at hkd; omega
  have hgp := get_lt (L := A) hpl
  have hgq := get_lt (L := A) hql
  have hop := HDA.out _ (nth_mem hpl)
  have hoq := HDA.out _ (nth_mem hql)
  have hmv : moved A p q amt = (A.set p ⟨(nth A p).id, (nth A p).flags, (nth A p).deb + amt, (nth A p).cred⟩).set q ⟨(nth A q).id, (nth A q).flags, (nth A q).deb, (nth A q).cred + amt⟩ := rfl
  obtain ⟨X, hX⟩ : ∃ X, nth A p = X := ⟨_, rfl⟩
  obtain ⟨Y, hY⟩ : ∃ Y, nth A q = Y := ⟨_, rfl⟩
  rw [hX] at hgp hop hmv
  rw [hY] at hgq hoq hmv
  rw [hX, hY] at hb
  obtain ⟨x1, x2, x3, x4⟩ := X
  obtain ⟨y1, y2, y3, y4⟩ := Y
  obtain ⟨_, hx3, _, _, _⟩ := hop
  obtain ⟨_, _, hy4, _, _⟩ := hoq
  simp only at hb hmv hx3 hy4
  have hHM := Lib.hid hmv
  have hPQ := Lib.hid hpq
  clear hX hY hkd hkc hmv hpq HKD HKC HDA HRD HRC HD HC h4 h5
  go_wp2_with (first | (go_at_call 106; refine (HT.out _ _ (hS.out (by (repeat (first | exact Out.here | apply Out.there))))).mono ?_; clear hS; rintro e w' ⟨rfl, hS⟩; (have hU := St.unpack hS; clear hS; obtain ⟨⟨xa, xt⟩, _, hS⟩ := hU; simp only [List.cons_append, List.nil_append] at hS)) | (first | refine au1 (n := ?_) | (refine au2 (n := ?_); clear hS; intro w' hS) | (refine au3 (n := ?_); clear hS; intro gb w1 hS) | (refine au4 (n := ?_); clear hS; intro v1 w' hS) | ((with_reducible refine wl_guard ?_); refine stop_mem rfl rfl ?_)))
  clear HT
  refine region_calm (by kernel_rfl) (by kernel_rfl) hS ?_
  (refine Calm.pure rfl (h := ?_); simp only [Act.put, List.setIfInBounds_toArray, List.set_cons_zero, List.set_cons_succ])
  (refine Calm.pure rfl (h := ?_); simp only [Act.put, List.setIfInBounds_toArray, List.set_cons_zero, List.set_cons_succ])
  (refine Calm.pure rfl (h := ?_); simp only [Act.put, List.setIfInBounds_toArray, List.set_cons_zero, List.set_cons_succ])
  (refine Calm.read rfl (h := ?_); simp only [Act.put, List.setIfInBounds_toArray, List.set_cons_zero, List.set_cons_succ])
  (refine Calm.pure rfl (h := ?_); simp only [Act.put, List.setIfInBounds_toArray, List.set_cons_zero, List.set_cons_succ])
  (refine Calm.idx rfl (h := ?_); simp only [Act.put, List.setIfInBounds_toArray, List.set_cons_zero, List.set_cons_succ])
  (refine Calm.pure rfl (h := ?_); simp only [Act.put, List.setIfInBounds_toArray, List.set_cons_zero, List.set_cons_succ])
  (refine Calm.pure rfl (h := ?_); simp only [Act.put, List.setIfInBounds_toArray, List.set_cons_zero, List.set_cons_succ])
  (refine Calm.pure rfl (h := ?_); simp only [Act.put, List.setIfInBounds_toArray, List.set_cons_zero, List.set_cons_succ])
  (refine Calm.read rfl (h := ?_); simp only [Act.put, List.setIfInBounds_toArray, List.set_cons_zero, List.set_cons_succ])
  (refine Calm.pure rfl (h := ?_); simp only [Act.put, List.setIfInBounds_toArray, List.set_cons_zero, List.set_cons_succ])
  (refine Calm.idx rfl (h := ?_); simp only [Act.put, List.setIfInBounds_toArray, List.set_cons_zero, List.set_cons_succ])
  (refine Calm.pure rfl (h := ?_); simp only [Act.put, List.setIfInBounds_toArray, List.set_cons_zero, List.set_cons_succ])
  (refine Calm.pure rfl (h := ?_); simp only [Act.put, List.setIfInBounds_toArray, List.set_cons_zero, List.set_cons_succ])
  (refine Calm.nil ?_; clear hS; intro w8 hS)
  go_wp2_with (fail)
  have hA0 : 0 < A.length := by omega
  by_cases h7 : 18446744073709551616 ≤ x3 + amt ∨ 18446744073709551616 ≤ y4 + amt
  · rw [if_pos h7] at hb
    subst hb
    by_cases h71 : 18446744073709551616 ≤ x3 + amt
    · have hw1 := u64_over (n := (x3 : Int) + amt) (by omega) (by omega)
      have hw2 : decide ((x3 : Int) + amt - 18446744073709551616 < amt) = true := by simp; omega
      refine region_calm (by kernel_rfl) (by kernel_rfl) hS ?_
      (refine Calm.pure rfl (h := ?_); simp only [Act.put, List.setIfInBounds_toArray, List.set_cons_zero, List.set_cons_succ])
      (refine Calm.run rfl (fun W hW => by exact a_nilc rfl rfl (by (first | exact St.rdx hW (by (repeat (first | exact Ix.here | apply Ix.there))) | exact Reads.at (by assumption) hW (by (repeat (first | exact List.Sublist.refl _ | apply List.Sublist.cons))) | exact St.old0 hW (by assumption))) (by omega)) ?_; simp only [Act.put, List.setIfInBounds_toArray, List.set_cons_zero, List.set_cons_succ])
      (refine Calm.fld rfl (h := ?_); simp only [Act.put, List.setIfInBounds_toArray, List.set_cons_zero, List.set_cons_succ])
      (refine Calm.run rfl (fun W hW => by exact a_loadF rfl (by (first | exact St.rdx hW (by (repeat (first | exact Ix.here | apply Ix.there))) | exact Reads.at (by assumption) hW (by (repeat (first | exact List.Sublist.refl _ | apply List.Sublist.cons))) | exact St.old0 hW (by assumption))) rfl rfl rfl (by intro _; rfl) hgp (by rfl)) ?_; simp only [Act.put, List.setIfInBounds_toArray, List.set_cons_zero, List.set_cons_succ])
      (refine Calm.pure rfl (h := ?_); simp only [Act.put, List.setIfInBounds_toArray, List.set_cons_zero, List.set_cons_succ])
      (refine Calm.read rfl (h := ?_); simp only [Act.put, List.setIfInBounds_toArray, List.set_cons_zero, List.set_cons_succ])
      (refine Calm.pure rfl (h := ?_); simp only [Act.put, List.setIfInBounds_toArray, List.set_cons_zero, List.set_cons_succ])
      (refine Calm.pure rfl (h := ?_); simp only [Act.put, List.setIfInBounds_toArray, List.set_cons_zero, List.set_cons_succ])
      (refine Calm.read rfl (h := ?_); simp only [Act.put, List.setIfInBounds_toArray, List.set_cons_zero, List.set_cons_succ])
      (refine Calm.pure rfl (h := ?_); simp only [Act.put, List.setIfInBounds_toArray, List.set_cons_zero, List.set_cons_succ])
      (refine Calm.pure rfl (h := ?_); simp only [Act.put, List.setIfInBounds_toArray, List.set_cons_zero, List.set_cons_succ])
      (refine Calm.skip rfl ?_; simp only [Act.put, List.setIfInBounds_toArray, List.set_cons_zero, List.set_cons_succ])
      (refine Calm.skip rfl ?_; simp only [Act.put, List.setIfInBounds_toArray, List.set_cons_zero, List.set_cons_succ])
      (refine Calm.skip rfl ?_; simp only [Act.put, List.setIfInBounds_toArray, List.set_cons_zero, List.set_cons_succ])
      (refine Calm.skip rfl ?_; simp only [Act.put, List.setIfInBounds_toArray, List.set_cons_zero, List.set_cons_succ])
      (refine Calm.skip rfl ?_; simp only [Act.put, List.setIfInBounds_toArray, List.set_cons_zero, List.set_cons_succ])
      (refine Calm.skip rfl ?_; simp only [Act.put, List.setIfInBounds_toArray, List.set_cons_zero, List.set_cons_succ])
      (refine Calm.skip rfl ?_; simp only [Act.put, List.setIfInBounds_toArray, List.set_cons_zero, List.set_cons_succ])
      (refine Calm.skip rfl ?_; simp only [Act.put, List.setIfInBounds_toArray, List.set_cons_zero, List.set_cons_succ])
      (refine Calm.skip rfl ?_; simp only [Act.put, List.setIfInBounds_toArray, List.set_cons_zero, List.set_cons_succ])
      (refine Calm.skip rfl ?_; simp only [Act.put, List.setIfInBounds_toArray, List.set_cons_zero, List.set_cons_succ])
      (refine Calm.pure rfl (h := ?_); simp only [Act.put, List.setIfInBounds_toArray, List.set_cons_zero, List.set_cons_succ])
      (refine Calm.pure rfl (h := ?_); simp only [Act.put, List.setIfInBounds_toArray, List.set_cons_zero, List.set_cons_succ])
      (refine Calm.nil ?_; clear hS; intro w8 hS)
      go_wp2_with (first | refine au1 (n := ?_) | (refine au2 (n := ?_); clear hS; intro w' hS) | (refine au3 (n := ?_); clear hS; intro gb w1 hS) | (refine au4 (n := ?_); clear hS; intro v1 w' hS) | ((with_reducible refine wl_guard ?_); refine stop_mem rfl rfl ?_))
      go_ret
      exact ⟨rfl, (St.packs (xa, xt) hS : St S w0 _ (ledg g ⟨A, T⟩ :: _)).pick⟩
    · have h72 : 18446744073709551616 ≤ y4 + amt := by omega
      have hw1 := u64_in (n := (x3 : Int) + amt) (by omega) (by omega)
      have hw2 : decide ((x3 : Int) + amt < amt) = false := decide_eq_false (by omega)
      have hw3 := u64_over (n := (y4 : Int) + amt) (by omega) (by omega)
      have hw4 : decide ((y4 : Int) + amt - 18446744073709551616 < amt) = true := by simp; omega
      refine region_calm (by kernel_rfl) (by kernel_rfl) hS ?_
      (refine Calm.pure rfl (h := ?_); simp only [Act.put, List.setIfInBounds_toArray, List.set_cons_zero, List.set_cons_succ])
      (refine Calm.run rfl (fun W hW => by exact a_nilc rfl rfl (by (first | exact St.rdx hW (by (repeat (first | exact Ix.here | apply Ix.there))) | exact Reads.at (by assumption) hW (by (repeat (first | exact List.Sublist.refl _ | apply List.Sublist.cons))) | exact St.old0 hW (by assumption))) (by omega)) ?_; simp only [Act.put, List.setIfInBounds_toArray, List.set_cons_zero, List.set_cons_succ])
      (refine Calm.fld rfl (h := ?_); simp only [Act.put, List.setIfInBounds_toArray, List.set_cons_zero, List.set_cons_succ])
      (refine Calm.run rfl (fun W hW => by exact a_loadF rfl (by (first | exact St.rdx hW (by (repeat (first | exact Ix.here | apply Ix.there))) | exact Reads.at (by assumption) hW (by (repeat (first | exact List.Sublist.refl _ | apply List.Sublist.cons))) | exact St.old0 hW (by assumption))) rfl rfl rfl (by intro _; rfl) hgp (by rfl)) ?_; simp only [Act.put, List.setIfInBounds_toArray, List.set_cons_zero, List.set_cons_succ])
      (refine Calm.pure rfl (h := ?_); simp only [Act.put, List.setIfInBounds_toArray, List.set_cons_zero, List.set_cons_succ])
      (refine Calm.read rfl (h := ?_); simp only [Act.put, List.setIfInBounds_toArray, List.set_cons_zero, List.set_cons_succ])
      (refine Calm.pure rfl (h := ?_); simp only [Act.put, List.setIfInBounds_toArray, List.set_cons_zero, List.set_cons_succ])
      (refine Calm.pure rfl (h := ?_); simp only [Act.put, List.setIfInBounds_toArray, List.set_cons_zero, List.set_cons_succ])
      (refine Calm.read rfl (h := ?_); simp only [Act.put, List.setIfInBounds_toArray, List.set_cons_zero, List.set_cons_succ])
      (refine Calm.pure rfl (h := ?_); simp only [Act.put, List.setIfInBounds_toArray, List.set_cons_zero, List.set_cons_succ])
      (refine Calm.pure rfl (h := ?_); simp only [Act.put, List.setIfInBounds_toArray, List.set_cons_zero, List.set_cons_succ])
      (refine Calm.pure rfl (h := ?_); simp only [Act.put, List.setIfInBounds_toArray, List.set_cons_zero, List.set_cons_succ])
      (refine Calm.run rfl (fun W hW => by exact a_nilc rfl rfl (by (first | exact St.rdx hW (by (repeat (first | exact Ix.here | apply Ix.there))) | exact Reads.at (by assumption) hW (by (repeat (first | exact List.Sublist.refl _ | apply List.Sublist.cons))) | exact St.old0 hW (by assumption))) (by omega)) ?_; simp only [Act.put, List.setIfInBounds_toArray, List.set_cons_zero, List.set_cons_succ])
      (refine Calm.fld rfl (h := ?_); simp only [Act.put, List.setIfInBounds_toArray, List.set_cons_zero, List.set_cons_succ])
      (refine Calm.run rfl (fun W hW => by exact a_loadF rfl (by (first | exact St.rdx hW (by (repeat (first | exact Ix.here | apply Ix.there))) | exact Reads.at (by assumption) hW (by (repeat (first | exact List.Sublist.refl _ | apply List.Sublist.cons))) | exact St.old0 hW (by assumption))) rfl rfl rfl (by intro _; rfl) hgq (by rfl)) ?_; simp only [Act.put, List.setIfInBounds_toArray, List.set_cons_zero, List.set_cons_succ])
      (refine Calm.pure rfl (h := ?_); simp only [Act.put, List.setIfInBounds_toArray, List.set_cons_zero, List.set_cons_succ])
      (refine Calm.read rfl (h := ?_); simp only [Act.put, List.setIfInBounds_toArray, List.set_cons_zero, List.set_cons_succ])
      (refine Calm.pure rfl (h := ?_); simp only [Act.put, List.setIfInBounds_toArray, List.set_cons_zero, List.set_cons_succ])
      (refine Calm.pure rfl (h := ?_); simp only [Act.put, List.setIfInBounds_toArray, List.set_cons_zero, List.set_cons_succ])
      (refine Calm.read rfl (h := ?_); simp only [Act.put, List.setIfInBounds_toArray, List.set_cons_zero, List.set_cons_succ])
      (refine Calm.pure rfl (h := ?_); simp only [Act.put, List.setIfInBounds_toArray, List.set_cons_zero, List.set_cons_succ])
      (refine Calm.pure rfl (h := ?_); simp only [Act.put, List.setIfInBounds_toArray, List.set_cons_zero, List.set_cons_succ])
      (refine Calm.pure rfl (h := ?_); simp only [Act.put, List.setIfInBounds_toArray, List.set_cons_zero, List.set_cons_succ])
      (refine Calm.nil ?_; clear hS; intro w8 hS)
      go_wp2_with (first | refine au1 (n := ?_) | (refine au2 (n := ?_); clear hS; intro w' hS) | (refine au3 (n := ?_); clear hS; intro gb w1 hS) | (refine au4 (n := ?_); clear hS; intro v1 w' hS) | ((with_reducible refine wl_guard ?_); refine stop_mem rfl rfl ?_))
      go_ret
      exact ⟨rfl, (St.packs (xa, xt) hS : St S w0 _ (ledg g ⟨A, T⟩ :: _)).pick⟩
  rw [if_neg h7] at hb
  have hw1 := u64_in (n := (x3 : Int) + amt) (by omega) (by omega)
  have hw2 : decide ((x3 : Int) + amt < amt) = false := decide_eq_false (by omega)
  have hw3 := u64_in (n := (y4 : Int) + amt) (by omega) (by omega)
  have hw4 : decide ((y4 : Int) + amt < amt) = false := decide_eq_false (by omega)
  refine region_calm (by kernel_rfl) (by kernel_rfl) hS ?_
  (refine Calm.pure rfl (h := ?_); simp only [Act.put, List.setIfInBounds_toArray, List.set_cons_zero, List.set_cons_succ])
  (refine Calm.run rfl (fun W hW => by exact a_nilc rfl rfl (by (first | exact St.rdx hW (by (repeat (first | exact Ix.here | apply Ix.there))) | exact Reads.at (by assumption) hW (by (repeat (first | exact List.Sublist.refl _ | apply List.Sublist.cons))) | exact St.old0 hW (by assumption))) (by omega)) ?_; simp only [Act.put, List.setIfInBounds_toArray, List.set_cons_zero, List.set_cons_succ])
  (refine Calm.fld rfl (h := ?_); simp only [Act.put, List.setIfInBounds_toArray, List.set_cons_zero, List.set_cons_succ])
  (refine Calm.run rfl (fun W hW => by exact a_loadF rfl (by (first | exact St.rdx hW (by (repeat (first | exact Ix.here | apply Ix.there))) | exact Reads.at (by assumption) hW (by (repeat (first | exact List.Sublist.refl _ | apply List.Sublist.cons))) | exact St.old0 hW (by assumption))) rfl rfl rfl (by intro _; rfl) hgp (by rfl)) ?_; simp only [Act.put, List.setIfInBounds_toArray, List.set_cons_zero, List.set_cons_succ])
  (refine Calm.pure rfl (h := ?_); simp only [Act.put, List.setIfInBounds_toArray, List.set_cons_zero, List.set_cons_succ])
  (refine Calm.read rfl (h := ?_); simp only [Act.put, List.setIfInBounds_toArray, List.set_cons_zero, List.set_cons_succ])
  (refine Calm.pure rfl (h := ?_); simp only [Act.put, List.setIfInBounds_toArray, List.set_cons_zero, List.set_cons_succ])
  (refine Calm.pure rfl (h := ?_); simp only [Act.put, List.setIfInBounds_toArray, List.set_cons_zero, List.set_cons_succ])
  (refine Calm.read rfl (h := ?_); simp only [Act.put, List.setIfInBounds_toArray, List.set_cons_zero, List.set_cons_succ])
  (refine Calm.pure rfl (h := ?_); simp only [Act.put, List.setIfInBounds_toArray, List.set_cons_zero, List.set_cons_succ])
  (refine Calm.pure rfl (h := ?_); simp only [Act.put, List.setIfInBounds_toArray, List.set_cons_zero, List.set_cons_succ])
  (refine Calm.pure rfl (h := ?_); simp only [Act.put, List.setIfInBounds_toArray, List.set_cons_zero, List.set_cons_succ])
  (refine Calm.run rfl (fun W hW => by exact a_nilc rfl rfl (by (first | exact St.rdx hW (by (repeat (first | exact Ix.here | apply Ix.there))) | exact Reads.at (by assumption) hW (by (repeat (first | exact List.Sublist.refl _ | apply List.Sublist.cons))) | exact St.old0 hW (by assumption))) (by omega)) ?_; simp only [Act.put, List.setIfInBounds_toArray, List.set_cons_zero, List.set_cons_succ])
  (refine Calm.fld rfl (h := ?_); simp only [Act.put, List.setIfInBounds_toArray, List.set_cons_zero, List.set_cons_succ])
  (refine Calm.run rfl (fun W hW => by exact a_loadF rfl (by (first | exact St.rdx hW (by (repeat (first | exact Ix.here | apply Ix.there))) | exact Reads.at (by assumption) hW (by (repeat (first | exact List.Sublist.refl _ | apply List.Sublist.cons))) | exact St.old0 hW (by assumption))) rfl rfl rfl (by intro _; rfl) hgq (by rfl)) ?_; simp only [Act.put, List.setIfInBounds_toArray, List.set_cons_zero, List.set_cons_succ])
  (refine Calm.pure rfl (h := ?_); simp only [Act.put, List.setIfInBounds_toArray, List.set_cons_zero, List.set_cons_succ])
  (refine Calm.read rfl (h := ?_); simp only [Act.put, List.setIfInBounds_toArray, List.set_cons_zero, List.set_cons_succ])
  (refine Calm.pure rfl (h := ?_); simp only [Act.put, List.setIfInBounds_toArray, List.set_cons_zero, List.set_cons_succ])
  (refine Calm.pure rfl (h := ?_); simp only [Act.put, List.setIfInBounds_toArray, List.set_cons_zero, List.set_cons_succ])
  (refine Calm.read rfl (h := ?_); simp only [Act.put, List.setIfInBounds_toArray, List.set_cons_zero, List.set_cons_succ])
  (refine Calm.pure rfl (h := ?_); simp only [Act.put, List.setIfInBounds_toArray, List.set_cons_zero, List.set_cons_succ])
  (refine Calm.pure rfl (h := ?_); simp only [Act.put, List.setIfInBounds_toArray, List.set_cons_zero, List.set_cons_succ])
  (refine Calm.pure rfl (h := ?_); simp only [Act.put, List.setIfInBounds_toArray, List.set_cons_zero, List.set_cons_succ])
  (refine Calm.nil ?_; clear hS; intro w8 hS)
  go_wp2_with (fail)
  by_cases h8 : x2 = 1 ∧ x4 < x3 + amt
  · rw [if_pos h8] at hb
    subst hb
    obtain ⟨rfl, h8⟩ := h8
    have hw5 : decide ((x4 : Int) < (x3 : Int) + amt) = true := decide_eq_true (by omega)
    refine region_calm (by kernel_rfl) (by kernel_rfl) hS ?_
    (refine Calm.pure rfl (h := ?_); simp only [Act.put, List.setIfInBounds_toArray, List.set_cons_zero, List.set_cons_succ])
    (refine Calm.run rfl (fun W hW => by exact a_nilc rfl rfl (by (first | exact St.rdx hW (by (repeat (first | exact Ix.here | apply Ix.there))) | exact Reads.at (by assumption) hW (by (repeat (first | exact List.Sublist.refl _ | apply List.Sublist.cons))) | exact St.old0 hW (by assumption))) (by omega)) ?_; simp only [Act.put, List.setIfInBounds_toArray, List.set_cons_zero, List.set_cons_succ])
    (refine Calm.fld rfl (h := ?_); simp only [Act.put, List.setIfInBounds_toArray, List.set_cons_zero, List.set_cons_succ])
    (refine Calm.run rfl (fun W hW => by exact a_loadF rfl (by (first | exact St.rdx hW (by (repeat (first | exact Ix.here | apply Ix.there))) | exact Reads.at (by assumption) hW (by (repeat (first | exact List.Sublist.refl _ | apply List.Sublist.cons))) | exact St.old0 hW (by assumption))) rfl rfl rfl (by intro _; rfl) hgp (by rfl)) ?_; simp only [Act.put, List.setIfInBounds_toArray, List.set_cons_zero, List.set_cons_succ])
    (refine Calm.pure rfl (h := ?_); simp only [Act.put, List.setIfInBounds_toArray, List.set_cons_zero, List.set_cons_succ])
    (refine Calm.pure rfl (h := ?_); simp only [Act.put, List.setIfInBounds_toArray, List.set_cons_zero, List.set_cons_succ])
    (refine Calm.pure rfl (h := ?_); simp only [Act.put, List.setIfInBounds_toArray, List.set_cons_zero, List.set_cons_succ])
    (refine Calm.run rfl (fun W hW => by exact a_nilc rfl rfl (by (first | exact St.rdx hW (by (repeat (first | exact Ix.here | apply Ix.there))) | exact Reads.at (by assumption) hW (by (repeat (first | exact List.Sublist.refl _ | apply List.Sublist.cons))) | exact St.old0 hW (by assumption))) (by omega)) ?_; simp only [Act.put, List.setIfInBounds_toArray, List.set_cons_zero, List.set_cons_succ])
    (refine Calm.fld rfl (h := ?_); simp only [Act.put, List.setIfInBounds_toArray, List.set_cons_zero, List.set_cons_succ])
    (refine Calm.run rfl (fun W hW => by exact a_loadF rfl (by (first | exact St.rdx hW (by (repeat (first | exact Ix.here | apply Ix.there))) | exact Reads.at (by assumption) hW (by (repeat (first | exact List.Sublist.refl _ | apply List.Sublist.cons))) | exact St.old0 hW (by assumption))) rfl rfl rfl (by intro _; rfl) hgp (by rfl)) ?_; simp only [Act.put, List.setIfInBounds_toArray, List.set_cons_zero, List.set_cons_succ])
    (refine Calm.pure rfl (h := ?_); simp only [Act.put, List.setIfInBounds_toArray, List.set_cons_zero, List.set_cons_succ])
    (refine Calm.read rfl (h := ?_); simp only [Act.put, List.setIfInBounds_toArray, List.set_cons_zero, List.set_cons_succ])
    (refine Calm.pure rfl (h := ?_); simp only [Act.put, List.setIfInBounds_toArray, List.set_cons_zero, List.set_cons_succ])
    (refine Calm.pure rfl (h := ?_); simp only [Act.put, List.setIfInBounds_toArray, List.set_cons_zero, List.set_cons_succ])
    (refine Calm.run rfl (fun W hW => by exact a_nilc rfl rfl (by (first | exact St.rdx hW (by (repeat (first | exact Ix.here | apply Ix.there))) | exact Reads.at (by assumption) hW (by (repeat (first | exact List.Sublist.refl _ | apply List.Sublist.cons))) | exact St.old0 hW (by assumption))) (by omega)) ?_; simp only [Act.put, List.setIfInBounds_toArray, List.set_cons_zero, List.set_cons_succ])
    (refine Calm.fld rfl (h := ?_); simp only [Act.put, List.setIfInBounds_toArray, List.set_cons_zero, List.set_cons_succ])
    (refine Calm.run rfl (fun W hW => by exact a_loadF rfl (by (first | exact St.rdx hW (by (repeat (first | exact Ix.here | apply Ix.there))) | exact Reads.at (by assumption) hW (by (repeat (first | exact List.Sublist.refl _ | apply List.Sublist.cons))) | exact St.old0 hW (by assumption))) rfl rfl rfl (by intro _; rfl) hgp (by rfl)) ?_; simp only [Act.put, List.setIfInBounds_toArray, List.set_cons_zero, List.set_cons_succ])
    (refine Calm.pure rfl (h := ?_); simp only [Act.put, List.setIfInBounds_toArray, List.set_cons_zero, List.set_cons_succ])
    (refine Calm.pure rfl (h := ?_); simp only [Act.put, List.setIfInBounds_toArray, List.set_cons_zero, List.set_cons_succ])
    (refine Calm.pure rfl (h := ?_); simp only [Act.put, List.setIfInBounds_toArray, List.set_cons_zero, List.set_cons_succ])
    (refine Calm.nil ?_; clear hS; intro w8 hS)
    go_wp2_with (first | refine au1 (n := ?_) | (refine au2 (n := ?_); clear hS; intro w' hS) | (refine au3 (n := ?_); clear hS; intro gb w1 hS) | (refine au4 (n := ?_); clear hS; intro v1 w' hS) | ((with_reducible refine wl_guard ?_); refine stop_mem rfl rfl ?_))
    go_ret
    exact ⟨rfl, (St.packs (xa, xt) hS : St S w0 _ (ledg g ⟨A, T⟩ :: _)).pick⟩
  rw [if_neg h8] at hb
  by_cases hf : x2 = 1
  · subst hf
    have hw5 : decide ((x4 : Int) < (x3 : Int) + amt) = false := decide_eq_false (by omega)
    clear h8
    refine region_calm (by kernel_rfl) (by kernel_rfl) hS ?_
    (refine Calm.pure rfl (h := ?_); simp only [Act.put, List.setIfInBounds_toArray, List.set_cons_zero, List.set_cons_succ])
    (refine Calm.run rfl (fun W hW => by exact a_nilc rfl rfl (by (first | exact St.rdx hW (by (repeat (first | exact Ix.here | apply Ix.there))) | exact Reads.at (by assumption) hW (by (repeat (first | exact List.Sublist.refl _ | apply List.Sublist.cons))) | exact St.old0 hW (by assumption))) (by omega)) ?_; simp only [Act.put, List.setIfInBounds_toArray, List.set_cons_zero, List.set_cons_succ])
    (refine Calm.fld rfl (h := ?_); simp only [Act.put, List.setIfInBounds_toArray, List.set_cons_zero, List.set_cons_succ])
    (refine Calm.run rfl (fun W hW => by exact a_loadF rfl (by (first | exact St.rdx hW (by (repeat (first | exact Ix.here | apply Ix.there))) | exact Reads.at (by assumption) hW (by (repeat (first | exact List.Sublist.refl _ | apply List.Sublist.cons))) | exact St.old0 hW (by assumption))) rfl rfl rfl (by intro _; rfl) hgp (by rfl)) ?_; simp only [Act.put, List.setIfInBounds_toArray, List.set_cons_zero, List.set_cons_succ])
    (refine Calm.pure rfl (h := ?_); simp only [Act.put, List.setIfInBounds_toArray, List.set_cons_zero, List.set_cons_succ])
    (refine Calm.pure rfl (h := ?_); simp only [Act.put, List.setIfInBounds_toArray, List.set_cons_zero, List.set_cons_succ])
    (refine Calm.pure rfl (h := ?_); simp only [Act.put, List.setIfInBounds_toArray, List.set_cons_zero, List.set_cons_succ])
    (refine Calm.run rfl (fun W hW => by exact a_nilc rfl rfl (by (first | exact St.rdx hW (by (repeat (first | exact Ix.here | apply Ix.there))) | exact Reads.at (by assumption) hW (by (repeat (first | exact List.Sublist.refl _ | apply List.Sublist.cons))) | exact St.old0 hW (by assumption))) (by omega)) ?_; simp only [Act.put, List.setIfInBounds_toArray, List.set_cons_zero, List.set_cons_succ])
    (refine Calm.fld rfl (h := ?_); simp only [Act.put, List.setIfInBounds_toArray, List.set_cons_zero, List.set_cons_succ])
    (refine Calm.run rfl (fun W hW => by exact a_loadF rfl (by (first | exact St.rdx hW (by (repeat (first | exact Ix.here | apply Ix.there))) | exact Reads.at (by assumption) hW (by (repeat (first | exact List.Sublist.refl _ | apply List.Sublist.cons))) | exact St.old0 hW (by assumption))) rfl rfl rfl (by intro _; rfl) hgp (by rfl)) ?_; simp only [Act.put, List.setIfInBounds_toArray, List.set_cons_zero, List.set_cons_succ])
    (refine Calm.pure rfl (h := ?_); simp only [Act.put, List.setIfInBounds_toArray, List.set_cons_zero, List.set_cons_succ])
    (refine Calm.read rfl (h := ?_); simp only [Act.put, List.setIfInBounds_toArray, List.set_cons_zero, List.set_cons_succ])
    (refine Calm.pure rfl (h := ?_); simp only [Act.put, List.setIfInBounds_toArray, List.set_cons_zero, List.set_cons_succ])
    (refine Calm.pure rfl (h := ?_); simp only [Act.put, List.setIfInBounds_toArray, List.set_cons_zero, List.set_cons_succ])
    (refine Calm.run rfl (fun W hW => by exact a_nilc rfl rfl (by (first | exact St.rdx hW (by (repeat (first | exact Ix.here | apply Ix.there))) | exact Reads.at (by assumption) hW (by (repeat (first | exact List.Sublist.refl _ | apply List.Sublist.cons))) | exact St.old0 hW (by assumption))) (by omega)) ?_; simp only [Act.put, List.setIfInBounds_toArray, List.set_cons_zero, List.set_cons_succ])
    (refine Calm.fld rfl (h := ?_); simp only [Act.put, List.setIfInBounds_toArray, List.set_cons_zero, List.set_cons_succ])
    (refine Calm.run rfl (fun W hW => by exact a_loadF rfl (by (first | exact St.rdx hW (by (repeat (first | exact Ix.here | apply Ix.there))) | exact Reads.at (by assumption) hW (by (repeat (first | exact List.Sublist.refl _ | apply List.Sublist.cons))) | exact St.old0 hW (by assumption))) rfl rfl rfl (by intro _; rfl) hgp (by rfl)) ?_; simp only [Act.put, List.setIfInBounds_toArray, List.set_cons_zero, List.set_cons_succ])
    (refine Calm.pure rfl (h := ?_); simp only [Act.put, List.setIfInBounds_toArray, List.set_cons_zero, List.set_cons_succ])
    (refine Calm.pure rfl (h := ?_); simp only [Act.put, List.setIfInBounds_toArray, List.set_cons_zero, List.set_cons_succ])
    (refine Calm.pure rfl (h := ?_); simp only [Act.put, List.setIfInBounds_toArray, List.set_cons_zero, List.set_cons_succ])
    (refine Calm.nil ?_; clear hS; intro w8 hS)
    by_cases h9 : 16 ≤ T.length
    · rw [if_pos h9] at hb
      subst hb
      have h9' : (16 : Int) ≤ T.length := by omega
      go_wp2_with (first | refine au1 (n := ?_) | (refine au2 (n := ?_); clear hS; intro w' hS) | (refine au3 (n := ?_); clear hS; intro gb w1 hS) | (refine au4 (n := ?_); clear hS; intro v1 w' hS) | ((with_reducible refine wl_guard ?_); refine stop_mem rfl rfl ?_))
      go_ret
      exact ⟨rfl, (St.packs (xa, xt) hS : St S w0 _ (ledg g ⟨A, T⟩ :: _)).pick⟩
    rw [if_neg h9] at hb
    have h9' : ¬ (16 : Int) ≤ T.length := by omega
    subst hb
    obtain ⟨L1, hL1⟩ : ∃ L1, A.set p ⟨x1, 1, x3 + amt, x4⟩ = L1 := ⟨_, rfl⟩
    have hq1 : L1[q]? = some ⟨y1, y2, y3, y4⟩ := by rw [← hL1, List.getElem?_set_ne hPQ.out]; exact hgq
    have HL1 := Lib.hid hL1
    have hl1 : L1.length = A.length := by rw [← hL1, List.length_set]
    have HMV : Hid (moved A p q amt = L1.set q ⟨y1, y2, y3, y4 + amt⟩) := Lib.hid (by rw [hHM.out, hL1])
    clear hL1
    go_wp2_with (first | refine au1 (n := ?_) | (refine au2 (n := ?_); clear hS; intro w' hS) | (refine au3 (n := ?_); clear hS; intro gb w1 hS) | (refine au4 (n := ?_); clear hS; intro v1 w' hS) | ((with_reducible refine wl_guard ?_); refine stop_mem rfl rfl ?_))
    refine region_end0 9 hS (by kernel_rfl) ?_
    clear hS
    intro wx hR hB hS
    (refine we_take 0 rfl rfl (by kernel_rfl) (by kernel_rfl) (by kernel_rfl) (fun _ _ _ h => h) (by kernel_rfl) rfl (fun W hW => (by (go_simp; try with_reducible rfl))) hS.base ?_; simp only [Act.put, List.setIfInBounds_toArray, List.set_cons_zero, List.set_cons_succ])
    (refine we_take 1 rfl rfl (by kernel_rfl) (by kernel_rfl) (by kernel_rfl) (fun _ _ _ h => h) (by kernel_rfl) rfl (fun W hW => (by exact a_nilc rfl rfl (by (first | exact St.rdx (hR W hW) (by (repeat (first | exact Ix.here | apply Ix.there))) | exact Reads.at (by assumption) (hR W hW) (by (repeat (first | exact List.Sublist.refl _ | apply List.Sublist.cons))) | exact St.old0 (hR W hW) (by assumption))) (by omega))) hS.base ?_; simp only [Act.put, List.setIfInBounds_toArray, List.set_cons_zero, List.set_cons_succ])
    (refine we_take 2 rfl rfl (by kernel_rfl) (by kernel_rfl) (by kernel_rfl) (fun _ _ _ h => h) (by kernel_rfl) rfl (fun W hW => (by exact a_field rfl rfl (by (first | exact St.rdx (hR W hW) (by (repeat (first | exact Ix.here | apply Ix.there))) | exact Reads.at (by assumption) (hR W hW) (by (repeat (first | exact List.Sublist.refl _ | apply List.Sublist.cons))) | exact St.old0 (hR W hW) (by assumption))) (by omega) rfl rfl rfl (by rfl))) hS.base ?_; simp only [Act.put, List.setIfInBounds_toArray, List.set_cons_zero, List.set_cons_succ])
    (refine we_take 3 rfl rfl (by kernel_rfl) (by kernel_rfl) (by kernel_rfl) (fun _ _ _ h => h) (by kernel_rfl) rfl (fun W hW => (by exact a_loadF rfl (by (first | exact St.rdx (hR W hW) (by (repeat (first | exact Ix.here | apply Ix.there))) | exact Reads.at (by assumption) (hR W hW) (by (repeat (first | exact List.Sublist.refl _ | apply List.Sublist.cons))) | exact St.old0 (hR W hW) (by assumption))) rfl rfl rfl (by intro _; rfl) hgp (by rfl))) hS.base ?_; simp only [Act.put, List.setIfInBounds_toArray, List.set_cons_zero, List.set_cons_succ])
    (refine we_take 4 rfl rfl (by kernel_rfl) (by kernel_rfl) (by kernel_rfl) (fun _ _ _ h => h) (by kernel_rfl) rfl (fun W hW => (by (go_simp; try with_reducible rfl))) hS.base ?_; simp only [Act.put, List.setIfInBounds_toArray, List.set_cons_zero, List.set_cons_succ])
    (refine we_take 5 rfl rfl (by kernel_rfl) (by kernel_rfl) (by kernel_rfl) (fun _ _ _ h => h) (by kernel_rfl) rfl (fun W hW => rdR) hS.base ?_; simp only [Act.put, List.setIfInBounds_toArray, List.set_cons_zero, List.set_cons_succ])
    (refine we_take (v := (.int .u64 ((x3 : Int) + amt))) 6 rfl rfl (by kernel_rfl) (by kernel_rfl) (by kernel_rfl) (fun _ _ _ h => h) (by kernel_rfl) rfl (fun W hW => by (go_simp; try simp [hw1])) hS.base ?_; simp only [Act.put, List.setIfInBounds_toArray, List.set_cons_zero, List.set_cons_succ])
    (refine we_all (rs := [7]) (by kernel_rfl) (by simp) ?_; intro i hi; have hi := List.mem_singleton.1 hi; subst hi)
    refine wod_of rfl rfl rfl (wp_run (by exact a_nilc rfl rfl (by (first | exact St.rdx (hR _ hS.base) (by (repeat (first | exact Ix.here | apply Ix.there))) | exact Reads.at (by assumption) (hR _ hS.base) (by (repeat (first | exact List.Sublist.refl _ | apply List.Sublist.cons))) | exact St.old0 (hR _ hS.base) (by assumption))) (by omega)) ?_)
    (refine ⟨fun _ => hS.base, ?_⟩; simp only [Act.put, List.setIfInBounds_toArray, List.set_cons_zero, List.set_cons_succ])
    (refine we_all (rs := [8]) (by kernel_rfl) (by simp) ?_; intro i hi; have hi := List.mem_singleton.1 hi; subst hi)
    refine wod_of rfl rfl rfl (wp_run (by exact a_field rfl rfl (by (first | exact St.rdx (hR _ hS.base) (by (repeat (first | exact Ix.here | apply Ix.there))) | exact Reads.at (by assumption) (hR _ hS.base) (by (repeat (first | exact List.Sublist.refl _ | apply List.Sublist.cons))) | exact St.old0 (hR _ hS.base) (by assumption))) (by omega) rfl rfl rfl (by rfl)) ?_)
    (refine ⟨fun _ => hS.base, ?_⟩; simp only [Act.put, List.setIfInBounds_toArray, List.set_cons_zero, List.set_cons_succ])
    (refine we_all (rs := [9]) (by kernel_rfl) (by simp) ?_; intro i hi; have hi := List.mem_singleton.1 hi; subst hi)
    replace hS := hB _ _ hS
    simp only [List.cons_append, List.nil_append] at hS
    refine won_of rfl rfl rfl (a_storeF (v := .int _ _) (L := A) (j := p) (k := 4) (c := 2) (z := ⟨x1, 1, x3 + amt, x4⟩) hS rfl rfl rfl rfl rfl (by rfl) (by (repeat (first | exact Sw.here | apply Sw.there))) (by intro _; rfl) hgp (by omega) (by rfl) ?_)
    clear hS
    intro w6 hS
    rw [HL1.out] at hS
    (refine ⟨fun h => absurd rfl h, ?_⟩; refine we_done (by kernel_rfl) ?_ _)
    go_wp2_with (first | refine au1 (n := ?_) | (refine au2 (n := ?_); clear hS; intro w' hS) | (refine au3 (n := ?_); clear hS; intro gb w1 hS) | (refine au4 (n := ?_); clear hS; intro v1 w' hS) | ((with_reducible refine wl_guard ?_); refine stop_mem rfl rfl ?_))
    refine region_end0 9 hS (by kernel_rfl) ?_
    clear hS
    intro wx hR hB hS
    (refine we_take 0 rfl rfl (by kernel_rfl) (by kernel_rfl) (by kernel_rfl) (fun _ _ _ h => h) (by kernel_rfl) rfl (fun W hW => (by (go_simp; try with_reducible rfl))) hS.base ?_; simp only [Act.put, List.setIfInBounds_toArray, List.set_cons_zero, List.set_cons_succ])
    (refine we_take 1 rfl rfl (by kernel_rfl) (by kernel_rfl) (by kernel_rfl) (fun _ _ _ h => h) (by kernel_rfl) rfl (fun W hW => (by exact a_nilc rfl rfl (by (first | exact St.rdx (hR W hW) (by (repeat (first | exact Ix.here | apply Ix.there))) | exact Reads.at (by assumption) (hR W hW) (by (repeat (first | exact List.Sublist.refl _ | apply List.Sublist.cons))) | exact St.old0 (hR W hW) (by assumption))) (by omega))) hS.base ?_; simp only [Act.put, List.setIfInBounds_toArray, List.set_cons_zero, List.set_cons_succ])
    (refine we_take 2 rfl rfl (by kernel_rfl) (by kernel_rfl) (by kernel_rfl) (fun _ _ _ h => h) (by kernel_rfl) rfl (fun W hW => (by exact a_field rfl rfl (by (first | exact St.rdx (hR W hW) (by (repeat (first | exact Ix.here | apply Ix.there))) | exact Reads.at (by assumption) (hR W hW) (by (repeat (first | exact List.Sublist.refl _ | apply List.Sublist.cons))) | exact St.old0 (hR W hW) (by assumption))) (by omega) rfl rfl rfl (by rfl))) hS.base ?_; simp only [Act.put, List.setIfInBounds_toArray, List.set_cons_zero, List.set_cons_succ])
    (refine we_take 3 rfl rfl (by kernel_rfl) (by kernel_rfl) (by kernel_rfl) (fun _ _ _ h => h) (by kernel_rfl) rfl (fun W hW => (by exact a_loadF rfl (by (first | exact St.rdx (hR W hW) (by (repeat (first | exact Ix.here | apply Ix.there))) | exact Reads.at (by assumption) (hR W hW) (by (repeat (first | exact List.Sublist.refl _ | apply List.Sublist.cons))) | exact St.old0 (hR W hW) (by assumption))) rfl rfl rfl (by intro _; rfl) hq1 (by rfl))) hS.base ?_; simp only [Act.put, List.setIfInBounds_toArray, List.set_cons_zero, List.set_cons_succ])
    (refine we_take 4 rfl rfl (by kernel_rfl) (by kernel_rfl) (by kernel_rfl) (fun _ _ _ h => h) (by kernel_rfl) rfl (fun W hW => (by (go_simp; try with_reducible rfl))) hS.base ?_; simp only [Act.put, List.setIfInBounds_toArray, List.set_cons_zero, List.set_cons_succ])
    (refine we_take 5 rfl rfl (by kernel_rfl) (by kernel_rfl) (by kernel_rfl) (fun _ _ _ h => h) (by kernel_rfl) rfl (fun W hW => rdR) hS.base ?_; simp only [Act.put, List.setIfInBounds_toArray, List.set_cons_zero, List.set_cons_succ])
    (refine we_take (v := (.int .u64 ((y4 : Int) + amt))) 6 rfl rfl (by kernel_rfl) (by kernel_rfl) (by kernel_rfl) (fun _ _ _ h => h) (by kernel_rfl) rfl (fun W hW => by (go_simp; try simp [hw3])) hS.base ?_; simp only [Act.put, List.setIfInBounds_toArray, List.set_cons_zero, List.set_cons_succ])
    (refine we_all (rs := [7]) (by kernel_rfl) (by simp) ?_; intro i hi; have hi := List.mem_singleton.1 hi; subst hi)
    refine wod_of rfl rfl rfl (wp_run (by exact a_nilc rfl rfl (by (first | exact St.rdx (hR _ hS.base) (by (repeat (first | exact Ix.here | apply Ix.there))) | exact Reads.at (by assumption) (hR _ hS.base) (by (repeat (first | exact List.Sublist.refl _ | apply List.Sublist.cons))) | exact St.old0 (hR _ hS.base) (by assumption))) (by omega)) ?_)
    (refine ⟨fun _ => hS.base, ?_⟩; simp only [Act.put, List.setIfInBounds_toArray, List.set_cons_zero, List.set_cons_succ])
    (refine we_all (rs := [8]) (by kernel_rfl) (by simp) ?_; intro i hi; have hi := List.mem_singleton.1 hi; subst hi)
    refine wod_of rfl rfl rfl (wp_run (by exact a_field rfl rfl (by (first | exact St.rdx (hR _ hS.base) (by (repeat (first | exact Ix.here | apply Ix.there))) | exact Reads.at (by assumption) (hR _ hS.base) (by (repeat (first | exact List.Sublist.refl _ | apply List.Sublist.cons))) | exact St.old0 (hR _ hS.base) (by assumption))) (by omega) rfl rfl rfl (by rfl)) ?_)
    (refine ⟨fun _ => hS.base, ?_⟩; simp only [Act.put, List.setIfInBounds_toArray, List.set_cons_zero, List.set_cons_succ])
    (refine we_all (rs := [9]) (by kernel_rfl) (by simp) ?_; intro i hi; have hi := List.mem_singleton.1 hi; subst hi)
    replace hS := hB _ _ hS
    simp only [List.cons_append, List.nil_append] at hS
    refine won_of rfl rfl rfl (a_storeF (v := .int _ _) (L := L1) (j := q) (k := 4) (c := 3) (z := ⟨y1, y2, y3, y4 + amt⟩) hS rfl rfl rfl rfl rfl (by rfl) (by (repeat (first | exact Sw.here | apply Sw.there))) (by intro _; rfl) hq1 (by omega) (by rfl) ?_)
    clear hS
    intro w6 hS
    rw [← HMV.out] at hS
    (refine ⟨fun h => absurd rfl h, ?_⟩; refine we_done (by kernel_rfl) ?_ _)
    go_wp2_with (first | refine au1 (n := ?_) | (refine au2 (n := ?_); clear hS; intro w' hS) | (refine au3 (n := ?_); clear hS; intro gb w1 hS) | (refine au4 (n := ?_); clear hS; intro v1 w' hS) | ((with_reducible refine wl_guard ?_); refine stop_mem rfl rfl ?_))
    obtain ⟨B, hB0⟩ : ∃ B, moved A p q amt = B := ⟨_, rfl⟩
    rw [hB0] at hS
    have HB0 := Lib.hid hB0
    clear hB0
    refine region_end 10 [.vec xt 91 4 T.length (T.flatMap Tra.cells)] (.row g [xa, xt] 110 (0, 0) :: .row gb [.int .u64 id, .int .u64 deb, .int .u64 cred, .int .u64 amt] 91 (0, 0) :: .vec xa 86 4 B.length (B.flatMap Acc.cells) :: M) hS.pick (by kernel_rfl) ?_
    clear hS
    intro F wx hR hB hS
    (refine we_take 0 rfl rfl (by kernel_rfl) (by kernel_rfl) (by kernel_rfl) (fun _ _ _ h => h) (by kernel_rfl) rfl (fun W hW => (by (go_simp; try with_reducible rfl))) hS.base ?_; simp only [Act.put, List.setIfInBounds_toArray, List.set_cons_zero, List.set_cons_succ])
    (refine we_take 1 rfl rfl (by kernel_rfl) (by kernel_rfl) (by kernel_rfl) (fun _ _ _ h => h) (by kernel_rfl) rfl (fun W hW => (by (go_simp; try with_reducible rfl))) hS.base ?_; simp only [Act.put, List.setIfInBounds_toArray, List.set_cons_zero, List.set_cons_succ])
    (refine we_take 2 rfl rfl (by kernel_rfl) (by kernel_rfl) (by kernel_rfl) (fun _ _ _ h => h) (by kernel_rfl) rfl (fun W hW => (by (go_simp; try with_reducible rfl))) hS.base ?_; simp only [Act.put, List.setIfInBounds_toArray, List.set_cons_zero, List.set_cons_succ])
    (refine we_take 3 rfl rfl (by kernel_rfl) (by kernel_rfl) (by kernel_rfl) (fun _ _ _ h => h) (by kernel_rfl) rfl (fun W hW => (by (go_simp; try with_reducible rfl))) hS.base ?_; simp only [Act.put, List.setIfInBounds_toArray, List.set_cons_zero, List.set_cons_succ])
    (refine we_take 4 rfl rfl (by kernel_rfl) (by kernel_rfl) (by kernel_rfl) (fun _ _ _ h => h) (by kernel_rfl) rfl (fun W hW => rdR) hS.base ?_; simp only [Act.put, List.setIfInBounds_toArray, List.set_cons_zero, List.set_cons_succ])
    (refine we_take 5 rfl rfl (by kernel_rfl) (by kernel_rfl) (by kernel_rfl) (fun _ _ _ h => h) (by kernel_rfl) rfl (fun W hW => rdR) hS.base ?_; simp only [Act.put, List.setIfInBounds_toArray, List.set_cons_zero, List.set_cons_succ])
    (refine we_all (rs := [6]) (by kernel_rfl) (by simp) ?_; intro i hi; have hi := List.mem_singleton.1 hi; subst hi)
    (refine wod_of rfl rfl rfl (a_build1 (v := .agg _) hS rfl rfl rfl rfl (by rfl) (by simp) ?_); clear hS; intro v1 w4 hS; simp only [List.length_cons, List.length_nil, Nat.zero_add] at hS; try simp only [Nat.reduceAdd] at hS; (refine ⟨fun _ => hS.base, ?_⟩; simp only [Act.put, List.setIfInBounds_toArray, List.set_cons_zero, List.set_cons_succ]))
    (refine we_all (rs := [7]) (by kernel_rfl) (by simp) ?_; intro i hi; have hi := List.mem_singleton.1 hi; subst hi)
    (refine wod_of rfl rfl rfl (k_app (z := (⟨id, deb, cred, amt⟩ : Tra)) hS rfl rfl rfl rfl (h1 := by simp [Tra.cells, Value.oneCell']) (h := ?_)); clear hS; intro va w5 hS hv2; (refine ⟨fun _ => hS.base, ?_⟩; simp only [Act.put, List.setIfInBounds_toArray, List.set_cons_zero, List.set_cons_succ]))
    ((refine we_all (rs := [8]) (by kernel_rfl) (by simp) ?_; intro i hi; have hi := List.mem_singleton.1 hi; subst hi); refine wod_of rfl rfl rfl (wp_run (by (go_simp; first | done | exact ⟨rfl, rfl⟩ | with_reducible rfl)) ?_); (refine ⟨fun _ => hS.base, ?_⟩; simp only [Act.put, List.setIfInBounds_toArray, List.set_cons_zero, List.set_cons_succ]))
    ((refine we_all (rs := [9]) (by kernel_rfl) (by simp) ?_; intro i hi; have hi := List.mem_singleton.1 hi; subst hi); refine wod_of rfl rfl rfl (wp_run (by (go_simp; first | done | exact ⟨rfl, rfl⟩ | with_reducible rfl)) ?_); (refine ⟨fun _ => hS.base, ?_⟩; simp only [Act.put, List.setIfInBounds_toArray, List.set_cons_zero, List.set_cons_succ]))
    (refine we_all (rs := [10]) (by kernel_rfl) (by simp) ?_; intro i hi; have hi := List.mem_singleton.1 hi; subst hi)
    (replace hS := hB _ _ hS; simp only [List.cons_append, List.nil_append] at hS; refine won_of rfl rfl rfl (k_st1 hS rfl rfl rfl (h := ?_)); clear hS; intro w6 hS; simp only [List.set_cons_zero, List.set_cons_succ] at hS; simp only [Act.eval, Array.getD_eq_getD_getElem?, List.getElem?_toArray, List.getElem?_cons_succ, List.getElem?_cons_zero, Option.getD_some] at hS; (refine ⟨fun h => absurd rfl h, ?_⟩; refine we_done (by kernel_rfl) ?_ _))
    go_wp2_with (first | refine au1 (n := ?_) | (refine au2 (n := ?_); clear hS; intro w' hS) | (refine au3 (n := ?_); clear hS; intro gb w1 hS) | (refine au4 (n := ?_); clear hS; intro v1 w' hS) | ((with_reducible refine wl_guard ?_); refine stop_mem rfl rfl ?_))
    go_ret
    rw [HB0.out]
    exact ⟨rfl, (St.packs (xa, va) hS : St S w0 _ (ledg g ⟨B, T ++ [⟨id, deb, cred, amt⟩]⟩ :: _)).pick⟩
  · have hw5 : (x2 == 1) = false := by rw [beq_eq_false_iff_ne]; exact hf
    clear h8
    refine region_calm (by kernel_rfl) (by kernel_rfl) hS ?_
    (refine Calm.pure rfl (h := ?_); simp only [Act.put, List.setIfInBounds_toArray, List.set_cons_zero, List.set_cons_succ])
    (refine Calm.run rfl (fun W hW => by exact a_nilc rfl rfl (by (first | exact St.rdx hW (by (repeat (first | exact Ix.here | apply Ix.there))) | exact Reads.at (by assumption) hW (by (repeat (first | exact List.Sublist.refl _ | apply List.Sublist.cons))) | exact St.old0 hW (by assumption))) (by omega)) ?_; simp only [Act.put, List.setIfInBounds_toArray, List.set_cons_zero, List.set_cons_succ])
    (refine Calm.fld rfl (h := ?_); simp only [Act.put, List.setIfInBounds_toArray, List.set_cons_zero, List.set_cons_succ])
    (refine Calm.run rfl (fun W hW => by exact a_loadF rfl (by (first | exact St.rdx hW (by (repeat (first | exact Ix.here | apply Ix.there))) | exact Reads.at (by assumption) hW (by (repeat (first | exact List.Sublist.refl _ | apply List.Sublist.cons))) | exact St.old0 hW (by assumption))) rfl rfl rfl (by intro _; rfl) hgp (by rfl)) ?_; simp only [Act.put, List.setIfInBounds_toArray, List.set_cons_zero, List.set_cons_succ])
    (refine Calm.pure rfl (h := ?_); simp only [Act.put, List.setIfInBounds_toArray, List.set_cons_zero, List.set_cons_succ])
    (refine Calm.pure rfl (h := ?_); simp only [Act.put, List.setIfInBounds_toArray, List.set_cons_zero, List.set_cons_succ])
    (refine Calm.skip rfl ?_; simp only [Act.put, List.setIfInBounds_toArray, List.set_cons_zero, List.set_cons_succ])
    (refine Calm.skip rfl ?_; simp only [Act.put, List.setIfInBounds_toArray, List.set_cons_zero, List.set_cons_succ])
    (refine Calm.skip rfl ?_; simp only [Act.put, List.setIfInBounds_toArray, List.set_cons_zero, List.set_cons_succ])
    (refine Calm.skip rfl ?_; simp only [Act.put, List.setIfInBounds_toArray, List.set_cons_zero, List.set_cons_succ])
    (refine Calm.skip rfl ?_; simp only [Act.put, List.setIfInBounds_toArray, List.set_cons_zero, List.set_cons_succ])
    (refine Calm.skip rfl ?_; simp only [Act.put, List.setIfInBounds_toArray, List.set_cons_zero, List.set_cons_succ])
    (refine Calm.skip rfl ?_; simp only [Act.put, List.setIfInBounds_toArray, List.set_cons_zero, List.set_cons_succ])
    (refine Calm.skip rfl ?_; simp only [Act.put, List.setIfInBounds_toArray, List.set_cons_zero, List.set_cons_succ])
    (refine Calm.skip rfl ?_; simp only [Act.put, List.setIfInBounds_toArray, List.set_cons_zero, List.set_cons_succ])
    (refine Calm.skip rfl ?_; simp only [Act.put, List.setIfInBounds_toArray, List.set_cons_zero, List.set_cons_succ])
    (refine Calm.skip rfl ?_; simp only [Act.put, List.setIfInBounds_toArray, List.set_cons_zero, List.set_cons_succ])
    (refine Calm.skip rfl ?_; simp only [Act.put, List.setIfInBounds_toArray, List.set_cons_zero, List.set_cons_succ])
    (refine Calm.pure rfl (h := ?_); simp only [Act.put, List.setIfInBounds_toArray, List.set_cons_zero, List.set_cons_succ])
    (refine Calm.pure rfl (h := ?_); simp only [Act.put, List.setIfInBounds_toArray, List.set_cons_zero, List.set_cons_succ])
    (refine Calm.nil ?_; clear hS; intro w8 hS)
    by_cases h9 : 16 ≤ T.length
    · rw [if_pos h9] at hb
      subst hb
      have h9' : (16 : Int) ≤ T.length := by omega
      go_wp2_with (first | refine au1 (n := ?_) | (refine au2 (n := ?_); clear hS; intro w' hS) | (refine au3 (n := ?_); clear hS; intro gb w1 hS) | (refine au4 (n := ?_); clear hS; intro v1 w' hS) | ((with_reducible refine wl_guard ?_); refine stop_mem rfl rfl ?_))
      go_ret
      exact ⟨rfl, (St.packs (xa, xt) hS : St S w0 _ (ledg g ⟨A, T⟩ :: _)).pick⟩
    rw [if_neg h9] at hb
    have h9' : ¬ (16 : Int) ≤ T.length := by omega
    subst hb
    obtain ⟨L1, hL1⟩ : ∃ L1, A.set p ⟨x1, x2, x3 + amt, x4⟩ = L1 := ⟨_, rfl⟩
    have hq1 : L1[q]? = some ⟨y1, y2, y3, y4⟩ := by rw [← hL1, List.getElem?_set_ne hPQ.out]; exact hgq
    have HL1 := Lib.hid hL1
    have hl1 : L1.length = A.length := by rw [← hL1, List.length_set]
    have HMV : Hid (moved A p q amt = L1.set q ⟨y1, y2, y3, y4 + amt⟩) := Lib.hid (by rw [hHM.out, hL1])
    clear hL1
    go_wp2_with (first | refine au1 (n := ?_) | (refine au2 (n := ?_); clear hS; intro w' hS) | (refine au3 (n := ?_); clear hS; intro gb w1 hS) | (refine au4 (n := ?_); clear hS; intro v1 w' hS) | ((with_reducible refine wl_guard ?_); refine stop_mem rfl rfl ?_))
    refine region_end0 9 hS (by kernel_rfl) ?_
    clear hS
    intro wx hR hB hS
    (refine we_take 0 rfl rfl (by kernel_rfl) (by kernel_rfl) (by kernel_rfl) (fun _ _ _ h => h) (by kernel_rfl) rfl (fun W hW => (by (go_simp; try with_reducible rfl))) hS.base ?_; simp only [Act.put, List.setIfInBounds_toArray, List.set_cons_zero, List.set_cons_succ])
    (refine we_take 1 rfl rfl (by kernel_rfl) (by kernel_rfl) (by kernel_rfl) (fun _ _ _ h => h) (by kernel_rfl) rfl (fun W hW => (by exact a_nilc rfl rfl (by (first | exact St.rdx (hR W hW) (by (repeat (first | exact Ix.here | apply Ix.there))) | exact Reads.at (by assumption) (hR W hW) (by (repeat (first | exact List.Sublist.refl _ | apply List.Sublist.cons))) | exact St.old0 (hR W hW) (by assumption))) (by omega))) hS.base ?_; simp only [Act.put, List.setIfInBounds_toArray, List.set_cons_zero, List.set_cons_succ])
    (refine we_take 2 rfl rfl (by kernel_rfl) (by kernel_rfl) (by kernel_rfl) (fun _ _ _ h => h) (by kernel_rfl) rfl (fun W hW => (by exact a_field rfl rfl (by (first | exact St.rdx (hR W hW) (by (repeat (first | exact Ix.here | apply Ix.there))) | exact Reads.at (by assumption) (hR W hW) (by (repeat (first | exact List.Sublist.refl _ | apply List.Sublist.cons))) | exact St.old0 (hR W hW) (by assumption))) (by omega) rfl rfl rfl (by rfl))) hS.base ?_; simp only [Act.put, List.setIfInBounds_toArray, List.set_cons_zero, List.set_cons_succ])
    (refine we_take 3 rfl rfl (by kernel_rfl) (by kernel_rfl) (by kernel_rfl) (fun _ _ _ h => h) (by kernel_rfl) rfl (fun W hW => (by exact a_loadF rfl (by (first | exact St.rdx (hR W hW) (by (repeat (first | exact Ix.here | apply Ix.there))) | exact Reads.at (by assumption) (hR W hW) (by (repeat (first | exact List.Sublist.refl _ | apply List.Sublist.cons))) | exact St.old0 (hR W hW) (by assumption))) rfl rfl rfl (by intro _; rfl) hgp (by rfl))) hS.base ?_; simp only [Act.put, List.setIfInBounds_toArray, List.set_cons_zero, List.set_cons_succ])
    (refine we_take 4 rfl rfl (by kernel_rfl) (by kernel_rfl) (by kernel_rfl) (fun _ _ _ h => h) (by kernel_rfl) rfl (fun W hW => (by (go_simp; try with_reducible rfl))) hS.base ?_; simp only [Act.put, List.setIfInBounds_toArray, List.set_cons_zero, List.set_cons_succ])
    (refine we_take 5 rfl rfl (by kernel_rfl) (by kernel_rfl) (by kernel_rfl) (fun _ _ _ h => h) (by kernel_rfl) rfl (fun W hW => rdR) hS.base ?_; simp only [Act.put, List.setIfInBounds_toArray, List.set_cons_zero, List.set_cons_succ])
    (refine we_take (v := (.int .u64 ((x3 : Int) + amt))) 6 rfl rfl (by kernel_rfl) (by kernel_rfl) (by kernel_rfl) (fun _ _ _ h => h) (by kernel_rfl) rfl (fun W hW => by (go_simp; try simp [hw1])) hS.base ?_; simp only [Act.put, List.setIfInBounds_toArray, List.set_cons_zero, List.set_cons_succ])
    (refine we_all (rs := [7]) (by kernel_rfl) (by simp) ?_; intro i hi; have hi := List.mem_singleton.1 hi; subst hi)
    refine wod_of rfl rfl rfl (wp_run (by exact a_nilc rfl rfl (by (first | exact St.rdx (hR _ hS.base) (by (repeat (first | exact Ix.here | apply Ix.there))) | exact Reads.at (by assumption) (hR _ hS.base) (by (repeat (first | exact List.Sublist.refl _ | apply List.Sublist.cons))) | exact St.old0 (hR _ hS.base) (by assumption))) (by omega)) ?_)
    (refine ⟨fun _ => hS.base, ?_⟩; simp only [Act.put, List.setIfInBounds_toArray, List.set_cons_zero, List.set_cons_succ])
    (refine we_all (rs := [8]) (by kernel_rfl) (by simp) ?_; intro i hi; have hi := List.mem_singleton.1 hi; subst hi)
    refine wod_of rfl rfl rfl (wp_run (by exact a_field rfl rfl (by (first | exact St.rdx (hR _ hS.base) (by (repeat (first | exact Ix.here | apply Ix.there))) | exact Reads.at (by assumption) (hR _ hS.base) (by (repeat (first | exact List.Sublist.refl _ | apply List.Sublist.cons))) | exact St.old0 (hR _ hS.base) (by assumption))) (by omega) rfl rfl rfl (by rfl)) ?_)
    (refine ⟨fun _ => hS.base, ?_⟩; simp only [Act.put, List.setIfInBounds_toArray, List.set_cons_zero, List.set_cons_succ])
    (refine we_all (rs := [9]) (by kernel_rfl) (by simp) ?_; intro i hi; have hi := List.mem_singleton.1 hi; subst hi)
    replace hS := hB _ _ hS
    simp only [List.cons_append, List.nil_append] at hS
    refine won_of rfl rfl rfl (a_storeF (v := .int _ _) (L := A) (j := p) (k := 4) (c := 2) (z := ⟨x1, x2, x3 + amt, x4⟩) hS rfl rfl rfl rfl rfl (by rfl) (by (repeat (first | exact Sw.here | apply Sw.there))) (by intro _; rfl) hgp (by omega) (by rfl) ?_)
    clear hS
    intro w6 hS
    rw [HL1.out] at hS
    (refine ⟨fun h => absurd rfl h, ?_⟩; refine we_done (by kernel_rfl) ?_ _)
    go_wp2_with (first | refine au1 (n := ?_) | (refine au2 (n := ?_); clear hS; intro w' hS) | (refine au3 (n := ?_); clear hS; intro gb w1 hS) | (refine au4 (n := ?_); clear hS; intro v1 w' hS) | ((with_reducible refine wl_guard ?_); refine stop_mem rfl rfl ?_))
    refine region_end0 9 hS (by kernel_rfl) ?_
    clear hS
    intro wx hR hB hS
    (refine we_take 0 rfl rfl (by kernel_rfl) (by kernel_rfl) (by kernel_rfl) (fun _ _ _ h => h) (by kernel_rfl) rfl (fun W hW => (by (go_simp; try with_reducible rfl))) hS.base ?_; simp only [Act.put, List.setIfInBounds_toArray, List.set_cons_zero, List.set_cons_succ])
    (refine we_take 1 rfl rfl (by kernel_rfl) (by kernel_rfl) (by kernel_rfl) (fun _ _ _ h => h) (by kernel_rfl) rfl (fun W hW => (by exact a_nilc rfl rfl (by (first | exact St.rdx (hR W hW) (by (repeat (first | exact Ix.here | apply Ix.there))) | exact Reads.at (by assumption) (hR W hW) (by (repeat (first | exact List.Sublist.refl _ | apply List.Sublist.cons))) | exact St.old0 (hR W hW) (by assumption))) (by omega))) hS.base ?_; simp only [Act.put, List.setIfInBounds_toArray, List.set_cons_zero, List.set_cons_succ])
    (refine we_take 2 rfl rfl (by kernel_rfl) (by kernel_rfl) (by kernel_rfl) (fun _ _ _ h => h) (by kernel_rfl) rfl (fun W hW => (by exact a_field rfl rfl (by (first | exact St.rdx (hR W hW) (by (repeat (first | exact Ix.here | apply Ix.there))) | exact Reads.at (by assumption) (hR W hW) (by (repeat (first | exact List.Sublist.refl _ | apply List.Sublist.cons))) | exact St.old0 (hR W hW) (by assumption))) (by omega) rfl rfl rfl (by rfl))) hS.base ?_; simp only [Act.put, List.setIfInBounds_toArray, List.set_cons_zero, List.set_cons_succ])
    (refine we_take 3 rfl rfl (by kernel_rfl) (by kernel_rfl) (by kernel_rfl) (fun _ _ _ h => h) (by kernel_rfl) rfl (fun W hW => (by exact a_loadF rfl (by (first | exact St.rdx (hR W hW) (by (repeat (first | exact Ix.here | apply Ix.there))) | exact Reads.at (by assumption) (hR W hW) (by (repeat (first | exact List.Sublist.refl _ | apply List.Sublist.cons))) | exact St.old0 (hR W hW) (by assumption))) rfl rfl rfl (by intro _; rfl) hq1 (by rfl))) hS.base ?_; simp only [Act.put, List.setIfInBounds_toArray, List.set_cons_zero, List.set_cons_succ])
    (refine we_take 4 rfl rfl (by kernel_rfl) (by kernel_rfl) (by kernel_rfl) (fun _ _ _ h => h) (by kernel_rfl) rfl (fun W hW => (by (go_simp; try with_reducible rfl))) hS.base ?_; simp only [Act.put, List.setIfInBounds_toArray, List.set_cons_zero, List.set_cons_succ])
    (refine we_take 5 rfl rfl (by kernel_rfl) (by kernel_rfl) (by kernel_rfl) (fun _ _ _ h => h) (by kernel_rfl) rfl (fun W hW => rdR) hS.base ?_; simp only [Act.put, List.setIfInBounds_toArray, List.set_cons_zero, List.set_cons_succ])
    (refine we_take (v := (.int .u64 ((y4 : Int) + amt))) 6 rfl rfl (by kernel_rfl) (by kernel_rfl) (by kernel_rfl) (fun _ _ _ h => h) (by kernel_rfl) rfl (fun W hW => by (go_simp; try simp [hw3])) hS.base ?_; simp only [Act.put, List.setIfInBounds_toArray, List.set_cons_zero, List.set_cons_succ])
    (refine we_all (rs := [7]) (by kernel_rfl) (by simp) ?_; intro i hi; have hi := List.mem_singleton.1 hi; subst hi)
    refine wod_of rfl rfl rfl (wp_run (by exact a_nilc rfl rfl (by (first | exact St.rdx (hR _ hS.base) (by (repeat (first | exact Ix.here | apply Ix.there))) | exact Reads.at (by assumption) (hR _ hS.base) (by (repeat (first | exact List.Sublist.refl _ | apply List.Sublist.cons))) | exact St.old0 (hR _ hS.base) (by assumption))) (by omega)) ?_)
    (refine ⟨fun _ => hS.base, ?_⟩; simp only [Act.put, List.setIfInBounds_toArray, List.set_cons_zero, List.set_cons_succ])
    (refine we_all (rs := [8]) (by kernel_rfl) (by simp) ?_; intro i hi; have hi := List.mem_singleton.1 hi; subst hi)
    refine wod_of rfl rfl rfl (wp_run (by exact a_field rfl rfl (by (first | exact St.rdx (hR _ hS.base) (by (repeat (first | exact Ix.here | apply Ix.there))) | exact Reads.at (by assumption) (hR _ hS.base) (by (repeat (first | exact List.Sublist.refl _ | apply List.Sublist.cons))) | exact St.old0 (hR _ hS.base) (by assumption))) (by omega) rfl rfl rfl (by rfl)) ?_)
    (refine ⟨fun _ => hS.base, ?_⟩; simp only [Act.put, List.setIfInBounds_toArray, List.set_cons_zero, List.set_cons_succ])
    (refine we_all (rs := [9]) (by kernel_rfl) (by simp) ?_; intro i hi; have hi := List.mem_singleton.1 hi; subst hi)
    replace hS := hB _ _ hS
    simp only [List.cons_append, List.nil_append] at hS
    refine won_of rfl rfl rfl (a_storeF (v := .int _ _) (L := L1) (j := q) (k := 4) (c := 3) (z := ⟨y1, y2, y3, y4 + amt⟩) hS rfl rfl rfl rfl rfl (by rfl) (by (repeat (first | exact Sw.here | apply Sw.there))) (by intro _; rfl) hq1 (by omega) (by rfl) ?_)
    clear hS
    intro w6 hS
    rw [← HMV.out] at hS
    (refine ⟨fun h => absurd rfl h, ?_⟩; refine we_done (by kernel_rfl) ?_ _)
    go_wp2_with (first | refine au1 (n := ?_) | (refine au2 (n := ?_); clear hS; intro w' hS) | (refine au3 (n := ?_); clear hS; intro gb w1 hS) | (refine au4 (n := ?_); clear hS; intro v1 w' hS) | ((with_reducible refine wl_guard ?_); refine stop_mem rfl rfl ?_))
    obtain ⟨B, hB0⟩ : ∃ B, moved A p q amt = B := ⟨_, rfl⟩
    rw [hB0] at hS
    have HB0 := Lib.hid hB0
    clear hB0
    refine region_end 10 [.vec xt 91 4 T.length (T.flatMap Tra.cells)] (.row g [xa, xt] 110 (0, 0) :: .row gb [.int .u64 id, .int .u64 deb, .int .u64 cred, .int .u64 amt] 91 (0, 0) :: .vec xa 86 4 B.length (B.flatMap Acc.cells) :: M) hS.pick (by kernel_rfl) ?_
    clear hS
    intro F wx hR hB hS
    (refine we_take 0 rfl rfl (by kernel_rfl) (by kernel_rfl) (by kernel_rfl) (fun _ _ _ h => h) (by kernel_rfl) rfl (fun W hW => (by (go_simp; try with_reducible rfl))) hS.base ?_; simp only [Act.put, List.setIfInBounds_toArray, List.set_cons_zero, List.set_cons_succ])
    (refine we_take 1 rfl rfl (by kernel_rfl) (by kernel_rfl) (by kernel_rfl) (fun _ _ _ h => h) (by kernel_rfl) rfl (fun W hW => (by (go_simp; try with_reducible rfl))) hS.base ?_; simp only [Act.put, List.setIfInBounds_toArray, List.set_cons_zero, List.set_cons_succ])
    (refine we_take 2 rfl rfl (by kernel_rfl) (by kernel_rfl) (by kernel_rfl) (fun _ _ _ h => h) (by kernel_rfl) rfl (fun W hW => (by (go_simp; try with_reducible rfl))) hS.base ?_; simp only [Act.put, List.setIfInBounds_toArray, List.set_cons_zero, List.set_cons_succ])
    (refine we_take 3 rfl rfl (by kernel_rfl) (by kernel_rfl) (by kernel_rfl) (fun _ _ _ h => h) (by kernel_rfl) rfl (fun W hW => (by (go_simp; try with_reducible rfl))) hS.base ?_; simp only [Act.put, List.setIfInBounds_toArray, List.set_cons_zero, List.set_cons_succ])
    (refine we_take 4 rfl rfl (by kernel_rfl) (by kernel_rfl) (by kernel_rfl) (fun _ _ _ h => h) (by kernel_rfl) rfl (fun W hW => rdR) hS.base ?_; simp only [Act.put, List.setIfInBounds_toArray, List.set_cons_zero, List.set_cons_succ])
    (refine we_take 5 rfl rfl (by kernel_rfl) (by kernel_rfl) (by kernel_rfl) (fun _ _ _ h => h) (by kernel_rfl) rfl (fun W hW => rdR) hS.base ?_; simp only [Act.put, List.setIfInBounds_toArray, List.set_cons_zero, List.set_cons_succ])
    (refine we_all (rs := [6]) (by kernel_rfl) (by simp) ?_; intro i hi; have hi := List.mem_singleton.1 hi; subst hi)
    (refine wod_of rfl rfl rfl (a_build1 (v := .agg _) hS rfl rfl rfl rfl (by rfl) (by simp) ?_); clear hS; intro v1 w4 hS; simp only [List.length_cons, List.length_nil, Nat.zero_add] at hS; try simp only [Nat.reduceAdd] at hS; (refine ⟨fun _ => hS.base, ?_⟩; simp only [Act.put, List.setIfInBounds_toArray, List.set_cons_zero, List.set_cons_succ]))
    (refine we_all (rs := [7]) (by kernel_rfl) (by simp) ?_; intro i hi; have hi := List.mem_singleton.1 hi; subst hi)
    (refine wod_of rfl rfl rfl (k_app (z := (⟨id, deb, cred, amt⟩ : Tra)) hS rfl rfl rfl rfl (h1 := by simp [Tra.cells, Value.oneCell']) (h := ?_)); clear hS; intro va w5 hS hv2; (refine ⟨fun _ => hS.base, ?_⟩; simp only [Act.put, List.setIfInBounds_toArray, List.set_cons_zero, List.set_cons_succ]))
    ((refine we_all (rs := [8]) (by kernel_rfl) (by simp) ?_; intro i hi; have hi := List.mem_singleton.1 hi; subst hi); refine wod_of rfl rfl rfl (wp_run (by (go_simp; first | done | exact ⟨rfl, rfl⟩ | with_reducible rfl)) ?_); (refine ⟨fun _ => hS.base, ?_⟩; simp only [Act.put, List.setIfInBounds_toArray, List.set_cons_zero, List.set_cons_succ]))
    ((refine we_all (rs := [9]) (by kernel_rfl) (by simp) ?_; intro i hi; have hi := List.mem_singleton.1 hi; subst hi); refine wod_of rfl rfl rfl (wp_run (by (go_simp; first | done | exact ⟨rfl, rfl⟩ | with_reducible rfl)) ?_); (refine ⟨fun _ => hS.base, ?_⟩; simp only [Act.put, List.setIfInBounds_toArray, List.set_cons_zero, List.set_cons_succ]))
    (refine we_all (rs := [10]) (by kernel_rfl) (by simp) ?_; intro i hi; have hi := List.mem_singleton.1 hi; subst hi)
    (replace hS := hB _ _ hS; simp only [List.cons_append, List.nil_append] at hS; refine won_of rfl rfl rfl (k_st1 hS rfl rfl rfl (h := ?_)); clear hS; intro w6 hS; simp only [List.set_cons_zero, List.set_cons_succ] at hS; simp only [Act.eval, Array.getD_eq_getD_getElem?, List.getElem?_toArray, List.getElem?_cons_succ, List.getElem?_cons_zero, Option.getD_some] at hS; (refine ⟨fun h => absurd rfl h, ?_⟩; refine we_done (by kernel_rfl) ?_ _))
    go_wp2_with (first | refine au1 (n := ?_) | (refine au2 (n := ?_); clear hS; intro w' hS) | (refine au3 (n := ?_); clear hS; intro gb w1 hS) | (refine au4 (n := ?_); clear hS; intro v1 w' hS) | ((with_reducible refine wl_guard ?_); refine stop_mem rfl rfl ?_))
    go_ret
    rw [HB0.out]
    exact ⟨rfl, (St.packs (xa, va) hS : St S w0 _ (ledg g ⟨B, T ++ [⟨id, deb, cred, amt⟩]⟩ :: _)).pick⟩
end
end Go.Proofs.YtjjiibcnknljfaaGreat
namespace Go.Proofs.YtjjiibcnknljfaaGreat
open Go.RowKit Go.Cmp

section
variable {S : List Nat} {w0 w : World} {M : List Ent} {g : Nat} {D : Led}
theorem ledg_opn (hS : St S w0 w (ledg g D :: M)) (hD : D.Ok) (a : Acc) (_ : a.Ok) :
    Calls Tryz.prog 98 #[.pointer (some ⟨g, 0, none⟩), .agg a.cells.toArray] w fun e w' => e = .returned (.int .u8 ((D.open a).1.toNat : Int)) ∧ St S w0 w' (ledg g (D.open a).2 :: M) := ledg_open hS (by have := hD.la; omega) a

set_option maxRecDepth 100000 in
set_option maxHeartbeats 4000000 in
theorem codes_open {v : Value} (l : List Acc) (hS : St S w0 w (ledg g D :: .vec v 86 4 l.length (l.flatMap Acc.cells) :: M)) (hD : D.Ok) (hl : l.length ≤ 4) (hok : ∀ a ∈ l, a.Ok) :
    Calls Tryz.prog 97 #[v, .bool true, .func (.func 98) #[.pointer (some ⟨g, 0, none⟩)] #[]] w fun e w' => e = .returned (.string ⟨([0] ++ (D.opens l).1).toArray⟩) ∧ St S w0 w' (ledg g (D.opens l).2 :: .vec v 86 4 l.length (l.flatMap Acc.cells) :: M) := by
  have HOK := Lib.hid hok
  have HD := Lib.hid hD
  clear hok hD
  (go_enter Tryz.func97, Tryz.ntmps97)
  go_wp2_with (first | refine au1 (n := ?_) | (refine au2 (n := ?_); clear hS; intro w' hS) | (refine au3 (n := ?_); clear hS; intro gb w1 hS) | (refine au4 (n := ?_); clear hS; intro v1 w' hS) | ((with_reducible refine wl_guard ?_); refine stop_mem rfl rfl ?_))
  have hS2 : St S w0 _ (.vec v1 5 1 ([0] ++ (D.opens (l.take 0)).1).length (([0] ++ (D.opens (l.take 0)).1).flatMap byt) :: ledg g (D.opens (l.take 0)).2 :: .vec v 86 4 l.length (l.flatMap Acc.cells) :: M) := hS.pick
  clear hS
  go_loopw [7, 15] (fun b k wr => ∃ j : Nat, j ≤ l.length ∧ k = .int .i64 j ∧ St S w0 wr (.vec b 5 1 ([0] ++ (D.opens (l.take j)).1).length (([0] ++ (D.opens (l.take j)).1).flatMap byt) :: ledg g (D.opens (l.take j)).2 :: .vec v 86 4 l.length (l.flatMap Acc.cells) :: M)) (fun _ k _ => l.length - (intOf k).toNat)
  case atStart => exact ⟨0, by omega, rfl, hS2⟩
  case round =>
    clear hS2
    obtain ⟨j, hj, rfl, hS⟩ := hrel
    by_cases hlt : j < l.length
    · have hlt1 : (j : Int) < l.length := by omega
      have hget := get_lt (L := l) hlt
      have ha := HOK.out _ (nth_mem hlt)
      have hsn := opens_snoc (l.take j) (nth l j) D
      rw [← take_nth hlt] at hsn
      have hD2 := opens_ok (l.take j) HD.out (fun a h => HOK.out a (List.mem_of_mem_take h))
      have hle := opens_len (l.take j) D
      rw [List.length_take] at hle
      obtain ⟨x, hX⟩ : ∃ x, nth l j = x := ⟨_, rfl⟩
      rw [hX] at hget ha hsn
      obtain ⟨R, hR⟩ : ∃ R, D.opens (l.take j) = R := ⟨_, rfl⟩
      rw [hR] at hS hsn hD2 hle
      obtain ⟨r, D2⟩ := R
      simp only at hS hsn hD2 hle
      have HSN := Lib.hid hsn
      have HC := Lib.hid (fun (W : World) (M : List Ent) (hS : St S w0 W (ledg g D2 :: M)) => ledg_opn hS hD2 x ha)
      obtain ⟨Y, hY⟩ : ∃ Y, D2.open x = Y := ⟨_, rfl⟩
      rw [hY] at HC HSN
      obtain ⟨y, D3⟩ := Y
      simp only at HC HSN
      have hl2 : ([0] ++ r).length ≤ 10 := by simp only [List.length_append, List.length_singleton]; omega
      have hl3 : r.length ≤ 9 := by omega
      clear hsn hX hR hY ha hD2 hle
      obtain ⟨x1, x2, x3, x4⟩ := x
      simp only [Acc.cells] at HC
      go_wp2_with (first | (go_at_call 98; refine (HC.out _ _ (hS.out (by (repeat (first | exact Out.here | apply Out.there))))).mono ?_; clear hS; rintro e w' ⟨rfl, hS⟩) | ((with_reducible refine g_append ?_); refine wl_of rfl ?_; refine k_app (z := y) (f := byt) (L := [0] ++ r) hS rfl rfl rfl rfl (h1 := by simp [byt, Value.oneCell']) (h := ?_); clear hS; intro v2 w' hS hv2) | (first | refine au1 (n := ?_) | (refine au2 (n := ?_); clear hS; intro w' hS) | (refine au3 (n := ?_); clear hS; intro gb w1 hS) | (refine au4 (n := ?_); clear hS; intro v1 w' hS) | ((with_reducible refine wl_guard ?_); refine stop_mem rfl rfl ?_)))
      refine ⟨⟨j + 1, by omega, by go_num, ?_⟩, by simp [intOf]; omega⟩
      rw [HSN.out]
      simp only
      rw [← List.append_assoc]
      exact hS.pick
    · obtain rfl : j = l.length := by omega
      rw [List.take_length] at hS
      go_wp2_with (first | refine au1 (n := ?_) | (refine au2 (n := ?_); clear hS; intro w' hS) | (refine au3 (n := ?_); clear hS; intro gb w1 hS) | (refine au4 (n := ?_); clear hS; intro v1 w' hS) | ((with_reducible refine wl_guard ?_); refine stop_mem rfl rfl ?_))
      go_ret
      exact ⟨rfl, hS.pick⟩
theorem codes_open_none {v f : Value} (w : World) : Calls Tryz.prog 97 #[v, .bool false, f] w fun e w' => e = .returned (.string ⟨[1].toArray⟩) ∧ St [] w w' [] := by
  have hS := St.init w
  (go_enter Tryz.func97, Tryz.ntmps97)
  go_wp2_with (first | refine au1 (n := ?_) | (refine au2 (n := ?_); clear hS; intro w' hS) | (refine au3 (n := ?_); clear hS; intro gb w1 hS) | (refine au4 (n := ?_); clear hS; intro v1 w' hS) | ((with_reducible refine wl_guard ?_); refine stop_mem rfl rfl ?_))
  go_ret
  exact ⟨rfl, hS⟩

set_option maxRecDepth 100000 in
set_option maxHeartbeats 4000000 in
theorem codes_move {v : Value} (l : List Tra) (hS : St S w0 w (ledg g D :: .vec v 91 4 l.length (l.flatMap Tra.cells) :: M)) (hD : D.Ok) (hl : l.length ≤ 4) (hok : ∀ a ∈ l, a.Ok) :
    Calls Tryz.prog 100 #[v, .bool true, .func (.func 101) #[.pointer (some ⟨g, 0, none⟩)] #[]] w fun e w' => e = .returned (.string ⟨([0] ++ (D.moves l).1).toArray⟩) ∧ St S w0 w' (ledg g (D.moves l).2 :: .vec v 91 4 l.length (l.flatMap Tra.cells) :: M) := by
  have HOK := Lib.hid hok
  have HD := Lib.hid hD
  clear hok hD
  (go_enter Tryz.func100, Tryz.ntmps100)
  go_wp2_with (first | refine au1 (n := ?_) | (refine au2 (n := ?_); clear hS; intro w' hS) | (refine au3 (n := ?_); clear hS; intro gb w1 hS) | (refine au4 (n := ?_); clear hS; intro v1 w' hS) | ((with_reducible refine wl_guard ?_); refine stop_mem rfl rfl ?_))
  have hS2 : St S w0 _ (.vec v1 5 1 ([0] ++ (D.moves (l.take 0)).1).length (([0] ++ (D.moves (l.take 0)).1).flatMap byt) :: ledg g (D.moves (l.take 0)).2 :: .vec v 91 4 l.length (l.flatMap Tra.cells) :: M) := hS.pick
  clear hS
  go_loopw [7, 15] (fun b k wr => ∃ j : Nat, j ≤ l.length ∧ k = .int .i64 j ∧ St S w0 wr (.vec b 5 1 ([0] ++ (D.moves (l.take j)).1).length (([0] ++ (D.moves (l.take j)).1).flatMap byt) :: ledg g (D.moves (l.take j)).2 :: .vec v 91 4 l.length (l.flatMap Tra.cells) :: M)) (fun _ k _ => l.length - (intOf k).toNat)
  case atStart => exact ⟨0, by omega, rfl, hS2⟩
  case round =>
    clear hS2
    obtain ⟨j, hj, rfl, hS⟩ := hrel
    by_cases hlt : j < l.length
    · have hlt1 : (j : Int) < l.length := by omega
      have hget := get_lt (L := l) hlt
      have ha := HOK.out _ (nth_mem hlt)
      have hsn := moves_snoc (l.take j) (nth l j) D
      rw [← take_nth hlt] at hsn
      have hD2 := moves_ok (l.take j) HD.out (fun a h => HOK.out a (List.mem_of_mem_take h))
      have hle := moves_len (l.take j) D
      rw [List.length_take] at hle
      obtain ⟨x, hX⟩ : ∃ x, nth l j = x := ⟨_, rfl⟩
      rw [hX] at hget ha hsn
      obtain ⟨R, hR⟩ : ∃ R, D.moves (l.take j) = R := ⟨_, rfl⟩
      rw [hR] at hS hsn hD2 hle
      obtain ⟨r, D2⟩ := R
      simp only at hS hsn hD2 hle
      have HSN := Lib.hid hsn
      have HC := Lib.hid (fun (W : World) (M : List Ent) (hS : St S w0 W (ledg g D2 :: M)) => ledg_move hS hD2 x ha)
      obtain ⟨Y, hY⟩ : ∃ Y, D2.move x = Y := ⟨_, rfl⟩
      rw [hY] at HC HSN
      obtain ⟨y, D3⟩ := Y
      simp only at HC HSN
      have hl2 : ([0] ++ r).length ≤ 10 := by simp only [List.length_append, List.length_singleton]; omega
      have hl3 : r.length ≤ 9 := by omega
      clear hsn hX hR hY ha hD2 hle
      obtain ⟨x1, x2, x3, x4⟩ := x
      simp only [Tra.cells] at HC
      go_wp2_with (first | (go_at_call 101; refine (HC.out _ _ (hS.out (by (repeat (first | exact Out.here | apply Out.there))))).mono ?_; clear hS; rintro e w' ⟨rfl, hS⟩) | ((with_reducible refine g_append ?_); refine wl_of rfl ?_; refine k_app (z := y) (f := byt) (L := [0] ++ r) hS rfl rfl rfl rfl (h1 := by simp [byt, Value.oneCell']) (h := ?_); clear hS; intro v2 w' hS hv2) | (first | refine au1 (n := ?_) | (refine au2 (n := ?_); clear hS; intro w' hS) | (refine au3 (n := ?_); clear hS; intro gb w1 hS) | (refine au4 (n := ?_); clear hS; intro v1 w' hS) | ((with_reducible refine wl_guard ?_); refine stop_mem rfl rfl ?_)))
      refine ⟨⟨j + 1, by omega, by go_num, ?_⟩, by simp [intOf]; omega⟩
      rw [HSN.out]
      simp only
      rw [← List.append_assoc]
      exact hS.pick
    · obtain rfl : j = l.length := by omega
      rw [List.take_length] at hS
      go_wp2_with (first | refine au1 (n := ?_) | (refine au2 (n := ?_); clear hS; intro w' hS) | (refine au3 (n := ?_); clear hS; intro gb w1 hS) | (refine au4 (n := ?_); clear hS; intro v1 w' hS) | ((with_reducible refine wl_guard ?_); refine stop_mem rfl rfl ?_))
      go_ret
      exact ⟨rfl, hS.pick⟩
theorem codes_move_none {v f : Value} (w : World) : Calls Tryz.prog 100 #[v, .bool false, f] w fun e w' => e = .returned (.string ⟨[1].toArray⟩) ∧ St [] w w' [] := by
  have hS := St.init w
  (go_enter Tryz.func100, Tryz.ntmps100)
  go_wp2_with (first | refine au1 (n := ?_) | (refine au2 (n := ?_); clear hS; intro w' hS) | (refine au3 (n := ?_); clear hS; intro gb w1 hS) | (refine au4 (n := ?_); clear hS; intro v1 w' hS) | ((with_reducible refine wl_guard ?_); refine stop_mem rfl rfl ?_))
  go_ret
  exact ⟨rfl, hS⟩
end
end Go.Proofs.YtjjiibcnknljfaaGreat
namespace Go.Proofs.YtjjiibcnknljfaaGreat
open Go.RowKit Go.Cmp

theorem flat_le {α β : Type} {f : α → List β} {k : Nat} (hf : ∀ x, (f x).length ≤ k) : ∀ L : List α, (L.flatMap f).length ≤ k * L.length
  | [] => by simp
  | x :: L => by
    have h1 := flat_le hf L
    have h2 := hf x
    simp only [List.flatMap_cons, List.length_append, List.length_cons, Nat.mul_add, Nat.mul_one]
    omega
theorem one_cut {α : Type} [Inhabited α] {f : α → List Value} {k : Nat} (hf : ∀ x, (f x).length = k) {T : List α} {p : Nat} (h : p < T.length) : ((T.flatMap f).take ((p + 1) * k)).drop (p * k) = [nth T p].flatMap f := by
  have e : T = T.take p ++ ([nth T p] ++ T.drop (p + 1)) := by rw [← List.append_assoc, ← take_nth h, List.take_append_drop]
  have e2 : T.flatMap f = (T.take p).flatMap f ++ ([nth T p].flatMap f ++ (T.drop (p + 1)).flatMap f) := by
    conv => lhs; rw [e]
    simp only [List.flatMap_append]
  have l1 : ((T.take p).flatMap f).length = p * k := by rw [flat_len hf, List.length_take, Nat.min_eq_left (by omega)]
  have l2 : ([nth T p].flatMap f).length = k := by rw [flat_len hf]; simp
  rw [e2, List.drop_take, List.drop_left' l1, Nat.add_mul, Nat.one_mul, Nat.add_sub_cancel_left, List.take_left' l2]
theorem Rd.cut1 {α : Type} [Inhabited α] {f : α → List Value} {k : Nat} (hf : ∀ x, (f x).length = k) {T : List α} {p : Nat} {w : World} {v : Value} (hR : Rd w k v T.length (T.flatMap f)) (h : p < T.length) : Rd w k (cutSl v k p (p + 1)) 1 ([nth T p].flatMap f) := by
  have := hR.cut p (p + 1) (by omega) (by omega)
  rw [one_cut hf h, Nat.add_sub_cancel_left] at this
  exact this

section
variable {S : List Nat} {w0 w : World} {M : List Ent} {g gq : Nat} {D : Led}

set_option maxRecDepth 100000 in
set_option maxHeartbeats 2000000 in
theorem ledg_find4 (hS : St S w0 w (ledg g D :: .row gq [.pointer (some ⟨g, 0, none⟩)] 71 (0, 0) :: M)) (hD : D.Ok) (id : Nat) :
    Calls Tryz.prog 103 #[.int .u64 id, .pointer (some ⟨gq, 0, none⟩)] w fun e w' => e = .returned (if accAt id D.A < 0 then .tuple #[.string ⟨#[]⟩, .bool false] else .tuple #[.string ⟨(putW (nth D.A (accAt id D.A).toNat)).1.toArray⟩, .bool true]) ∧ St S w0 w' (ledg g D :: .row gq [.pointer (some ⟨g, 0, none⟩)] 71 (0, 0) :: M) := by
  have HF := Lib.hid (fun (W : World) (M : List Ent) (hS : St S w0 W (ledg g D :: M)) => ledg_account hS (show D.A.length ≤ 1000000 by have := hD.la; omega) id)
  have hr := accAt_range id D.A
  obtain ⟨n, hn⟩ : ∃ n, accAt id D.A = n := ⟨_, rfl⟩
  rw [hn] at HF hr ⊢
  clear hn
  by_cases h : n < 0
  · rw [if_pos h]
    clear hr
    (go_enter Tryz.func103, Tryz.ntmps103)
    go_wp2_with (first | (go_at_call 104; refine (HF.out _ _ (hS.out (by (repeat (first | exact Out.here | apply Out.there))))).mono ?_; clear hS; rintro e w' ⟨rfl, hS⟩) | (first | refine au1 (n := ?_) | (refine au2 (n := ?_); clear hS; intro w' hS) | (refine au3 (n := ?_); clear hS; intro gb w1 hS) | (refine au4 (n := ?_); clear hS; intro v1 w' hS) | ((with_reducible refine wl_guard ?_); refine stop_mem rfl rfl ?_)))
    go_ret2
    exact ⟨rfl, hS.pick⟩
  · rw [if_neg h]
    obtain ⟨p, rfl⟩ := Int.eq_ofNat_of_zero_le (show 0 ≤ n by omega)
    rw [Int.toNat_natCast]
    have hpl : p < D.A.length := by have := hr.2; omega
    have hx := hD.acc _ (nth_mem hpl)
    have hget := get_lt (L := D.A) hpl
    obtain ⟨x, hX⟩ : ∃ x, nth D.A p = x := ⟨_, rfl⟩
    rw [hX] at hx hget ⊢
    have HP := Lib.hid (fun w => putWhole_any x hx w)
    clear hX hx hr
    obtain ⟨b, hb⟩ : ∃ b, (putW x).2 = b := ⟨_, rfl⟩
    rw [hb] at HP
    generalize (putW x).1 = s at HP ⊢
    clear hb
    obtain ⟨A, T⟩ := D
    obtain ⟨x1, x2, x3, x4⟩ := x
    simp only [Acc.cells] at HP
    simp only at hget hpl
    (go_enter Tryz.func103, Tryz.ntmps103)
    go_wp2_with (first | (go_at_call 104; refine (HF.out _ _ (hS.out (by (repeat (first | exact Out.here | apply Out.there))))).mono ?_; clear hS; rintro e w' ⟨rfl, hS⟩; (have hU := St.unpack hS; clear hS; obtain ⟨⟨xa, xt⟩, _, hS⟩ := hU; simp only [List.cons_append, List.nil_append] at hS)) | (go_at_call 86; refine (HP.out _).mono ?_; rintro e w' ⟨rfl, h⟩; replace hS := hS.call h; clear h) | (first | refine au1 (n := ?_) | (refine au2 (n := ?_); clear hS; intro w' hS) | (refine au3 (n := ?_); clear hS; intro gb w1 hS) | (refine au4 (n := ?_); clear hS; intro v1 w' hS) | ((with_reducible refine wl_guard ?_); refine stop_mem rfl rfl ?_)))
    go_ret2
    exact ⟨rfl, (St.packs (xa, xt) hS : St S w0 _ (ledg g ⟨A, T⟩ :: _)).pick⟩

set_option maxRecDepth 100000 in
set_option maxHeartbeats 2000000 in
theorem ledg_find5 (hS : St S w0 w (ledg g D :: .row gq [.pointer (some ⟨g, 0, none⟩)] 71 (0, 0) :: M)) (hD : D.Ok) (id : Nat) :
    Calls Tryz.prog 105 #[.int .u64 id, .pointer (some ⟨gq, 0, none⟩)] w fun e w' => e = .returned (if traAt id D.T < 0 then .tuple #[.string ⟨#[]⟩, .bool false] else .tuple #[.string ⟨(traB (nth D.T (traAt id D.T).toNat)).toArray⟩, .bool true]) ∧ St S w0 w' (ledg g D :: .row gq [.pointer (some ⟨g, 0, none⟩)] 71 (0, 0) :: M) := by
  have HF := Lib.hid (fun (W : World) (M : List Ent) (hS : St S w0 W (ledg g D :: M)) => ledg_transfer hS (show D.T.length ≤ 1000000 by have := hD.lt; omega) id)
  have hr := traAt_range id D.T
  obtain ⟨n, hn⟩ : ∃ n, traAt id D.T = n := ⟨_, rfl⟩
  rw [hn] at HF hr ⊢
  clear hn
  by_cases h : n < 0
  · rw [if_pos h]
    clear hr
    (go_enter Tryz.func105, Tryz.ntmps105)
    go_wp2_with (first | (go_at_call 106; refine (HF.out _ _ (hS.out (by (repeat (first | exact Out.here | apply Out.there))))).mono ?_; clear hS; rintro e w' ⟨rfl, hS⟩) | (first | refine au1 (n := ?_) | (refine au2 (n := ?_); clear hS; intro w' hS) | (refine au3 (n := ?_); clear hS; intro gb w1 hS) | (refine au4 (n := ?_); clear hS; intro v1 w' hS) | ((with_reducible refine wl_guard ?_); refine stop_mem rfl rfl ?_)))
    go_ret2
    exact ⟨rfl, hS.pick⟩
  · rw [if_neg h]
    obtain ⟨p, rfl⟩ := Int.eq_ofNat_of_zero_le (show 0 ≤ n by omega)
    rw [Int.toNat_natCast]
    have hpl : p < D.T.length := by have := hr.2; omega
    have hp16 : D.T.length ≤ 16 := hD.lt
    have hx := hD.tra _ (nth_mem hpl)
    have hone := fun (v : Value) (w : World) (hR : Rd w 4 v D.T.length (D.T.flatMap Tra.cells)) => Rd.cut1 (f := Tra.cells) (fun _ => rfl) hR hpl
    obtain ⟨x, hX⟩ : ∃ x, nth D.T p = x := ⟨_, rfl⟩
    rw [hX] at hx hone ⊢
    have HP := Lib.hid (fun (v : Value) (w : World) (h : Rd w 4 v 1 ([x].flatMap Tra.cells)) => putTransfers_any [x] v 1 w rfl (by intro y hy; simp only [List.mem_singleton] at hy; subst hy; exact hx) h)
    have e : putS byTra [x] = (traB x, 0) := by simp [putS, cat, byTra, traB]
    rw [e] at HP
    clear e hX hx hr
    generalize traB x = s at HP ⊢
    have HO := Lib.hid hone
    obtain ⟨A, T⟩ := D
    simp only at HO hpl hp16
    (go_enter Tryz.func105, Tryz.ntmps105)
    go_wp2_with (first | (go_at_call 106; refine (HF.out _ _ (hS.out (by (repeat (first | exact Out.here | apply Out.there))))).mono ?_; clear hS; rintro e w' ⟨rfl, hS⟩; (have hU := St.unpack hS; clear hS; obtain ⟨⟨xa, xt⟩, _, hS⟩ := hU; simp only [List.cons_append, List.nil_append] at hS)) | ((with_reducible refine g_cut ?_); refine wl_run rfl (x_cut (ti := Tryz.t91) rfl (hS.rdx (by (repeat (first | exact Ix.here | apply Ix.there)))) rfl rfl rfl rfl rfl rfl (by omega) (by omega) (by omega)) ?_) | (go_at_call 87; refine (HP.out _ _ (HO.out _ _ (hS.rdx (by (repeat (first | exact Ix.here | apply Ix.there)))))).mono ?_; rintro e w' ⟨rfl, h⟩; replace hS := hS.call h; clear h) | (first | refine au1 (n := ?_) | (refine au2 (n := ?_); clear hS; intro w' hS) | (refine au3 (n := ?_); clear hS; intro gb w1 hS) | (refine au4 (n := ?_); clear hS; intro v1 w' hS) | ((with_reducible refine wl_guard ?_); refine stop_mem rfl rfl ?_)))
    go_ret2
    exact ⟨rfl, (St.packs (xa, xt) hS : St S w0 _ (ledg g ⟨A, T⟩ :: _)).pick⟩

set_option maxRecDepth 100000 in
set_option maxHeartbeats 4000000 in
theorem found4 (hS : St S w0 w (ledg g D :: .row gq [.pointer (some ⟨g, 0, none⟩)] 71 (0, 0) :: M)) (hD : D.Ok) (body : List UInt8) (hl : body.length ≤ 1000) :
    Calls Tryz.prog 102 #[.string ⟨body.toArray⟩, .func (.func 103) #[] #[.pointer (some ⟨gq, 0, none⟩)]] w fun e w' => e = .returned (.string ⟨(if (takeS gID 8 body).2 = false then [1] else [0] ++ (takeS gID 8 body).1.flatMap D.find4).toArray⟩) ∧ St S w0 w' (ledg g D :: .row gq [.pointer (some ⟨g, 0, none⟩)] 71 (0, 0) :: M) := by
  have HI := Lib.hid (fun w => iDs_any body w (by omega))
  have hln := takeS_len gID 8 body
  obtain ⟨K, hK⟩ : ∃ K, takeS gID 8 body = K := ⟨_, rfl⟩
  rw [hK] at HI hln ⊢
  obtain ⟨L, ok⟩ := K
  simp only [U_flatMap] at HI hln ⊢
  have HF := Lib.hid (fun (W : World) (M : List Ent) (id : Nat) (hS : St S w0 W (ledg g D :: .row gq [.pointer (some ⟨g, 0, none⟩)] 71 (0, 0) :: M)) => ledg_find4 hS hD id)
  clear hK
  cases ok
  · rw [if_pos rfl]
    (go_enter Tryz.func102, Tryz.ntmps102)
    go_wp2_with (first | (go_at_call 127; refine (HI.out _).mono ?_; rintro e w' ⟨v1, rfl, h⟩; replace hS := hS.call h; clear h) | (first | refine au1 (n := ?_) | (refine au2 (n := ?_); clear hS; intro w' hS) | (refine au3 (n := ?_); clear hS; intro gb w1 hS) | (refine au4 (n := ?_); clear hS; intro v1 w' hS) | ((with_reducible refine wl_guard ?_); refine stop_mem rfl rfl ?_)))
    go_ret
    exact ⟨rfl, hS.pick⟩
  · rw [if_neg (by simp)]
    (go_enter Tryz.func102, Tryz.ntmps102)
    go_wp2_with (first | (go_at_call 127; refine (HI.out _).mono ?_; rintro e w' ⟨v1, rfl, h⟩; replace hS := hS.call h; clear h; simp only [List.cons_append, List.nil_append] at hS) | (first | refine au1 (n := ?_) | (refine au2 (n := ?_); clear hS; intro w' hS) | (refine au3 (n := ?_); clear hS; intro gb w1 hS) | (refine au4 (n := ?_); clear hS; intro v1 w' hS) | ((with_reducible refine wl_guard ?_); refine stop_mem rfl rfl ?_)))
    go_loopw [7, 21] (fun s k wr => ∃ j : Nat, j ≤ L.length ∧ s = .string ⟨([0] ++ (L.take j).flatMap D.find4).toArray⟩ ∧ k = .int .i64 j ∧ St S w0 wr (.vec v1 32 1 L.length (L.flatMap fun x : Nat => [.int .u64 (x : Int)]) :: ledg g D :: .row gq [.pointer (some ⟨g, 0, none⟩)] 71 (0, 0) :: M)) (fun _ k _ => L.length - (intOf k).toNat)
    case atStart => exact ⟨0, by omega, by simp, rfl, hS⟩
    case round =>
      clear hS
      obtain ⟨j, hj, rfl, rfl, hS⟩ := hrel
      by_cases hlt : j < L.length
      · have hlt1 : (j : Int) < L.length := by omega
        have hget := get_lt (L := L) hlt
        have htk := take_nth hlt
        have hlen : ((L.take j).flatMap D.find4).length ≤ 26 * 4 := by
          have h1 := flat_le (fun x => find4_len D x) (L.take j)
          have h2 : (L.take j).length ≤ 4 := by rw [List.length_take]; omega
          omega
        obtain ⟨x, hX⟩ : ∃ x, nth L j = x := ⟨_, rfl⟩
        rw [hX] at hget htk
        have HE : Hid ([0] ++ (L.take (j + 1)).flatMap D.find4 = ([0] ++ (L.take j).flatMap D.find4) ++ D.find4 x) := Lib.hid (by rw [htk, List.flatMap_append]; simp)
        obtain ⟨s, hs⟩ : ∃ s, [0] ++ (L.take j).flatMap D.find4 = s := ⟨_, rfl⟩
        have hsl : s.length ≤ 140 := by rw [← hs]; simp only [List.length_append, List.length_singleton]; omega
        rw [hs] at HE ⊢
        have HC := Lib.hid (fun (W : World) (M : List Ent) (hS : St S w0 W (ledg g D :: .row gq [.pointer (some ⟨g, 0, none⟩)] 71 (0, 0) :: M)) => HF.out W M x hS)
        clear htk hlen hX hs
        by_cases hn : accAt x D.A < 0
        · have e1 : D.find4 x = [0] := by unfold Led.find4; rw [if_pos hn]
          rw [if_pos hn] at HC
          rw [e1] at HE
          clear e1 hn
          go_wp2_with (first | (go_at_call 103; refine (HC.out _ (.vec v1 32 1 L.length (L.flatMap fun x : Nat => [.int .u64 (x : Int)]) :: M) hS.pick).mono ?_; clear hS; rintro e w' ⟨rfl, hS⟩) | (first | refine au1 (n := ?_) | (refine au2 (n := ?_); clear hS; intro w' hS) | (refine au3 (n := ?_); clear hS; intro gb w1 hS) | (refine au4 (n := ?_); clear hS; intro v1 w' hS) | ((with_reducible refine wl_guard ?_); refine stop_mem rfl rfl ?_)))
          refine ⟨⟨j + 1, by omega, ?_, by go_num, hS.pick⟩, by simp [intOf]; omega⟩
          rw [HE.out]
        · have e1 : D.find4 x = [1] ++ (putW (nth D.A (accAt x D.A).toNat)).1 := by unfold Led.find4; rw [if_neg hn]
          have hz := putW_len (nth D.A (accAt x D.A).toNat)
          rw [if_neg hn] at HC
          rw [e1] at HE
          clear e1 hn
          generalize (putW (nth D.A (accAt x D.A).toNat)).1 = z at HC HE hz
          go_wp2_with (first | (go_at_call 103; refine (HC.out _ (.vec v1 32 1 L.length (L.flatMap fun x : Nat => [.int .u64 (x : Int)]) :: M) hS.pick).mono ?_; clear hS; rintro e w' ⟨rfl, hS⟩) | (first | refine au1 (n := ?_) | (refine au2 (n := ?_); clear hS; intro w' hS) | (refine au3 (n := ?_); clear hS; intro gb w1 hS) | (refine au4 (n := ?_); clear hS; intro v1 w' hS) | ((with_reducible refine wl_guard ?_); refine stop_mem rfl rfl ?_)))
          refine ⟨⟨j + 1, by omega, ?_, by go_num, hS.pick⟩, by simp [intOf]; omega⟩
          rw [HE.out]
          simp
      · obtain rfl : j = L.length := by omega
        rw [List.take_length]
        go_wp2_with (first | refine au1 (n := ?_) | (refine au2 (n := ?_); clear hS; intro w' hS) | (refine au3 (n := ?_); clear hS; intro gb w1 hS) | (refine au4 (n := ?_); clear hS; intro v1 w' hS) | ((with_reducible refine wl_guard ?_); refine stop_mem rfl rfl ?_))
        go_ret
        exact ⟨rfl, hS.pick⟩

set_option maxRecDepth 100000 in
set_option maxHeartbeats 4000000 in
theorem found5 (hS : St S w0 w (ledg g D :: .row gq [.pointer (some ⟨g, 0, none⟩)] 71 (0, 0) :: M)) (hD : D.Ok) (body : List UInt8) (hl : body.length ≤ 1000) :
    Calls Tryz.prog 102 #[.string ⟨body.toArray⟩, .func (.func 105) #[] #[.pointer (some ⟨gq, 0, none⟩)]] w fun e w' => e = .returned (.string ⟨(if (takeS gID 8 body).2 = false then [1] else [0] ++ (takeS gID 8 body).1.flatMap D.find5).toArray⟩) ∧ St S w0 w' (ledg g D :: .row gq [.pointer (some ⟨g, 0, none⟩)] 71 (0, 0) :: M) := by
  have HI := Lib.hid (fun w => iDs_any body w (by omega))
  have hln := takeS_len gID 8 body
  obtain ⟨K, hK⟩ : ∃ K, takeS gID 8 body = K := ⟨_, rfl⟩
  rw [hK] at HI hln ⊢
  obtain ⟨L, ok⟩ := K
  simp only [U_flatMap] at HI hln ⊢
  have HF := Lib.hid (fun (W : World) (M : List Ent) (id : Nat) (hS : St S w0 W (ledg g D :: .row gq [.pointer (some ⟨g, 0, none⟩)] 71 (0, 0) :: M)) => ledg_find5 hS hD id)
  clear hK
  cases ok
  · rw [if_pos rfl]
    (go_enter Tryz.func102, Tryz.ntmps102)
    go_wp2_with (first | (go_at_call 127; refine (HI.out _).mono ?_; rintro e w' ⟨v1, rfl, h⟩; replace hS := hS.call h; clear h) | (first | refine au1 (n := ?_) | (refine au2 (n := ?_); clear hS; intro w' hS) | (refine au3 (n := ?_); clear hS; intro gb w1 hS) | (refine au4 (n := ?_); clear hS; intro v1 w' hS) | ((with_reducible refine wl_guard ?_); refine stop_mem rfl rfl ?_)))
    go_ret
    exact ⟨rfl, hS.pick⟩
  · rw [if_neg (by simp)]
    (go_enter Tryz.func102, Tryz.ntmps102)
    go_wp2_with (first | (go_at_call 127; refine (HI.out _).mono ?_; rintro e w' ⟨v1, rfl, h⟩; replace hS := hS.call h; clear h; simp only [List.cons_append, List.nil_append] at hS) | (first | refine au1 (n := ?_) | (refine au2 (n := ?_); clear hS; intro w' hS) | (refine au3 (n := ?_); clear hS; intro gb w1 hS) | (refine au4 (n := ?_); clear hS; intro v1 w' hS) | ((with_reducible refine wl_guard ?_); refine stop_mem rfl rfl ?_)))
    go_loopw [7, 21] (fun s k wr => ∃ j : Nat, j ≤ L.length ∧ s = .string ⟨([0] ++ (L.take j).flatMap D.find5).toArray⟩ ∧ k = .int .i64 j ∧ St S w0 wr (.vec v1 32 1 L.length (L.flatMap fun x : Nat => [.int .u64 (x : Int)]) :: ledg g D :: .row gq [.pointer (some ⟨g, 0, none⟩)] 71 (0, 0) :: M)) (fun _ k _ => L.length - (intOf k).toNat)
    case atStart => exact ⟨0, by omega, by simp, rfl, hS⟩
    case round =>
      clear hS
      obtain ⟨j, hj, rfl, rfl, hS⟩ := hrel
      by_cases hlt : j < L.length
      · have hlt1 : (j : Int) < L.length := by omega
        have hget := get_lt (L := L) hlt
        have htk := take_nth hlt
        have hlen : ((L.take j).flatMap D.find5).length ≤ 33 * 4 := by
          have h1 := flat_le (fun x => find5_len D x) (L.take j)
          have h2 : (L.take j).length ≤ 4 := by rw [List.length_take]; omega
          omega
        obtain ⟨x, hX⟩ : ∃ x, nth L j = x := ⟨_, rfl⟩
        rw [hX] at hget htk
        have HE : Hid ([0] ++ (L.take (j + 1)).flatMap D.find5 = ([0] ++ (L.take j).flatMap D.find5) ++ D.find5 x) := Lib.hid (by rw [htk, List.flatMap_append]; simp)
        obtain ⟨s, hs⟩ : ∃ s, [0] ++ (L.take j).flatMap D.find5 = s := ⟨_, rfl⟩
        have hsl : s.length ≤ 140 := by rw [← hs]; simp only [List.length_append, List.length_singleton]; omega
        rw [hs] at HE ⊢
        have HC := Lib.hid (fun (W : World) (M : List Ent) (hS : St S w0 W (ledg g D :: .row gq [.pointer (some ⟨g, 0, none⟩)] 71 (0, 0) :: M)) => HF.out W M x hS)
        clear htk hlen hX hs
        by_cases hn : traAt x D.T < 0
        · have e1 : D.find5 x = [0] := by unfold Led.find5; rw [if_pos hn]
          rw [if_pos hn] at HC
          rw [e1] at HE
          clear e1 hn
          go_wp2_with (first | (go_at_call 105; refine (HC.out _ (.vec v1 32 1 L.length (L.flatMap fun x : Nat => [.int .u64 (x : Int)]) :: M) hS.pick).mono ?_; clear hS; rintro e w' ⟨rfl, hS⟩) | (first | refine au1 (n := ?_) | (refine au2 (n := ?_); clear hS; intro w' hS) | (refine au3 (n := ?_); clear hS; intro gb w1 hS) | (refine au4 (n := ?_); clear hS; intro v1 w' hS) | ((with_reducible refine wl_guard ?_); refine stop_mem rfl rfl ?_)))
          refine ⟨⟨j + 1, by omega, ?_, by go_num, hS.pick⟩, by simp [intOf]; omega⟩
          rw [HE.out]
        · have e1 : D.find5 x = [1] ++ traB (nth D.T (traAt x D.T).toNat) := by unfold Led.find5; rw [if_neg hn]
          have hz := Nat.le_of_eq (traB_len (nth D.T (traAt x D.T).toNat))
          rw [if_neg hn] at HC
          rw [e1] at HE
          clear e1 hn
          generalize traB (nth D.T (traAt x D.T).toNat) = z at HC HE hz
          go_wp2_with (first | (go_at_call 105; refine (HC.out _ (.vec v1 32 1 L.length (L.flatMap fun x : Nat => [.int .u64 (x : Int)]) :: M) hS.pick).mono ?_; clear hS; rintro e w' ⟨rfl, hS⟩) | (first | refine au1 (n := ?_) | (refine au2 (n := ?_); clear hS; intro w' hS) | (refine au3 (n := ?_); clear hS; intro gb w1 hS) | (refine au4 (n := ?_); clear hS; intro v1 w' hS) | ((with_reducible refine wl_guard ?_); refine stop_mem rfl rfl ?_)))
          refine ⟨⟨j + 1, by omega, ?_, by go_num, hS.pick⟩, by simp [intOf]; omega⟩
          rw [HE.out]
          simp
      · obtain rfl : j = L.length := by omega
        rw [List.take_length]
        go_wp2_with (first | refine au1 (n := ?_) | (refine au2 (n := ?_); clear hS; intro w' hS) | (refine au3 (n := ?_); clear hS; intro gb w1 hS) | (refine au4 (n := ?_); clear hS; intro v1 w' hS) | ((with_reducible refine wl_guard ?_); refine stop_mem rfl rfl ?_))
        go_ret
        exact ⟨rfl, hS.pick⟩
end
end Go.Proofs.YtjjiibcnknljfaaGreat
namespace Go.Proofs.YtjjiibcnknljfaaGreat
open Go.RowKit Go.Cmp

section
variable {S : List Nat} {w0 w : World} {M : List Ent} {g : Nat} {D : Led}

set_option maxRecDepth 100000 in
set_option maxHeartbeats 4000000 in
theorem ledg_do (hS : St S w0 w (ledg g D :: M)) (hD : D.Ok) (op : Int) (body : List UInt8) (hl : body.length ≤ 1000) :
    Calls Tryz.prog 65 #[.pointer (some ⟨g, 0, none⟩), .int .i64 op, .string ⟨body.toArray⟩] w fun e w' => e = .returned (.string ⟨(D.doIt op body).1.toArray⟩) ∧ St S w0 w' (ledg g (D.doIt op body).2 :: M) := by
  have HD := Lib.hid hD
  clear hD
  by_cases h2 : op = 2
  · subst h2
    have HA := Lib.hid (fun w => accounts_any body w (by omega))
    have hln := takeS_len gAcc 9 body
    have hok := takeS_all gAcc_ok 9 body
    have e : D.doIt 2 body = if (takeS gAcc 9 body).2 = false then ([1], D) else ([0] ++ (D.opens (takeS gAcc 9 body).1).1, (D.opens (takeS gAcc 9 body).1).2) := by unfold Led.doIt; rw [if_pos rfl]
    rw [e]
    clear e
    obtain ⟨K, hK⟩ : ∃ K, takeS gAcc 9 body = K := ⟨_, rfl⟩
    rw [hK] at HA hln hok ⊢
    obtain ⟨L, ok⟩ := K
    simp only at HA hln hok ⊢
    clear hK
    cases ok
    · rw [if_pos rfl]
      (go_enter Tryz.func65, Tryz.ntmps65)
      go_wp2_with (first | (go_at_call 96; refine (HA.out _).mono ?_; rintro e w' ⟨v1, rfl, h⟩; replace hS := hS.call h; clear h) | (go_at_call 97; refine (codes_open_none _).mono ?_; rintro e w' ⟨rfl, h⟩; replace hS := hS.call h; clear h) | (first | refine au1 (n := ?_) | (refine au2 (n := ?_); clear hS; intro w' hS) | (refine au3 (n := ?_); clear hS; intro gb w1 hS) | (refine au4 (n := ?_); clear hS; intro v1 w' hS) | ((with_reducible refine wl_guard ?_); refine stop_mem rfl rfl ?_)))
      go_ret
      exact ⟨rfl, hS.pick⟩
    · rw [if_neg (by simp)]
      have HC := Lib.hid (fun (W : World) (M : List Ent) (v : Value) (hS : St S w0 W (ledg g D :: .vec v 86 4 L.length (L.flatMap Acc.cells) :: M)) => codes_open L hS HD.out hln hok)
      clear hok
      (go_enter Tryz.func65, Tryz.ntmps65)
      go_wp2_with (first | (go_at_call 96; refine (HA.out _).mono ?_; rintro e w' ⟨v1, rfl, h⟩; replace hS := hS.call h; clear h; simp only [List.cons_append, List.nil_append] at hS) | (go_at_call 97; refine (HC.out _ (.row gb [.pointer (some ⟨g, 0, none⟩)] 71 (0, 0) :: M) v1 hS.pick).mono ?_; clear hS; rintro e w' ⟨rfl, hS⟩) | (first | refine au1 (n := ?_) | (refine au2 (n := ?_); clear hS; intro w' hS) | (refine au3 (n := ?_); clear hS; intro gb w1 hS) | (refine au4 (n := ?_); clear hS; intro v1 w' hS) | ((with_reducible refine wl_guard ?_); refine stop_mem rfl rfl ?_)))
      go_ret
      exact ⟨rfl, hS.pick⟩
  by_cases h3 : op = 3
  · subst h3
    have HA := Lib.hid (fun w => transfers_any body w (by omega))
    have hln := takeS_len gTra 32 body
    have hok := takeS_all gTra_ok 32 body
    have e : D.doIt 3 body = if (takeS gTra 32 body).2 = false then ([1], D) else ([0] ++ (D.moves (takeS gTra 32 body).1).1, (D.moves (takeS gTra 32 body).1).2) := by unfold Led.doIt; rw [if_neg (by omega), if_pos rfl]
    rw [e]
    clear e
    obtain ⟨K, hK⟩ : ∃ K, takeS gTra 32 body = K := ⟨_, rfl⟩
    rw [hK] at HA hln hok ⊢
    obtain ⟨L, ok⟩ := K
    simp only at HA hln hok ⊢
    clear hK
    cases ok
    · rw [if_pos rfl]
      (go_enter Tryz.func65, Tryz.ntmps65)
      go_wp2_with (first | (go_at_call 99; refine (HA.out _).mono ?_; rintro e w' ⟨v1, rfl, h⟩; replace hS := hS.call h; clear h) | (go_at_call 100; refine (codes_move_none _).mono ?_; rintro e w' ⟨rfl, h⟩; replace hS := hS.call h; clear h) | (first | refine au1 (n := ?_) | (refine au2 (n := ?_); clear hS; intro w' hS) | (refine au3 (n := ?_); clear hS; intro gb w1 hS) | (refine au4 (n := ?_); clear hS; intro v1 w' hS) | ((with_reducible refine wl_guard ?_); refine stop_mem rfl rfl ?_)))
      go_ret
      exact ⟨rfl, hS.pick⟩
    · rw [if_neg (by simp)]
      have HC := Lib.hid (fun (W : World) (M : List Ent) (v : Value) (hS : St S w0 W (ledg g D :: .vec v 91 4 L.length (L.flatMap Tra.cells) :: M)) => codes_move L hS HD.out hln hok)
      clear hok
      (go_enter Tryz.func65, Tryz.ntmps65)
      go_wp2_with (first | (go_at_call 99; refine (HA.out _).mono ?_; rintro e w' ⟨v1, rfl, h⟩; replace hS := hS.call h; clear h; simp only [List.cons_append, List.nil_append] at hS) | (go_at_call 100; refine (HC.out _ (.row gb [.pointer (some ⟨g, 0, none⟩)] 71 (0, 0) :: M) v1 hS.pick).mono ?_; clear hS; rintro e w' ⟨rfl, hS⟩) | (first | refine au1 (n := ?_) | (refine au2 (n := ?_); clear hS; intro w' hS) | (refine au3 (n := ?_); clear hS; intro gb w1 hS) | (refine au4 (n := ?_); clear hS; intro v1 w' hS) | ((with_reducible refine wl_guard ?_); refine stop_mem rfl rfl ?_)))
      go_ret
      exact ⟨rfl, hS.pick⟩
  by_cases h4 : op = 4
  · subst h4
    have HC := Lib.hid (fun (W : World) (gq : Nat) (M : List Ent) (hS : St S w0 W (ledg g D :: .row gq [.pointer (some ⟨g, 0, none⟩)] 71 (0, 0) :: M)) => found4 hS HD.out body hl)
    have e : D.doIt 4 body = (if (takeS gID 8 body).2 = false then [1] else [0] ++ (takeS gID 8 body).1.flatMap D.find4, D) := by unfold Led.doIt; rw [if_neg (by omega), if_neg (by omega), if_pos rfl]; split <;> rfl
    rw [e]
    clear e
    simp only
    generalize (if (takeS gID 8 body).2 = false then [1] else [0] ++ (takeS gID 8 body).1.flatMap D.find4) = z at HC ⊢
    (go_enter Tryz.func65, Tryz.ntmps65)
    go_wp2_with (first | (go_at_call 102; refine (HC.out _ gb M hS.pick).mono ?_; clear hS; rintro e w' ⟨rfl, hS⟩) | (first | refine au1 (n := ?_) | (refine au2 (n := ?_); clear hS; intro w' hS) | (refine au3 (n := ?_); clear hS; intro gb w1 hS) | (refine au4 (n := ?_); clear hS; intro v1 w' hS) | ((with_reducible refine wl_guard ?_); refine stop_mem rfl rfl ?_)))
    go_ret
    exact ⟨rfl, hS.pick⟩
  by_cases h5 : op = 5
  · subst h5
    have HC := Lib.hid (fun (W : World) (gq : Nat) (M : List Ent) (hS : St S w0 W (ledg g D :: .row gq [.pointer (some ⟨g, 0, none⟩)] 71 (0, 0) :: M)) => found5 hS HD.out body hl)
    have e : D.doIt 5 body = (if (takeS gID 8 body).2 = false then [1] else [0] ++ (takeS gID 8 body).1.flatMap D.find5, D) := by unfold Led.doIt; rw [if_neg (by omega), if_neg (by omega), if_neg (by omega), if_pos rfl]; split <;> rfl
    rw [e]
    clear e
    simp only
    generalize (if (takeS gID 8 body).2 = false then [1] else [0] ++ (takeS gID 8 body).1.flatMap D.find5) = z at HC ⊢
    (go_enter Tryz.func65, Tryz.ntmps65)
    go_wp2_with (first | (go_at_call 102; refine (HC.out _ gb M hS.pick).mono ?_; clear hS; rintro e w' ⟨rfl, hS⟩) | (first | refine au1 (n := ?_) | (refine au2 (n := ?_); clear hS; intro w' hS) | (refine au3 (n := ?_); clear hS; intro gb w1 hS) | (refine au4 (n := ?_); clear hS; intro v1 w' hS) | ((with_reducible refine wl_guard ?_); refine stop_mem rfl rfl ?_)))
    go_ret
    exact ⟨rfl, hS.pick⟩
  · have e : D.doIt op body = ([1], D) := by unfold Led.doIt; rw [if_neg h2, if_neg h3, if_neg h4, if_neg h5]
    rw [e]
    clear e
    (go_enter Tryz.func65, Tryz.ntmps65)
    go_wp2_with (first | refine au1 (n := ?_) | (refine au2 (n := ?_); clear hS; intro w' hS) | (refine au3 (n := ?_); clear hS; intro gb w1 hS) | (refine au4 (n := ?_); clear hS; intro v1 w' hS) | ((with_reducible refine wl_guard ?_); refine stop_mem rfl rfl ?_))
    go_ret
    exact ⟨rfl, hS.pick⟩
end
end Go.Proofs.YtjjiibcnknljfaaGreat
