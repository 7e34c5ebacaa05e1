/-
  The disk's reads, writes, flushes.
-/
import Derived.Test.YtbfdnpahojoccaaDisk1
set_option linter.unusedSimpArgs false
set_option linter.unusedVariables false
set_option linter.unusedSectionVars false
set_option maxRecDepth 100000
namespace Go.Proofs.Ytbfdnpahojoccaa
open Go.RowKit Go.Cmp

section
variable {S : List Nat} {w0 w : World} {M : List Ent} {g : Nat} {D : Dsk}

theorem under_take (i : Int) : ∀ (l : List Wr) (k : Nat), (∀ j, k ≤ j → ∀ x, l[j]? = some x → x.sector ≠ i) → Dsk.under i l = Dsk.under i (l.take k)
  | [], k, _ => by simp
  | x :: l, 0, h => by
    have h1 := under_take i l 0 (fun j _ y hy => h (j + 1) (by omega) y (by simpa using hy))
    have h2 := h 0 (by omega) x rfl
    simp only [List.take_zero, Dsk.under] at h1 ⊢
    rw [h1]
    simp [h2]
  | x :: l, k + 1, h => by
    rw [List.take_succ_cons, Dsk.under, Dsk.under, under_take i l k (fun j hj y hy => h (j + 1) (by omega) y (by simpa using hy))]
theorem under_hit (i : Int) : ∀ (l : List Wr) (k : Nat) (x : Wr), l[k]? = some x → x.sector = i → (∀ j, k < j → ∀ x, l[j]? = some x → x.sector ≠ i) → Dsk.under i l = some x.text
  | [], k, x, h, _, _ => by simp at h
  | y :: l, 0, x, h, e, hn => by
    have h1 : Dsk.under i l = Dsk.under i (l.take 0) := under_take i l 0 (fun j _ z hz => hn (j + 1) (by omega) z (by simpa using hz))
    simp only [List.getElem?_cons_zero, Option.some.injEq] at h
    subst h
    simp only [List.take_zero, Dsk.under] at h1 ⊢
    rw [h1]
    simp [e]
  | y :: l, k + 1, x, h, e, hn => by
    rw [Dsk.under, under_hit i l k x (by simpa using h) e (fun j hj z hz => hn (j + 1) (by omega) z (by simpa using hz))]

theorem disk_read (hS : St S w0 w (disk g D :: M)) (hD : D.Ok) (i : Int) : Calls Try.prog 33 #[.pointer (some ⟨g, 0, none⟩), .int .i64 i] w fun e w' => e = .returned (.tuple #[.string ⟨(D.read i).1.toArray⟩, .int .i64 (D.read i).2]) ∧ St S w0 w' (disk g D :: M) := by
  have h0 := hS
  have hw := hD.ways
  clear hD
  (have hU := St.unpack hS; clear hS; obtain ⟨⟨vl, vm, vw⟩, _, hS⟩ := hU; simp only [List.cons_append, List.nil_append] at hS)
  by_cases hi : 0 ≤ i ∧ i < D.lasts.length
  · have hd : D.is i = true := by simp [Dsk.is, hi]
    have Hd := Lib.hid hd
    obtain ⟨h3, h4⟩ := hi
    clear hd
    by_cases hoff : D.off = true
    · have hr : D.read i = ([], 6) := by simp [Dsk.read, Hd.out, hoff]
      rw [hr]
      clear hr
      (go_enter Try.func33, Try.ntmps33)
      go_wp2_with (first | ((with_reducible refine (disk_is h0 i).mono ?_); rw [Hd.out]; rintro e w' ⟨rfl, rfl⟩) | (first | refine au1 (n := ?_) | (refine au2 (n := ?_); clear hS; intro w' hS) | (refine au3 (n := ?_); clear hS; intro gb w1 hS) | (refine au4 (n := ?_); clear hS; intro v1 w' hS) | ((with_reducible refine wl_guard ?_); refine stop_mem rfl rfl ?_)))
      go_ret2
      exact ⟨rfl, h0⟩
    · have hoff : D.off = false := by simpa using hoff
      have Hr : Hid (D.read i = ((Dsk.under i D.way).getD (nth D.lasts i.toNat), 0)) := Lib.hid (by simp [Dsk.read, Hd.out, hoff])
      (go_enter Try.func33, Try.ntmps33)
      go_wp2_with (first | ((with_reducible refine (disk_is h0 i).mono ?_); rw [Hd.out]; rintro e w' ⟨rfl, rfl⟩) | (first | refine au1 (n := ?_) | (refine au2 (n := ?_); clear hS; intro w' hS) | (refine au3 (n := ?_); clear hS; intro gb w1 hS) | (refine au4 (n := ?_); clear hS; intro v1 w' hS) | ((with_reducible refine wl_guard ?_); refine stop_mem rfl rfl ?_)))
      go_loop [6] (fun k => ∃ j : Nat, j ≤ D.way.length ∧ k = .int .i64 ((j : Int) - 1) ∧ Hid (∀ m, j ≤ m → ∀ x, D.way[m]? = some x → x.sector ≠ i)) (fun k => (intOf k + 1).toNat)
      case atStart => exact ⟨D.way.length, Nat.le_refl _, rfl, Lib.hid (fun m hm x hx => by have := (List.getElem?_eq_some_iff.1 hx).1; omega)⟩
      case round =>
        obtain ⟨j, hj, rfl, Hj⟩ := hrel
        by_cases hlt : 1 ≤ j
        · obtain ⟨k, rfl⟩ : ∃ k, j = k + 1 := ⟨j - 1, by omega⟩
          have e1 : (((k + 1 : Nat) : Int) - 1) = (k : Int) := by omega
          rw [e1]
          have hk : (k : Int) < D.way.length := by omega
          clear e1
          go_wp2_with (first | refine au1 (n := ?_) | (refine au2 (n := ?_); clear hS; intro w' hS) | (refine au3 (n := ?_); clear hS; intro gb w1 hS) | (refine au4 (n := ?_); clear hS; intro v1 w' hS) | ((with_reducible refine wl_guard ?_); refine stop_mem rfl rfl ?_))
          · have hx : (nth D.way k).sector = i := by simp_all
            have hu := under_hit i D.way k _ (get_lt (by omega)) hx (fun m hm => Hj.out m hm)
            go_ret2
            rw [Hr.out, hu]
            exact ⟨rfl, h0⟩
          · have hx : (nth D.way k).sector ≠ i := by simp_all
            go_round
            case rel =>
              refine ⟨k, by omega, rfl, Lib.hid (fun m hm x hxm => ?_)⟩
              rcases Nat.eq_or_lt_of_le hm with rfl | hm
              · rw [get_lt (by omega)] at hxm
                simp only [Option.some.injEq] at hxm
                rw [← hxm]
                exact hx
              · exact Hj.out m hm x hxm
            case measure => simp [intOf]
        · obtain rfl : j = 0 := by omega
          have hu : Dsk.under i D.way = none := by rw [under_take i D.way 0 Hj.out]; rfl
          have Hu := Lib.hid hu
          clear hu
          go_wp2_with (first | refine au1 (n := ?_) | (refine au2 (n := ?_); clear hS; intro w' hS) | (refine au3 (n := ?_); clear hS; intro gb w1 hS) | (refine au4 (n := ?_); clear hS; intro v1 w' hS) | ((with_reducible refine wl_guard ?_); refine stop_mem rfl rfl ?_))
          go_ret2
          rw [Hr.out, Hu.out]
          exact ⟨rfl, h0⟩
  · have hd : D.is i = false := by simp [Dsk.is]; omega
    have Hd := Lib.hid hd
    have hr : D.read i = ([], 1) := by simp [Dsk.read, hd]
    rw [hr]
    clear hd hr
    (go_enter Try.func33, Try.ntmps33)
    go_wp2_with (first | ((with_reducible refine (disk_is h0 i).mono ?_); rw [Hd.out]; rintro e w' ⟨rfl, rfl⟩) | (first | refine au1 (n := ?_) | (refine au2 (n := ?_); clear hS; intro w' hS) | (refine au3 (n := ?_); clear hS; intro gb w1 hS) | (refine au4 (n := ?_); clear hS; intro v1 w' hS) | ((with_reducible refine wl_guard ?_); refine stop_mem rfl rfl ?_)))
    go_ret2
    exact ⟨rfl, h0⟩

theorem step_off {D : Dsk} (h : D.off = false) : D.step.2.off = !D.step.1 := by unfold Dsk.step; split <;> simp [h]
theorem step_way (D : Dsk) : D.step.2.way = D.way ∧ D.step.2.lasts = D.lasts ∧ D.step.2.mark = D.mark := by unfold Dsk.step; split <;> simp

set_option maxHeartbeats 400000 in
theorem disk_write (hS : St S w0 w (disk g D :: M)) (hD : D.Ok) (i : Int) (t : List UInt8) :
    Calls Try.prog 40 #[.pointer (some ⟨g, 0, none⟩), .int .i64 i, .string ⟨t.toArray⟩] w fun e w' => e = .returned (.int .i64 (D.write i t).1) ∧ St S w0 w' (disk g (D.write i t).2 :: M) := by
  have h0 := hS
  have hw := hD.ways
  have HD := Lib.hid hD
  clear hD
  (have hU := St.unpack hS; clear hS; obtain ⟨⟨vl, vm, vw⟩, _, hS⟩ := hU; simp only [List.cons_append, List.nil_append] at hS)
  (go_enter Try.func40, Try.ntmps40)
  have hw2 : D.step.2.way.length ≤ 1000000 := by rw [(step_way D).1]; exact hw
  go_wp2_with (first | ((with_reducible refine (disk_is h0 i).mono ?_); rintro e w' ⟨rfl, rfl⟩) | ((with_reducible refine (disk_step h0 HD.out).mono ?_); rintro e w' ⟨rfl, h1⟩; clear hS; have hS := h1; (have hU := St.unpack hS; clear hS; obtain ⟨⟨vl, vm, vw⟩, _, hS⟩ := hU; simp only [List.cons_append, List.nil_append] at hS)) | ((with_reducible refine g_append ?_); refine wl_of rfl ?_; refine k_app (z := (⟨i, t⟩ : Wr)) hS rfl rfl rfl rfl (h1 := by simp [Wr.cells, Value.oneCell']) (h := ?_); clear hS; intro v2 w' hS hv2) | (first | refine au1 (n := ?_) | (refine au2 (n := ?_); clear hS; intro w' hS) | (refine au3 (n := ?_); clear hS; intro gb w1 hS) | (refine au4 (n := ?_); clear hS; intro v1 w' hS) | ((with_reducible refine wl_guard ?_); refine stop_mem rfl rfl ?_)))
  all_goals (try go_ret)
  · exact ⟨by simp_all [Dsk.write], St.cast h0 (by simp_all [Dsk.write])⟩
  · exact ⟨by simp_all [Dsk.write], St.cast h0 (by simp_all [Dsk.write])⟩
  · exact ⟨by simp_all [Dsk.write], St.cast h1 (by simp_all [Dsk.write])⟩
  · have e : D.write i t = (0, { D.step.2 with way := D.step.2.way ++ [⟨i, t⟩] }) := by have := (step_way D).1; simp_all [Dsk.write]
    rw [e]
    refine ⟨rfl, ?_⟩
    exact St.packs (vl, vm, v2) hS
  · exact ⟨by simp_all [Dsk.write], St.cast h0 (by simp_all [Dsk.write])⟩
end
end Go.Proofs.Ytbfdnpahojoccaa
