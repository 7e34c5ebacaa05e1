/-
  The disk's short functions.
  The disk's reads, writes, flushes.
  The disk's flushes.
-/
import Derived.Test.YtnjboimjlbgdiaaDiskP
import Derived.Test.YtnjboimjlbgdiaaChecked
set_option linter.unusedSimpArgs false
set_option linter.unusedVariables false
set_option linter.unusedSectionVars false
set_option maxRecDepth 100000
namespace Go.Proofs.Ytnjboimjlbgdiaa
open Go.RowKit Go.Cmp

/-- The program's disk. -/
def disk (g : Nat) (D : Dsk) : Ent := pack (fun _ : Value × Value × Value => True) fun x =>
  [.row g [x.1, x.2.1, x.2.2, .bool D.off, .int .i64 D.fuse, .int .i64 D.steps] 94 (0, 0),
   .vec x.1 9 1 D.lasts.length (D.lasts.flatMap str), .vec x.2.1 4 1 D.mark.length (D.mark.flatMap bl), .vec x.2.2 98 2 D.way.length (D.way.flatMap Wr.cells)]

section
variable {S : List Nat} {w0 w : World} {M : List Ent} {g : Nat} {D : Dsk}

theorem disk_is (hS : St S w0 w (disk g D :: M)) (i : Int) : Calls Try.prog 51 #[.pointer (some ⟨g, 0, none⟩), .int .i64 i] w fun e w' => e = .returned (.bool (D.is i)) ∧ w' = w := by
  (have hU := St.unpack hS; clear hS; obtain ⟨⟨vl, vm, vw⟩, _, hS⟩ := hU; simp only [List.cons_append, List.nil_append] at hS)
  (go_enter Try.func51, Try.ntmps51)
  go_wp2_with (first | refine au1 (n := ?_) | (refine au2 (n := ?_); clear hS; intro w' hS) | (refine au3 (n := ?_); clear hS; intro gb w1 hS) | (refine au4 (n := ?_); clear hS; intro v1 w' hS) | ((with_reducible refine wl_guard ?_); refine stop_mem rfl rfl ?_))
  all_goals
    go_ret
    refine ⟨?_, rfl⟩
    simp_all [Dsk.is] <;> omega

theorem disk_on (hS : St S w0 w (disk g D :: M)) : Calls Try.prog 47 #[.pointer (some ⟨g, 0, none⟩)] w fun e w' => e = .returned (.bool (!D.off)) ∧ w' = w := by
  (have hU := St.unpack hS; clear hS; obtain ⟨⟨vl, vm, vw⟩, _, hS⟩ := hU; simp only [List.cons_append, List.nil_append] at hS)
  (go_enter Try.func47, Try.ntmps47)
  go_wp2_with (first | refine au1 (n := ?_) | (refine au2 (n := ?_); clear hS; intro w' hS) | (refine au3 (n := ?_); clear hS; intro gb w1 hS) | (refine au4 (n := ?_); clear hS; intro v1 w' hS) | ((with_reducible refine wl_guard ?_); refine stop_mem rfl rfl ?_))
  all_goals
    go_ret
    exact ⟨rfl, rfl⟩
theorem disk_steps (hS : St S w0 w (disk g D :: M)) : Calls Try.prog 22 #[.pointer (some ⟨g, 0, none⟩)] w fun e w' => e = .returned (.int .i64 D.steps) ∧ w' = w := by
  (have hU := St.unpack hS; clear hS; obtain ⟨⟨vl, vm, vw⟩, _, hS⟩ := hU; simp only [List.cons_append, List.nil_append] at hS)
  (go_enter Try.func22, Try.ntmps22)
  go_wp2_with (first | refine au1 (n := ?_) | (refine au2 (n := ?_); clear hS; intro w' hS) | (refine au3 (n := ?_); clear hS; intro gb w1 hS) | (refine au4 (n := ?_); clear hS; intro v1 w' hS) | ((with_reducible refine wl_guard ?_); refine stop_mem rfl rfl ?_))
  all_goals
    go_ret
    exact ⟨rfl, rfl⟩
theorem disk_step (hS : St S w0 w (disk g D :: M)) (hD : D.Ok) : Calls Try.prog 66 #[.pointer (some ⟨g, 0, none⟩)] w fun e w' => e = .returned (.bool D.step.1) ∧ St S w0 w' (disk g D.step.2 :: M) := by
  have h1 := hD.fuse0
  have h2 := hD.fuse1
  have h3 := hD.steps0
  have h4 := hD.steps1
  clear hD
  (have hU := St.unpack hS; clear hS; obtain ⟨⟨vl, vm, vw⟩, _, hS⟩ := hU; simp only [List.cons_append, List.nil_append] at hS)
  (go_enter Try.func66, Try.ntmps66)
  go_wp2_with (first | refine au1 (n := ?_) | (refine au2 (n := ?_); clear hS; intro w' hS) | (refine au3 (n := ?_); clear hS; intro gb w1 hS) | (refine au4 (n := ?_); clear hS; intro v1 w' hS) | ((with_reducible refine wl_guard ?_); refine stop_mem rfl rfl ?_))
  all_goals
    go_ret
    refine ⟨?_, St.pack (vl, vm, vw) trivial (St.cast hS ?_)⟩
    · simp_all [Dsk.step]
    · simp_all [Dsk.step]
      try omega
theorem disk_fuse (hS : St S w0 w (disk g D :: M)) (n : Int) (hn : -9223372036854775808 ≤ n) (hn2 : n ≤ 9223372036854775807) : Calls Try.prog 21 #[.pointer (some ⟨g, 0, none⟩), .int .i64 n] w fun e w' => e = .returned (.int .i64 (D.setFuse n).1) ∧ St S w0 w' (disk g (D.setFuse n).2 :: M) := by
  (have hU := St.unpack hS; clear hS; obtain ⟨⟨vl, vm, vw⟩, _, hS⟩ := hU; simp only [List.cons_append, List.nil_append] at hS)
  (go_enter Try.func21, Try.ntmps21)
  go_wp2_with (first | refine au1 (n := ?_) | (refine au2 (n := ?_); clear hS; intro w' hS) | (refine au3 (n := ?_); clear hS; intro gb w1 hS) | (refine au4 (n := ?_); clear hS; intro v1 w' hS) | ((with_reducible refine wl_guard ?_); refine stop_mem rfl rfl ?_))
  all_goals
    go_ret
    refine ⟨?_, St.pack (vl, vm, vw) trivial (St.cast hS ?_)⟩
    · simp_all [Dsk.setFuse]
    · simp_all [Dsk.setFuse]
      try omega
theorem disk_cut (hS : St S w0 w (disk g D :: M)) : Calls Try.prog 44 #[.pointer (some ⟨g, 0, none⟩)] w fun e w' => e = .returned (.int .i64 D.cut.1) ∧ St S w0 w' (disk g D.cut.2 :: M) := by
  (have hU := St.unpack hS; clear hS; obtain ⟨⟨vl, vm, vw⟩, _, hS⟩ := hU; simp only [List.cons_append, List.nil_append] at hS)
  (go_enter Try.func44, Try.ntmps44)
  go_wp2_with (first | refine au1 (n := ?_) | (refine au2 (n := ?_); clear hS; intro w' hS) | (refine au3 (n := ?_); clear hS; intro gb w1 hS) | (refine au4 (n := ?_); clear hS; intro v1 w' hS) | ((with_reducible refine wl_guard ?_); refine stop_mem rfl rfl ?_))
  all_goals
    go_ret
    refine ⟨?_, St.pack (vl, vm, vw) trivial (St.cast hS ?_)⟩
    · simp_all [Dsk.cut]
    · simp_all [Dsk.cut]
end
end Go.Proofs.Ytnjboimjlbgdiaa
namespace Go.Proofs.Ytnjboimjlbgdiaa
open Go.RowKit Go.Cmp

section
variable {S : List Nat} {w0 w : World} {M : List Ent} {g : Nat} {D : Dsk}

theorem under_take (i : Int) : ∀ (l : List Wr) (k : Nat), (∀ j, k ≤ j → ∀ x, l[j]? = some x → x.sector ≠ i) → Dsk.under i l = Dsk.under i (l.take k)
  | [], k, _ => by simp
  | x :: l, 0, h => by
    have h1 := under_take i l 0 (fun j _ y hy => h (j + 1) (by omega) y (by simpa using hy))
    have h2 := h 0 (by omega) x rfl
    simp only [List.take_zero, Dsk.under] at h1 ⊢
    rw [h1]
    simp [h2]
  | x :: l, k + 1, h => by
    rw [List.take_succ_cons, Dsk.under, Dsk.under, under_take i l k (fun j hj y hy => h (j + 1) (by omega) y (by simpa using hy))]
theorem under_hit (i : Int) : ∀ (l : List Wr) (k : Nat) (x : Wr), l[k]? = some x → x.sector = i → (∀ j, k < j → ∀ x, l[j]? = some x → x.sector ≠ i) → Dsk.under i l = some x.text
  | [], k, x, h, _, _ => by simp at h
  | y :: l, 0, x, h, e, hn => by
    have h1 : Dsk.under i l = Dsk.under i (l.take 0) := under_take i l 0 (fun j _ z hz => hn (j + 1) (by omega) z (by simpa using hz))
    simp only [List.getElem?_cons_zero, Option.some.injEq] at h
    subst h
    simp only [List.take_zero, Dsk.under] at h1 ⊢
    rw [h1]
    simp [e]
  | y :: l, k + 1, x, h, e, hn => by
    rw [Dsk.under, under_hit i l k x (by simpa using h) e (fun j hj z hz => hn (j + 1) (by omega) z (by simpa using hz))]

theorem disk_read (hS : St S w0 w (disk g D :: M)) (hD : D.Ok) (i : Int) : Calls Try.prog 26 #[.pointer (some ⟨g, 0, none⟩), .int .i64 i] w fun e w' => e = .returned (.tuple #[.string ⟨(D.read i).1.toArray⟩, .int .i64 (D.read i).2]) ∧ St S w0 w' (disk g D :: M) := by
  have h0 := hS
  have hw := hD.ways
  clear hD
  (have hU := St.unpack hS; clear hS; obtain ⟨⟨vl, vm, vw⟩, _, hS⟩ := hU; simp only [List.cons_append, List.nil_append] at hS)
  by_cases hi : 0 ≤ i ∧ i < D.lasts.length
  · have hd : D.is i = true := by simp [Dsk.is, hi]
    have Hd := Lib.hid hd
    obtain ⟨h3, h4⟩ := hi
    clear hd
    by_cases hoff : D.off = true
    · have hr : D.read i = ([], 6) := by simp [Dsk.read, Hd.out, hoff]
      rw [hr]
      clear hr
      (go_enter Try.func26, Try.ntmps26)
      go_wp2_with (first | ((with_reducible refine (disk_is h0 i).mono ?_); rw [Hd.out]; rintro e w' ⟨rfl, rfl⟩) | (first | refine au1 (n := ?_) | (refine au2 (n := ?_); clear hS; intro w' hS) | (refine au3 (n := ?_); clear hS; intro gb w1 hS) | (refine au4 (n := ?_); clear hS; intro v1 w' hS) | ((with_reducible refine wl_guard ?_); refine stop_mem rfl rfl ?_)))
      go_ret2
      exact ⟨rfl, h0⟩
    · have hoff : D.off = false := by simpa using hoff
      have Hr : Hid (D.read i = ((Dsk.under i D.way).getD (nth D.lasts i.toNat), 0)) := Lib.hid (by simp [Dsk.read, Hd.out, hoff])
      (go_enter Try.func26, Try.ntmps26)
      go_wp2_with (first | ((with_reducible refine (disk_is h0 i).mono ?_); rw [Hd.out]; rintro e w' ⟨rfl, rfl⟩) | (first | refine au1 (n := ?_) | (refine au2 (n := ?_); clear hS; intro w' hS) | (refine au3 (n := ?_); clear hS; intro gb w1 hS) | (refine au4 (n := ?_); clear hS; intro v1 w' hS) | ((with_reducible refine wl_guard ?_); refine stop_mem rfl rfl ?_)))
      go_loop [6] (fun k => ∃ j : Nat, j ≤ D.way.length ∧ k = .int .i64 ((j : Int) - 1) ∧ Hid (∀ m, j ≤ m → ∀ x, D.way[m]? = some x → x.sector ≠ i)) (fun k => (intOf k + 1).toNat)
      case atStart => exact ⟨D.way.length, Nat.le_refl _, rfl, Lib.hid (fun m hm x hx => by have := (List.getElem?_eq_some_iff.1 hx).1; omega)⟩
      case round =>
        obtain ⟨j, hj, rfl, Hj⟩ := hrel
        by_cases hlt : 1 ≤ j
        · obtain ⟨k, rfl⟩ : ∃ k, j = k + 1 := ⟨j - 1, by omega⟩
          have e1 : (((k + 1 : Nat) : Int) - 1) = (k : Int) := by omega
          rw [e1]
          have hk : (k : Int) < D.way.length := by omega
          clear e1
          go_wp2_with (first | refine au1 (n := ?_) | (refine au2 (n := ?_); clear hS; intro w' hS) | (refine au3 (n := ?_); clear hS; intro gb w1 hS) | (refine au4 (n := ?_); clear hS; intro v1 w' hS) | ((with_reducible refine wl_guard ?_); refine stop_mem rfl rfl ?_))
          · have hx : (nth D.way k).sector = i := by simp_all
            have hu := under_hit i D.way k _ (get_lt (by omega)) hx (fun m hm => Hj.out m hm)
            go_ret2
            rw [Hr.out, hu]
            exact ⟨rfl, h0⟩
          · have hx : (nth D.way k).sector ≠ i := by simp_all
            go_round
            case rel =>
              refine ⟨k, by omega, rfl, Lib.hid (fun m hm x hxm => ?_)⟩
              rcases Nat.eq_or_lt_of_le hm with rfl | hm
              · rw [get_lt (by omega)] at hxm
                simp only [Option.some.injEq] at hxm
                rw [← hxm]
                exact hx
              · exact Hj.out m hm x hxm
            case measure => simp [intOf]
        · obtain rfl : j = 0 := by omega
          have hu : Dsk.under i D.way = none := by rw [under_take i D.way 0 Hj.out]; rfl
          have Hu := Lib.hid hu
          clear hu
          go_wp2_with (first | refine au1 (n := ?_) | (refine au2 (n := ?_); clear hS; intro w' hS) | (refine au3 (n := ?_); clear hS; intro gb w1 hS) | (refine au4 (n := ?_); clear hS; intro v1 w' hS) | ((with_reducible refine wl_guard ?_); refine stop_mem rfl rfl ?_))
          go_ret2
          rw [Hr.out, Hu.out]
          exact ⟨rfl, h0⟩
  · have hd : D.is i = false := by simp [Dsk.is]; omega
    have Hd := Lib.hid hd
    have hr : D.read i = ([], 1) := by simp [Dsk.read, hd]
    rw [hr]
    clear hd hr
    (go_enter Try.func26, Try.ntmps26)
    go_wp2_with (first | ((with_reducible refine (disk_is h0 i).mono ?_); rw [Hd.out]; rintro e w' ⟨rfl, rfl⟩) | (first | refine au1 (n := ?_) | (refine au2 (n := ?_); clear hS; intro w' hS) | (refine au3 (n := ?_); clear hS; intro gb w1 hS) | (refine au4 (n := ?_); clear hS; intro v1 w' hS) | ((with_reducible refine wl_guard ?_); refine stop_mem rfl rfl ?_)))
    go_ret2
    exact ⟨rfl, h0⟩

theorem step_off {D : Dsk} (h : D.off = false) : D.step.2.off = !D.step.1 := by unfold Dsk.step; split <;> simp [h]
theorem step_way (D : Dsk) : D.step.2.way = D.way ∧ D.step.2.lasts = D.lasts ∧ D.step.2.mark = D.mark := by unfold Dsk.step; split <;> simp

set_option maxHeartbeats 400000 in
theorem disk_write (hS : St S w0 w (disk g D :: M)) (hD : D.Ok) (i : Int) (t : List UInt8) :
    Calls Try.prog 49 #[.pointer (some ⟨g, 0, none⟩), .int .i64 i, .string ⟨t.toArray⟩] w fun e w' => e = .returned (.int .i64 (D.write i t).1) ∧ St S w0 w' (disk g (D.write i t).2 :: M) := by
  have h0 := hS
  have hw := hD.ways
  have HD := Lib.hid hD
  clear hD
  (have hU := St.unpack hS; clear hS; obtain ⟨⟨vl, vm, vw⟩, _, hS⟩ := hU; simp only [List.cons_append, List.nil_append] at hS)
  (go_enter Try.func49, Try.ntmps49)
  have hw2 : D.step.2.way.length ≤ 1000000 := by rw [(step_way D).1]; exact hw
  go_wp2_with (first | ((with_reducible refine (disk_is h0 i).mono ?_); rintro e w' ⟨rfl, rfl⟩) | ((with_reducible refine (disk_step h0 HD.out).mono ?_); rintro e w' ⟨rfl, h1⟩; clear hS; have hS := h1; (have hU := St.unpack hS; clear hS; obtain ⟨⟨vl, vm, vw⟩, _, hS⟩ := hU; simp only [List.cons_append, List.nil_append] at hS)) | ((with_reducible refine g_append ?_); refine wl_of rfl ?_; refine k_app (z := (⟨i, t⟩ : Wr)) hS rfl rfl rfl rfl (h1 := by simp [Wr.cells, Value.oneCell']) (h := ?_); clear hS; intro v2 w' hS hv2) | (first | refine au1 (n := ?_) | (refine au2 (n := ?_); clear hS; intro w' hS) | (refine au3 (n := ?_); clear hS; intro gb w1 hS) | (refine au4 (n := ?_); clear hS; intro v1 w' hS) | ((with_reducible refine wl_guard ?_); refine stop_mem rfl rfl ?_)))
  all_goals (try go_ret)
  · exact ⟨by simp_all [Dsk.write], St.cast h0 (by simp_all [Dsk.write])⟩
  · exact ⟨by simp_all [Dsk.write], St.cast h0 (by simp_all [Dsk.write])⟩
  · exact ⟨by simp_all [Dsk.write], St.cast h1 (by simp_all [Dsk.write])⟩
  · have e : D.write i t = (0, { D.step.2 with way := D.step.2.way ++ [⟨i, t⟩] }) := by have := (step_way D).1; simp_all [Dsk.write]
    rw [e]
    refine ⟨rfl, ?_⟩
    exact St.packs (vl, vm, v2) hS
  · exact ⟨by simp_all [Dsk.write], St.cast h0 (by simp_all [Dsk.write])⟩
end
end Go.Proofs.Ytnjboimjlbgdiaa
namespace Go.Proofs.Ytnjboimjlbgdiaa
open Go.RowKit Go.Cmp

section
variable {S : List Nat} {w0 w : World} {M : List Ent} {g : Nat} {D : Dsk}

theorem puts_take {D : Dsk} {l : List Wr} {j : Nat} (h : j < l.length) : D.puts (l.take (j + 1)) = (D.puts (l.take j)).put (nth l j) := by
  rw [List.take_succ_eq_append_getElem h, Dsk.puts, List.foldl_append]
  have : nth l j = l[j] := nth_eq (List.getElem?_eq_getElem h)
  rw [this]
  rfl
theorem puts_len {D : Dsk} : ∀ {l : List Wr}, (D.puts l).lasts.length = D.lasts.length ∧ (D.puts l).mark.length = D.mark.length ∧ (D.puts l).way = D.way ∧ (D.puts l).off = D.off ∧ (D.puts l).fuse = D.fuse ∧ (D.puts l).steps = D.steps := by
  intro l
  induction l generalizing D with
  | nil => exact ⟨rfl, rfl, rfl, rfl, rfl, rfl⟩
  | cons x l ih =>
    have := @ih (D.put x)
    simp only [Dsk.puts, List.foldl_cons] at this ⊢
    simpa [Dsk.put] using this

set_option maxHeartbeats 4000000 in
theorem disk_flush (hS : St S w0 w (disk g D :: M)) (hD : D.Ok) : Calls Try.prog 50 #[.pointer (some ⟨g, 0, none⟩)] w fun e w' => e = .returned (.int .i64 D.flush.1) ∧ St S w0 w' (disk g D.flush.2 :: M) := by
  have h0 := hS
  have HD := Lib.hid hD
  clear hD
  obtain ⟨E, hE⟩ : ∃ E, D.step.2 = E := ⟨_, rfl⟩
  have hw : E.way = D.way ∧ E.lasts.length = D.lasts.length ∧ E.mark.length = D.mark.length := by rw [← hE]; simp [step_way]
  have hlm := HD.out.len
  have hwl : E.way.length ≤ 1000000 := by rw [hw.1]; exact HD.out.ways
  have Hw := Lib.hid hw
  have HE := Lib.hid hE
  clear hE hw hlm
  (have hU := St.unpack hS; clear hS; obtain ⟨⟨vl, vm, vw⟩, _, hS⟩ := hU; simp only [List.cons_append, List.nil_append] at hS)
  (go_enter Try.func50, Try.ntmps50)
  go_wp2_with (first | ((with_reducible refine (disk_step h0 HD.out).mono ?_); rintro e w' ⟨rfl, h1⟩; clear hS; have hS := h1; rw [HE.out] at hS; (have hU := St.unpack hS; clear hS; obtain ⟨⟨vl, vm, vw⟩, _, hS⟩ := hU; simp only [List.cons_append, List.nil_append] at hS)) | (first | refine au1 (n := ?_) | (refine au2 (n := ?_); clear hS; intro w' hS) | (refine au3 (n := ?_); clear hS; intro gb w1 hS) | (refine au4 (n := ?_); clear hS; intro v1 w' hS) | ((with_reducible refine wl_guard ?_); refine stop_mem rfl rfl ?_)))
  · go_ret
    exact ⟨by simp_all [Dsk.flush], St.cast h0 (by simp_all [Dsk.flush])⟩
  · go_ret
    exact ⟨by simp_all [Dsk.flush], St.cast h1 (by simp_all [Dsk.flush])⟩
  · have e : D.flush = (0, { E.puts E.way with way := [] }) := by have h1 := Hw.out.1; have h2 := HE.out; simp_all [Dsk.flush]
    have He := Lib.hid e
    clear e
    clear h0 h1
    go_loopw [23] (fun i wr => ∃ j : Nat, j ≤ E.way.length ∧ i = .int .i64 j ∧ St S w0 wr (.row g [vl, vm, vw, .bool E.off, .int .i64 E.fuse, .int .i64 E.steps] 94 (0, 0) :: .vec vl 9 1 (E.puts (E.way.take j)).lasts.length ((E.puts (E.way.take j)).lasts.flatMap str) :: .vec vm 4 1 (E.puts (E.way.take j)).mark.length ((E.puts (E.way.take j)).mark.flatMap bl) :: .vec vw 98 2 E.way.length (E.way.flatMap Wr.cells) :: M)) (fun i _ => E.way.length - (intOf i).toNat)
    case atStart => exact ⟨0, Nat.zero_le _, rfl, hS⟩
    case round =>
      clear hS
      obtain ⟨j, hj, rfl, hS⟩ := hrel
      obtain ⟨F, hF⟩ : ∃ F, E.puts (E.way.take j) = F := ⟨_, rfl⟩
      rw [hF] at hS
      have HF := Lib.hid hF
      clear hF
      by_cases hlt : j < E.way.length
      · have hok := HD.out.way (nth E.way j) (by rw [Hw.out.1] at hlt ⊢; exact nth_mem hlt)
        obtain ⟨x, hx⟩ : ∃ x, nth E.way j = x := ⟨_, rfl⟩
        have hxx : E.way[j]? = some x := by rw [get_lt hlt, hx]
        rw [hx] at hok
        obtain ⟨k1, k2, k3⟩ := hok
        have k4 : x.sector < F.lasts.length := by rw [← HF.out, puts_len.1, Hw.out.2.1]; exact k2
        have k5 : x.sector < F.mark.length := by rw [← HF.out, puts_len.2.1, Hw.out.2.2, HD.out.len]; exact k2
        have Hx := Lib.hid hx
        have Hxx := Lib.hid hxx
        clear hx k2 k3 hxx
        go_wp2_with (first | ((with_reducible refine g_load ?_); have hy9 := Hxx.out; refine k_readx hy9 rfl (h := ?_); clear hy9) | (first | refine au1 (n := ?_) | (refine au2 (n := ?_); clear hS; intro w' hS) | (refine au3 (n := ?_); clear hS; intro gb w1 hS) | (refine au4 (n := ?_); clear hS; intro v1 w' hS) | ((with_reducible refine wl_guard ?_); refine stop_mem rfl rfl ?_)))
        (refine wp_region_tail 9 (by kernel_rfl) (by kernel_rfl) hS ?_; clear hS; intro w' hS; simp only [List.take_succ_cons, List.take_zero, List.drop_succ_cons, List.drop_zero]; ((repeat (first | ((with_reducible refine s_load ?_); refine z_read rfl (h := ?_); simp only [Act.put, List.setIfInBounds_toArray, List.set_cons_zero, List.set_cons_succ]) | ((with_reducible refine s_index ?_); refine z_idx rfl (h := ?_); simp only [Act.put, List.setIfInBounds_toArray, List.set_cons_zero, List.set_cons_succ]) | ((with_reducible refine s_field ?_); refine z_fld rfl (h := ?_); simp only [Act.put, List.setIfInBounds_toArray, List.set_cons_zero, List.set_cons_succ]) | ((with_reducible refine s_len ?_); refine z_len rfl (h := ?_); simp only [Act.put, List.setIfInBounds_toArray, List.set_cons_zero, List.set_cons_succ]) | ((with_reducible refine s_cut ?_); refine z_str rfl (h := ?_); simp only [Act.put, List.setIfInBounds_toArray, List.set_cons_zero, List.set_cons_succ]) | ((with_reducible refine s_indexV ?_); refine z_six rfl (h := ?_); simp only [Act.put, List.setIfInBounds_toArray, List.set_cons_zero, List.set_cons_succ]) | ((with_reducible refine s_bin ?_); refine z_cat rfl (h := ?_); simp only [Act.put, List.setIfInBounds_toArray, List.set_cons_zero, List.set_cons_succ]) | ((with_reducible refine s_conv ?_); refine z_tos rfl (h := ?_); simp only [Act.put, List.setIfInBounds_toArray, List.set_cons_zero, List.set_cons_succ]) | still_step)); refine wpStill_nil ?_))
        go_wp2_with (first | refine au1 (n := ?_) | (refine au2 (n := ?_); clear hS; intro w' hS) | (refine au3 (n := ?_); clear hS; intro gb w1 hS) | (refine au4 (n := ?_); clear hS; intro v1 w' hS) | ((with_reducible refine wl_guard ?_); refine stop_mem rfl rfl ?_))
        (refine wp_region_tail 7 (by kernel_rfl) (by kernel_rfl) hS ?_; clear hS; intro w' hS; simp only [List.take_succ_cons, List.take_zero, List.drop_succ_cons, List.drop_zero]; ((repeat (first | ((with_reducible refine s_load ?_); refine z_read rfl (h := ?_); simp only [Act.put, List.setIfInBounds_toArray, List.set_cons_zero, List.set_cons_succ]) | ((with_reducible refine s_index ?_); refine z_idx rfl (h := ?_); simp only [Act.put, List.setIfInBounds_toArray, List.set_cons_zero, List.set_cons_succ]) | ((with_reducible refine s_field ?_); refine z_fld rfl (h := ?_); simp only [Act.put, List.setIfInBounds_toArray, List.set_cons_zero, List.set_cons_succ]) | ((with_reducible refine s_len ?_); refine z_len rfl (h := ?_); simp only [Act.put, List.setIfInBounds_toArray, List.set_cons_zero, List.set_cons_succ]) | ((with_reducible refine s_cut ?_); refine z_str rfl (h := ?_); simp only [Act.put, List.setIfInBounds_toArray, List.set_cons_zero, List.set_cons_succ]) | ((with_reducible refine s_indexV ?_); refine z_six rfl (h := ?_); simp only [Act.put, List.setIfInBounds_toArray, List.set_cons_zero, List.set_cons_succ]) | ((with_reducible refine s_bin ?_); refine z_cat rfl (h := ?_); simp only [Act.put, List.setIfInBounds_toArray, List.set_cons_zero, List.set_cons_succ]) | ((with_reducible refine s_conv ?_); refine z_tos rfl (h := ?_); simp only [Act.put, List.setIfInBounds_toArray, List.set_cons_zero, List.set_cons_succ]) | still_step)); refine wpStill_nil ?_))
        go_wp2_with (first | refine au1 (n := ?_) | (refine au2 (n := ?_); clear hS; intro w' hS) | (refine au3 (n := ?_); clear hS; intro gb w1 hS) | (refine au4 (n := ?_); clear hS; intro v1 w' hS) | ((with_reducible refine wl_guard ?_); refine stop_mem rfl rfl ?_))
        go_round
        case rel =>
          refine ⟨j + 1, by omega, by go_num, ?_⟩
          have e : E.puts (E.way.take (j + 1)) = F.put x := by rw [puts_take hlt, HF.out, Hx.out]
          rw [e]
          exact hS.tail
        case measure => simp [intOf]; omega
      · obtain rfl : j = E.way.length := by omega
        go_wp2_with (first | refine au1 (n := ?_) | (refine au2 (n := ?_); clear hS; intro w' hS) | (refine au3 (n := ?_); clear hS; intro gb w1 hS) | (refine au4 (n := ?_); clear hS; intro v1 w' hS) | ((with_reducible refine wl_guard ?_); refine stop_mem rfl rfl ?_))
        go_ret
        have e : F = E.puts E.way := by rw [← HF.out, List.take_length]
        subst e
        rw [He.out]
        refine ⟨rfl, ?_⟩
        have := @puts_len E E.way
        have hS := hS.addNil 98 2
        obtain ⟨t1, t2, t3, t4, t5, t6⟩ := this
        rw [← t4, ← t5, ← t6] at hS
        exact St.packs (vl, vm, .slice none 0 0) hS



end
end Go.Proofs.Ytnjboimjlbgdiaa
