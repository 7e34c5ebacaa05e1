/-
  The document's disk: its short functions.
-/
import Derived.Test.YtbfdnpahojoccaaRdAct3
set_option linter.unusedSimpArgs false
set_option linter.unusedVariables false
set_option linter.unusedSectionVars false
set_option maxRecDepth 100000
namespace Go.Proofs.Ytbfdnpahojoccaa
open Go.RowKit Go.Cmp

/-- The document's disk. -/
def rdisk (g : Nat) (D : Dsk) : Ent := pack (fun _ : Value × Value × Value => True) fun x =>
  [.row g [x.1, x.2.1, x.2.2, .bool D.off, .int .i64 D.fuse, .int .i64 D.steps] 65 (0, 0),
   .vec x.1 9 1 D.lasts.length (D.lasts.flatMap str), .vec x.2.1 4 1 D.mark.length (D.mark.flatMap bl), .vec x.2.2 95 2 D.way.length (D.way.flatMap Wr.cells)]

section
variable {S : List Nat} {w0 w : World} {M : List Ent} {g : Nat} {D : Dsk}

theorem rdisk_is (hS : St S w0 w (rdisk g D :: M)) (i : Int) : Calls Try.prog 56 #[.pointer (some ⟨g, 0, none⟩), .int .i64 i] w fun e w' => e = .returned (.bool (D.is i)) ∧ w' = w := by
  (have hU := St.unpack hS; clear hS; obtain ⟨⟨vl, vm, vw⟩, _, hS⟩ := hU; simp only [List.cons_append, List.nil_append] at hS)
  (go_enter Try.func56, Try.ntmps56)
  go_wp2_with (first | refine au1 (n := ?_) | (refine au2 (n := ?_); clear hS; intro w' hS) | (refine au3 (n := ?_); clear hS; intro gb w1 hS) | (refine au4 (n := ?_); clear hS; intro v1 w' hS) | ((with_reducible refine wl_guard ?_); refine stop_mem rfl rfl ?_))
  all_goals
    go_ret
    refine ⟨?_, rfl⟩
    simp_all [Dsk.is] <;> omega

def Dsk.goes (D : Dsk) : Bool × Dsk := if D.off = true then (false, D) else D.step
theorem rdisk_goes (hS : St S w0 w (rdisk g D :: M)) (hD : D.Ok) : Calls Try.prog 67 #[.pointer (some ⟨g, 0, none⟩)] w fun e w' => e = .returned (.bool (Dsk.goes D).1) ∧ St S w0 w' (rdisk g (Dsk.goes D).2 :: M) := by
  have h1 := hD.fuse0
  have h2 := hD.fuse1
  have h3 := hD.steps0
  have h4 := hD.steps1
  clear hD
  (have hU := St.unpack hS; clear hS; obtain ⟨⟨vl, vm, vw⟩, _, hS⟩ := hU; simp only [List.cons_append, List.nil_append] at hS)
  (go_enter Try.func67, Try.ntmps67)
  go_wp2_with (first | refine au1 (n := ?_) | (refine au2 (n := ?_); clear hS; intro w' hS) | (refine au3 (n := ?_); clear hS; intro gb w1 hS) | (refine au4 (n := ?_); clear hS; intro v1 w' hS) | ((with_reducible refine wl_guard ?_); refine stop_mem rfl rfl ?_))
  all_goals
    go_ret
    refine ⟨?_, St.pack (vl, vm, vw) trivial (St.cast hS ?_)⟩
    · simp_all [Dsk.goes, Dsk.step]
    · simp_all [Dsk.goes, Dsk.step]
      try omega
theorem rdisk_fuse (hS : St S w0 w (rdisk g D :: M)) (n : Int) (hn : -9223372036854775808 ≤ n) (hn2 : n ≤ 9223372036854775807) : Calls Try.prog 26 #[.pointer (some ⟨g, 0, none⟩), .int .i64 n] w fun e w' => e = .returned (.int .i64 (D.setFuse n).1) ∧ St S w0 w' (rdisk g (D.setFuse n).2 :: M) := by
  (have hU := St.unpack hS; clear hS; obtain ⟨⟨vl, vm, vw⟩, _, hS⟩ := hU; simp only [List.cons_append, List.nil_append] at hS)
  (go_enter Try.func26, Try.ntmps26)
  go_wp2_with (first | refine au1 (n := ?_) | (refine au2 (n := ?_); clear hS; intro w' hS) | (refine au3 (n := ?_); clear hS; intro gb w1 hS) | (refine au4 (n := ?_); clear hS; intro v1 w' hS) | ((with_reducible refine wl_guard ?_); refine stop_mem rfl rfl ?_))
  all_goals
    go_ret
    refine ⟨?_, St.pack (vl, vm, vw) trivial (St.cast hS ?_)⟩
    · simp_all [Dsk.setFuse]
    · simp_all [Dsk.setFuse]
      try omega
theorem rdisk_cut (hS : St S w0 w (rdisk g D :: M)) : Calls Try.prog 28 #[.pointer (some ⟨g, 0, none⟩)] w fun e w' => e = .returned (.int .i64 D.cut.1) ∧ St S w0 w' (rdisk g D.cut.2 :: M) := by
  (have hU := St.unpack hS; clear hS; obtain ⟨⟨vl, vm, vw⟩, _, hS⟩ := hU; simp only [List.cons_append, List.nil_append] at hS)
  (go_enter Try.func28, Try.ntmps28)
  go_wp2_with (first | refine au1 (n := ?_) | (refine au2 (n := ?_); clear hS; intro w' hS) | (refine au3 (n := ?_); clear hS; intro gb w1 hS) | (refine au4 (n := ?_); clear hS; intro v1 w' hS) | ((with_reducible refine wl_guard ?_); refine stop_mem rfl rfl ?_))
  all_goals
    go_ret
    refine ⟨?_, St.pack (vl, vm, vw) trivial (St.cast hS ?_)⟩
    · simp_all [Dsk.cut]
    · simp_all [Dsk.cut]

theorem under_snoc (i : Int) : ∀ (l : List Wr) (x : Wr), Dsk.under i (l ++ [x]) = if x.sector = i then some x.text else Dsk.under i l
  | [], x => by simp [Dsk.under]
  | y :: l, x => by
    rw [List.cons_append, Dsk.under, under_snoc i l x]
    by_cases h : x.sector = i
    · simp [h]
    · simp [h, Dsk.under]
theorem under_succ {i : Int} {l : List Wr} {j : Nat} (h : j < l.length) : Dsk.under i (l.take (j + 1)) = if (nth l j).sector = i then some (nth l j).text else Dsk.under i (l.take j) := by
  rw [take_nth h, under_snoc]

set_option maxHeartbeats 1000000 in
theorem rdisk_read (hS : St S w0 w (rdisk g D :: M)) (hD : D.Ok) (i : Int) : Calls Try.prog 34 #[.pointer (some ⟨g, 0, none⟩), .int .i64 i] w fun e w' => e = .returned (.tuple #[.string ⟨(D.read i).1.toArray⟩, .int .i64 (D.read i).2]) ∧ w' = w := by
  have h0 := hS
  have hw := hD.ways
  clear hD
  (have hU := St.unpack hS; clear hS; obtain ⟨⟨vl, vm, vw⟩, _, hS⟩ := hU; simp only [List.cons_append, List.nil_append] at hS)
  by_cases hi : 0 ≤ i ∧ i < D.lasts.length
  · have hd : D.is i = true := by simp [Dsk.is, hi]
    have Hd := Lib.hid hd
    obtain ⟨h3, h4⟩ := hi
    clear hd
    by_cases hoff : D.off = true
    · have hr : D.read i = ([], 6) := by simp [Dsk.read, Hd.out, hoff]
      rw [hr]
      clear hr
      (go_enter Try.func34, Try.ntmps34)
      go_wp2_with (first | ((with_reducible refine (rdisk_is h0 i).mono ?_); rw [Hd.out]; rintro e w' ⟨rfl, rfl⟩) | (first | refine au1 (n := ?_) | (refine au2 (n := ?_); clear hS; intro w' hS) | (refine au3 (n := ?_); clear hS; intro gb w1 hS) | (refine au4 (n := ?_); clear hS; intro v1 w' hS) | ((with_reducible refine wl_guard ?_); refine stop_mem rfl rfl ?_)))
      all_goals
        first
        | (exfalso; simp_all; done)
        | (go_ret2
           exact ⟨rfl, rfl⟩)
    · have hoff : D.off = false := by simpa using hoff
      have Hr : Hid (D.read i = ((Dsk.under i D.way).getD (nth D.lasts i.toNat), 0)) := Lib.hid (by simp [Dsk.read, Hd.out, hoff])
      (go_enter Try.func34, Try.ntmps34)
      go_wp2_with (first | ((with_reducible refine (rdisk_is h0 i).mono ?_); rw [Hd.out]; rintro e w' ⟨rfl, rfl⟩) | (first | refine au1 (n := ?_) | (refine au2 (n := ?_); clear hS; intro w' hS) | (refine au3 (n := ?_); clear hS; intro gb w1 hS) | (refine au4 (n := ?_); clear hS; intro v1 w' hS) | ((with_reducible refine wl_guard ?_); refine stop_mem rfl rfl ?_)))
      go_loop [6, 7] (fun s k => ∃ j : Nat, j ≤ D.way.length ∧ k = .int .i64 j ∧ s = .string ⟨((Dsk.under i (D.way.take j)).getD (nth D.lasts i.toNat)).toArray⟩) (fun _ k => D.way.length - (intOf k).toNat)
      case atStart => exact ⟨0, Nat.zero_le _, rfl, rfl⟩
      case round =>
        obtain ⟨j, hj, rfl, rfl⟩ := hrel
        by_cases hlt : j < D.way.length
        · have hu := Lib.hid (under_succ (i := i) hlt)
          go_wp2_with (first | refine au1 (n := ?_) | (refine au2 (n := ?_); clear hS; intro w' hS) | (refine au3 (n := ?_); clear hS; intro gb w1 hS) | (refine au4 (n := ?_); clear hS; intro v1 w' hS) | ((with_reducible refine wl_guard ?_); refine stop_mem rfl rfl ?_))
          · have hx : (nth D.way j).sector = i := by simp_all
            go_round
            case rel => exact ⟨j + 1, by omega, by go_num, by rw [hu.out, if_pos hx]; rfl⟩
            case measure => simp [intOf]; omega
          · have hx : (nth D.way j).sector ≠ i := by simp_all
            go_round
            case rel => exact ⟨j + 1, by omega, by go_num, by rw [hu.out, if_neg hx]⟩
            case measure => simp [intOf]; omega
        · obtain rfl : j = D.way.length := by omega
          go_wp2_with (first | refine au1 (n := ?_) | (refine au2 (n := ?_); clear hS; intro w' hS) | (refine au3 (n := ?_); clear hS; intro gb w1 hS) | (refine au4 (n := ?_); clear hS; intro v1 w' hS) | ((with_reducible refine wl_guard ?_); refine stop_mem rfl rfl ?_))
          go_ret2
          rw [Hr.out]
          exact ⟨rfl, rfl⟩
  · have hd : D.is i = false := by simp [Dsk.is]; omega
    have Hd := Lib.hid hd
    have hr : D.read i = ([], 1) := by simp [Dsk.read, hd]
    rw [hr]
    clear hd hr
    (go_enter Try.func34, Try.ntmps34)
    go_wp2_with (first | ((with_reducible refine (rdisk_is h0 i).mono ?_); rw [Hd.out]; rintro e w' ⟨rfl, rfl⟩) | (first | refine au1 (n := ?_) | (refine au2 (n := ?_); clear hS; intro w' hS) | (refine au3 (n := ?_); clear hS; intro gb w1 hS) | (refine au4 (n := ?_); clear hS; intro v1 w' hS) | ((with_reducible refine wl_guard ?_); refine stop_mem rfl rfl ?_)))
    go_ret2
    exact ⟨rfl, rfl⟩

set_option maxHeartbeats 1000000 in
theorem rdisk_write (hS : St S w0 w (rdisk g D :: M)) (hD : D.Ok) (i : Int) (t : List UInt8) :
    Calls Try.prog 52 #[.pointer (some ⟨g, 0, none⟩), .int .i64 i, .string ⟨t.toArray⟩] w fun e w' => e = .returned (.int .i64 (D.write i t).1) ∧ St S w0 w' (rdisk g (D.write i t).2 :: M) := by
  have h0 := hS
  have hw := hD.ways
  have HD := Lib.hid hD
  clear hD
  (have hU := St.unpack hS; clear hS; obtain ⟨⟨vl, vm, vw⟩, _, hS⟩ := hU; simp only [List.cons_append, List.nil_append] at hS)
  have hw2 : (Dsk.goes D).2.way.length ≤ 1000000 := by unfold Dsk.goes; split; exact hw; rw [(step_way D).1]; exact hw
  (go_enter Try.func52, Try.ntmps52)
  go_wp2_with (first | ((with_reducible refine (rdisk_is h0 i).mono ?_); rintro e w' ⟨rfl, rfl⟩) | ((with_reducible refine (rdisk_goes h0 HD.out).mono ?_); rintro e w' ⟨rfl, h1⟩; clear hS; have hS := h1; (have hU := St.unpack hS; clear hS; obtain ⟨⟨vl, vm, vw⟩, _, hS⟩ := hU; simp only [List.cons_append, List.nil_append] at hS)) | ((with_reducible refine g_append ?_); refine wl_of rfl ?_; refine k_app (z := (⟨i, t⟩ : Wr)) hS rfl rfl rfl rfl (h1 := by simp [Wr.cells, Value.oneCell']) (h := ?_); clear hS; intro v2 w' hS hv2) | (first | refine au1 (n := ?_) | (refine au2 (n := ?_); clear hS; intro w' hS) | (refine au3 (n := ?_); clear hS; intro gb w1 hS) | (refine au4 (n := ?_); clear hS; intro v1 w' hS) | ((with_reducible refine wl_guard ?_); refine stop_mem rfl rfl ?_)))
  all_goals (try go_ret)
  · exact ⟨by simp_all [Dsk.write, Dsk.goes], St.cast h0 (by simp_all [Dsk.write, Dsk.goes])⟩
  · by_cases ho : D.off = true
    · exact ⟨by simp_all [Dsk.write, Dsk.goes], St.cast h1 (by simp_all [Dsk.write, Dsk.goes])⟩
    · exact ⟨by simp_all [Dsk.write, Dsk.goes], St.cast h1 (by simp_all [Dsk.write, Dsk.goes])⟩
  · have ho : D.off = false := by
      cases ho : D.off
      · rfl
      · simp_all [Dsk.goes]
    have e0 : Dsk.goes D = D.step := by unfold Dsk.goes; rw [if_neg (by rw [ho]; simp)]
    rw [e0] at hS
    have e : D.write i t = (0, { D.step.2 with way := D.step.2.way ++ [⟨i, t⟩] }) := by have := (step_way D).1; simp_all [Dsk.write]
    rw [e]
    refine ⟨rfl, ?_⟩
    exact St.packs (vl, vm, v2) hS
  · exact ⟨by simp_all [Dsk.write], St.cast h0 (by simp_all [Dsk.write])⟩
end
end Go.Proofs.Ytbfdnpahojoccaa
