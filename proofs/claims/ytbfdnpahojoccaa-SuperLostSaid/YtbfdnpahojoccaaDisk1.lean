/-
  The disk's short functions.
-/
import Derived.Test.YtbfdnpahojoccaaDiskSpec
import Derived.Test.YtbfdnpahojoccaaChecked
set_option linter.unusedSimpArgs false
set_option linter.unusedVariables false
set_option linter.unusedSectionVars false
set_option maxRecDepth 100000
namespace Go.Proofs.Ytbfdnpahojoccaa
open Go.RowKit Go.Cmp

/-- The program's disk. -/
def disk (g : Nat) (D : Dsk) : Ent := pack (fun _ : Value × Value × Value => True) fun x =>
  [.row g [x.1, x.2.1, x.2.2, .bool D.off, .int .i64 D.fuse, .int .i64 D.steps] 77 (0, 0),
   .vec x.1 9 1 D.lasts.length (D.lasts.flatMap str), .vec x.2.1 4 1 D.mark.length (D.mark.flatMap bl), .vec x.2.2 85 2 D.way.length (D.way.flatMap Wr.cells)]

section
variable {S : List Nat} {w0 w : World} {M : List Ent} {g : Nat} {D : Dsk}

theorem disk_is (hS : St S w0 w (disk g D :: M)) (i : Int) : Calls Try.prog 43 #[.pointer (some ⟨g, 0, none⟩), .int .i64 i] w fun e w' => e = .returned (.bool (D.is i)) ∧ w' = w := by
  (have hU := St.unpack hS; clear hS; obtain ⟨⟨vl, vm, vw⟩, _, hS⟩ := hU; simp only [List.cons_append, List.nil_append] at hS)
  (go_enter Try.func43, Try.ntmps43)
  go_wp2_with (first | refine au1 (n := ?_) | (refine au2 (n := ?_); clear hS; intro w' hS) | (refine au3 (n := ?_); clear hS; intro gb w1 hS) | (refine au4 (n := ?_); clear hS; intro v1 w' hS) | ((with_reducible refine wl_guard ?_); refine stop_mem rfl rfl ?_))
  all_goals
    go_ret
    refine ⟨?_, rfl⟩
    simp_all [Dsk.is] <;> omega

theorem disk_on (hS : St S w0 w (disk g D :: M)) : Calls Try.prog 22 #[.pointer (some ⟨g, 0, none⟩)] w fun e w' => e = .returned (.bool (!D.off)) ∧ w' = w := by
  (have hU := St.unpack hS; clear hS; obtain ⟨⟨vl, vm, vw⟩, _, hS⟩ := hU; simp only [List.cons_append, List.nil_append] at hS)
  (go_enter Try.func22, Try.ntmps22)
  go_wp2_with (first | refine au1 (n := ?_) | (refine au2 (n := ?_); clear hS; intro w' hS) | (refine au3 (n := ?_); clear hS; intro gb w1 hS) | (refine au4 (n := ?_); clear hS; intro v1 w' hS) | ((with_reducible refine wl_guard ?_); refine stop_mem rfl rfl ?_))
  all_goals
    go_ret
    exact ⟨rfl, rfl⟩
theorem disk_steps (hS : St S w0 w (disk g D :: M)) : Calls Try.prog 32 #[.pointer (some ⟨g, 0, none⟩)] w fun e w' => e = .returned (.int .i64 D.steps) ∧ w' = w := by
  (have hU := St.unpack hS; clear hS; obtain ⟨⟨vl, vm, vw⟩, _, hS⟩ := hU; simp only [List.cons_append, List.nil_append] at hS)
  (go_enter Try.func32, Try.ntmps32)
  go_wp2_with (first | refine au1 (n := ?_) | (refine au2 (n := ?_); clear hS; intro w' hS) | (refine au3 (n := ?_); clear hS; intro gb w1 hS) | (refine au4 (n := ?_); clear hS; intro v1 w' hS) | ((with_reducible refine wl_guard ?_); refine stop_mem rfl rfl ?_))
  all_goals
    go_ret
    exact ⟨rfl, rfl⟩
theorem disk_step (hS : St S w0 w (disk g D :: M)) (hD : D.Ok) : Calls Try.prog 61 #[.pointer (some ⟨g, 0, none⟩)] w fun e w' => e = .returned (.bool D.step.1) ∧ St S w0 w' (disk g D.step.2 :: M) := by
  have h1 := hD.fuse0
  have h2 := hD.fuse1
  have h3 := hD.steps0
  have h4 := hD.steps1
  clear hD
  (have hU := St.unpack hS; clear hS; obtain ⟨⟨vl, vm, vw⟩, _, hS⟩ := hU; simp only [List.cons_append, List.nil_append] at hS)
  (go_enter Try.func61, Try.ntmps61)
  go_wp2_with (first | refine au1 (n := ?_) | (refine au2 (n := ?_); clear hS; intro w' hS) | (refine au3 (n := ?_); clear hS; intro gb w1 hS) | (refine au4 (n := ?_); clear hS; intro v1 w' hS) | ((with_reducible refine wl_guard ?_); refine stop_mem rfl rfl ?_))
  all_goals
    go_ret
    refine ⟨?_, St.pack (vl, vm, vw) trivial (St.cast hS ?_)⟩
    · simp_all [Dsk.step]
    · simp_all [Dsk.step]
      try omega
theorem disk_fuse (hS : St S w0 w (disk g D :: M)) (n : Int) (hn : -9223372036854775808 ≤ n) (hn2 : n ≤ 9223372036854775807) : Calls Try.prog 21 #[.pointer (some ⟨g, 0, none⟩), .int .i64 n] w fun e w' => e = .returned (.int .i64 (D.setFuse n).1) ∧ St S w0 w' (disk g (D.setFuse n).2 :: M) := by
  (have hU := St.unpack hS; clear hS; obtain ⟨⟨vl, vm, vw⟩, _, hS⟩ := hU; simp only [List.cons_append, List.nil_append] at hS)
  (go_enter Try.func21, Try.ntmps21)
  go_wp2_with (first | refine au1 (n := ?_) | (refine au2 (n := ?_); clear hS; intro w' hS) | (refine au3 (n := ?_); clear hS; intro gb w1 hS) | (refine au4 (n := ?_); clear hS; intro v1 w' hS) | ((with_reducible refine wl_guard ?_); refine stop_mem rfl rfl ?_))
  all_goals
    go_ret
    refine ⟨?_, St.pack (vl, vm, vw) trivial (St.cast hS ?_)⟩
    · simp_all [Dsk.setFuse]
    · simp_all [Dsk.setFuse]
      try omega
theorem disk_cut (hS : St S w0 w (disk g D :: M)) : Calls Try.prog 27 #[.pointer (some ⟨g, 0, none⟩)] w fun e w' => e = .returned (.int .i64 D.cut.1) ∧ St S w0 w' (disk g D.cut.2 :: M) := by
  (have hU := St.unpack hS; clear hS; obtain ⟨⟨vl, vm, vw⟩, _, hS⟩ := hU; simp only [List.cons_append, List.nil_append] at hS)
  (go_enter Try.func27, Try.ntmps27)
  go_wp2_with (first | refine au1 (n := ?_) | (refine au2 (n := ?_); clear hS; intro w' hS) | (refine au3 (n := ?_); clear hS; intro gb w1 hS) | (refine au4 (n := ?_); clear hS; intro v1 w' hS) | ((with_reducible refine wl_guard ?_); refine stop_mem rfl rfl ?_))
  all_goals
    go_ret
    refine ⟨?_, St.pack (vl, vm, vw) trivial (St.cast hS ?_)⟩
    · simp_all [Dsk.cut]
    · simp_all [Dsk.cut]
end
end Go.Proofs.Ytbfdnpahojoccaa
