/-
  The document's answer: accounts' bytes.
-/
import Derived.Test.YtggngdjncokanaaPutTra
set_option linter.unusedSimpArgs false
set_option linter.unusedVariables false
set_option linter.unusedSectionVars false
namespace Go.Proofs.Ytggngdjncokanaa
open Go.RowKit Go.Cmp
set_option maxRecDepth 100000

theorem flags_any (n : Int) (w : World) :
    Calls Try.prog 75 #[.int .i64 n] w fun e w' => e = .returned (.tuple (if 0 ≤ n ∧ n ≤ 255 then #[.string ⟨[fb n].toArray⟩, .bool true] else #[.string ⟨[].toArray⟩, .bool false])) ∧ St [] w w' [] := by
  by_cases h : 0 ≤ n ∧ n ≤ 255
  · rw [if_pos h]
    have h0 : ¬ n < 0 := by omega
    have h1 : ¬ 255 < n := by omega
    have e1 : B [fb n] = [.int .u8 n] := by
      have := fb_wrap n
      simp [IntKind.wrap, IntKind.signed, IntKind.bits] at this
      simp [B]
      omega
    have E1 := Lib.hid e1
    clear e1 h
    go_enter Try.func75, Try.ntmps75
    refine St.startAt w fun w1 hS => ?_
    go_wp2_with (first | ((with_reducible refine g_bs ?_); refine wl_of rfl ?_; refine wp_buildSlice1 (vs := [.int .u8 n]) hS rfl rfl rfl rfl rfl rfl (by decide) ⟨rfl, by simp [Value.cells]⟩ ?_; clear hS; intro v1 w1 hS) | (((with_reducible refine g_conv ?_); refine wl_run rfl (x_toString (l := [fb n]) rfl rfl rfl rfl (by have := hS.rdv (i := 0) rfl; rw [← E1.out] at this; exact this) rfl) ?_)) | fail)
    go_ret2
    exact ⟨rfl, hS.nil⟩
  · rw [if_neg h]
    go_enter Try.func75, Try.ntmps75
    refine St.startAt w fun w1 hS => ?_
    by_cases h0 : n < 0
    · clear h
      go_wp2_with (fail)
      go_ret2
      exact ⟨rfl, hS⟩
    · have h1 : 255 < n := by omega
      clear h
      go_wp2_with (fail)
      go_ret2
      exact ⟨rfl, hS⟩

end Go.Proofs.Ytggngdjncokanaa
