/-
  The examples of the chapter.
-/
import Derived.Test.YthihdgohfehnkaaSame
namespace Go.Proofs.Ythihdgohfehnkaa
open Go.RowKit Go.Cmp

theorem awake_any (w : World) :
    Calls Try.prog 8 #[] w fun e w' => e = .returned (.bool true) ∧ St [] w w' [] := by
  have hp : putS byID [1, 258] = ([1, 0, 0, 0, 0, 0, 0, 0, 2, 1, 0, 0, 0, 0, 0, 0], 0) := by rfl
  go_enter Try.func8, Try.ntmps8
  refine St.startAt w fun w1 hS => ?_
  go_wp2_with (first | ((with_reducible refine g_bs ?_); refine wl_of rfl ?_; refine wp_buildSlice1 (vs := [.int .u64 1, .int .u64 258]) hS rfl rfl rfl rfl rfl rfl (by decide) ⟨rfl, by simp [Value.cells]⟩ ?_; clear hS; intro v1 w1 hS) | fail)
  refine (putIDs_any [1, 258] _ 2 _ rfl (by intro x hx; simp at hx; rcases hx with rfl | rfl <;> decide) (hS.rdv (i := 0) rfl)).mono ?_
  rw [hp]
  rintro e w2 ⟨rfl, hS2⟩
  replace hS := hS.call hS2
  clear hS2
  go_wp2
  go_ret
  exact ⟨rfl, hS.nil⟩

end Go.Proofs.Ythihdgohfehnkaa
