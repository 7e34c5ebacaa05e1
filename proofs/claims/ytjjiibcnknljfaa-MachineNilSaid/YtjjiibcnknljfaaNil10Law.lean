/-
  A machine that is not there: the walk.
-/
import Derived.Test.YtjjiibcnknljfaaMacAw
import Derived.Test.YtjjiibcnknljfaaMac5
set_option linter.unusedSimpArgs false
set_option linter.unusedVariables false
set_option linter.unusedSectionVars false
set_option maxRecDepth 100000
namespace Go.Proofs.Ytjjiibcnknljfaa
open Go.RowKit Go.Cmp

section
variable {S : List Nat} {w0 w : World} {M : List Ent}
theorem nil_apply10 (e : En) (w : World) : Calls Try.prog 9 #[.pointer none, .agg e.cells.toArray] w fun x w' => x = .returned (.tuple #[.agg zAns.cells.toArray, .int .i64 2]) ∧ St [] w w' [] := by
  have hS := St.init w
  simp only [Ans.cells, zAns, En.cells]
  (go_enter Try.func9, Try.ntmps9)
  go_wp2_with (first | refine au1 (n := ?_) | (refine au2 (n := ?_); clear hS; intro w' hS) | (refine au3 (n := ?_); clear hS; intro gb w1 hS) | (refine au4 (n := ?_); clear hS; intro v1 w' hS) | ((with_reducible refine wl_guard ?_); refine stop_mem rfl rfl ?_))
  exact end_cell2 hS rfl rfl rfl rfl rfl rfl (h := ⟨rfl, hS.nil⟩)
theorem nil_cached10 (c s r : Int) (w : World) : Calls Try.prog 15 #[.pointer none, .int .i64 c, .int .i64 s, .int .i64 r] w fun x w' => x = .returned (.tuple #[.agg zAns.cells.toArray, .bool false]) ∧ St [] w w' [] := by
  have hS := St.init w
  simp only [Ans.cells, zAns]
  (go_enter Try.func15, Try.ntmps15)
  go_wp2_with (first | refine au1 (n := ?_) | (refine au2 (n := ?_); clear hS; intro w' hS) | (refine au3 (n := ?_); clear hS; intro gb w1 hS) | (refine au4 (n := ?_); clear hS; intro v1 w' hS) | ((with_reducible refine wl_guard ?_); refine stop_mem rfl rfl ?_))
  exact end_cell2 hS rfl rfl rfl rfl rfl rfl (h := ⟨rfl, hS.nil⟩)
theorem nil_mark10 (w : World) : Calls Try.prog 13 #[.pointer none] w fun x w' => x = .returned (.agg #[.int .i64 0, .int .i64 0, .int .u64 0]) ∧ St [] w w' [] := by
  have hS := St.init w
  (go_enter Try.func13, Try.ntmps13)
  go_wp2_with (first | refine au1 (n := ?_) | (refine au2 (n := ?_); clear hS; intro w' hS) | (refine au3 (n := ?_); clear hS; intro gb w1 hS) | (refine au4 (n := ?_); clear hS; intro v1 w' hS) | ((with_reducible refine wl_guard ?_); refine stop_mem rfl rfl ?_))
  exact end_cell1 hS rfl rfl rfl rfl rfl (h := ⟨rfl, hS.nil⟩)
theorem nil_sessions10 (w : World) : Calls Try.prog 16 #[.pointer none] w fun x w' => x = .returned (.slice none 0 0) ∧ St [] w w' [] := by
  have hS := St.init w
  (go_enter Try.func16, Try.ntmps16)
  go_wp2_with (first | refine au1 (n := ?_) | (refine au2 (n := ?_); clear hS; intro w' hS) | (refine au3 (n := ?_); clear hS; intro gb w1 hS) | (refine au4 (n := ?_); clear hS; intro v1 w' hS) | ((with_reducible refine wl_guard ?_); refine stop_mem rfl rfl ?_))
  go_ret
  exact ⟨rfl, hS.nil⟩
theorem nil_accounts10 (w : World) : Calls Try.prog 12 #[.pointer none] w fun x w' => x = .returned (.slice none 0 0) ∧ St [] w w' [] := by
  have hS := St.init w
  (go_enter Try.func12, Try.ntmps12)
  go_wp2_with (first | refine au1 (n := ?_) | (refine au2 (n := ?_); clear hS; intro w' hS) | (refine au3 (n := ?_); clear hS; intro gb w1 hS) | (refine au4 (n := ?_); clear hS; intro v1 w' hS) | ((with_reducible refine wl_guard ?_); refine stop_mem rfl rfl ?_))
  go_ret
  exact ⟨rfl, hS.nil⟩
theorem nil_transfers10 (w : World) : Calls Try.prog 11 #[.pointer none] w fun x w' => x = .returned (.slice none 0 0) ∧ St [] w w' [] := by
  have hS := St.init w
  (go_enter Try.func11, Try.ntmps11)
  go_wp2_with (first | refine au1 (n := ?_) | (refine au2 (n := ?_); clear hS; intro w' hS) | (refine au3 (n := ?_); clear hS; intro gb w1 hS) | (refine au4 (n := ?_); clear hS; intro v1 w' hS) | ((with_reducible refine wl_guard ?_); refine stop_mem rfl rfl ?_))
  go_ret
  exact ⟨rfl, hS.nil⟩
theorem nil_pack10 (w : World) : Calls Try.prog 17 #[.pointer none] w fun x w' => x = .returned (.string ⟨(mPack newMac).toArray⟩) ∧ St [] w w' [] := by
  have hS := St.init w
  have HP := Lib.hid (fun (w0 w : World) (g : Nat) (M : List Ent) (hS : St [] w0 w (mach g newMac :: M)) => mach_pack hS newMac_ok)
  generalize mPack newMac = p at HP ⊢
  (go_enter Try.func17, Try.ntmps17)
  go_wp2_with (first | (go_at_call 8; refine (mach_new hS).mono ?_; clear hS; rintro e w' ⟨g, rfl, hS⟩) | (first | refine au1 (n := ?_) | (refine au2 (n := ?_); clear hS; intro w' hS) | (refine au3 (n := ?_); clear hS; intro gb w1 hS) | (refine au4 (n := ?_); clear hS; intro v1 w' hS) | ((with_reducible refine wl_guard ?_); refine stop_mem rfl rfl ?_)))
  refine (HP.out _ _ _ _ hS).mono ?_
  clear hS
  rintro e w' ⟨rfl, hS⟩
  go_wp2_with (first | refine au1 (n := ?_) | (refine au2 (n := ?_); clear hS; intro w' hS) | (refine au3 (n := ?_); clear hS; intro gb w1 hS) | (refine au4 (n := ?_); clear hS; intro v1 w' hS) | ((with_reducible refine wl_guard ?_); refine stop_mem rfl rfl ?_))
  go_ret
  exact ⟨rfl, hS.nil⟩

set_option maxHeartbeats 8000000 in
theorem law_nil10 (e : En) (w : World) : Calls Try.prog 4 #[.agg e.cells.toArray] w fun x w' => x = .returned (.bool true) ∧ St [] w w' [] := by
  have hS := St.init w
  have HA := Lib.hid (fun w => nil_apply10 e w)
  have HP := Lib.hid (fun (w0 w : World) (g : Nat) (M : List Ent) (hS : St [] w0 w (mach g newMac :: M)) => mach_pack hS newMac_ok)
  have HN := Lib.hid nil_pack10
  generalize mPack newMac = p at HP HN
  obtain ⟨vw, po, un, par, cl, se, rq, opr, body⟩ := e
  simp only [En.cells, Ans.cells, zAns] at HA ⊢
  have HC := Lib.hid (fun w => nil_cached10 cl se rq w)
  simp only [Ans.cells, zAns] at HC
  (go_enter Try.func4, Try.ntmps4)
  go_wp2_with (first | (go_at_call 6; refine (awake10_any _).mono ?_; rintro e w' ⟨rfl, h⟩; replace hS := hS.call h; clear h) | (go_at_call 9; refine (HA.out _).mono ?_; rintro e w' ⟨rfl, h⟩; replace hS := hS.call h; clear h) | (go_at_call 15; refine (HC.out _).mono ?_; rintro e w' ⟨rfl, h⟩; replace hS := hS.call h; clear h) | (go_at_call 13; refine (nil_mark10 _).mono ?_; rintro e w' ⟨rfl, h⟩; replace hS := hS.call h; clear h) | (go_at_call 16; refine (nil_sessions10 _).mono ?_; rintro e w' ⟨rfl, h⟩; replace hS := hS.call h; clear h) | (go_at_call 12; refine (nil_accounts10 _).mono ?_; rintro e w' ⟨rfl, h⟩; replace hS := hS.call h; clear h) | (go_at_call 11; refine (nil_transfers10 _).mono ?_; rintro e w' ⟨rfl, h⟩; replace hS := hS.call h; clear h) | (go_at_call 8; refine (mach_new hS).mono ?_; clear hS; rintro e w' ⟨g, rfl, hS⟩) | (first | refine au1 (n := ?_) | (refine au2 (n := ?_); clear hS; intro w' hS) | (refine au3 (n := ?_); clear hS; intro gb w1 hS) | (refine au4 (n := ?_); clear hS; intro v1 w' hS) | ((with_reducible refine wl_guard ?_); refine stop_mem rfl rfl ?_)))
  refine (HN.out _).mono ?_
  rintro e w' ⟨rfl, h⟩
  replace hS := hS.call h
  clear h
  go_wp2_with (first | (go_at_call 8; refine (mach_new hS).mono ?_; clear hS; rintro e w' ⟨g, rfl, hS⟩) | (first | refine au1 (n := ?_) | (refine au2 (n := ?_); clear hS; intro w' hS) | (refine au3 (n := ?_); clear hS; intro gb w1 hS) | (refine au4 (n := ?_); clear hS; intro v1 w' hS) | ((with_reducible refine wl_guard ?_); refine stop_mem rfl rfl ?_)))
  refine (HP.out _ _ _ _ (hS.out (by (repeat (first | exact Out.here | apply Out.there))))).mono ?_
  clear hS
  rintro e w' ⟨rfl, hS⟩
  go_wp2_with (first | refine au1 (n := ?_) | (refine au2 (n := ?_); clear hS; intro w' hS) | (refine au3 (n := ?_); clear hS; intro gb w1 hS) | (refine au4 (n := ?_); clear hS; intro v1 w' hS) | ((with_reducible refine wl_guard ?_); refine stop_mem rfl rfl ?_))
  go_ret
  exact ⟨rfl, hS.nil⟩
end
end Go.Proofs.Ytjjiibcnknljfaa
