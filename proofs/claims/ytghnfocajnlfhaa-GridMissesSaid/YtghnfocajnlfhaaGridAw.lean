/-
  Texts in blocks: the chapter's example, by the program.
-/
import Derived.Test.YtghnfocajnlfhaaGridAwS
import Derived.Test.YtghnfocajnlfhaaDiskB
import Derived.Deep.DeepCutAuto
import Derived.Deep.CutBlock
set_option linter.unusedSimpArgs false
set_option linter.unusedVariables false
set_option linter.unusedSectionVars false
set_option maxRecDepth 100000
namespace Go.Cmp
open Go.RowKit
theorem gSums_ok {s : List UInt8} (h : s.length ≤ 1920) : gSums s = (sumsV s, 0) := by unfold gSums; rw [if_neg (by omega)]
theorem sumsV_N (s : List UInt8) : sumsV s = (sumsN s).map fun n => .int .u64 (n : Int) := by unfold sumsV sumsN; rw [List.map_map]; rfl
theorem sumsV_at {s : List UInt8} {i : Nat} (h : i < 6) : (sumsV s)[i]? = some (.int .u64 (sumG s i : Int)) := by unfold sumsV; simp [h]
theorem sumsV_len (s : List UInt8) : (sumsV s).length = 6 := by simp [sumsV]
theorem six_of {C : List Value} {x y : Value} (h : C.length = 6) (h2 : C[2]? = some x) (h3 : C[3]? = some y) : ∃ a b c d, C = [a, b, x, y, c, d] := by
  match C, h with
  | [a0, a1, a2, a3, a4, a5], _ =>
    have e2 : a2 = x := by simpa using h2
    have e3 : a3 = y := by simpa using h3
    exact ⟨a0, a1, a4, a5, by rw [e2, e3]⟩
end Go.Cmp
namespace Go.Proofs.Ytghnfocajnlfhaa
open Go.RowKit Go.Cmp

theorem newDsk_is (n : Nat) : (newDsk n).off = false ∧ (newDsk n).way = [] ∧ (newDsk n).fuse = 0 ∧ (newDsk n).steps = 0 ∧ (newDsk n).lasts.length = n := by
  refine ⟨rfl, rfl, rfl, rfl, by simp [newDsk]⟩
section
variable {S : List Nat} {w0 w : World} {M : List Ent} {g : Nat} {D : Dsk}
set_option maxHeartbeats 8000000 in
theorem awake14 (w : World) : Calls Try.prog 6 #[] w fun e w' => e = .returned (.bool true) ∧ St [] w w' [] := by
  have hS := St.init w
  have hlen : (textN 1 700).length = 700 := textN_len 1 700
  have ok0 := newDsk_ok 32 (by omega)
  obtain ⟨n1, n2, n3, n4, n5⟩ := newDsk_is 32
  have ok1 := gWrite_ok ok0 (by rw [n2]; decide) (by rw [n4]; decide) 1 (textN 1 700)
  have hw := write_holds n1 n5 n2 (a := 1) (by omega) (s := textN 1 700) (by rw [hlen]; omega) (by rw [n3]; decide)
  replace hw := hw.resolve_right (fun q => q.2.1 n3)
  obtain ⟨h1, h2, -, h4⟩ := hw
  rw [n4, hlen] at h4
  have h5 := load_holds h2 (by omega) (by rw [hlen]; omega)
  rw [hlen] at h5
  obtain ⟨D0, h0⟩ : ∃ D0, newDsk 32 = D0 := ⟨_, rfl⟩
  rw [h0] at ok0 ok1 h1 h2 h4 h5
  obtain ⟨s, hs⟩ : ∃ s, textN 1 700 = s := ⟨_, rfl⟩
  have s2 := aw_sum2
  have s3 := aw_sum3
  rw [hs] at hlen ok1 h1 h2 h4 h5 s2 s3
  obtain ⟨D1, hd1⟩ : ∃ D1, (gWrite D0 1 s).2 = D1 := ⟨_, rfl⟩
  rw [hd1] at ok1 h2 h4 h5
  have HT := Lib.hid (fun w => text14_any w)
  rw [hs] at HT
  have HW := Lib.hid (fun (w0 w : World) (M : List Ent) (g : Nat) (hS : St [] w0 w (disk g D0 :: M)) => gridWrite_any hS ok0 (by rw [← h0]; decide) (by rw [← h0]; decide) 1 (by omega) s (by omega))
  rw [h1, hd1] at HW
  have HSU := Lib.hid (fun w => gridSums_any s (by omega) w)
  rw [gSums_ok (by omega)] at HSU
  have HL := Lib.hid (fun (w0 w : World) (M : List Ent) (g : Nat) (hS : St [] w0 w (disk g D1 :: M)) => gridLoad_any hS ok1.1 h2.off h2.len 1 (by omega) 700 (by omega) (sumsN s) (by simp [sumsN]) (sumsV s) (sumsV_N s))
  rw [h5] at HL
  have HST := Lib.hid (fun (w0 w : World) (M : List Ent) (g : Nat) (hS : St [] w0 w (disk g D1 :: M)) => disk_steps hS)
  rw [h4] at HST
  have hv2 := sumsV_at (s := s) (i := 2) (by omega)
  have hv3 := sumsV_at (s := s) (i := 3) (by omega)
  have hvl := sumsV_len s
  have ho1 := sums_one s
  rw [s3] at hv3
  have HNW := Lib.hid (fun (w : World) (M : List Ent) (hS : St [] w w M) => disk_new 32 (by omega) (by omega) hS)
  rw [h0] at HNW
  generalize sumsV s = C at HSU HL hv2 hv3 hvl ho1
  generalize sumG s 2 = c2 at *
  clear ok0 ok1 h1 h2 h4 h5 hd1 h0 hs n1 n2 n3 n4 n5
  obtain ⟨a0, a1, a4, a5, rfl⟩ := six_of hvl hv2 hv3
  clear hv2 hv3 hvl
  have HO1 := Lib.hid ho1
  have hc2 : ((c2 : Int) != 0) = true := by simp; omega
  clear ho1
  (go_enter Try.func6, Try.ntmps6)
  go_wp2_with (first | go_skip | (go_at_call 7; refine (HNW.out _ _ hS).mono ?_; clear hS; rintro e w' ⟨gd, rfl, hS⟩) | ((with_reducible refine g_load ?_); refine wl_run rfl (by first | exact a_load1 hS rfl rfl rfl rfl (by (repeat (first | exact Ix.here | apply Ix.there))) (by rfl) | exact a_loadR hS rfl rfl rfl rfl (by (repeat (first | exact Ix.here | apply Ix.there))) (by rfl) | fail) ?_) | ((with_reducible refine g_alloc ?_); refine wl_of rfl ?_; refine wp_alloc hS rfl rfl rfl rfl ?_; clear hS; intro ga w1 hS) | ((with_reducible refine g_store ?_); refine wl_of rfl ?_; refine a_storeA (vs := [a0, a1, .int .u64 c2, .int .u64 0, a4, a5]) (cs' := [a0, a1, .int .u64 c2, .int .u64 0, a4, a5]) hS rfl rfl rfl (by rfl) HO1.out (by (repeat (first | exact Sw.here | apply Sw.there))) (by exact Nat.le_refl 6) (by rfl) ?_; clear hS; intro w' hS) | (go_at_call 21; refine (HT.out _).mono ?_; rintro e w' ⟨rfl, h⟩; replace hS := hS.call h; clear h) | (go_at_call 8; refine (HSU.out _).mono ?_; rintro e w' ⟨rfl, h⟩; replace hS := hS.call h; clear h) | (go_at_call 9; (refine (HW.out _ _ _ _ (hS.out (by first | ((repeat (first | exact Out.here | apply Out.there)); done) | fail))).mono ?_; clear hS; rintro e w' ⟨rfl, hS⟩)) | fail)
  refine (HL.out _ _ _ _ (hS.sel (N := disk gd D1 :: [.row ga [a0, a1, .int .u64 c2, .int .u64 0, a4, a5] 29 (0, 0)]) (by (repeat (first | exact Sel.refl | exact Sel.nil | refine Sel.cons (by (repeat (first | exact Out.here | apply Out.there))) ?_ | refine Sel.drop ?_))))).mono ?_
  clear hS
  rintro e w' ⟨v, rfl, hS⟩
  go_wp2_with (first | go_skip | go_skip | ((with_reducible refine g_load ?_); refine wl_run rfl (by first | exact a_load1 hS rfl rfl rfl rfl (by (repeat (first | exact Ix.here | apply Ix.there))) (by rfl) | exact a_loadR hS rfl rfl rfl rfl (by (repeat (first | exact Ix.here | apply Ix.there))) (by rfl) | fail) ?_) | (refine au1 (n := ?_)) | (go_at_call 22; refine (HST.out _ _ [.vec v 3 1 0 [], .row ga [a0, a1, .int .u64 c2, .int .u64 0, a4, a5] 29 (0, 0)] _ (hS.sel (by (repeat (first | exact Sel.refl | exact Sel.nil | refine Sel.cons (by (repeat (first | exact Out.here | apply Out.there))) ?_ | refine Sel.drop ?_))))).mono ?_; rintro e w' ⟨rfl, rfl⟩) | fail)
  go_ret
  exact ⟨rfl, hS.nil⟩
end
end Go.Proofs.Ytghnfocajnlfhaa
