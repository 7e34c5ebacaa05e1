/-
  Superblocks: the program's Read and Write.
-/
import Derived.Test.YtbfdnpahojoccaaSup4
import Derived.Test.YtbfdnpahojoccaaSeal1
import Derived.Test.YtbfdnpahojoccaaDisk3
set_option linter.unusedSimpArgs false
set_option linter.unusedVariables false
set_option linter.unusedSectionVars false
set_option maxRecDepth 100000
namespace Go.Cmp
open Go.RowKit
namespace Dsk
theorem read_on {D : Dsk} (h4 : 4 ≤ D.lasts.length) {i : Nat} (hi : i < 4) : (D.read (i : Int)).2 = if D.off = true then 6 else 0 := by
  have : D.is (i : Int) = true := by unfold is; simp; omega
  unfold read
  rw [if_neg (by rw [this]; simp)]
  split <;> rfl
theorem one_off {D : Dsk} (h4 : 4 ≤ D.lasts.length) (ho : D.off = true) {i : Nat} (hi : i < 4) : oneU D i = (zeroU, [], false, 6) := by
  have e := read_on h4 hi
  rw [if_pos ho] at e
  unfold oneU
  rw [if_pos (by rw [e]; decide), e]
theorem one_on {D : Dsk} (h4 : 4 ≤ D.lasts.length) (ho : D.off = false) {i : Nat} (hi : i < 4) : oneU D i = ((hasU (D.read i).1).1, (D.read i).1, (hasU (D.read i).1).2, 0) := by
  have e := read_on h4 hi
  rw [if_neg (by simp [ho])] at e
  unfold oneU
  rw [if_neg (by rw [e]; decide)]
end Dsk
theorem copies_snoc (D : Dsk) (i : Nat) : (copies D (i + 1)).foldl bestU (zeroU, 0) = bestU ((copies D i).foldl bestU (zeroU, 0)) (hasU (D.read (i : Int)).1) := by
  unfold copies
  rw [List.range_succ, List.map_append, List.foldl_append]
  rfl
end Go.Cmp
namespace Go.Proofs.Ytbfdnpahojoccaa
open Go.RowKit Go.Cmp

section
variable {S : List Nat} {w0 w : World} {M : List Ent} {g : Nat} {D : Dsk}
theorem supGuard : (Try.prog).eqGuardType (Try.prog).depth 28 = false := by kernel_rfl
set_option maxHeartbeats 8000000 in
theorem supRead_any (hS : St S w0 w (disk g D :: M)) (hD : D.Ok) (h4 : 4 ≤ D.lasts.length) :
    Calls Try.prog 15 #[.pointer (some ⟨g, 0, none⟩)] w fun e w' => e = .returned (.tuple #[.agg (readU D).1.cells.toArray, .int .i64 ((readU D).2.1 : Nat), .int .i64 (readU D).2.2]) ∧ St S w0 w' (disk g D :: M) := by
  cases ho : D.off
  · have HO : Hid (∀ (W : World) (M : List Ent) (i : Nat), i < 4 → St S w0 W (disk g D :: M) → Calls Try.prog 38 #[.pointer (some ⟨g, 0, none⟩), .int .i64 (i : Int)] W fun e w' => e = .returned (.tuple #[.agg (hasU (D.read i).1).1.cells.toArray, .string ⟨(D.read i).1.toArray⟩, .bool (hasU (D.read i).1).2, .int .i64 0]) ∧ St S w0 w' (disk g D :: M)) := Lib.hid (by
      intro W M i hi hS
      have h := supOne_any hS hD (i : Int)
      rw [Dsk.one_on h4 ho hi] at h
      exact h)
    obtain ⟨R, hR⟩ : ∃ R, readU D = R := ⟨_, rfl⟩
    have HR : Hid (R = if ((copies D 4).foldl bestU (zeroU, 0)).2 = 0 then (zeroU, 0, 11) else (((copies D 4).foldl bestU (zeroU, 0)).1, ((copies D 4).foldl bestU (zeroU, 0)).2, 0)) := Lib.hid (by rw [← hR]; unfold readU; rw [if_neg (by simp [ho])])
    rw [hR]
    clear hR ho hD h4
    (go_enter Try.func15, Try.ntmps15)
    go_wp2_with (first | go_skip | (first | (have q9 := gz; clear q9; ((with_reducible refine g_alloc ?_); refine wl_of rfl ?_; refine wp_alloc hS rfl rfl rfl rfl ?_; clear hS; intro gb w1 hS)) | ((with_reducible refine g_alloc ?_); refine wl_of rfl ?_; refine wp_alloc hS rfl rfl rfl rfl ?_; clear hS; intro gz w1 hS)) | fail)
    go_loopw [6, 12] (fun cnt k wz => ∃ (i : Nat) (b : Sup) (n : Nat), i ≤ 4 ∧ k = .int .i64 i ∧ Hid ((copies D i).foldl bestU (zeroU, 0) = (b, n)) ∧ n ≤ i ∧ cnt = .int .i64 n ∧ St S w0 wz (.row gb b.cells 28 (0, 0) :: .row gz [.int .i64 0, .int .i64 0, .int .i64 0, .int .i64 0, .int .i64 0, .int .i64 0, .int .i64 0, .int .u64 0, .int .i64 0, .int .i64 0, .int .u64 0, .int .u64 0, .int .u64 0, .int .u64 0, .int .u64 0, .int .u64 0, .int .u64 0] 28 (0, 0) :: disk g D :: M)) (fun _ k _ => 4 - (intOf k).toNat)
    case atStart => exact ⟨0, zeroU, 0, by omega, rfl, Lib.hid rfl, by omega, rfl, hS⟩
    case round =>
      clear hS
      obtain ⟨i, b, n, hi, rfl, HB, hn, rfl, hS⟩ := hrel
      by_cases hi4 : i < 4
      · have hi41 : (i : Int) < 4 := by omega
        have H1 := Lib.hid (fun (W : World) (M : List Ent) (hS : St S w0 W (disk g D :: M)) => HO.out W M i hi4 hS)
        have hcs := copies_snoc D i
        rw [HB.out] at hcs
        clear HB HO
        generalize hasU (D.read (i : Int)).1 = R1 at H1 hcs
        generalize (D.read (i : Int)).1 = O at H1
        obtain ⟨x, ok⟩ := R1
        have HC := Lib.hid hcs
        clear hcs
        simp only at H1
        cases ok
        · have HN : Hid ((copies D (i + 1)).foldl bestU (zeroU, 0) = (b, n)) := Lib.hid (by rw [HC.out]; unfold bestU; rw [if_pos rfl])
          clear HC
          go_wp2_with (first | go_skip | ((with_reducible refine g_alloc ?_); refine wl_of rfl ?_; refine wp_alloc hS rfl rfl rfl rfl ?_; clear hS; intro gx w1 hS) | ((with_reducible refine g_load ?_); refine wl_run rfl (by first | exact a_load1 hS rfl rfl rfl rfl (by (repeat (first | exact Ix.here | apply Ix.there))) (by rfl) | exact a_loadR hS rfl rfl rfl rfl (by (repeat (first | exact Ix.here | apply Ix.there))) (by rfl) | fail) ?_) | ((with_reducible refine g_store ?_); refine wl_of rfl ?_; refine a_storeA (vs := Sup.cells x) (cs' := Sup.cells x) hS rfl rfl rfl (by rfl) (sup_one _) (by (repeat (first | exact Sw.here | apply Sw.there))) (by exact Nat.le_refl 17) (by rfl) ?_; clear hS; intro w' hS) | (go_at_call 38; (refine (H1.out _ _ (hS.out (by (repeat (first | exact Out.here | apply Out.there))))).mono ?_; clear hS; rintro e w' ⟨rfl, hS⟩)) | fail)
          exact ⟨⟨i + 1, b, n, by omega, by simp, HN, by omega, rfl, hS.pick⟩, by simp [intOf]; omega⟩
        · have HC2 : Hid ((copies D (i + 1)).foldl bestU (zeroU, 0) = if b.seq < x.seq then (x, 1) else if x = b then (b, n + 1) else (b, n)) := Lib.hid (by rw [HC.out]; unfold bestU; rw [if_neg (by simp)])
          clear HC
          by_cases hlt : b.seq < x.seq
          · have HN : Hid ((copies D (i + 1)).foldl bestU (zeroU, 0) = (x, 1)) := Lib.hid (by rw [HC2.out, if_pos hlt])
            clear HC2
            go_wp2_with (first | go_skip | ((with_reducible refine g_alloc ?_); refine wl_of rfl ?_; refine wp_alloc hS rfl rfl rfl rfl ?_; clear hS; intro gx w1 hS) | ((with_reducible refine g_load ?_); refine wl_run rfl (by first | exact a_load1 hS rfl rfl rfl rfl (by (repeat (first | exact Ix.here | apply Ix.there))) (by rfl) | exact a_loadR hS rfl rfl rfl rfl (by (repeat (first | exact Ix.here | apply Ix.there))) (by rfl) | fail) ?_) | ((with_reducible refine g_store ?_); refine wl_of rfl ?_; refine a_storeA (vs := Sup.cells x) (cs' := Sup.cells x) hS rfl rfl rfl (by rfl) (sup_one _) (by (repeat (first | exact Sw.here | apply Sw.there))) (by exact Nat.le_refl 17) (by rfl) ?_; clear hS; intro w' hS) | (go_at_call 38; (refine (H1.out _ _ (hS.out (by (repeat (first | exact Out.here | apply Out.there))))).mono ?_; clear hS; rintro e w' ⟨rfl, hS⟩)) | fail)
            exact ⟨⟨i + 1, x, 1, by omega, by simp, HN, by omega, rfl, hS.pick⟩, by simp [intOf]; omega⟩
          · by_cases hxb : x = b
            · have HN : Hid ((copies D (i + 1)).foldl bestU (zeroU, 0) = (b, n + 1)) := Lib.hid (by rw [HC2.out, if_neg hlt, if_pos hxb])
              have hq : eqV Try.prog 4 28 (.agg x.cells.toArray) (.agg b.cells.toArray) = some true := by rw [eqSup, decide_eq_true hxb]
              clear HC2 hxb
              go_wp2_with (first | go_skip | ((with_reducible refine g_alloc ?_); refine wl_of rfl ?_; refine wp_alloc hS rfl rfl rfl rfl ?_; clear hS; intro gx w1 hS) | ((with_reducible refine g_load ?_); refine wl_run rfl (by first | exact a_load1 hS rfl rfl rfl rfl (by (repeat (first | exact Ix.here | apply Ix.there))) (by rfl) | exact a_loadR hS rfl rfl rfl rfl (by (repeat (first | exact Ix.here | apply Ix.there))) (by rfl) | fail) ?_) | ((with_reducible refine g_store ?_); refine wl_of rfl ?_; refine a_storeA (vs := Sup.cells x) (cs' := Sup.cells x) hS rfl rfl rfl (by rfl) (sup_one _) (by (repeat (first | exact Sw.here | apply Sw.there))) (by exact Nat.le_refl 17) (by rfl) ?_; clear hS; intro w' hS) | (go_at_call 38; (refine (H1.out _ _ (hS.out (by (repeat (first | exact Out.here | apply Out.there))))).mono ?_; clear hS; rintro e w' ⟨rfl, hS⟩)) | ((with_reducible refine g_eql (t := 28) ?_); refine wl_run rfl (x_structEq rfl rfl rfl supGuard hq) ?_) | fail)
              exact ⟨⟨i + 1, b, n + 1, by omega, by simp, HN, by omega, by simp, hS.pick⟩, by simp [intOf]; omega⟩
            · have HN : Hid ((copies D (i + 1)).foldl bestU (zeroU, 0) = (b, n)) := Lib.hid (by rw [HC2.out, if_neg hlt, if_neg hxb])
              have hq : eqV Try.prog 4 28 (.agg x.cells.toArray) (.agg b.cells.toArray) = some false := by rw [eqSup, decide_eq_false hxb]
              clear HC2 hxb
              go_wp2_with (first | go_skip | ((with_reducible refine g_alloc ?_); refine wl_of rfl ?_; refine wp_alloc hS rfl rfl rfl rfl ?_; clear hS; intro gx w1 hS) | ((with_reducible refine g_load ?_); refine wl_run rfl (by first | exact a_load1 hS rfl rfl rfl rfl (by (repeat (first | exact Ix.here | apply Ix.there))) (by rfl) | exact a_loadR hS rfl rfl rfl rfl (by (repeat (first | exact Ix.here | apply Ix.there))) (by rfl) | fail) ?_) | ((with_reducible refine g_store ?_); refine wl_of rfl ?_; refine a_storeA (vs := Sup.cells x) (cs' := Sup.cells x) hS rfl rfl rfl (by rfl) (sup_one _) (by (repeat (first | exact Sw.here | apply Sw.there))) (by exact Nat.le_refl 17) (by rfl) ?_; clear hS; intro w' hS) | (go_at_call 38; (refine (H1.out _ _ (hS.out (by (repeat (first | exact Out.here | apply Out.there))))).mono ?_; clear hS; rintro e w' ⟨rfl, hS⟩)) | ((with_reducible refine g_eql (t := 28) ?_); refine wl_run rfl (x_structEq rfl rfl rfl supGuard hq) ?_) | fail)
              exact ⟨⟨i + 1, b, n, by omega, by simp, HN, by omega, rfl, hS.pick⟩, by simp [intOf]; omega⟩
      · obtain rfl : i = 4 := by omega
        have HR2 := HR
        rw [HB.out] at HR2
        clear HO HB HR
        by_cases hn0 : n = 0
        · subst hn0
          have HE : Hid (R = (zeroU, 0, 11)) := Lib.hid (by rw [HR2.out, if_pos rfl])
          go_wp2_with (first | go_skip | ((with_reducible refine g_load ?_); refine wl_run rfl (by first | exact a_load1 hS rfl rfl rfl rfl (by (repeat (first | exact Ix.here | apply Ix.there))) (by rfl) | exact a_loadR hS rfl rfl rfl rfl (by (repeat (first | exact Ix.here | apply Ix.there))) (by rfl) | fail) ?_) | (refine au5 (n := ?_); clear hS; intro w' hS) | fail)
          exact end_c3 hS rfl rfl rfl rfl rfl rfl rfl (h := ⟨by rw [HE.out]; rfl, hS.pick⟩)
        · have HE : Hid (R = (b, n, 0)) := Lib.hid (by rw [HR2.out, if_neg hn0])
          have hn1 : ((n : Int) == 0) = false := by rw [beq_eq_false_iff_ne]; omega
          go_wp2_with (first | go_skip | ((with_reducible refine g_load ?_); refine wl_run rfl (by first | exact a_load1 hS rfl rfl rfl rfl (by (repeat (first | exact Ix.here | apply Ix.there))) (by rfl) | exact a_loadR hS rfl rfl rfl rfl (by (repeat (first | exact Ix.here | apply Ix.there))) (by rfl) | fail) ?_) | ((with_reducible refine g_store ?_); refine wl_of rfl ?_; refine a_storeA (vs := Sup.cells b) (cs' := Sup.cells b) hS rfl rfl rfl (by rfl) (sup_one _) (by (repeat (first | exact Sw.here | apply Sw.there))) (by exact Nat.le_refl 17) (by rfl) ?_; clear hS; intro w' hS) | fail)
          exact end_c3 hS rfl rfl rfl rfl rfl rfl rfl (h := ⟨by rw [HE.out]; rfl, hS.pick⟩)
  · have HO := Lib.hid (fun (W : World) (M : List Ent) (hS : St S w0 W (disk g D :: M)) => supOne_any hS hD ((0 : Nat) : Int))
    rw [Dsk.one_off h4 ho (by omega)] at HO
    have e : readU D = (zeroU, 0, 6) := by unfold readU; rw [if_pos ho]
    rw [e]
    clear e ho hD h4
    (go_enter Try.func15, Try.ntmps15)
    go_wp2_with (first | go_skip | (first | (have q9 := gz; clear q9; ((with_reducible refine g_alloc ?_); refine wl_of rfl ?_; refine wp_alloc hS rfl rfl rfl rfl ?_; clear hS; intro gb w1 hS)) | ((with_reducible refine g_alloc ?_); refine wl_of rfl ?_; refine wp_alloc hS rfl rfl rfl rfl ?_; clear hS; intro gz w1 hS)) | fail)
    go_loopw [6, 12] (fun cnt k wz => k = .int .i64 0 ∧ cnt = .int .i64 0 ∧ St S w0 wz (.row gb [.int .i64 0, .int .i64 0, .int .i64 0, .int .i64 0, .int .i64 0, .int .i64 0, .int .i64 0, .int .u64 0, .int .i64 0, .int .i64 0, .int .u64 0, .int .u64 0, .int .u64 0, .int .u64 0, .int .u64 0, .int .u64 0, .int .u64 0] 28 (0, 0) :: .row gz [.int .i64 0, .int .i64 0, .int .i64 0, .int .i64 0, .int .i64 0, .int .i64 0, .int .i64 0, .int .u64 0, .int .i64 0, .int .i64 0, .int .u64 0, .int .u64 0, .int .u64 0, .int .u64 0, .int .u64 0, .int .u64 0, .int .u64 0] 28 (0, 0) :: disk g D :: M)) (fun _ k _ => 4 - (intOf k).toNat)
    case atStart => exact ⟨rfl, rfl, hS⟩
    case round =>
      clear hS
      obtain ⟨rfl, rfl, hS⟩ := hrel
      go_wp2_with (first | go_skip | ((with_reducible refine g_alloc ?_); refine wl_of rfl ?_; refine wp_alloc hS rfl rfl rfl rfl ?_; clear hS; intro gx w1 hS) | ((with_reducible refine g_load ?_); refine wl_run rfl (by first | exact a_load1 hS rfl rfl rfl rfl (by (repeat (first | exact Ix.here | apply Ix.there))) (by rfl) | exact a_loadR hS rfl rfl rfl rfl (by (repeat (first | exact Ix.here | apply Ix.there))) (by rfl) | fail) ?_) | ((with_reducible refine g_store ?_); refine wl_of rfl ?_; refine a_storeA (vs := Sup.cells zeroU) (cs' := Sup.cells zeroU) hS rfl rfl rfl (by rfl) (sup_one _) (by (repeat (first | exact Sw.here | apply Sw.there))) (by exact Nat.le_refl 17) (by rfl) ?_; clear hS; intro w' hS) | (go_at_call 38; (refine (HO.out _ _ (hS.out (by (repeat (first | exact Out.here | apply Out.there))))).mono ?_; clear hS; rintro e w' ⟨rfl, hS⟩)) | fail)
      exact end_c3 hS rfl rfl rfl rfl rfl rfl rfl (h := ⟨rfl, hS.pick⟩)
end
end Go.Proofs.Ytbfdnpahojoccaa
