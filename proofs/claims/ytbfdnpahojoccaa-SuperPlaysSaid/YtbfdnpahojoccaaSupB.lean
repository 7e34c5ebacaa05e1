/-
  Superblocks: the program's Read and Write.
  Superblocks: the program's Write.
  Superblocks: the chapter's example.
-/
import Derived.Test.YtbfdnpahojoccaaSupA
import Derived.Test.YtbfdnpahojoccaaSeal1
import Derived.Test.YtbfdnpahojoccaaDiskA
import Derived.Test.YtbfdnpahojoccaaSupP
import Derived.Test.YtbfdnpahojoccaaDiskB
set_option linter.unusedSimpArgs false
set_option linter.unusedVariables false
set_option linter.unusedSectionVars false
set_option maxRecDepth 100000
namespace Go.Cmp
open Go.RowKit
namespace Dsk
theorem read_on {D : Dsk} (h4 : 4 ≤ D.lasts.length) {i : Nat} (hi : i < 4) : (D.read (i : Int)).2 = if D.off = true then 6 else 0 := by
  have : D.is (i : Int) = true := by unfold is; simp; omega
  unfold read
  rw [if_neg (by rw [this]; simp)]
  split <;> rfl
theorem one_off {D : Dsk} (h4 : 4 ≤ D.lasts.length) (ho : D.off = true) {i : Nat} (hi : i < 4) : oneU D i = (zeroU, [], false, 6) := by
  have e := read_on h4 hi
  rw [if_pos ho] at e
  unfold oneU
  rw [if_pos (by rw [e]; decide), e]
theorem one_on {D : Dsk} (h4 : 4 ≤ D.lasts.length) (ho : D.off = false) {i : Nat} (hi : i < 4) : oneU D i = ((hasU (D.read i).1).1, (D.read i).1, (hasU (D.read i).1).2, 0) := by
  have e := read_on h4 hi
  rw [if_neg (by simp [ho])] at e
  unfold oneU
  rw [if_neg (by rw [e]; decide)]
end Dsk
theorem copies_snoc (D : Dsk) (i : Nat) : (copies D (i + 1)).foldl bestU (zeroU, 0) = bestU ((copies D i).foldl bestU (zeroU, 0)) (hasU (D.read (i : Int)).1) := by
  unfold copies
  rw [List.range_succ, List.map_append, List.foldl_append]
  rfl
end Go.Cmp
namespace Go.Proofs.Ytbfdnpahojoccaa
open Go.RowKit Go.Cmp

section
variable {S : List Nat} {w0 w : World} {M : List Ent} {g : Nat} {D : Dsk}
theorem supGuard : (Try.prog).eqGuardType (Try.prog).depth 28 = false := by kernel_rfl
set_option maxHeartbeats 8000000 in
theorem supRead_any (hS : St S w0 w (disk g D :: M)) (hD : D.Ok) (h4 : 4 ≤ D.lasts.length) :
    Calls Try.prog 15 #[.pointer (some ⟨g, 0, none⟩)] w fun e w' => e = .returned (.tuple #[.agg (readU D).1.cells.toArray, .int .i64 ((readU D).2.1 : Nat), .int .i64 (readU D).2.2]) ∧ St S w0 w' (disk g D :: M) := by
  cases ho : D.off
  · have HO : Hid (∀ (W : World) (M : List Ent) (i : Nat), i < 4 → St S w0 W (disk g D :: M) → Calls Try.prog 38 #[.pointer (some ⟨g, 0, none⟩), .int .i64 (i : Int)] W fun e w' => e = .returned (.tuple #[.agg (hasU (D.read i).1).1.cells.toArray, .string ⟨(D.read i).1.toArray⟩, .bool (hasU (D.read i).1).2, .int .i64 0]) ∧ St S w0 w' (disk g D :: M)) := Lib.hid (by
      intro W M i hi hS
      have h := supOne_any hS hD (i : Int)
      rw [Dsk.one_on h4 ho hi] at h
      exact h)
    obtain ⟨R, hR⟩ : ∃ R, readU D = R := ⟨_, rfl⟩
    have HR : Hid (R = if ((copies D 4).foldl bestU (zeroU, 0)).2 = 0 then (zeroU, 0, 11) else (((copies D 4).foldl bestU (zeroU, 0)).1, ((copies D 4).foldl bestU (zeroU, 0)).2, 0)) := Lib.hid (by rw [← hR]; unfold readU; rw [if_neg (by simp [ho])])
    rw [hR]
    clear hR ho hD h4
    (go_enter Try.func15, Try.ntmps15)
    go_wp2_with (first | go_skip | (first | (have q9 := gz; clear q9; ((with_reducible refine g_alloc ?_); refine wl_of rfl ?_; refine wp_alloc hS rfl rfl rfl rfl ?_; clear hS; intro gb w1 hS)) | ((with_reducible refine g_alloc ?_); refine wl_of rfl ?_; refine wp_alloc hS rfl rfl rfl rfl ?_; clear hS; intro gz w1 hS)) | fail)
    go_loopw [6, 12] (fun cnt k wz => ∃ (i : Nat) (b : Sup) (n : Nat), i ≤ 4 ∧ k = .int .i64 i ∧ Hid ((copies D i).foldl bestU (zeroU, 0) = (b, n)) ∧ n ≤ i ∧ cnt = .int .i64 n ∧ St S w0 wz (.row gb b.cells 28 (0, 0) :: .row gz [.int .i64 0, .int .i64 0, .int .i64 0, .int .i64 0, .int .i64 0, .int .i64 0, .int .i64 0, .int .u64 0, .int .i64 0, .int .i64 0, .int .u64 0, .int .u64 0, .int .u64 0, .int .u64 0, .int .u64 0, .int .u64 0, .int .u64 0] 28 (0, 0) :: disk g D :: M)) (fun _ k _ => 4 - (intOf k).toNat)
    case atStart => exact ⟨0, zeroU, 0, by omega, rfl, Lib.hid rfl, by omega, rfl, hS⟩
    case round =>
      clear hS
      obtain ⟨i, b, n, hi, rfl, HB, hn, rfl, hS⟩ := hrel
      by_cases hi4 : i < 4
      · have hi41 : (i : Int) < 4 := by omega
        have H1 := Lib.hid (fun (W : World) (M : List Ent) (hS : St S w0 W (disk g D :: M)) => HO.out W M i hi4 hS)
        have hcs := copies_snoc D i
        rw [HB.out] at hcs
        clear HB HO
        generalize hasU (D.read (i : Int)).1 = R1 at H1 hcs
        generalize (D.read (i : Int)).1 = O at H1
        obtain ⟨x, ok⟩ := R1
        have HC := Lib.hid hcs
        clear hcs
        simp only at H1
        cases ok
        · have HN : Hid ((copies D (i + 1)).foldl bestU (zeroU, 0) = (b, n)) := Lib.hid (by rw [HC.out]; unfold bestU; rw [if_pos rfl])
          clear HC
          go_wp2_with (first | go_skip | ((with_reducible refine g_alloc ?_); refine wl_of rfl ?_; refine wp_alloc hS rfl rfl rfl rfl ?_; clear hS; intro gx w1 hS) | ((with_reducible refine g_load ?_); refine wl_run rfl (by first | exact a_load1 hS rfl rfl rfl rfl (by (repeat (first | exact Ix.here | apply Ix.there))) (by rfl) | exact a_loadR hS rfl rfl rfl rfl (by (repeat (first | exact Ix.here | apply Ix.there))) (by rfl) | fail) ?_) | ((with_reducible refine g_store ?_); refine wl_of rfl ?_; refine a_storeA (vs := Sup.cells x) (cs' := Sup.cells x) hS rfl rfl rfl (by rfl) (sup_one _) (by (repeat (first | exact Sw.here | apply Sw.there))) (by exact Nat.le_refl 17) (by rfl) ?_; clear hS; intro w' hS) | (go_at_call 38; (refine (H1.out _ _ (hS.out (by (repeat (first | exact Out.here | apply Out.there))))).mono ?_; clear hS; rintro e w' ⟨rfl, hS⟩)) | fail)
          exact ⟨⟨i + 1, b, n, by omega, by simp, HN, by omega, rfl, hS.pick⟩, by simp [intOf]; omega⟩
        · have HC2 : Hid ((copies D (i + 1)).foldl bestU (zeroU, 0) = if b.seq < x.seq then (x, 1) else if x = b then (b, n + 1) else (b, n)) := Lib.hid (by rw [HC.out]; unfold bestU; rw [if_neg (by simp)])
          clear HC
          by_cases hlt : b.seq < x.seq
          · have HN : Hid ((copies D (i + 1)).foldl bestU (zeroU, 0) = (x, 1)) := Lib.hid (by rw [HC2.out, if_pos hlt])
            clear HC2
            go_wp2_with (first | go_skip | ((with_reducible refine g_alloc ?_); refine wl_of rfl ?_; refine wp_alloc hS rfl rfl rfl rfl ?_; clear hS; intro gx w1 hS) | ((with_reducible refine g_load ?_); refine wl_run rfl (by first | exact a_load1 hS rfl rfl rfl rfl (by (repeat (first | exact Ix.here | apply Ix.there))) (by rfl) | exact a_loadR hS rfl rfl rfl rfl (by (repeat (first | exact Ix.here | apply Ix.there))) (by rfl) | fail) ?_) | ((with_reducible refine g_store ?_); refine wl_of rfl ?_; refine a_storeA (vs := Sup.cells x) (cs' := Sup.cells x) hS rfl rfl rfl (by rfl) (sup_one _) (by (repeat (first | exact Sw.here | apply Sw.there))) (by exact Nat.le_refl 17) (by rfl) ?_; clear hS; intro w' hS) | (go_at_call 38; (refine (H1.out _ _ (hS.out (by (repeat (first | exact Out.here | apply Out.there))))).mono ?_; clear hS; rintro e w' ⟨rfl, hS⟩)) | fail)
            exact ⟨⟨i + 1, x, 1, by omega, by simp, HN, by omega, rfl, hS.pick⟩, by simp [intOf]; omega⟩
          · by_cases hxb : x = b
            · have HN : Hid ((copies D (i + 1)).foldl bestU (zeroU, 0) = (b, n + 1)) := Lib.hid (by rw [HC2.out, if_neg hlt, if_pos hxb])
              have hq : eqV Try.prog 4 28 (.agg x.cells.toArray) (.agg b.cells.toArray) = some true := by rw [eqSup, decide_eq_true hxb]
              clear HC2 hxb
              go_wp2_with (first | go_skip | ((with_reducible refine g_alloc ?_); refine wl_of rfl ?_; refine wp_alloc hS rfl rfl rfl rfl ?_; clear hS; intro gx w1 hS) | ((with_reducible refine g_load ?_); refine wl_run rfl (by first | exact a_load1 hS rfl rfl rfl rfl (by (repeat (first | exact Ix.here | apply Ix.there))) (by rfl) | exact a_loadR hS rfl rfl rfl rfl (by (repeat (first | exact Ix.here | apply Ix.there))) (by rfl) | fail) ?_) | ((with_reducible refine g_store ?_); refine wl_of rfl ?_; refine a_storeA (vs := Sup.cells x) (cs' := Sup.cells x) hS rfl rfl rfl (by rfl) (sup_one _) (by (repeat (first | exact Sw.here | apply Sw.there))) (by exact Nat.le_refl 17) (by rfl) ?_; clear hS; intro w' hS) | (go_at_call 38; (refine (H1.out _ _ (hS.out (by (repeat (first | exact Out.here | apply Out.there))))).mono ?_; clear hS; rintro e w' ⟨rfl, hS⟩)) | ((with_reducible refine g_eql (t := 28) ?_); refine wl_run rfl (x_structEq rfl rfl rfl supGuard hq) ?_) | fail)
              exact ⟨⟨i + 1, b, n + 1, by omega, by simp, HN, by omega, by simp, hS.pick⟩, by simp [intOf]; omega⟩
            · have HN : Hid ((copies D (i + 1)).foldl bestU (zeroU, 0) = (b, n)) := Lib.hid (by rw [HC2.out, if_neg hlt, if_neg hxb])
              have hq : eqV Try.prog 4 28 (.agg x.cells.toArray) (.agg b.cells.toArray) = some false := by rw [eqSup, decide_eq_false hxb]
              clear HC2 hxb
              go_wp2_with (first | go_skip | ((with_reducible refine g_alloc ?_); refine wl_of rfl ?_; refine wp_alloc hS rfl rfl rfl rfl ?_; clear hS; intro gx w1 hS) | ((with_reducible refine g_load ?_); refine wl_run rfl (by first | exact a_load1 hS rfl rfl rfl rfl (by (repeat (first | exact Ix.here | apply Ix.there))) (by rfl) | exact a_loadR hS rfl rfl rfl rfl (by (repeat (first | exact Ix.here | apply Ix.there))) (by rfl) | fail) ?_) | ((with_reducible refine g_store ?_); refine wl_of rfl ?_; refine a_storeA (vs := Sup.cells x) (cs' := Sup.cells x) hS rfl rfl rfl (by rfl) (sup_one _) (by (repeat (first | exact Sw.here | apply Sw.there))) (by exact Nat.le_refl 17) (by rfl) ?_; clear hS; intro w' hS) | (go_at_call 38; (refine (H1.out _ _ (hS.out (by (repeat (first | exact Out.here | apply Out.there))))).mono ?_; clear hS; rintro e w' ⟨rfl, hS⟩)) | ((with_reducible refine g_eql (t := 28) ?_); refine wl_run rfl (x_structEq rfl rfl rfl supGuard hq) ?_) | fail)
              exact ⟨⟨i + 1, b, n, by omega, by simp, HN, by omega, rfl, hS.pick⟩, by simp [intOf]; omega⟩
      · obtain rfl : i = 4 := by omega
        have HR2 := HR
        rw [HB.out] at HR2
        clear HO HB HR
        by_cases hn0 : n = 0
        · subst hn0
          have HE : Hid (R = (zeroU, 0, 11)) := Lib.hid (by rw [HR2.out, if_pos rfl])
          go_wp2_with (first | go_skip | ((with_reducible refine g_load ?_); refine wl_run rfl (by first | exact a_load1 hS rfl rfl rfl rfl (by (repeat (first | exact Ix.here | apply Ix.there))) (by rfl) | exact a_loadR hS rfl rfl rfl rfl (by (repeat (first | exact Ix.here | apply Ix.there))) (by rfl) | fail) ?_) | (refine au5 (n := ?_); clear hS; intro w' hS) | fail)
          exact end_c3 hS rfl rfl rfl rfl rfl rfl rfl (h := ⟨by rw [HE.out]; rfl, hS.pick⟩)
        · have HE : Hid (R = (b, n, 0)) := Lib.hid (by rw [HR2.out, if_neg hn0])
          have hn1 : ((n : Int) == 0) = false := by rw [beq_eq_false_iff_ne]; omega
          go_wp2_with (first | go_skip | ((with_reducible refine g_load ?_); refine wl_run rfl (by first | exact a_load1 hS rfl rfl rfl rfl (by (repeat (first | exact Ix.here | apply Ix.there))) (by rfl) | exact a_loadR hS rfl rfl rfl rfl (by (repeat (first | exact Ix.here | apply Ix.there))) (by rfl) | fail) ?_) | ((with_reducible refine g_store ?_); refine wl_of rfl ?_; refine a_storeA (vs := Sup.cells b) (cs' := Sup.cells b) hS rfl rfl rfl (by rfl) (sup_one _) (by (repeat (first | exact Sw.here | apply Sw.there))) (by exact Nat.le_refl 17) (by rfl) ?_; clear hS; intro w' hS) | fail)
          exact end_c3 hS rfl rfl rfl rfl rfl rfl rfl (h := ⟨by rw [HE.out]; rfl, hS.pick⟩)
  · have HO := Lib.hid (fun (W : World) (M : List Ent) (hS : St S w0 W (disk g D :: M)) => supOne_any hS hD ((0 : Nat) : Int))
    rw [Dsk.one_off h4 ho (by omega)] at HO
    have e : readU D = (zeroU, 0, 6) := by unfold readU; rw [if_pos ho]
    rw [e]
    clear e ho hD h4
    (go_enter Try.func15, Try.ntmps15)
    go_wp2_with (first | go_skip | (first | (have q9 := gz; clear q9; ((with_reducible refine g_alloc ?_); refine wl_of rfl ?_; refine wp_alloc hS rfl rfl rfl rfl ?_; clear hS; intro gb w1 hS)) | ((with_reducible refine g_alloc ?_); refine wl_of rfl ?_; refine wp_alloc hS rfl rfl rfl rfl ?_; clear hS; intro gz w1 hS)) | fail)
    go_loopw [6, 12] (fun cnt k wz => k = .int .i64 0 ∧ cnt = .int .i64 0 ∧ St S w0 wz (.row gb [.int .i64 0, .int .i64 0, .int .i64 0, .int .i64 0, .int .i64 0, .int .i64 0, .int .i64 0, .int .u64 0, .int .i64 0, .int .i64 0, .int .u64 0, .int .u64 0, .int .u64 0, .int .u64 0, .int .u64 0, .int .u64 0, .int .u64 0] 28 (0, 0) :: .row gz [.int .i64 0, .int .i64 0, .int .i64 0, .int .i64 0, .int .i64 0, .int .i64 0, .int .i64 0, .int .u64 0, .int .i64 0, .int .i64 0, .int .u64 0, .int .u64 0, .int .u64 0, .int .u64 0, .int .u64 0, .int .u64 0, .int .u64 0] 28 (0, 0) :: disk g D :: M)) (fun _ k _ => 4 - (intOf k).toNat)
    case atStart => exact ⟨rfl, rfl, hS⟩
    case round =>
      clear hS
      obtain ⟨rfl, rfl, hS⟩ := hrel
      go_wp2_with (first | go_skip | ((with_reducible refine g_alloc ?_); refine wl_of rfl ?_; refine wp_alloc hS rfl rfl rfl rfl ?_; clear hS; intro gx w1 hS) | ((with_reducible refine g_load ?_); refine wl_run rfl (by first | exact a_load1 hS rfl rfl rfl rfl (by (repeat (first | exact Ix.here | apply Ix.there))) (by rfl) | exact a_loadR hS rfl rfl rfl rfl (by (repeat (first | exact Ix.here | apply Ix.there))) (by rfl) | fail) ?_) | ((with_reducible refine g_store ?_); refine wl_of rfl ?_; refine a_storeA (vs := Sup.cells zeroU) (cs' := Sup.cells zeroU) hS rfl rfl rfl (by rfl) (sup_one _) (by (repeat (first | exact Sw.here | apply Sw.there))) (by exact Nat.le_refl 17) (by rfl) ?_; clear hS; intro w' hS) | (go_at_call 38; (refine (HO.out _ _ (hS.out (by (repeat (first | exact Out.here | apply Out.there))))).mono ?_; clear hS; rintro e w' ⟨rfl, hS⟩)) | fail)
      exact end_c3 hS rfl rfl rfl rfl rfl rfl rfl (h := ⟨rfl, hS.pick⟩)
end
end Go.Proofs.Ytbfdnpahojoccaa
namespace Go.Cmp
open Go.RowKit
/-- What is so of a disk on which copies are being written. -/
theorem writesU_step (s : Sup) (k i : Nat) (D : Dsk) {was : Sup} {old : List UInt8} {ok : Bool} {er : Int} (h : oneU D i = (was, old, ok, er)) :
    writesU s (k + 1) i D = if er ≠ 0 then (er, D) else if ok = true ∧ was = s then writesU s k (i + 1) D else
      if (D.write i (sealS old (supB s)).1).1 ≠ 0 then D.write i (sealS old (supB s)).1
      else if (D.write i (sealS old (supB s)).1).2.flush.1 ≠ 0 then (D.write i (sealS old (supB s)).1).2.flush
      else writesU s k (i + 1) (D.write i (sealS old (supB s)).1).2.flush.2 := by
  conv => lhs; unfold writesU
  rw [h]
theorem oneU_len {D : Dsk} (h : D.Ok) (i : Int) : (oneU D i).2.1.length ≤ 384 := by
  unfold oneU
  split
  · exact Nat.zero_le _
  · exact Dsk.read_len h i
end Go.Cmp
namespace Go.Proofs.Ytbfdnpahojoccaa
open Go.RowKit Go.Cmp

section
variable {S : List Nat} {w0 w : World} {M : List Ent} {g : Nat} {D : Dsk}
set_option maxHeartbeats 16000000 in
theorem supWrite_any (hS : St S w0 w (disk g D :: M)) (hD : D.Ok) (hw : D.way.length + 8 ≤ 1000000) (hst : D.steps + 8 ≤ 1000000000) (s : Sup) (hu : s.U64) :
    Calls Try.prog 12 #[.pointer (some ⟨g, 0, none⟩), .agg s.cells.toArray] w fun e w' => e = .returned (.int .i64 (writeU s D).1) ∧ St S w0 w' (disk g (writeU s D).2 :: M) := by
  have HP := Lib.hid (fun w => supPack_any s hu w)
  have hbl := supB_len s
  cases hr : s.right
  · have e : writeU s D = (4, D) := by unfold writeU; rw [if_pos hr]
    have ep : packU s = ([], 4) := by unfold packU; rw [if_pos hr]
    rw [e]
    rw [ep] at HP
    clear hr e ep hu hbl hst hw hD
    (go_enter Try.func12, Try.ntmps12)
    go_wp2_with (first | go_skip | ((with_reducible refine g_box ?_); refine wl_of rfl ?_; refine wp_box hS rfl rfl rfl ?_; clear hS; intro gs w1 hS) | ((with_reducible refine g_load ?_); refine wl_run rfl (by first | exact a_load1 hS rfl rfl rfl rfl (by (repeat (first | exact Ix.here | apply Ix.there))) (by rfl) | exact a_loadR hS rfl rfl rfl rfl (by (repeat (first | exact Ix.here | apply Ix.there))) (by rfl) | fail) ?_) | (go_at_call 16; refine (HP.out _).mono ?_; rintro e w' ⟨rfl, h⟩; replace hS := hS.call h; clear h) | fail)
    go_ret
    exact ⟨rfl, hS.pick⟩
  · have ep : packU s = (supB s, 0) := by unfold packU; rw [if_neg (by simp [hr])]
    rw [ep] at HP
    obtain ⟨R, hR⟩ : ∃ R, writeU s D = R := ⟨_, rfl⟩
    have HR : Hid (writesU s 4 0 D = R) := Lib.hid (by rw [← hR]; unfold writeU; rw [if_neg (by simp [hr])])
    rw [hR]
    clear hr ep hu hR
    (go_enter Try.func12, Try.ntmps12)
    go_wp2_with (first | go_skip | ((with_reducible refine g_box ?_); refine wl_of rfl ?_; refine wp_box hS rfl rfl rfl ?_; clear hS; intro gs w1 hS) | ((with_reducible refine g_load ?_); refine wl_run rfl (by first | exact a_load1 hS rfl rfl rfl rfl (by (repeat (first | exact Ix.here | apply Ix.there))) (by rfl) | exact a_loadR hS rfl rfl rfl rfl (by (repeat (first | exact Ix.here | apply Ix.there))) (by rfl) | fail) ?_) | (go_at_call 16; refine (HP.out _).mono ?_; rintro e w' ⟨rfl, h⟩; replace hS := hS.call h; clear h) | fail)
    go_loopw [24] (fun k wz => ∃ (i : Nat) (D' : Dsk), i ≤ 4 ∧ k = .int .i64 i ∧ D'.Ok ∧ D'.lasts.length = D.lasts.length ∧ D'.way.length ≤ D.way.length + 2 * i ∧ D'.steps ≤ D.steps + 2 * (i : Int) ∧ Hid (R = writesU s (4 - i) i D') ∧ St S w0 wz (.row gs s.cells 28 (0, 0) :: disk g D' :: M)) (fun k _ => 4 - (intOf k).toNat)
    case atStart => exact ⟨0, D, by omega, rfl, hD, rfl, by omega, by omega, Lib.hid HR.out.symm, hS.pick⟩
    case round =>
      clear hS hD HR HP
      obtain ⟨i, D', hi, rfl, hD', hlen, hwl, hsl9, HW9, hS⟩ := hrel
      by_cases hi4 : i < 4
      · have hi41 : (i : Int) < 4 := by omega
        have HO := Lib.hid (fun (W : World) (M : List Ent) (hS : St S w0 W (disk g D' :: M)) => supOne_any hS hD' (i : Int))
        have hol := oneU_len hD' (i : Int)
        obtain ⟨R1, hR1⟩ : ∃ R, oneU D' i = R := ⟨_, rfl⟩
        rw [hR1] at HO hol
        obtain ⟨was, old, ok, er⟩ := R1
        simp only at HO hol
        have hW2 := HW9.out
        rw [show 4 - i = (4 - (i + 1)) + 1 by omega, writesU_step s _ i D' hR1] at hW2
        clear HW9 hR1
        have HSL := Lib.hid (fun w => seal_any old (supB s) (by omega) (by omega) w)
        by_cases her : er = 0
        · subst her
          rw [if_neg (by decide)] at hW2
          cases ok
          · rw [if_neg (by simp)] at hW2
            obtain ⟨E1, hE1⟩ : ∃ E, D'.write (i : Int) (sealS old (supB s)).1 = E := ⟨_, rfl⟩
            have HW := Lib.hid (fun (W : World) (M : List Ent) (hS : St S w0 W (disk g D' :: M)) => disk_write hS hD' (i : Int) (sealS old (supB s)).1)
            have hn1 := Dsk.write_next hD' (i : Int) (sealS old (supB s)).1 (by omega) (by omega)
            rw [hE1] at HW hn1
            have hw2 := hW2
            rw [hE1] at hw2
            clear hW2
            generalize hsl : sealS old (supB s) = SL at HSL HW hE1 hw2
            obtain ⟨tx, te⟩ := SL
            obtain ⟨e1, D1⟩ := E1
            simp only at HSL HW hn1 hw2
            by_cases he1 : e1 = 0
            · subst he1
              obtain ⟨E2, hE2⟩ : ∃ E, D1.flush = E := ⟨_, rfl⟩
              have hD1 := hn1.ok
              have HF := Lib.hid (fun (W : World) (M : List Ent) (hS : St S w0 W (disk g D1 :: M)) => disk_flush hS hD1)
              have hn2 := Dsk.flush_next hD1 (by have := hn1.steps; omega)
              rw [hE2] at HF hn2 hw2
              obtain ⟨e2, D2⟩ := E2
              simp only at HF hn2 hw2
              rw [if_neg (by decide)] at hw2
              by_cases he2 : e2 = 0
              · subst he2
                rw [if_neg (by decide)] at hw2
                have HN := Lib.hid hw2
                have hD2 := hn2.ok
                have k1 : D2.lasts.length = D.lasts.length := by rw [hn2.len, hn1.len, hlen]
                have k2 : D2.way.length ≤ D.way.length + 2 * (i + 1) := by have := hn1.way; have := hn2.way; omega
                have k3 : D2.steps ≤ D.steps + 2 * ((i + 1 : Nat) : Int) := by have := hn1.steps; have := hn2.steps; omega
                clear hw2 hE1 hE2 hsl hn1 hn2
                go_wp2_with (first | go_skip | ((with_reducible refine g_alloc ?_); refine wl_of rfl ?_; refine wp_alloc hS rfl rfl rfl rfl ?_; clear hS; intro gx w1 hS) | ((with_reducible refine g_load ?_); refine wl_run rfl (by first | exact a_load1 hS rfl rfl rfl rfl (by (repeat (first | exact Ix.here | apply Ix.there))) (by rfl) | exact a_loadR hS rfl rfl rfl rfl (by (repeat (first | exact Ix.here | apply Ix.there))) (by rfl) | fail) ?_) | ((with_reducible refine g_store ?_); refine wl_of rfl ?_; refine a_storeA (vs := Sup.cells was) (cs' := Sup.cells was) hS rfl rfl rfl (by rfl) (sup_one _) (by (repeat (first | exact Sw.here | apply Sw.there))) (by exact Nat.le_refl 17) (by rfl) ?_; clear hS; intro w' hS) | (go_at_call 38; (refine (HO.out _ _ (hS.out (by (repeat (first | exact Out.here | apply Out.there))))).mono ?_; clear hS; rintro e w' ⟨rfl, hS⟩)) | (go_at_call 39; refine (HSL.out _).mono ?_; rintro e w' ⟨rfl, h⟩; replace hS := hS.call h; clear h) | (go_at_call 40; (refine (HW.out _ _ (hS.out (by (repeat (first | exact Out.here | apply Out.there))))).mono ?_; clear hS; rintro e w' ⟨rfl, hS⟩)) | (go_at_call 41; (refine (HF.out _ _ (hS.out (by (repeat (first | exact Out.here | apply Out.there))))).mono ?_; clear hS; rintro e w' ⟨rfl, hS⟩)) | fail)
                exact ⟨⟨i + 1, D2, by omega, by simp, hD2, k1, k2, k3, HN, hS.pick⟩, by simp [intOf]; omega⟩
              · rw [if_pos (by simpa using he2)] at hw2
                have hb2 : (e2 != 0) = true := by simpa using he2
                have HN := Lib.hid hw2
                clear hw2 hE1 hE2 hsl hn1 hn2 he2
                go_wp2_with (first | go_skip | ((with_reducible refine g_alloc ?_); refine wl_of rfl ?_; refine wp_alloc hS rfl rfl rfl rfl ?_; clear hS; intro gx w1 hS) | ((with_reducible refine g_load ?_); refine wl_run rfl (by first | exact a_load1 hS rfl rfl rfl rfl (by (repeat (first | exact Ix.here | apply Ix.there))) (by rfl) | exact a_loadR hS rfl rfl rfl rfl (by (repeat (first | exact Ix.here | apply Ix.there))) (by rfl) | fail) ?_) | ((with_reducible refine g_store ?_); refine wl_of rfl ?_; refine a_storeA (vs := Sup.cells was) (cs' := Sup.cells was) hS rfl rfl rfl (by rfl) (sup_one _) (by (repeat (first | exact Sw.here | apply Sw.there))) (by exact Nat.le_refl 17) (by rfl) ?_; clear hS; intro w' hS) | (go_at_call 38; (refine (HO.out _ _ (hS.out (by (repeat (first | exact Out.here | apply Out.there))))).mono ?_; clear hS; rintro e w' ⟨rfl, hS⟩)) | (go_at_call 39; refine (HSL.out _).mono ?_; rintro e w' ⟨rfl, h⟩; replace hS := hS.call h; clear h) | (go_at_call 40; (refine (HW.out _ _ (hS.out (by (repeat (first | exact Out.here | apply Out.there))))).mono ?_; clear hS; rintro e w' ⟨rfl, hS⟩)) | (go_at_call 41; (refine (HF.out _ _ (hS.out (by (repeat (first | exact Out.here | apply Out.there))))).mono ?_; clear hS; rintro e w' ⟨rfl, hS⟩)) | fail)
                go_ret
                exact ⟨by rw [HN.out]; rfl, by rw [HN.out]; exact hS.pick⟩
            · rw [if_pos (by simpa using he1)] at hw2
              have hb1 : (e1 != 0) = true := by simpa using he1
              have HN := Lib.hid hw2
              clear hw2 hE1 hsl hn1 he1
              go_wp2_with (first | go_skip | ((with_reducible refine g_alloc ?_); refine wl_of rfl ?_; refine wp_alloc hS rfl rfl rfl rfl ?_; clear hS; intro gx w1 hS) | ((with_reducible refine g_load ?_); refine wl_run rfl (by first | exact a_load1 hS rfl rfl rfl rfl (by (repeat (first | exact Ix.here | apply Ix.there))) (by rfl) | exact a_loadR hS rfl rfl rfl rfl (by (repeat (first | exact Ix.here | apply Ix.there))) (by rfl) | fail) ?_) | ((with_reducible refine g_store ?_); refine wl_of rfl ?_; refine a_storeA (vs := Sup.cells was) (cs' := Sup.cells was) hS rfl rfl rfl (by rfl) (sup_one _) (by (repeat (first | exact Sw.here | apply Sw.there))) (by exact Nat.le_refl 17) (by rfl) ?_; clear hS; intro w' hS) | (go_at_call 38; (refine (HO.out _ _ (hS.out (by (repeat (first | exact Out.here | apply Out.there))))).mono ?_; clear hS; rintro e w' ⟨rfl, hS⟩)) | (go_at_call 39; refine (HSL.out _).mono ?_; rintro e w' ⟨rfl, h⟩; replace hS := hS.call h; clear h) | (go_at_call 40; (refine (HW.out _ _ (hS.out (by (repeat (first | exact Out.here | apply Out.there))))).mono ?_; clear hS; rintro e w' ⟨rfl, hS⟩)) | (go_at_call 41; (refine (HF.out _ _ (hS.out (by (repeat (first | exact Out.here | apply Out.there))))).mono ?_; clear hS; rintro e w' ⟨rfl, hS⟩)) | fail)
              go_ret
              exact ⟨by rw [HN.out]; rfl, by rw [HN.out]; exact hS.pick⟩
          · have hq : eqV Try.prog 4 28 (.agg was.cells.toArray) (.agg s.cells.toArray) = some (decide (was = s)) := eqSup was s
            by_cases hws : was = s
            · rw [if_pos ⟨rfl, hws⟩] at hW2
              rw [decide_eq_true hws] at hq
              have HN := Lib.hid hW2
              clear hW2 hws HSL
              go_wp2_with (first | go_skip | ((with_reducible refine g_alloc ?_); refine wl_of rfl ?_; refine wp_alloc hS rfl rfl rfl rfl ?_; clear hS; intro gx w1 hS) | ((with_reducible refine g_load ?_); refine wl_run rfl (by first | exact a_load1 hS rfl rfl rfl rfl (by (repeat (first | exact Ix.here | apply Ix.there))) (by rfl) | exact a_loadR hS rfl rfl rfl rfl (by (repeat (first | exact Ix.here | apply Ix.there))) (by rfl) | fail) ?_) | ((with_reducible refine g_store ?_); refine wl_of rfl ?_; refine a_storeA (vs := Sup.cells was) (cs' := Sup.cells was) hS rfl rfl rfl (by rfl) (sup_one _) (by (repeat (first | exact Sw.here | apply Sw.there))) (by exact Nat.le_refl 17) (by rfl) ?_; clear hS; intro w' hS) | (go_at_call 38; (refine (HO.out _ _ (hS.out (by (repeat (first | exact Out.here | apply Out.there))))).mono ?_; clear hS; rintro e w' ⟨rfl, hS⟩)) | ((with_reducible refine g_eql (t := 28) ?_); refine wl_run rfl (x_structEq rfl rfl rfl supGuard hq) ?_) | fail)
              exact ⟨⟨i + 1, D', by omega, by simp, hD', hlen, by omega, by omega, HN, hS.pick⟩, by simp [intOf]; omega⟩
            · rw [if_neg (by simp [hws])] at hW2
              rw [decide_eq_false hws] at hq
              clear hws
              obtain ⟨E1, hE1⟩ : ∃ E, D'.write (i : Int) (sealS old (supB s)).1 = E := ⟨_, rfl⟩
              have HW := Lib.hid (fun (W : World) (M : List Ent) (hS : St S w0 W (disk g D' :: M)) => disk_write hS hD' (i : Int) (sealS old (supB s)).1)
              have hn1 := Dsk.write_next hD' (i : Int) (sealS old (supB s)).1 (by omega) (by omega)
              rw [hE1] at HW hn1
              have hw2 := hW2
              rw [hE1] at hw2
              clear hW2
              generalize hsl : sealS old (supB s) = SL at HSL HW hE1 hw2
              obtain ⟨tx, te⟩ := SL
              obtain ⟨e1, D1⟩ := E1
              simp only at HSL HW hn1 hw2
              by_cases he1 : e1 = 0
              · subst he1
                obtain ⟨E2, hE2⟩ : ∃ E, D1.flush = E := ⟨_, rfl⟩
                have hD1 := hn1.ok
                have HF := Lib.hid (fun (W : World) (M : List Ent) (hS : St S w0 W (disk g D1 :: M)) => disk_flush hS hD1)
                have hn2 := Dsk.flush_next hD1 (by have := hn1.steps; omega)
                rw [hE2] at HF hn2 hw2
                obtain ⟨e2, D2⟩ := E2
                simp only at HF hn2 hw2
                rw [if_neg (by decide)] at hw2
                by_cases he2 : e2 = 0
                · subst he2
                  rw [if_neg (by decide)] at hw2
                  have HN := Lib.hid hw2
                  have hD2 := hn2.ok
                  have k1 : D2.lasts.length = D.lasts.length := by rw [hn2.len, hn1.len, hlen]
                  have k2 : D2.way.length ≤ D.way.length + 2 * (i + 1) := by have := hn1.way; have := hn2.way; omega
                  have k3 : D2.steps ≤ D.steps + 2 * ((i + 1 : Nat) : Int) := by have := hn1.steps; have := hn2.steps; omega
                  clear hw2 hE1 hE2 hsl hn1 hn2
                  go_wp2_with (first | go_skip | ((with_reducible refine g_alloc ?_); refine wl_of rfl ?_; refine wp_alloc hS rfl rfl rfl rfl ?_; clear hS; intro gx w1 hS) | ((with_reducible refine g_load ?_); refine wl_run rfl (by first | exact a_load1 hS rfl rfl rfl rfl (by (repeat (first | exact Ix.here | apply Ix.there))) (by rfl) | exact a_loadR hS rfl rfl rfl rfl (by (repeat (first | exact Ix.here | apply Ix.there))) (by rfl) | fail) ?_) | ((with_reducible refine g_store ?_); refine wl_of rfl ?_; refine a_storeA (vs := Sup.cells was) (cs' := Sup.cells was) hS rfl rfl rfl (by rfl) (sup_one _) (by (repeat (first | exact Sw.here | apply Sw.there))) (by exact Nat.le_refl 17) (by rfl) ?_; clear hS; intro w' hS) | (go_at_call 38; (refine (HO.out _ _ (hS.out (by (repeat (first | exact Out.here | apply Out.there))))).mono ?_; clear hS; rintro e w' ⟨rfl, hS⟩)) | ((with_reducible refine g_eql (t := 28) ?_); refine wl_run rfl (x_structEq rfl rfl rfl supGuard hq) ?_) | (go_at_call 39; refine (HSL.out _).mono ?_; rintro e w' ⟨rfl, h⟩; replace hS := hS.call h; clear h) | (go_at_call 40; (refine (HW.out _ _ (hS.out (by (repeat (first | exact Out.here | apply Out.there))))).mono ?_; clear hS; rintro e w' ⟨rfl, hS⟩)) | (go_at_call 41; (refine (HF.out _ _ (hS.out (by (repeat (first | exact Out.here | apply Out.there))))).mono ?_; clear hS; rintro e w' ⟨rfl, hS⟩)) | fail)
                  exact ⟨⟨i + 1, D2, by omega, by simp, hD2, k1, k2, k3, HN, hS.pick⟩, by simp [intOf]; omega⟩
                · rw [if_pos (by simpa using he2)] at hw2
                  have hb2 : (e2 != 0) = true := by simpa using he2
                  have HN := Lib.hid hw2
                  clear hw2 hE1 hE2 hsl hn1 hn2 he2
                  go_wp2_with (first | go_skip | ((with_reducible refine g_alloc ?_); refine wl_of rfl ?_; refine wp_alloc hS rfl rfl rfl rfl ?_; clear hS; intro gx w1 hS) | ((with_reducible refine g_load ?_); refine wl_run rfl (by first | exact a_load1 hS rfl rfl rfl rfl (by (repeat (first | exact Ix.here | apply Ix.there))) (by rfl) | exact a_loadR hS rfl rfl rfl rfl (by (repeat (first | exact Ix.here | apply Ix.there))) (by rfl) | fail) ?_) | ((with_reducible refine g_store ?_); refine wl_of rfl ?_; refine a_storeA (vs := Sup.cells was) (cs' := Sup.cells was) hS rfl rfl rfl (by rfl) (sup_one _) (by (repeat (first | exact Sw.here | apply Sw.there))) (by exact Nat.le_refl 17) (by rfl) ?_; clear hS; intro w' hS) | (go_at_call 38; (refine (HO.out _ _ (hS.out (by (repeat (first | exact Out.here | apply Out.there))))).mono ?_; clear hS; rintro e w' ⟨rfl, hS⟩)) | ((with_reducible refine g_eql (t := 28) ?_); refine wl_run rfl (x_structEq rfl rfl rfl supGuard hq) ?_) | (go_at_call 39; refine (HSL.out _).mono ?_; rintro e w' ⟨rfl, h⟩; replace hS := hS.call h; clear h) | (go_at_call 40; (refine (HW.out _ _ (hS.out (by (repeat (first | exact Out.here | apply Out.there))))).mono ?_; clear hS; rintro e w' ⟨rfl, hS⟩)) | (go_at_call 41; (refine (HF.out _ _ (hS.out (by (repeat (first | exact Out.here | apply Out.there))))).mono ?_; clear hS; rintro e w' ⟨rfl, hS⟩)) | fail)
                  go_ret
                  exact ⟨by rw [HN.out]; rfl, by rw [HN.out]; exact hS.pick⟩
              · rw [if_pos (by simpa using he1)] at hw2
                have hb1 : (e1 != 0) = true := by simpa using he1
                have HN := Lib.hid hw2
                clear hw2 hE1 hsl hn1 he1
                go_wp2_with (first | go_skip | ((with_reducible refine g_alloc ?_); refine wl_of rfl ?_; refine wp_alloc hS rfl rfl rfl rfl ?_; clear hS; intro gx w1 hS) | ((with_reducible refine g_load ?_); refine wl_run rfl (by first | exact a_load1 hS rfl rfl rfl rfl (by (repeat (first | exact Ix.here | apply Ix.there))) (by rfl) | exact a_loadR hS rfl rfl rfl rfl (by (repeat (first | exact Ix.here | apply Ix.there))) (by rfl) | fail) ?_) | ((with_reducible refine g_store ?_); refine wl_of rfl ?_; refine a_storeA (vs := Sup.cells was) (cs' := Sup.cells was) hS rfl rfl rfl (by rfl) (sup_one _) (by (repeat (first | exact Sw.here | apply Sw.there))) (by exact Nat.le_refl 17) (by rfl) ?_; clear hS; intro w' hS) | (go_at_call 38; (refine (HO.out _ _ (hS.out (by (repeat (first | exact Out.here | apply Out.there))))).mono ?_; clear hS; rintro e w' ⟨rfl, hS⟩)) | ((with_reducible refine g_eql (t := 28) ?_); refine wl_run rfl (x_structEq rfl rfl rfl supGuard hq) ?_) | (go_at_call 39; refine (HSL.out _).mono ?_; rintro e w' ⟨rfl, h⟩; replace hS := hS.call h; clear h) | (go_at_call 40; (refine (HW.out _ _ (hS.out (by (repeat (first | exact Out.here | apply Out.there))))).mono ?_; clear hS; rintro e w' ⟨rfl, hS⟩)) | (go_at_call 41; (refine (HF.out _ _ (hS.out (by (repeat (first | exact Out.here | apply Out.there))))).mono ?_; clear hS; rintro e w' ⟨rfl, hS⟩)) | fail)
                go_ret
                exact ⟨by rw [HN.out]; rfl, by rw [HN.out]; exact hS.pick⟩
        · rw [if_pos (by simpa using her)] at hW2
          have hb : (er != 0) = true := by simpa using her
          have HN := Lib.hid hW2
          clear hW2 her HSL
          go_wp2_with (first | go_skip | ((with_reducible refine g_alloc ?_); refine wl_of rfl ?_; refine wp_alloc hS rfl rfl rfl rfl ?_; clear hS; intro gx w1 hS) | ((with_reducible refine g_load ?_); refine wl_run rfl (by first | exact a_load1 hS rfl rfl rfl rfl (by (repeat (first | exact Ix.here | apply Ix.there))) (by rfl) | exact a_loadR hS rfl rfl rfl rfl (by (repeat (first | exact Ix.here | apply Ix.there))) (by rfl) | fail) ?_) | ((with_reducible refine g_store ?_); refine wl_of rfl ?_; refine a_storeA (vs := Sup.cells was) (cs' := Sup.cells was) hS rfl rfl rfl (by rfl) (sup_one _) (by (repeat (first | exact Sw.here | apply Sw.there))) (by exact Nat.le_refl 17) (by rfl) ?_; clear hS; intro w' hS) | (go_at_call 38; (refine (HO.out _ _ (hS.out (by (repeat (first | exact Out.here | apply Out.there))))).mono ?_; clear hS; rintro e w' ⟨rfl, hS⟩)) | fail)
          go_ret
          exact ⟨by rw [HN.out]; rfl, by rw [HN.out]; exact hS.pick⟩
      · obtain rfl : i = 4 := by omega
        have HN : Hid (R = (0, D')) := Lib.hid (by rw [HW9.out]; rfl)
        go_wp2_with (first | go_skip | fail | fail)
        go_ret
        exact ⟨by rw [HN.out]; rfl, by rw [HN.out]; exact hS.pick⟩
end
end Go.Proofs.Ytbfdnpahojoccaa
namespace Go.Cmp
open Go.RowKit
def plainU : Sup := ⟨1, 1, 3, 0, 0, 0, 0, 0, 0, 0, 0, 0, 0, 0, 0, 0, 0⟩
theorem plainU_U : plainU.U64 := ⟨by decide, by decide, by decide, by decide, by decide, by decide, by decide, by decide⟩
theorem plainU_right : plainU.right = true := by decide
end Go.Cmp
namespace Go.Proofs.Ytbfdnpahojoccaa
open Go.RowKit Go.Cmp

section
variable {S : List Nat} {w0 w : World} {M : List Ent} {g : Nat} {D : Dsk}
theorem new4 : newDsk 4 = Dsk.fresh := by rfl
theorem plain11_any (w : World) : Calls Try.prog 35 #[] w fun e w' => e = .returned (.agg plainU.cells.toArray) ∧ St [] w w' [] := by
  have hS := St.init w
  (go_enter Try.func35, Try.ntmps35)
  go_wp2_with (first | go_skip | ((with_reducible refine g_alloc ?_); refine wl_of rfl ?_; refine wp_alloc hS rfl rfl rfl rfl ?_; clear hS; intro gz w1 hS) | (refine au5 (n := ?_); clear hS; intro w' hS) | fail)
  exact end_c1 hS rfl rfl rfl rfl rfl (h := ⟨rfl, hS.nil⟩)
set_option maxHeartbeats 8000000 in
theorem awake11_any (w : World) : Calls Try.prog 8 #[] w fun e w' => e = .returned (.bool true) ∧ St [] w w' [] := by
  have hS := St.init w
  have HNW := Lib.hid (fun (w : World) (M : List Ent) (hS : St [] w w M) => disk_new 4 (by omega) (by omega) hS)
  have HR1 := Lib.hid (fun (w0 w : World) (M : List Ent) (g : Nat) (hS : St [] w0 w (disk g Dsk.fresh :: M)) => supRead_any hS (by rw [← new4]; exact newDsk_ok 4 (by omega)) (by show 4 ≤ 4; omega))
  rw [Dsk.fresh_read] at HR1
  have HW := Lib.hid (fun (w0 w : World) (M : List Ent) (g : Nat) (hS : St [] w0 w (disk g Dsk.fresh :: M)) => supWrite_any hS (by rw [← new4]; exact newDsk_ok 4 (by omega)) (by show 0 + 8 ≤ 1000000; omega) (by show (0 : Int) + 8 ≤ 1000000000; omega) plainU plainU_U)
  rw [Dsk.fresh_write plainU_right] at HW
  have HR2 := Lib.hid (fun (w0 w : World) (M : List Ent) (g : Nat) (hS : St [] w0 w (disk g (Dsk.full plainU) :: M)) => supRead_any hS (Dsk.full_ok plainU) (by show 4 ≤ 4; omega))
  rw [Dsk.full_read plainU_right plainU_U] at HR2
  have HPL := Lib.hid (fun w => plain11_any w)
  have hq : eqV Try.prog 4 28 (.agg plainU.cells.toArray) (.agg plainU.cells.toArray) = some true := by rw [eqSup, decide_eq_true rfl]
  rw [new4] at HNW
  change Hid (∀ (w0 w : World) (M : List Ent) (g : Nat), St [] w0 w (disk g Dsk.fresh :: M) → Calls Try.prog 12 #[.pointer (some ⟨g, 0, none⟩), .agg plainU.cells.toArray] w fun e w' => e = .returned (.int .i64 0) ∧ St [] w0 w' (disk g (Dsk.full plainU) :: M)) at HW
  generalize Dsk.fresh = F at HNW HR1 HW
  generalize Dsk.full plainU = G at HW HR2
  generalize plainU = Pl at *
  (go_enter Try.func8, Try.ntmps8)
  go_wp2_with (first | go_skip | (go_at_call 11; refine (HNW.out _ _ hS).mono ?_; clear hS; rintro e w' ⟨gd, rfl, hS⟩) | ((with_reducible refine g_load ?_); refine wl_run rfl (by first | exact a_load1 hS rfl rfl rfl rfl (by (repeat (first | exact Ix.here | apply Ix.there))) (by rfl) | exact a_loadR hS rfl rfl rfl rfl (by (repeat (first | exact Ix.here | apply Ix.there))) (by rfl) | fail) ?_) | ((with_reducible refine g_store ?_); refine wl_of rfl ?_; refine a_storeA (vs := Sup.cells zeroU) (cs' := Sup.cells zeroU) hS rfl rfl rfl (by rfl) (sup_one _) (by (repeat (first | exact Sw.here | apply Sw.there))) (by exact Nat.le_refl 17) (by rfl) ?_; clear hS; intro w' hS) | ((with_reducible refine g_store ?_); refine wl_of rfl ?_; refine a_storeA (vs := Sup.cells Pl) (cs' := Sup.cells Pl) hS rfl rfl rfl (by rfl) (sup_one _) (by (repeat (first | exact Sw.here | apply Sw.there))) (by exact Nat.le_refl 17) (by rfl) ?_; clear hS; intro w' hS) | (first | (have q9 := gx; clear q9; ((with_reducible refine g_alloc ?_); refine wl_of rfl ?_; refine wp_alloc hS rfl rfl rfl rfl ?_; clear hS; intro gy w1 hS)) | ((with_reducible refine g_alloc ?_); refine wl_of rfl ?_; refine wp_alloc hS rfl rfl rfl rfl ?_; clear hS; intro gx w1 hS)) | (go_at_call 15; (refine (HR1.out _ _ _ _ (hS.out (by first | ((repeat (first | exact Out.here | apply Out.there)); done) | fail))).mono ?_; clear hS; rintro e w' ⟨rfl, hS⟩)) | (go_at_call 15; (refine (HR2.out _ _ _ _ (hS.out (by first | ((repeat (first | exact Out.here | apply Out.there)); done) | fail))).mono ?_; clear hS; rintro e w' ⟨rfl, hS⟩)) | (go_at_call 12; (refine (HW.out _ _ _ _ (hS.out (by first | ((repeat (first | exact Out.here | apply Out.there)); done) | fail))).mono ?_; clear hS; rintro e w' ⟨rfl, hS⟩)) | (go_at_call 35; refine (HPL.out _).mono ?_; rintro e w' ⟨rfl, h⟩; replace hS := hS.call h; clear h) | fail)
  refine region_calm (by kernel_rfl) (by kernel_rfl) hS ?_
  (repeat (first | ((with_reducible refine c_eqlS (t := 28) ?_); (refine Calm.run rfl (fun W hW => by exact x_structEq rfl rfl rfl supGuard hq) ?_; simp only [Act.put, List.setIfInBounds_toArray, List.set_cons_zero, List.set_cons_succ])) | ((with_reducible refine c_call ?_); first | (refine Calm.call (calm_makes HPL.out) rfl (h := ?_); simp only [Act.put, List.setIfInBounds_toArray, List.set_cons_zero, List.set_cons_succ])) | refine calm1 (n := ?_)))
  (refine Calm.nil ?_; clear hS; intro w8 hS)
  go_wp2_with (fail)
  go_ret
  exact ⟨rfl, hS.nil⟩
end
end Go.Proofs.Ytbfdnpahojoccaa
