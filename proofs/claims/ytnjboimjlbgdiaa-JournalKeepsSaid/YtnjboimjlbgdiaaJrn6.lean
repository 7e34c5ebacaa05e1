/-
  A journal: an entry is kept.
-/
import Derived.Test.YtnjboimjlbgdiaaJrn5
set_option linter.unusedSimpArgs false
set_option linter.unusedVariables false
set_option linter.unusedSectionVars false
set_option maxRecDepth 100000
namespace Go.Cmp
open Go.RowKit
theorem putDo_eq (D : Dsk) (J : Jrn) (e : En) {kp sm : Bool} (h1 : (Jrn.kept (J.item e.op) && !sameJ J e) = kp) (h2 : sameJ J e = sm) :
    putDo D J e = thenD (thenD (if kp = true then layV D (hdrN e.op) else (0, D)) (layE e (prepN e.op))) fun D => if sm = true then (0, D) else layS (stubE e) (hdrN e.op) D := by
  unfold putDo
  rw [← h2]
  congr 2
  rw [← h1]
  by_cases a : Jrn.kept (J.item e.op) = true <;> by_cases b : sameJ J e = false <;> simp [a, b]
theorem stubE_zero {e : En} : (stubE e = zeroB) ↔ e.right = false := by
  constructor
  · intro h
    cases hr : e.right
    · rfl
    · have := en_parts hr
      have h2 := stubE_op hr
      rw [h] at h2
      have : zeroB.op = 0 := rfl
      omega
  · intro h
    unfold stubE
    rw [if_pos h]
end Go.Cmp
namespace Go.Proofs.Ytnjboimjlbgdiaa
open Go.RowKit Go.Cmp

section
variable {S : List Nat} {w0 w : World} {M : List Ent} {g gj : Nat} {D : Dsk} {J : Jrn}
set_option maxHeartbeats 32000000 in
theorem jrnPut_any (hS : St S w0 w (disk g D :: .row gj (jcells g J) 68 (0, 0) :: M)) (hD : D.Ok) (hw : D.way.length + 3 < 1000000) (hs : D.steps + 8 < 1000000000) (hJl : J.items.length = 8) (hJc : J.check ≤ 72057594037927935) (e : En) (hp : e.parent < 18446744073709551616) (hb : e.body.length ≤ 1000000) (ho : e.op ≤ 9223372036854775807) :
    Calls Try.prog 9 #[.pointer (some ⟨gj, 0, none⟩), .agg e.cells.toArray] w fun x w' => x = .returned (.int .i64 (putJ D J e).1) ∧ St S w0 w' (disk g (putJ D J e).2.2 :: .row gj (jcells g (putJ D J e).2.1) 68 (0, 0) :: M) := by
  have HSO := Lib.hid (fun w => slotStubOf_any e hp hb w)
  have hz : eqV Try.prog 4 35 (.agg (stubE e).cells.toArray) (.agg zeroB.cells.toArray) = some (!e.right) := by
    rw [eqStb]
    congr 1
    cases hr : e.right
    · exact decide_eq_true (stubE_zero.2 hr)
    · exact decide_eq_false (fun h => by rw [stubE_zero.1 h] at hr; cases hr)
  cases hr : e.right
  · have hput : putJ D J e = (4, J, D) := by unfold putJ; rw [if_pos hr]
    rw [hput]
    rw [hr] at hz
    clear hput hr
    (go_enter Try.func9, Try.ntmps9)
    go_wp2_with (first | go_skip | ((with_reducible refine g_box ?_); refine wl_of rfl ?_; refine wp_box hS rfl rfl rfl ?_; clear hS; intro ge w1 hS) | ((with_reducible refine g_load ?_); refine wl_run rfl (by first | exact a_load1 hS rfl rfl rfl rfl (by (repeat (first | exact Ix.here | apply Ix.there))) (by rfl) | exact a_loadR hS rfl rfl rfl rfl (by (repeat (first | exact Ix.here | apply Ix.there))) (by rfl) | fail) ?_) | ((with_reducible refine g_alloc ?_); refine wl_of rfl ?_; refine wp_alloc hS rfl rfl rfl rfl ?_; clear hS; intro gs w1 hS) | ((with_reducible refine g_store ?_); refine wl_of rfl ?_; refine a_storeA (vs := (stubE e).cells) (cs' := (stubE e).cells) hS rfl rfl rfl (by rfl) (stb_one _) (by (repeat (first | exact Sw.here | apply Sw.there))) (by exact Nat.le_refl 5) (by rfl) ?_; clear hS; intro w' hS) | (go_at_call 20; refine (HSO.out _).mono ?_; rintro e w' ⟨rfl, h⟩; replace hS := hS.call h; clear h) | ((with_reducible refine g_eql (t := 35) ?_); refine wl_run rfl (x_structEq rfl rfl rfl stbGuard hz) ?_) | fail)
    go_ret
    exact ⟨rfl, hS.pick⟩
  rw [hr] at hz
  have HI := Lib.hid (fun (W : World) (M : List Ent) (hS : St S w0 W (.row gj (jcells g J) 68 (0, 0) :: M)) => jrnIn_any hS e.op ho)
  cases hh : J.has e.op
  · have hput : putJ D J e = (1, J, D) := by unfold putJ; rw [if_neg (by rw [hr]; simp), if_pos hh]
    rw [hput]
    rw [hh] at HI
    clear hput hr hh
    (go_enter Try.func9, Try.ntmps9)
    go_wp2_with (first | go_skip | ((with_reducible refine g_box ?_); refine wl_of rfl ?_; refine wp_box hS rfl rfl rfl ?_; clear hS; intro ge w1 hS) | ((with_reducible refine g_load ?_); refine wl_run rfl (by first | exact a_load1 hS rfl rfl rfl rfl (by (repeat (first | exact Ix.here | apply Ix.there))) (by rfl) | exact a_loadR hS rfl rfl rfl rfl (by (repeat (first | exact Ix.here | apply Ix.there))) (by rfl) | fail) ?_) | ((with_reducible refine g_alloc ?_); refine wl_of rfl ?_; refine wp_alloc hS rfl rfl rfl rfl ?_; clear hS; intro gs w1 hS) | ((with_reducible refine g_store ?_); refine wl_of rfl ?_; refine a_storeA (vs := (stubE e).cells) (cs' := (stubE e).cells) hS rfl rfl rfl (by rfl) (stb_one _) (by (repeat (first | exact Sw.here | apply Sw.there))) (by exact Nat.le_refl 5) (by rfl) ?_; clear hS; intro w' hS) | (go_at_call 20; refine (HSO.out _).mono ?_; rintro e w' ⟨rfl, h⟩; replace hS := hS.call h; clear h) | ((with_reducible refine g_eql (t := 35) ?_); refine wl_run rfl (x_structEq rfl rfl rfl stbGuard hz) ?_) | (go_at_call 28; refine (HI.out _ _ (hS.out (by first | ((repeat (first | exact Out.here | apply Out.there)); done) | fail))).mono ?_; rintro e9 w' ⟨rfl, rfl⟩) | fail)
    go_ret
    exact ⟨rfl, hS.pick⟩
  rw [hh] at HI
  have hput0 : putJ D J e = if (J.item e.op).kind = 1 ∧ (J.item e.op).ent = e then (0, J, D) else if (putDo D J e).1 ≠ 0 then ((putDo D J e).1, J, (putDo D J e).2) else (0, J.put e.op ⟨1, stubE e, e⟩, (putDo D J e).2) := by
    unfold putJ
    rw [if_neg (by rw [hr]; simp), if_neg (by rw [hh]; simp)]
  obtain ⟨h0, hs8, _⟩ := J.opAt_of hh
  obtain ⟨m, hm⟩ := Int.eq_ofNat_of_zero_le (Int.le_of_lt h0)
  obtain ⟨s, hms⟩ : ∃ s, m % 8 = s := ⟨_, rfl⟩
  have hs8 : s < 8 := by omega
  have hx := J.item_at hms
  rw [← hm] at hx
  have hset : J.put e.op ⟨1, stubE e, e⟩ = { J with items := J.items.set s ⟨1, stubE e, e⟩ } := by
    unfold Jrn.put
    rw [show (e.op % 8).toNat = s from by omega]
  rw [hset] at hput0
  have HP := Lib.hid (fun (W : World) (M : List Ent) (hS : St S w0 W (.row gj (jcells g J) 68 (0, 0) :: M)) => jrnItemP_any hS m s hms)
  rw [← hm] at HP
  have hmn : m ≤ 1000000000000000000 := by
    unfold Jrn.has at hh
    simp only [Bool.and_eq_true, decide_eq_true_eq] at hh
    omega
  have HHD := Lib.hid (fun w => jrnHdr_any m hmn w)
  have HPR := Lib.hid (fun w => jrnPrep_any m hmn w)
  rw [← hm] at HHD HPR
  have ok1 := layD_ok hD (by omega) (by omega) (hdrN e.op) voidS
  have hl1 : layV D (hdrN e.op) = layD D (hdrN e.op) voidS := rfl
  rw [← hl1] at ok1
  have HLV := Lib.hid (fun (S : List Nat) (w0 W : World) (M : List Ent) (hS : St S w0 W (disk g D :: M)) => jrnLayV hS hD (by omega) (by omega) (hdrN e.op))
  obtain ⟨L1, h1⟩ : ∃ L, layV D (hdrN e.op) = L := ⟨_, rfl⟩
  rw [h1] at HLV ok1
  obtain ⟨er1, D1⟩ := L1
  simp only at HLV ok1
  have H1 := Lib.hid h1
  have hsf := stubE_facts hp
  have HLE := Lib.hid (fun (E : Dsk) (hE : E.Ok) (hw : E.way.length < 1000000) (hs : E.steps < 1000000000) (S : List Nat) (w0 W : World) (M : List Ent) (gq : Nat) (hS : St S w0 W (disk g E :: .row gq e.cells 24 (0, 0) :: M)) => jrnLayE hS hE hw hs hp hb (prepN e.op))
  have HLS := Lib.hid (fun (E : Dsk) (hE : E.Ok) (hw : E.way.length < 1000000) (hs : E.steps < 1000000000) (S : List Nat) (w0 W : World) (M : List Ent) (gq : Nat) (hS : St S w0 W (disk g E :: .row gq (stubE e).cells 35 (0, 0) :: M)) => jrnLayS hS hE hw hs hsf.1 hsf.2 (hdrN e.op))
  have HCS := Lib.hid (jc_set (gd := g) hJl hs8 ⟨1, stubE e, e⟩)
  have HK := Lib.hid (jc_kind (gd := g) hJl hs8)
  have HSB := Lib.hid (jc_stub (gd := g) hJl hs8)
  have HEB := Lib.hid (jc_ent (gd := g) hJl hs8)
  have HJL := Lib.hid (jc_len (gd := g) hJl)
  have hdoq := fun kp sm => @putDo_eq D J e kp sm
  have hsq : sameJ J e = (decide ((J.item e.op).kind = 2) && decide ((J.item e.op).stub = stubE e)) := rfl
  rw [hx] at hput0 hdoq hsq
  generalize nth J.items s = x at HK HSB HEB hput0 hdoq hsq
  have hq1 : eqV Try.prog 4 35 (.agg x.stub.cells.toArray) (.agg (stubE e).cells.toArray) = some (decide (x.stub = stubE e)) := eqStb _ _
  have hq2 : eqV Try.prog 4 24 (.agg x.ent.cells.toArray) (.agg e.cells.toArray) = some (decide (x.ent = e)) := eqEn _ _
  have HPUT := Lib.hid hput0
  clear hput0 hm hms hx hset hr hh h0 hl1 h1
  by_cases k1 : x.kind = 1
  · have b1 : (x.kind == 1) = true := by rw [k1]; rfl
    have b2 : (x.kind == 2) = false := by rw [k1]; rfl
    by_cases q : x.ent = e
    · rw [decide_eq_true q] at hq2
      have hput : putJ D J e = (0, J, D) := by rw [HPUT.out, if_pos ⟨k1, q⟩]
      rw [hput]
      clear hput HPUT hdoq hsq
      have K1 := Lib.hid k1
      have Q := Lib.hid q
      clear k1 q
      (go_enter Try.func9, Try.ntmps9)
      go_wp2_with (first | go_skip | ((with_reducible refine g_box ?_); refine wl_of rfl ?_; refine wp_box hS rfl rfl rfl ?_; clear hS; intro ge w1 hS) | ((with_reducible refine g_load ?_); refine wl_run rfl (by first | exact a_load1 hS rfl rfl rfl rfl (by (repeat (first | exact Ix.here | apply Ix.there))) (by rfl) | exact a_loadR hS rfl rfl rfl rfl (by (repeat (first | exact Ix.here | apply Ix.there))) (by rfl) | fail) ?_) | ((with_reducible refine g_alloc ?_); refine wl_of rfl ?_; refine wp_alloc hS rfl rfl rfl rfl ?_; clear hS; intro gs w1 hS) | ((with_reducible refine g_store ?_); refine wl_of rfl ?_; refine a_storeA (vs := (stubE e).cells) (cs' := (stubE e).cells) hS rfl rfl rfl (by rfl) (stb_one _) (by (repeat (first | exact Sw.here | apply Sw.there))) (by exact Nat.le_refl 5) (by rfl) ?_; clear hS; intro w' hS) | (go_at_call 20; refine (HSO.out _).mono ?_; rintro e w' ⟨rfl, h⟩; replace hS := hS.call h; clear h) | ((with_reducible refine g_eql (t := 35) ?_); refine wl_run rfl (x_structEq rfl rfl rfl stbGuard hz) ?_) | (go_at_call 28; refine (HI.out _ _ (hS.out (by first | ((repeat (first | exact Out.here | apply Out.there)); done) | fail))).mono ?_; rintro e9 w' ⟨rfl, rfl⟩) | (go_at_call 29; refine (HP.out _ _ (hS.out (by first | ((repeat (first | exact Out.here | apply Out.there)); done) | fail))).mono ?_; rintro e9 w' ⟨rfl, rfl⟩) | fail)
      refine region_calm (by kernel_rfl) (by kernel_rfl) hS ?_
      iterate 3 (refine Calm.pure rfl (h := ?_); simp only [Act.put, List.setIfInBounds_toArray, List.set_cons_zero, List.set_cons_succ])
      (refine Calm.run rfl (fun W hW => by exact a_load1 hW (off := 2 + s * 15) rfl rfl rfl rfl (by (repeat (first | exact Ix.here | apply Ix.there))) HK.out) ?_; simp only [Act.put, List.setIfInBounds_toArray, List.set_cons_zero, List.set_cons_succ])
      (refine Calm.pure rfl (h := ?_); simp only [Act.put, List.setIfInBounds_toArray, List.set_cons_zero, List.set_cons_succ])
      try simp only [b2]
      (refine Calm.pure rfl (h := ?_); simp only [Act.put, List.setIfInBounds_toArray, List.set_cons_zero, List.set_cons_succ])
      iterate 6 (refine Calm.skip rfl ?_; simp only [Act.put, List.setIfInBounds_toArray, List.set_cons_zero, List.set_cons_succ])
      (refine Calm.pure rfl (h := ?_); simp only [Act.put, List.setIfInBounds_toArray, List.set_cons_zero, List.set_cons_succ])
      (refine Calm.pure rfl (h := ?_); simp only [Act.put, List.setIfInBounds_toArray, List.set_cons_zero, List.set_cons_succ])
      (refine Calm.nil ?_; clear hS; intro w8 hS)
      go_wp2_with (fail)
      refine region_calm (by kernel_rfl) (by kernel_rfl) hS ?_
      iterate 3 (refine Calm.pure rfl (h := ?_); simp only [Act.put, List.setIfInBounds_toArray, List.set_cons_zero, List.set_cons_succ])
      (refine Calm.run rfl (fun W hW => by exact a_load1 hW (off := 2 + s * 15) rfl rfl rfl rfl (by (repeat (first | exact Ix.here | apply Ix.there))) HK.out) ?_; simp only [Act.put, List.setIfInBounds_toArray, List.set_cons_zero, List.set_cons_succ])
      (refine Calm.pure rfl (h := ?_); simp only [Act.put, List.setIfInBounds_toArray, List.set_cons_zero, List.set_cons_succ])
      try simp only [b1]
      (refine Calm.pure rfl (h := ?_); simp only [Act.put, List.setIfInBounds_toArray, List.set_cons_zero, List.set_cons_succ])
      iterate 3 (refine Calm.pure rfl (h := ?_); simp only [Act.put, List.setIfInBounds_toArray, List.set_cons_zero, List.set_cons_succ])
      (refine Calm.run rfl (fun W hW => by exact a_loadA (vs := x.ent.cells) (off := 2 + s * 15 + 6) hW rfl rfl rfl rfl (by (repeat (first | exact Ix.here | apply Ix.there))) 9 (by rfl) HEB.out (by rfl)) ?_; simp only [Act.put, List.setIfInBounds_toArray, List.set_cons_zero, List.set_cons_succ])
      (refine Calm.run rfl (fun W hW => by first | exact a_load1 hW rfl rfl rfl rfl (by (repeat (first | exact Ix.here | apply Ix.there))) (by rfl) | exact a_loadR hW rfl rfl rfl rfl (by (repeat (first | exact Ix.here | apply Ix.there))) (by rfl)) ?_; simp only [Act.put, List.setIfInBounds_toArray, List.set_cons_zero, List.set_cons_succ])
      ((with_reducible refine c_eqlS (t := 24) ?_); refine Calm.run rfl (fun W hW => by exact x_structEq rfl rfl rfl enGuard hq2) ?_; simp only [Act.put, List.setIfInBounds_toArray, List.set_cons_zero, List.set_cons_succ])
      (refine Calm.pure rfl (h := ?_); simp only [Act.put, List.setIfInBounds_toArray, List.set_cons_zero, List.set_cons_succ])
      (refine Calm.nil ?_; clear hS; intro w8 hS)
      go_wp2_with (first | go_skip | ((with_reducible refine g_load ?_); refine wl_run rfl (by exact a_load1 hS (off := 2 + s * 15) rfl rfl rfl rfl (by (repeat (first | exact Ix.here | apply Ix.there))) HK.out) ?_) | fail)
      go_ret
      exact ⟨rfl, hS.pick⟩
    · rw [decide_eq_false q] at hq2
      have hne : ¬ (x.kind = 1 ∧ x.ent = e) := fun h => q h.2
      have HDO := Lib.hid (hdoq true false (by simp [Jrn.kept, hsq, k1]) (by rw [hsq]; simp [k1]))
      clear hdoq hsq
      (go_enter Try.func9, Try.ntmps9)
      go_wp2_with (first | go_skip | ((with_reducible refine g_box ?_); refine wl_of rfl ?_; refine wp_box hS rfl rfl rfl ?_; clear hS; intro ge w1 hS) | ((with_reducible refine g_load ?_); refine wl_run rfl (by first | exact a_load1 hS rfl rfl rfl rfl (by (repeat (first | exact Ix.here | apply Ix.there))) (by rfl) | exact a_loadR hS rfl rfl rfl rfl (by (repeat (first | exact Ix.here | apply Ix.there))) (by rfl) | fail) ?_) | ((with_reducible refine g_alloc ?_); refine wl_of rfl ?_; refine wp_alloc hS rfl rfl rfl rfl ?_; clear hS; intro gs w1 hS) | ((with_reducible refine g_store ?_); refine wl_of rfl ?_; refine a_storeA (vs := (stubE e).cells) (cs' := (stubE e).cells) hS rfl rfl rfl (by rfl) (stb_one _) (by (repeat (first | exact Sw.here | apply Sw.there))) (by exact Nat.le_refl 5) (by rfl) ?_; clear hS; intro w' hS) | (go_at_call 20; refine (HSO.out _).mono ?_; rintro e w' ⟨rfl, h⟩; replace hS := hS.call h; clear h) | ((with_reducible refine g_eql (t := 35) ?_); refine wl_run rfl (x_structEq rfl rfl rfl stbGuard hz) ?_) | (go_at_call 28; refine (HI.out _ _ (hS.out (by first | ((repeat (first | exact Out.here | apply Out.there)); done) | fail))).mono ?_; rintro e9 w' ⟨rfl, rfl⟩) | (go_at_call 29; refine (HP.out _ _ (hS.out (by first | ((repeat (first | exact Out.here | apply Out.there)); done) | fail))).mono ?_; rintro e9 w' ⟨rfl, rfl⟩) | fail)
      refine region_calm (by kernel_rfl) (by kernel_rfl) hS ?_
      iterate 3 (refine Calm.pure rfl (h := ?_); simp only [Act.put, List.setIfInBounds_toArray, List.set_cons_zero, List.set_cons_succ])
      (refine Calm.run rfl (fun W hW => by exact a_load1 hW (off := 2 + s * 15) rfl rfl rfl rfl (by (repeat (first | exact Ix.here | apply Ix.there))) HK.out) ?_; simp only [Act.put, List.setIfInBounds_toArray, List.set_cons_zero, List.set_cons_succ])
      (refine Calm.pure rfl (h := ?_); simp only [Act.put, List.setIfInBounds_toArray, List.set_cons_zero, List.set_cons_succ])
      try simp only [b2]
      (refine Calm.pure rfl (h := ?_); simp only [Act.put, List.setIfInBounds_toArray, List.set_cons_zero, List.set_cons_succ])
      iterate 6 (refine Calm.skip rfl ?_; simp only [Act.put, List.setIfInBounds_toArray, List.set_cons_zero, List.set_cons_succ])
      (refine Calm.pure rfl (h := ?_); simp only [Act.put, List.setIfInBounds_toArray, List.set_cons_zero, List.set_cons_succ])
      (refine Calm.pure rfl (h := ?_); simp only [Act.put, List.setIfInBounds_toArray, List.set_cons_zero, List.set_cons_succ])
      (refine Calm.nil ?_; clear hS; intro w8 hS)
      go_wp2_with (fail)
      refine region_calm (by kernel_rfl) (by kernel_rfl) hS ?_
      iterate 3 (refine Calm.pure rfl (h := ?_); simp only [Act.put, List.setIfInBounds_toArray, List.set_cons_zero, List.set_cons_succ])
      (refine Calm.run rfl (fun W hW => by exact a_load1 hW (off := 2 + s * 15) rfl rfl rfl rfl (by (repeat (first | exact Ix.here | apply Ix.there))) HK.out) ?_; simp only [Act.put, List.setIfInBounds_toArray, List.set_cons_zero, List.set_cons_succ])
      (refine Calm.pure rfl (h := ?_); simp only [Act.put, List.setIfInBounds_toArray, List.set_cons_zero, List.set_cons_succ])
      try simp only [b1]
      (refine Calm.pure rfl (h := ?_); simp only [Act.put, List.setIfInBounds_toArray, List.set_cons_zero, List.set_cons_succ])
      iterate 3 (refine Calm.pure rfl (h := ?_); simp only [Act.put, List.setIfInBounds_toArray, List.set_cons_zero, List.set_cons_succ])
      (refine Calm.run rfl (fun W hW => by exact a_loadA (vs := x.ent.cells) (off := 2 + s * 15 + 6) hW rfl rfl rfl rfl (by (repeat (first | exact Ix.here | apply Ix.there))) 9 (by rfl) HEB.out (by rfl)) ?_; simp only [Act.put, List.setIfInBounds_toArray, List.set_cons_zero, List.set_cons_succ])
      (refine Calm.run rfl (fun W hW => by first | exact a_load1 hW rfl rfl rfl rfl (by (repeat (first | exact Ix.here | apply Ix.there))) (by rfl) | exact a_loadR hW rfl rfl rfl rfl (by (repeat (first | exact Ix.here | apply Ix.there))) (by rfl)) ?_; simp only [Act.put, List.setIfInBounds_toArray, List.set_cons_zero, List.set_cons_succ])
      ((with_reducible refine c_eqlS (t := 24) ?_); refine Calm.run rfl (fun W hW => by exact x_structEq rfl rfl rfl enGuard hq2) ?_; simp only [Act.put, List.setIfInBounds_toArray, List.set_cons_zero, List.set_cons_succ])
      (refine Calm.pure rfl (h := ?_); simp only [Act.put, List.setIfInBounds_toArray, List.set_cons_zero, List.set_cons_succ])
      (refine Calm.nil ?_; clear hS; intro w8 hS)
      go_wp2_with (first | go_skip | ((with_reducible refine g_load ?_); refine wl_run rfl (by exact a_load1 hS (off := 2 + s * 15) rfl rfl rfl rfl (by (repeat (first | exact Ix.here | apply Ix.there))) HK.out) ?_) | fail)
      refine St.named hS fun wq hwq => ?_
      subst hwq
      replace hS : St S w0 wq ([disk g D] ++ (.row gj (jcells g J) 68 (0, 0) :: .row ge e.cells 24 (0, 0) :: .row gs (stubE e).cells 35 (0, 0) :: M)) := hS.pick
      obtain ⟨F, hA, hR, hB⟩ := St.split (A := [disk g D]) hS
      clear hS
      have hS := hA.drew
      clear hA
      refine wp_region_held (S := fun W => Cmp.Mod F wq W) (by kernel_rfl) ?_
      change wpAnyH _ _ _ _ _ _ _ _ (wq).drew
      generalize (wq).drew = w2 at hS ⊢
      (refine whd_take 0 rfl rfl (by kernel_rfl) (by kernel_rfl) (by kernel_rfl) (fun _ _ _ h => h) rfl (fun W hW => by (go_simp; try with_reducible rfl)) hS.base ?_; simp only [Act.put, List.setIfInBounds_toArray, List.set_cons_zero, List.set_cons_succ])
      (refine whd_take 1 rfl rfl (by kernel_rfl) (by kernel_rfl) (by kernel_rfl) (fun _ _ _ h => h) rfl (fun W hW => by (go_simp; try with_reducible rfl)) hS.base ?_; simp only [Act.put, List.setIfInBounds_toArray, List.set_cons_zero, List.set_cons_succ])
      (refine whd_take 2 rfl rfl (by kernel_rfl) (by kernel_rfl) (by kernel_rfl) (fun _ _ _ h => h) rfl (fun W hW => by (go_simp; try with_reducible rfl)) hS.base ?_; simp only [Act.put, List.setIfInBounds_toArray, List.set_cons_zero, List.set_cons_succ])
      (refine whd_take 3 rfl rfl (by kernel_rfl) (by kernel_rfl) (by kernel_rfl) (fun _ _ _ h => h) rfl (fun W hW => (by exact a_load1 (hR W hW) rfl rfl rfl rfl (by (repeat (first | exact Ix.here | apply Ix.there))) (by rfl))) hS.base ?_; simp only [Act.put, List.setIfInBounds_toArray, List.set_cons_zero, List.set_cons_succ])
      (refine whd_take 4 rfl rfl (by kernel_rfl) (by kernel_rfl) (by kernel_rfl) (fun _ _ _ h => h) rfl (fun W hW => by (go_simp; try with_reducible rfl)) hS.base ?_; simp only [Act.put, List.setIfInBounds_toArray, List.set_cons_zero, List.set_cons_succ])
      (refine whd_take 5 rfl rfl (by kernel_rfl) (by kernel_rfl) (by kernel_rfl) (fun _ _ _ h => h) rfl (fun W hW => (by exact a_load1 (hR W hW) rfl rfl rfl rfl (by (repeat (first | exact Ix.here | apply Ix.there))) (by rfl))) hS.base ?_; simp only [Act.put, List.setIfInBounds_toArray, List.set_cons_zero, List.set_cons_succ])
      (refine wpAnyH_all (rs := [6]) (by kernel_rfl) (by simp) ?_; intro i hi; have hi := List.mem_singleton.1 hi; subst hi)
      refine wod_of rfl rfl rfl (wp_call (by go_simp) (HHD.out w2) ?_)
      rintro e w5 ⟨rfl, rfl⟩
      refine ⟨_, rfl, hS.base, ?_⟩
      simp only [Act.put, List.setIfInBounds_toArray, List.set_cons_zero, List.set_cons_succ]
      (refine wpAnyH_all (rs := [7]) (by kernel_rfl) (by simp) ?_; intro i hi; have hi := List.mem_singleton.1 hi; subst hi)
      refine wod_of rfl rfl rfl (wp_call (by go_simp) (HLV.out F wq _ [] hS) ?_)
      clear hS
      rintro e w4 ⟨rfl, hS⟩
      refine ⟨_, rfl, hS.base, ?_⟩
      simp only [Act.put, List.setIfInBounds_toArray, List.set_cons_zero, List.set_cons_succ]
      (refine whd_take 8 rfl rfl (by kernel_rfl) (by kernel_rfl) (by kernel_rfl) (fun _ _ _ h => h) rfl (fun W hW => by (go_simp; try with_reducible rfl)) hS.base ?_; simp only [Act.put, List.setIfInBounds_toArray, List.set_cons_zero, List.set_cons_succ])
      (refine wpAnyH_done (by kernel_rfl) ?_ _)
      replace hS := hB _ _ hS
      simp only [List.cons_append, List.nil_append] at hS
      clear hR hB
      by_cases he1 : er1 = 0
      · subst he1
        go_wp2_with (fail)
        have HE2 := Lib.hid (HLE.out D1 ok1.1 (by omega) (by omega))
        have ok2 := layD_ok ok1.1 (by omega) (by omega) (prepN e.op) (fun o => (prepS o e).1)
        have hl2 : layE e (prepN e.op) D1 = layD D1 (prepN e.op) (fun o => (prepS o e).1) := rfl
        rw [← hl2] at ok2
        obtain ⟨L2, h2⟩ : ∃ L, layE e (prepN e.op) D1 = L := ⟨_, rfl⟩
        rw [h2] at HE2 ok2
        obtain ⟨er2, D2⟩ := L2
        simp only at HE2 ok2
        have H2 := Lib.hid h2
        clear h2 hl2
        have HS3 := Lib.hid (HLS.out D2 ok2.1 (by omega) (by omega))
        obtain ⟨L3, h3⟩ : ∃ L, layS (stubE e) (hdrN e.op) D2 = L := ⟨_, rfl⟩
        rw [h3] at HS3
        obtain ⟨er3, D3⟩ := L3
        simp only at HS3
        have H3 := Lib.hid h3
        clear h3
        clear HLE HLS
        have HOK := Lib.hid ok2
        clear ok2
        refine St.named hS fun wq hwq => ?_
        subst hwq
        replace hS : St S w0 wq ([disk g D1] ++ (.row gj (jcells g J) 68 (0, 0) :: .row ge e.cells 24 (0, 0) :: .row gs (stubE e).cells 35 (0, 0) :: M)) := hS.pick
        obtain ⟨F, hA, hR, hB⟩ := St.split (A := [disk g D1]) hS
        clear hS
        have hS := hA.drew
        clear hA
        refine wp_region_held (S := fun W => Cmp.Mod F wq W) (by kernel_rfl) ?_
        change wpAnyH _ _ _ _ _ _ _ _ (wq).drew
        generalize (wq).drew = w2 at hS ⊢
        (refine whd_take 0 rfl rfl (by kernel_rfl) (by kernel_rfl) (by kernel_rfl) (fun _ _ _ h => h) rfl (fun W hW => by (go_simp; try with_reducible rfl)) hS.base ?_; simp only [Act.put, List.setIfInBounds_toArray, List.set_cons_zero, List.set_cons_succ])
        (refine whd_take 1 rfl rfl (by kernel_rfl) (by kernel_rfl) (by kernel_rfl) (fun _ _ _ h => h) rfl (fun W hW => by (go_simp; try with_reducible rfl)) hS.base ?_; simp only [Act.put, List.setIfInBounds_toArray, List.set_cons_zero, List.set_cons_succ])
        (refine whd_take 2 rfl rfl (by kernel_rfl) (by kernel_rfl) (by kernel_rfl) (fun _ _ _ h => h) rfl (fun W hW => by (go_simp; try with_reducible rfl)) hS.base ?_; simp only [Act.put, List.setIfInBounds_toArray, List.set_cons_zero, List.set_cons_succ])
        (refine whd_take 3 rfl rfl (by kernel_rfl) (by kernel_rfl) (by kernel_rfl) (fun _ _ _ h => h) rfl (fun W hW => (by exact a_load1 (hR W hW) rfl rfl rfl rfl (by (repeat (first | exact Ix.here | apply Ix.there))) (by rfl))) hS.base ?_; simp only [Act.put, List.setIfInBounds_toArray, List.set_cons_zero, List.set_cons_succ])
        (refine whd_take 4 rfl rfl (by kernel_rfl) (by kernel_rfl) (by kernel_rfl) (fun _ _ _ h => h) rfl (fun W hW => by (go_simp; try with_reducible rfl)) hS.base ?_; simp only [Act.put, List.setIfInBounds_toArray, List.set_cons_zero, List.set_cons_succ])
        (refine whd_take 5 rfl rfl (by kernel_rfl) (by kernel_rfl) (by kernel_rfl) (fun _ _ _ h => h) rfl (fun W hW => (by exact a_load1 (hR W hW) rfl rfl rfl rfl (by (repeat (first | exact Ix.here | apply Ix.there))) (by rfl))) hS.base ?_; simp only [Act.put, List.setIfInBounds_toArray, List.set_cons_zero, List.set_cons_succ])
        (refine whd_take 7 rfl rfl (by kernel_rfl) (by kernel_rfl) (by kernel_rfl) (fun _ _ _ h => h) rfl (fun W hW => (by exact a_loadR (hR W hW) rfl rfl rfl rfl (by (repeat (first | exact Ix.here | apply Ix.there))) (by rfl))) hS.base ?_; simp only [Act.put, List.setIfInBounds_toArray, List.set_cons_zero, List.set_cons_succ])
        (refine wpAnyH_all (rs := [6]) (by kernel_rfl) (by simp) ?_; intro i hi; have hi := List.mem_singleton.1 hi; subst hi)
        refine wod_of rfl rfl rfl (wp_call (by go_simp) (HPR.out w2) ?_)
        rintro e w5 ⟨rfl, rfl⟩
        refine ⟨_, rfl, hS.base, ?_⟩
        simp only [Act.put, List.setIfInBounds_toArray, List.set_cons_zero, List.set_cons_succ]
        (refine wpAnyH_all (rs := [8]) (by kernel_rfl) (by simp) ?_; intro i hi; have hi := List.mem_singleton.1 hi; subst hi)
        refine wod_of rfl rfl rfl (wp_call (by go_simp) (jrnHas_any e hS) ?_)
        clear hS
        rintro e8 w4 ⟨gq, rfl, hS⟩
        refine ⟨_, rfl, hS.base, ?_⟩
        simp only [Act.put, List.setIfInBounds_toArray, List.set_cons_zero, List.set_cons_succ]
        (refine wpAnyH_all (rs := [9]) (by kernel_rfl) (by simp) ?_; intro i hi; have hi := List.mem_singleton.1 hi; subst hi)
        refine wod_of rfl rfl rfl (wp_call (by go_simp) (HE2.out F wq _ [] gq hS.pick) ?_)
        clear hS
        rintro e w4 ⟨rfl, hS⟩
        refine ⟨_, rfl, hS.base, ?_⟩
        simp only [Act.put, List.setIfInBounds_toArray, List.set_cons_zero, List.set_cons_succ]
        (refine whd_take 10 rfl rfl (by kernel_rfl) (by kernel_rfl) (by kernel_rfl) (fun _ _ _ h => h) rfl (fun W hW => by (go_simp; try with_reducible rfl)) hS.base ?_; simp only [Act.put, List.setIfInBounds_toArray, List.set_cons_zero, List.set_cons_succ])
        (refine wpAnyH_done (by kernel_rfl) ?_ _)
        replace hS := hB _ _ hS
        simp only [List.cons_append, List.nil_append] at hS
        clear hR hB
        by_cases he2 : er2 = 0
        · subst he2
          go_wp2_with (fail)
          refine St.named hS fun wq hwq => ?_
          subst hwq
          replace hS : St S w0 wq ([disk g D2] ++ (.row gj (jcells g J) 68 (0, 0) :: .row ge e.cells 24 (0, 0) :: .row gs (stubE e).cells 35 (0, 0) :: M)) := hS.pick
          obtain ⟨F, hA, hR, hB⟩ := St.split (A := [disk g D2]) hS
          clear hS
          have hS := hA.drew
          clear hA
          refine wp_region_held (S := fun W => Cmp.Mod F wq W) (by kernel_rfl) ?_
          change wpAnyH _ _ _ _ _ _ _ _ (wq).drew
          generalize (wq).drew = w2 at hS ⊢
          (refine whd_take 0 rfl rfl (by kernel_rfl) (by kernel_rfl) (by kernel_rfl) (fun _ _ _ h => h) rfl (fun W hW => by (go_simp; try with_reducible rfl)) hS.base ?_; simp only [Act.put, List.setIfInBounds_toArray, List.set_cons_zero, List.set_cons_succ])
          (refine whd_take 1 rfl rfl (by kernel_rfl) (by kernel_rfl) (by kernel_rfl) (fun _ _ _ h => h) rfl (fun W hW => by (go_simp; try with_reducible rfl)) hS.base ?_; simp only [Act.put, List.setIfInBounds_toArray, List.set_cons_zero, List.set_cons_succ])
          (refine whd_take 2 rfl rfl (by kernel_rfl) (by kernel_rfl) (by kernel_rfl) (fun _ _ _ h => h) rfl (fun W hW => by (go_simp; try with_reducible rfl)) hS.base ?_; simp only [Act.put, List.setIfInBounds_toArray, List.set_cons_zero, List.set_cons_succ])
          (refine whd_take 3 rfl rfl (by kernel_rfl) (by kernel_rfl) (by kernel_rfl) (fun _ _ _ h => h) rfl (fun W hW => (by exact a_load1 (hR W hW) rfl rfl rfl rfl (by (repeat (first | exact Ix.here | apply Ix.there))) (by rfl))) hS.base ?_; simp only [Act.put, List.setIfInBounds_toArray, List.set_cons_zero, List.set_cons_succ])
          (refine whd_take 4 rfl rfl (by kernel_rfl) (by kernel_rfl) (by kernel_rfl) (fun _ _ _ h => h) rfl (fun W hW => by (go_simp; try with_reducible rfl)) hS.base ?_; simp only [Act.put, List.setIfInBounds_toArray, List.set_cons_zero, List.set_cons_succ])
          (refine whd_take 5 rfl rfl (by kernel_rfl) (by kernel_rfl) (by kernel_rfl) (fun _ _ _ h => h) rfl (fun W hW => (by exact a_load1 (hR W hW) rfl rfl rfl rfl (by (repeat (first | exact Ix.here | apply Ix.there))) (by rfl))) hS.base ?_; simp only [Act.put, List.setIfInBounds_toArray, List.set_cons_zero, List.set_cons_succ])
          (refine whd_take 7 rfl rfl (by kernel_rfl) (by kernel_rfl) (by kernel_rfl) (fun _ _ _ h => h) rfl (fun W hW => (by exact a_loadR (hR W hW) rfl rfl rfl rfl (by (repeat (first | exact Ix.here | apply Ix.there))) (by rfl))) hS.base ?_; simp only [Act.put, List.setIfInBounds_toArray, List.set_cons_zero, List.set_cons_succ])
          (refine wpAnyH_all (rs := [6]) (by kernel_rfl) (by simp) ?_; intro i hi; have hi := List.mem_singleton.1 hi; subst hi)
          refine wod_of rfl rfl rfl (wp_call (by go_simp) (HHD.out w2) ?_)
          rintro e w5 ⟨rfl, rfl⟩
          refine ⟨_, rfl, hS.base, ?_⟩
          simp only [Act.put, List.setIfInBounds_toArray, List.set_cons_zero, List.set_cons_succ]
          (refine wpAnyH_all (rs := [8]) (by kernel_rfl) (by simp) ?_; intro i hi; have hi := List.mem_singleton.1 hi; subst hi)
          refine wod_of rfl rfl rfl (wp_call (by go_simp) (jrnSays_any (stubE e) hS) ?_)
          clear hS
          rintro e8 w4 ⟨gq2, rfl, hS⟩
          refine ⟨_, rfl, hS.base, ?_⟩
          simp only [Act.put, List.setIfInBounds_toArray, List.set_cons_zero, List.set_cons_succ]
          (refine wpAnyH_all (rs := [9]) (by kernel_rfl) (by simp) ?_; intro i hi; have hi := List.mem_singleton.1 hi; subst hi)
          refine wod_of rfl rfl rfl (wp_call (by go_simp) (HS3.out F wq _ [] gq2 hS.pick) ?_)
          clear hS
          rintro e w4 ⟨rfl, hS⟩
          refine ⟨_, rfl, hS.base, ?_⟩
          simp only [Act.put, List.setIfInBounds_toArray, List.set_cons_zero, List.set_cons_succ]
          (refine whd_take 10 rfl rfl (by kernel_rfl) (by kernel_rfl) (by kernel_rfl) (fun _ _ _ h => h) rfl (fun W hW => by (go_simp; try with_reducible rfl)) hS.base ?_; simp only [Act.put, List.setIfInBounds_toArray, List.set_cons_zero, List.set_cons_succ])
          (refine wpAnyH_done (by kernel_rfl) ?_ _)
          replace hS := hB _ _ hS
          simp only [List.cons_append, List.nil_append] at hS
          clear hR hB
          by_cases he3 : er3 = 0
          · subst he3
            go_wp2_with (first | go_skip | ((with_reducible refine g_load ?_); refine wl_run rfl (by first | exact a_load1 hS rfl rfl rfl rfl (by (repeat (first | exact Ix.here | apply Ix.there))) (by rfl) | exact a_loadR hS rfl rfl rfl rfl (by (repeat (first | exact Ix.here | apply Ix.there))) (by rfl) | fail) ?_) | ((with_reducible refine g_build ?_); refine wl_run rfl (x_build rfl rfl (built_item 1 (stubE e) e)) ?_) | ((with_reducible refine g_store ?_); refine wl_of rfl ?_; refine a_storeA (vs := (⟨1, stubE e, e⟩ : It).cells) (off := 2 + s * 15) hS rfl rfl rfl (by rfl) (it_one _) (by (repeat (first | exact Sw.here | apply Sw.there))) (by rw [HJL.out]; show 2 + s * 15 + 15 ≤ 122; omega) HCS.out ?_; clear hS; intro w' hS) | fail)
            go_ret
            have hput : putJ D J e = (0, { J with items := J.items.set s ⟨1, stubE e, e⟩ }, D3) := by rw [HPUT.out, if_neg hne, HDO.out]; simp [thenD, H2.out, H1.out, H3.out]
            rw [hput]
            exact ⟨rfl, hS.pick⟩
          · have he31 : (er3 != 0) = true := by simpa using he3
            go_wp2_with (fail)
            go_ret
            have hput : putJ D J e = (er3, J, D3) := by rw [HPUT.out, if_neg hne, HDO.out]; simp [thenD, H2.out, H3.out, he3, H1.out]
            rw [hput]
            exact ⟨rfl, hS.pick⟩
        · have he21 : (er2 != 0) = true := by simpa using he2
          go_wp2_with (fail)
          go_ret
          have hput : putJ D J e = (er2, J, D2) := by rw [HPUT.out, if_neg hne, HDO.out]; simp [thenD, H2.out, he2, H1.out]
          rw [hput]
          exact ⟨rfl, hS.pick⟩
      · have he11 : (er1 != 0) = true := by simpa using he1
        go_wp2_with (fail)
        go_ret
        have hput : putJ D J e = (er1, J, D1) := by rw [HPUT.out, if_neg hne, HDO.out]; simp [thenD, H1.out, he1]
        rw [hput]
        exact ⟨rfl, hS.pick⟩
  · by_cases k2 : x.kind = 2
    · have b1 : (x.kind == 1) = false := by rw [k2]; rfl
      have b2 : (x.kind == 2) = true := by rw [k2]; rfl
      have hne : ¬ (x.kind = 1 ∧ x.ent = e) := fun h => k1 h.1
      by_cases q : x.stub = stubE e
      · rw [decide_eq_true q] at hq1
        have HDO := Lib.hid (hdoq false true (by simp [Jrn.kept, hsq, k2, q]) (by rw [hsq]; simp [k2, q]))
        clear hdoq hsq
        (go_enter Try.func9, Try.ntmps9)
        go_wp2_with (first | go_skip | ((with_reducible refine g_box ?_); refine wl_of rfl ?_; refine wp_box hS rfl rfl rfl ?_; clear hS; intro ge w1 hS) | ((with_reducible refine g_load ?_); refine wl_run rfl (by first | exact a_load1 hS rfl rfl rfl rfl (by (repeat (first | exact Ix.here | apply Ix.there))) (by rfl) | exact a_loadR hS rfl rfl rfl rfl (by (repeat (first | exact Ix.here | apply Ix.there))) (by rfl) | fail) ?_) | ((with_reducible refine g_alloc ?_); refine wl_of rfl ?_; refine wp_alloc hS rfl rfl rfl rfl ?_; clear hS; intro gs w1 hS) | ((with_reducible refine g_store ?_); refine wl_of rfl ?_; refine a_storeA (vs := (stubE e).cells) (cs' := (stubE e).cells) hS rfl rfl rfl (by rfl) (stb_one _) (by (repeat (first | exact Sw.here | apply Sw.there))) (by exact Nat.le_refl 5) (by rfl) ?_; clear hS; intro w' hS) | (go_at_call 20; refine (HSO.out _).mono ?_; rintro e w' ⟨rfl, h⟩; replace hS := hS.call h; clear h) | ((with_reducible refine g_eql (t := 35) ?_); refine wl_run rfl (x_structEq rfl rfl rfl stbGuard hz) ?_) | (go_at_call 28; refine (HI.out _ _ (hS.out (by first | ((repeat (first | exact Out.here | apply Out.there)); done) | fail))).mono ?_; rintro e9 w' ⟨rfl, rfl⟩) | (go_at_call 29; refine (HP.out _ _ (hS.out (by first | ((repeat (first | exact Out.here | apply Out.there)); done) | fail))).mono ?_; rintro e9 w' ⟨rfl, rfl⟩) | fail)
        refine region_calm (by kernel_rfl) (by kernel_rfl) hS ?_
        iterate 3 (refine Calm.pure rfl (h := ?_); simp only [Act.put, List.setIfInBounds_toArray, List.set_cons_zero, List.set_cons_succ])
        (refine Calm.run rfl (fun W hW => by exact a_load1 hW (off := 2 + s * 15) rfl rfl rfl rfl (by (repeat (first | exact Ix.here | apply Ix.there))) HK.out) ?_; simp only [Act.put, List.setIfInBounds_toArray, List.set_cons_zero, List.set_cons_succ])
        (refine Calm.pure rfl (h := ?_); simp only [Act.put, List.setIfInBounds_toArray, List.set_cons_zero, List.set_cons_succ])
        try simp only [b2]
        (refine Calm.pure rfl (h := ?_); simp only [Act.put, List.setIfInBounds_toArray, List.set_cons_zero, List.set_cons_succ])
        iterate 3 (refine Calm.pure rfl (h := ?_); simp only [Act.put, List.setIfInBounds_toArray, List.set_cons_zero, List.set_cons_succ])
        (refine Calm.run rfl (fun W hW => by exact a_loadA (vs := x.stub.cells) (off := 2 + s * 15 + 1) hW rfl rfl rfl rfl (by (repeat (first | exact Ix.here | apply Ix.there))) 5 (by rfl) HSB.out (by rfl)) ?_; simp only [Act.put, List.setIfInBounds_toArray, List.set_cons_zero, List.set_cons_succ])
        (refine Calm.run rfl (fun W hW => by first | exact a_load1 hW rfl rfl rfl rfl (by (repeat (first | exact Ix.here | apply Ix.there))) (by rfl) | exact a_loadR hW rfl rfl rfl rfl (by (repeat (first | exact Ix.here | apply Ix.there))) (by rfl)) ?_; simp only [Act.put, List.setIfInBounds_toArray, List.set_cons_zero, List.set_cons_succ])
        ((with_reducible refine c_eqlS (t := 35) ?_); refine Calm.run rfl (fun W hW => by exact x_structEq rfl rfl rfl stbGuard hq1) ?_; simp only [Act.put, List.setIfInBounds_toArray, List.set_cons_zero, List.set_cons_succ])
        (refine Calm.pure rfl (h := ?_); simp only [Act.put, List.setIfInBounds_toArray, List.set_cons_zero, List.set_cons_succ])
        (refine Calm.pure rfl (h := ?_); simp only [Act.put, List.setIfInBounds_toArray, List.set_cons_zero, List.set_cons_succ])
        (refine Calm.nil ?_; clear hS; intro w8 hS)
        go_wp2_with (fail)
        refine region_calm (by kernel_rfl) (by kernel_rfl) hS ?_
        iterate 3 (refine Calm.pure rfl (h := ?_); simp only [Act.put, List.setIfInBounds_toArray, List.set_cons_zero, List.set_cons_succ])
        (refine Calm.run rfl (fun W hW => by exact a_load1 hW (off := 2 + s * 15) rfl rfl rfl rfl (by (repeat (first | exact Ix.here | apply Ix.there))) HK.out) ?_; simp only [Act.put, List.setIfInBounds_toArray, List.set_cons_zero, List.set_cons_succ])
        (refine Calm.pure rfl (h := ?_); simp only [Act.put, List.setIfInBounds_toArray, List.set_cons_zero, List.set_cons_succ])
        try simp only [b1]
        (refine Calm.pure rfl (h := ?_); simp only [Act.put, List.setIfInBounds_toArray, List.set_cons_zero, List.set_cons_succ])
        iterate 6 (refine Calm.skip rfl ?_; simp only [Act.put, List.setIfInBounds_toArray, List.set_cons_zero, List.set_cons_succ])
        (refine Calm.pure rfl (h := ?_); simp only [Act.put, List.setIfInBounds_toArray, List.set_cons_zero, List.set_cons_succ])
        (refine Calm.nil ?_; clear hS; intro w8 hS)
        go_wp2_with (first | go_skip | ((with_reducible refine g_load ?_); refine wl_run rfl (by exact a_load1 hS (off := 2 + s * 15) rfl rfl rfl rfl (by (repeat (first | exact Ix.here | apply Ix.there))) HK.out) ?_) | fail)
        have HE2 := Lib.hid (HLE.out D hD (by omega) (by omega))
        have ok2 := layD_ok hD (by omega) (by omega) (prepN e.op) (fun o => (prepS o e).1)
        have hl2 : layE e (prepN e.op) D = layD D (prepN e.op) (fun o => (prepS o e).1) := rfl
        rw [← hl2] at ok2
        obtain ⟨L2, h2⟩ : ∃ L, layE e (prepN e.op) D = L := ⟨_, rfl⟩
        rw [h2] at HE2 ok2
        obtain ⟨er2, D2⟩ := L2
        simp only at HE2 ok2
        have H2 := Lib.hid h2
        clear h2 hl2
        clear HLE HLS
        have HOK := Lib.hid ok2
        clear ok2
        refine St.named hS fun wq hwq => ?_
        subst hwq
        replace hS : St S w0 wq ([disk g D] ++ (.row gj (jcells g J) 68 (0, 0) :: .row ge e.cells 24 (0, 0) :: .row gs (stubE e).cells 35 (0, 0) :: M)) := hS.pick
        obtain ⟨F, hA, hR, hB⟩ := St.split (A := [disk g D]) hS
        clear hS
        have hS := hA.drew
        clear hA
        refine wp_region_held (S := fun W => Cmp.Mod F wq W) (by kernel_rfl) ?_
        change wpAnyH _ _ _ _ _ _ _ _ (wq).drew
        generalize (wq).drew = w2 at hS ⊢
        (refine whd_take 0 rfl rfl (by kernel_rfl) (by kernel_rfl) (by kernel_rfl) (fun _ _ _ h => h) rfl (fun W hW => by (go_simp; try with_reducible rfl)) hS.base ?_; simp only [Act.put, List.setIfInBounds_toArray, List.set_cons_zero, List.set_cons_succ])
        (refine whd_take 1 rfl rfl (by kernel_rfl) (by kernel_rfl) (by kernel_rfl) (fun _ _ _ h => h) rfl (fun W hW => by (go_simp; try with_reducible rfl)) hS.base ?_; simp only [Act.put, List.setIfInBounds_toArray, List.set_cons_zero, List.set_cons_succ])
        (refine whd_take 2 rfl rfl (by kernel_rfl) (by kernel_rfl) (by kernel_rfl) (fun _ _ _ h => h) rfl (fun W hW => by (go_simp; try with_reducible rfl)) hS.base ?_; simp only [Act.put, List.setIfInBounds_toArray, List.set_cons_zero, List.set_cons_succ])
        (refine whd_take 3 rfl rfl (by kernel_rfl) (by kernel_rfl) (by kernel_rfl) (fun _ _ _ h => h) rfl (fun W hW => (by exact a_load1 (hR W hW) rfl rfl rfl rfl (by (repeat (first | exact Ix.here | apply Ix.there))) (by rfl))) hS.base ?_; simp only [Act.put, List.setIfInBounds_toArray, List.set_cons_zero, List.set_cons_succ])
        (refine whd_take 4 rfl rfl (by kernel_rfl) (by kernel_rfl) (by kernel_rfl) (fun _ _ _ h => h) rfl (fun W hW => by (go_simp; try with_reducible rfl)) hS.base ?_; simp only [Act.put, List.setIfInBounds_toArray, List.set_cons_zero, List.set_cons_succ])
        (refine whd_take 5 rfl rfl (by kernel_rfl) (by kernel_rfl) (by kernel_rfl) (fun _ _ _ h => h) rfl (fun W hW => (by exact a_load1 (hR W hW) rfl rfl rfl rfl (by (repeat (first | exact Ix.here | apply Ix.there))) (by rfl))) hS.base ?_; simp only [Act.put, List.setIfInBounds_toArray, List.set_cons_zero, List.set_cons_succ])
        (refine whd_take 7 rfl rfl (by kernel_rfl) (by kernel_rfl) (by kernel_rfl) (fun _ _ _ h => h) rfl (fun W hW => (by exact a_loadR (hR W hW) rfl rfl rfl rfl (by (repeat (first | exact Ix.here | apply Ix.there))) (by rfl))) hS.base ?_; simp only [Act.put, List.setIfInBounds_toArray, List.set_cons_zero, List.set_cons_succ])
        (refine wpAnyH_all (rs := [6]) (by kernel_rfl) (by simp) ?_; intro i hi; have hi := List.mem_singleton.1 hi; subst hi)
        refine wod_of rfl rfl rfl (wp_call (by go_simp) (HPR.out w2) ?_)
        rintro e w5 ⟨rfl, rfl⟩
        refine ⟨_, rfl, hS.base, ?_⟩
        simp only [Act.put, List.setIfInBounds_toArray, List.set_cons_zero, List.set_cons_succ]
        (refine wpAnyH_all (rs := [8]) (by kernel_rfl) (by simp) ?_; intro i hi; have hi := List.mem_singleton.1 hi; subst hi)
        refine wod_of rfl rfl rfl (wp_call (by go_simp) (jrnHas_any e hS) ?_)
        clear hS
        rintro e8 w4 ⟨gq, rfl, hS⟩
        refine ⟨_, rfl, hS.base, ?_⟩
        simp only [Act.put, List.setIfInBounds_toArray, List.set_cons_zero, List.set_cons_succ]
        (refine wpAnyH_all (rs := [9]) (by kernel_rfl) (by simp) ?_; intro i hi; have hi := List.mem_singleton.1 hi; subst hi)
        refine wod_of rfl rfl rfl (wp_call (by go_simp) (HE2.out F wq _ [] gq hS.pick) ?_)
        clear hS
        rintro e w4 ⟨rfl, hS⟩
        refine ⟨_, rfl, hS.base, ?_⟩
        simp only [Act.put, List.setIfInBounds_toArray, List.set_cons_zero, List.set_cons_succ]
        (refine whd_take 10 rfl rfl (by kernel_rfl) (by kernel_rfl) (by kernel_rfl) (fun _ _ _ h => h) rfl (fun W hW => by (go_simp; try with_reducible rfl)) hS.base ?_; simp only [Act.put, List.setIfInBounds_toArray, List.set_cons_zero, List.set_cons_succ])
        (refine wpAnyH_done (by kernel_rfl) ?_ _)
        replace hS := hB _ _ hS
        simp only [List.cons_append, List.nil_append] at hS
        clear hR hB
        by_cases he2 : er2 = 0
        · subst he2
          go_wp2_with (first | go_skip | ((with_reducible refine g_load ?_); refine wl_run rfl (by first | exact a_load1 hS rfl rfl rfl rfl (by (repeat (first | exact Ix.here | apply Ix.there))) (by rfl) | exact a_loadR hS rfl rfl rfl rfl (by (repeat (first | exact Ix.here | apply Ix.there))) (by rfl) | fail) ?_) | ((with_reducible refine g_build ?_); refine wl_run rfl (x_build rfl rfl (built_item 1 (stubE e) e)) ?_) | ((with_reducible refine g_store ?_); refine wl_of rfl ?_; refine a_storeA (vs := (⟨1, stubE e, e⟩ : It).cells) (off := 2 + s * 15) hS rfl rfl rfl (by rfl) (it_one _) (by (repeat (first | exact Sw.here | apply Sw.there))) (by rw [HJL.out]; show 2 + s * 15 + 15 ≤ 122; omega) HCS.out ?_; clear hS; intro w' hS) | fail)
          go_ret
          have hput : putJ D J e = (0, { J with items := J.items.set s ⟨1, stubE e, e⟩ }, D2) := by rw [HPUT.out, if_neg hne, HDO.out]; simp [thenD, H2.out]
          rw [hput]
          exact ⟨rfl, hS.pick⟩
        · have he21 : (er2 != 0) = true := by simpa using he2
          go_wp2_with (fail)
          go_ret
          have hput : putJ D J e = (er2, J, D2) := by rw [HPUT.out, if_neg hne, HDO.out]; simp [thenD, H2.out, he2]
          rw [hput]
          exact ⟨rfl, hS.pick⟩
      · rw [decide_eq_false q] at hq1
        have HDO := Lib.hid (hdoq true false (by simp [Jrn.kept, hsq, k2, q]) (by rw [hsq]; simp [k2, q]))
        clear hdoq hsq
        (go_enter Try.func9, Try.ntmps9)
        go_wp2_with (first | go_skip | ((with_reducible refine g_box ?_); refine wl_of rfl ?_; refine wp_box hS rfl rfl rfl ?_; clear hS; intro ge w1 hS) | ((with_reducible refine g_load ?_); refine wl_run rfl (by first | exact a_load1 hS rfl rfl rfl rfl (by (repeat (first | exact Ix.here | apply Ix.there))) (by rfl) | exact a_loadR hS rfl rfl rfl rfl (by (repeat (first | exact Ix.here | apply Ix.there))) (by rfl) | fail) ?_) | ((with_reducible refine g_alloc ?_); refine wl_of rfl ?_; refine wp_alloc hS rfl rfl rfl rfl ?_; clear hS; intro gs w1 hS) | ((with_reducible refine g_store ?_); refine wl_of rfl ?_; refine a_storeA (vs := (stubE e).cells) (cs' := (stubE e).cells) hS rfl rfl rfl (by rfl) (stb_one _) (by (repeat (first | exact Sw.here | apply Sw.there))) (by exact Nat.le_refl 5) (by rfl) ?_; clear hS; intro w' hS) | (go_at_call 20; refine (HSO.out _).mono ?_; rintro e w' ⟨rfl, h⟩; replace hS := hS.call h; clear h) | ((with_reducible refine g_eql (t := 35) ?_); refine wl_run rfl (x_structEq rfl rfl rfl stbGuard hz) ?_) | (go_at_call 28; refine (HI.out _ _ (hS.out (by first | ((repeat (first | exact Out.here | apply Out.there)); done) | fail))).mono ?_; rintro e9 w' ⟨rfl, rfl⟩) | (go_at_call 29; refine (HP.out _ _ (hS.out (by first | ((repeat (first | exact Out.here | apply Out.there)); done) | fail))).mono ?_; rintro e9 w' ⟨rfl, rfl⟩) | fail)
        refine region_calm (by kernel_rfl) (by kernel_rfl) hS ?_
        iterate 3 (refine Calm.pure rfl (h := ?_); simp only [Act.put, List.setIfInBounds_toArray, List.set_cons_zero, List.set_cons_succ])
        (refine Calm.run rfl (fun W hW => by exact a_load1 hW (off := 2 + s * 15) rfl rfl rfl rfl (by (repeat (first | exact Ix.here | apply Ix.there))) HK.out) ?_; simp only [Act.put, List.setIfInBounds_toArray, List.set_cons_zero, List.set_cons_succ])
        (refine Calm.pure rfl (h := ?_); simp only [Act.put, List.setIfInBounds_toArray, List.set_cons_zero, List.set_cons_succ])
        try simp only [b2]
        (refine Calm.pure rfl (h := ?_); simp only [Act.put, List.setIfInBounds_toArray, List.set_cons_zero, List.set_cons_succ])
        iterate 3 (refine Calm.pure rfl (h := ?_); simp only [Act.put, List.setIfInBounds_toArray, List.set_cons_zero, List.set_cons_succ])
        (refine Calm.run rfl (fun W hW => by exact a_loadA (vs := x.stub.cells) (off := 2 + s * 15 + 1) hW rfl rfl rfl rfl (by (repeat (first | exact Ix.here | apply Ix.there))) 5 (by rfl) HSB.out (by rfl)) ?_; simp only [Act.put, List.setIfInBounds_toArray, List.set_cons_zero, List.set_cons_succ])
        (refine Calm.run rfl (fun W hW => by first | exact a_load1 hW rfl rfl rfl rfl (by (repeat (first | exact Ix.here | apply Ix.there))) (by rfl) | exact a_loadR hW rfl rfl rfl rfl (by (repeat (first | exact Ix.here | apply Ix.there))) (by rfl)) ?_; simp only [Act.put, List.setIfInBounds_toArray, List.set_cons_zero, List.set_cons_succ])
        ((with_reducible refine c_eqlS (t := 35) ?_); refine Calm.run rfl (fun W hW => by exact x_structEq rfl rfl rfl stbGuard hq1) ?_; simp only [Act.put, List.setIfInBounds_toArray, List.set_cons_zero, List.set_cons_succ])
        (refine Calm.pure rfl (h := ?_); simp only [Act.put, List.setIfInBounds_toArray, List.set_cons_zero, List.set_cons_succ])
        (refine Calm.pure rfl (h := ?_); simp only [Act.put, List.setIfInBounds_toArray, List.set_cons_zero, List.set_cons_succ])
        (refine Calm.nil ?_; clear hS; intro w8 hS)
        go_wp2_with (fail)
        refine region_calm (by kernel_rfl) (by kernel_rfl) hS ?_
        iterate 3 (refine Calm.pure rfl (h := ?_); simp only [Act.put, List.setIfInBounds_toArray, List.set_cons_zero, List.set_cons_succ])
        (refine Calm.run rfl (fun W hW => by exact a_load1 hW (off := 2 + s * 15) rfl rfl rfl rfl (by (repeat (first | exact Ix.here | apply Ix.there))) HK.out) ?_; simp only [Act.put, List.setIfInBounds_toArray, List.set_cons_zero, List.set_cons_succ])
        (refine Calm.pure rfl (h := ?_); simp only [Act.put, List.setIfInBounds_toArray, List.set_cons_zero, List.set_cons_succ])
        try simp only [b1]
        (refine Calm.pure rfl (h := ?_); simp only [Act.put, List.setIfInBounds_toArray, List.set_cons_zero, List.set_cons_succ])
        iterate 6 (refine Calm.skip rfl ?_; simp only [Act.put, List.setIfInBounds_toArray, List.set_cons_zero, List.set_cons_succ])
        (refine Calm.pure rfl (h := ?_); simp only [Act.put, List.setIfInBounds_toArray, List.set_cons_zero, List.set_cons_succ])
        (refine Calm.nil ?_; clear hS; intro w8 hS)
        go_wp2_with (first | go_skip | ((with_reducible refine g_load ?_); refine wl_run rfl (by exact a_load1 hS (off := 2 + s * 15) rfl rfl rfl rfl (by (repeat (first | exact Ix.here | apply Ix.there))) HK.out) ?_) | fail)
        refine St.named hS fun wq hwq => ?_
        subst hwq
        replace hS : St S w0 wq ([disk g D] ++ (.row gj (jcells g J) 68 (0, 0) :: .row ge e.cells 24 (0, 0) :: .row gs (stubE e).cells 35 (0, 0) :: M)) := hS.pick
        obtain ⟨F, hA, hR, hB⟩ := St.split (A := [disk g D]) hS
        clear hS
        have hS := hA.drew
        clear hA
        refine wp_region_held (S := fun W => Cmp.Mod F wq W) (by kernel_rfl) ?_
        change wpAnyH _ _ _ _ _ _ _ _ (wq).drew
        generalize (wq).drew = w2 at hS ⊢
        (refine whd_take 0 rfl rfl (by kernel_rfl) (by kernel_rfl) (by kernel_rfl) (fun _ _ _ h => h) rfl (fun W hW => by (go_simp; try with_reducible rfl)) hS.base ?_; simp only [Act.put, List.setIfInBounds_toArray, List.set_cons_zero, List.set_cons_succ])
        (refine whd_take 1 rfl rfl (by kernel_rfl) (by kernel_rfl) (by kernel_rfl) (fun _ _ _ h => h) rfl (fun W hW => by (go_simp; try with_reducible rfl)) hS.base ?_; simp only [Act.put, List.setIfInBounds_toArray, List.set_cons_zero, List.set_cons_succ])
        (refine whd_take 2 rfl rfl (by kernel_rfl) (by kernel_rfl) (by kernel_rfl) (fun _ _ _ h => h) rfl (fun W hW => by (go_simp; try with_reducible rfl)) hS.base ?_; simp only [Act.put, List.setIfInBounds_toArray, List.set_cons_zero, List.set_cons_succ])
        (refine whd_take 3 rfl rfl (by kernel_rfl) (by kernel_rfl) (by kernel_rfl) (fun _ _ _ h => h) rfl (fun W hW => (by exact a_load1 (hR W hW) rfl rfl rfl rfl (by (repeat (first | exact Ix.here | apply Ix.there))) (by rfl))) hS.base ?_; simp only [Act.put, List.setIfInBounds_toArray, List.set_cons_zero, List.set_cons_succ])
        (refine whd_take 4 rfl rfl (by kernel_rfl) (by kernel_rfl) (by kernel_rfl) (fun _ _ _ h => h) rfl (fun W hW => by (go_simp; try with_reducible rfl)) hS.base ?_; simp only [Act.put, List.setIfInBounds_toArray, List.set_cons_zero, List.set_cons_succ])
        (refine whd_take 5 rfl rfl (by kernel_rfl) (by kernel_rfl) (by kernel_rfl) (fun _ _ _ h => h) rfl (fun W hW => (by exact a_load1 (hR W hW) rfl rfl rfl rfl (by (repeat (first | exact Ix.here | apply Ix.there))) (by rfl))) hS.base ?_; simp only [Act.put, List.setIfInBounds_toArray, List.set_cons_zero, List.set_cons_succ])
        (refine wpAnyH_all (rs := [6]) (by kernel_rfl) (by simp) ?_; intro i hi; have hi := List.mem_singleton.1 hi; subst hi)
        refine wod_of rfl rfl rfl (wp_call (by go_simp) (HHD.out w2) ?_)
        rintro e w5 ⟨rfl, rfl⟩
        refine ⟨_, rfl, hS.base, ?_⟩
        simp only [Act.put, List.setIfInBounds_toArray, List.set_cons_zero, List.set_cons_succ]
        (refine wpAnyH_all (rs := [7]) (by kernel_rfl) (by simp) ?_; intro i hi; have hi := List.mem_singleton.1 hi; subst hi)
        refine wod_of rfl rfl rfl (wp_call (by go_simp) (HLV.out F wq _ [] hS) ?_)
        clear hS
        rintro e w4 ⟨rfl, hS⟩
        refine ⟨_, rfl, hS.base, ?_⟩
        simp only [Act.put, List.setIfInBounds_toArray, List.set_cons_zero, List.set_cons_succ]
        (refine whd_take 8 rfl rfl (by kernel_rfl) (by kernel_rfl) (by kernel_rfl) (fun _ _ _ h => h) rfl (fun W hW => by (go_simp; try with_reducible rfl)) hS.base ?_; simp only [Act.put, List.setIfInBounds_toArray, List.set_cons_zero, List.set_cons_succ])
        (refine wpAnyH_done (by kernel_rfl) ?_ _)
        replace hS := hB _ _ hS
        simp only [List.cons_append, List.nil_append] at hS
        clear hR hB
        by_cases he1 : er1 = 0
        · subst he1
          go_wp2_with (fail)
          have HE2 := Lib.hid (HLE.out D1 ok1.1 (by omega) (by omega))
          have ok2 := layD_ok ok1.1 (by omega) (by omega) (prepN e.op) (fun o => (prepS o e).1)
          have hl2 : layE e (prepN e.op) D1 = layD D1 (prepN e.op) (fun o => (prepS o e).1) := rfl
          rw [← hl2] at ok2
          obtain ⟨L2, h2⟩ : ∃ L, layE e (prepN e.op) D1 = L := ⟨_, rfl⟩
          rw [h2] at HE2 ok2
          obtain ⟨er2, D2⟩ := L2
          simp only at HE2 ok2
          have H2 := Lib.hid h2
          clear h2 hl2
          have HS3 := Lib.hid (HLS.out D2 ok2.1 (by omega) (by omega))
          obtain ⟨L3, h3⟩ : ∃ L, layS (stubE e) (hdrN e.op) D2 = L := ⟨_, rfl⟩
          rw [h3] at HS3
          obtain ⟨er3, D3⟩ := L3
          simp only at HS3
          have H3 := Lib.hid h3
          clear h3
          clear HLE HLS
          have HOK := Lib.hid ok2
          clear ok2
          refine St.named hS fun wq hwq => ?_
          subst hwq
          replace hS : St S w0 wq ([disk g D1] ++ (.row gj (jcells g J) 68 (0, 0) :: .row ge e.cells 24 (0, 0) :: .row gs (stubE e).cells 35 (0, 0) :: M)) := hS.pick
          obtain ⟨F, hA, hR, hB⟩ := St.split (A := [disk g D1]) hS
          clear hS
          have hS := hA.drew
          clear hA
          refine wp_region_held (S := fun W => Cmp.Mod F wq W) (by kernel_rfl) ?_
          change wpAnyH _ _ _ _ _ _ _ _ (wq).drew
          generalize (wq).drew = w2 at hS ⊢
          (refine whd_take 0 rfl rfl (by kernel_rfl) (by kernel_rfl) (by kernel_rfl) (fun _ _ _ h => h) rfl (fun W hW => by (go_simp; try with_reducible rfl)) hS.base ?_; simp only [Act.put, List.setIfInBounds_toArray, List.set_cons_zero, List.set_cons_succ])
          (refine whd_take 1 rfl rfl (by kernel_rfl) (by kernel_rfl) (by kernel_rfl) (fun _ _ _ h => h) rfl (fun W hW => by (go_simp; try with_reducible rfl)) hS.base ?_; simp only [Act.put, List.setIfInBounds_toArray, List.set_cons_zero, List.set_cons_succ])
          (refine whd_take 2 rfl rfl (by kernel_rfl) (by kernel_rfl) (by kernel_rfl) (fun _ _ _ h => h) rfl (fun W hW => by (go_simp; try with_reducible rfl)) hS.base ?_; simp only [Act.put, List.setIfInBounds_toArray, List.set_cons_zero, List.set_cons_succ])
          (refine whd_take 3 rfl rfl (by kernel_rfl) (by kernel_rfl) (by kernel_rfl) (fun _ _ _ h => h) rfl (fun W hW => (by exact a_load1 (hR W hW) rfl rfl rfl rfl (by (repeat (first | exact Ix.here | apply Ix.there))) (by rfl))) hS.base ?_; simp only [Act.put, List.setIfInBounds_toArray, List.set_cons_zero, List.set_cons_succ])
          (refine whd_take 4 rfl rfl (by kernel_rfl) (by kernel_rfl) (by kernel_rfl) (fun _ _ _ h => h) rfl (fun W hW => by (go_simp; try with_reducible rfl)) hS.base ?_; simp only [Act.put, List.setIfInBounds_toArray, List.set_cons_zero, List.set_cons_succ])
          (refine whd_take 5 rfl rfl (by kernel_rfl) (by kernel_rfl) (by kernel_rfl) (fun _ _ _ h => h) rfl (fun W hW => (by exact a_load1 (hR W hW) rfl rfl rfl rfl (by (repeat (first | exact Ix.here | apply Ix.there))) (by rfl))) hS.base ?_; simp only [Act.put, List.setIfInBounds_toArray, List.set_cons_zero, List.set_cons_succ])
          (refine whd_take 7 rfl rfl (by kernel_rfl) (by kernel_rfl) (by kernel_rfl) (fun _ _ _ h => h) rfl (fun W hW => (by exact a_loadR (hR W hW) rfl rfl rfl rfl (by (repeat (first | exact Ix.here | apply Ix.there))) (by rfl))) hS.base ?_; simp only [Act.put, List.setIfInBounds_toArray, List.set_cons_zero, List.set_cons_succ])
          (refine wpAnyH_all (rs := [6]) (by kernel_rfl) (by simp) ?_; intro i hi; have hi := List.mem_singleton.1 hi; subst hi)
          refine wod_of rfl rfl rfl (wp_call (by go_simp) (HPR.out w2) ?_)
          rintro e w5 ⟨rfl, rfl⟩
          refine ⟨_, rfl, hS.base, ?_⟩
          simp only [Act.put, List.setIfInBounds_toArray, List.set_cons_zero, List.set_cons_succ]
          (refine wpAnyH_all (rs := [8]) (by kernel_rfl) (by simp) ?_; intro i hi; have hi := List.mem_singleton.1 hi; subst hi)
          refine wod_of rfl rfl rfl (wp_call (by go_simp) (jrnHas_any e hS) ?_)
          clear hS
          rintro e8 w4 ⟨gq, rfl, hS⟩
          refine ⟨_, rfl, hS.base, ?_⟩
          simp only [Act.put, List.setIfInBounds_toArray, List.set_cons_zero, List.set_cons_succ]
          (refine wpAnyH_all (rs := [9]) (by kernel_rfl) (by simp) ?_; intro i hi; have hi := List.mem_singleton.1 hi; subst hi)
          refine wod_of rfl rfl rfl (wp_call (by go_simp) (HE2.out F wq _ [] gq hS.pick) ?_)
          clear hS
          rintro e w4 ⟨rfl, hS⟩
          refine ⟨_, rfl, hS.base, ?_⟩
          simp only [Act.put, List.setIfInBounds_toArray, List.set_cons_zero, List.set_cons_succ]
          (refine whd_take 10 rfl rfl (by kernel_rfl) (by kernel_rfl) (by kernel_rfl) (fun _ _ _ h => h) rfl (fun W hW => by (go_simp; try with_reducible rfl)) hS.base ?_; simp only [Act.put, List.setIfInBounds_toArray, List.set_cons_zero, List.set_cons_succ])
          (refine wpAnyH_done (by kernel_rfl) ?_ _)
          replace hS := hB _ _ hS
          simp only [List.cons_append, List.nil_append] at hS
          clear hR hB
          by_cases he2 : er2 = 0
          · subst he2
            go_wp2_with (fail)
            refine St.named hS fun wq hwq => ?_
            subst hwq
            replace hS : St S w0 wq ([disk g D2] ++ (.row gj (jcells g J) 68 (0, 0) :: .row ge e.cells 24 (0, 0) :: .row gs (stubE e).cells 35 (0, 0) :: M)) := hS.pick
            obtain ⟨F, hA, hR, hB⟩ := St.split (A := [disk g D2]) hS
            clear hS
            have hS := hA.drew
            clear hA
            refine wp_region_held (S := fun W => Cmp.Mod F wq W) (by kernel_rfl) ?_
            change wpAnyH _ _ _ _ _ _ _ _ (wq).drew
            generalize (wq).drew = w2 at hS ⊢
            (refine whd_take 0 rfl rfl (by kernel_rfl) (by kernel_rfl) (by kernel_rfl) (fun _ _ _ h => h) rfl (fun W hW => by (go_simp; try with_reducible rfl)) hS.base ?_; simp only [Act.put, List.setIfInBounds_toArray, List.set_cons_zero, List.set_cons_succ])
            (refine whd_take 1 rfl rfl (by kernel_rfl) (by kernel_rfl) (by kernel_rfl) (fun _ _ _ h => h) rfl (fun W hW => by (go_simp; try with_reducible rfl)) hS.base ?_; simp only [Act.put, List.setIfInBounds_toArray, List.set_cons_zero, List.set_cons_succ])
            (refine whd_take 2 rfl rfl (by kernel_rfl) (by kernel_rfl) (by kernel_rfl) (fun _ _ _ h => h) rfl (fun W hW => by (go_simp; try with_reducible rfl)) hS.base ?_; simp only [Act.put, List.setIfInBounds_toArray, List.set_cons_zero, List.set_cons_succ])
            (refine whd_take 3 rfl rfl (by kernel_rfl) (by kernel_rfl) (by kernel_rfl) (fun _ _ _ h => h) rfl (fun W hW => (by exact a_load1 (hR W hW) rfl rfl rfl rfl (by (repeat (first | exact Ix.here | apply Ix.there))) (by rfl))) hS.base ?_; simp only [Act.put, List.setIfInBounds_toArray, List.set_cons_zero, List.set_cons_succ])
            (refine whd_take 4 rfl rfl (by kernel_rfl) (by kernel_rfl) (by kernel_rfl) (fun _ _ _ h => h) rfl (fun W hW => by (go_simp; try with_reducible rfl)) hS.base ?_; simp only [Act.put, List.setIfInBounds_toArray, List.set_cons_zero, List.set_cons_succ])
            (refine whd_take 5 rfl rfl (by kernel_rfl) (by kernel_rfl) (by kernel_rfl) (fun _ _ _ h => h) rfl (fun W hW => (by exact a_load1 (hR W hW) rfl rfl rfl rfl (by (repeat (first | exact Ix.here | apply Ix.there))) (by rfl))) hS.base ?_; simp only [Act.put, List.setIfInBounds_toArray, List.set_cons_zero, List.set_cons_succ])
            (refine whd_take 7 rfl rfl (by kernel_rfl) (by kernel_rfl) (by kernel_rfl) (fun _ _ _ h => h) rfl (fun W hW => (by exact a_loadR (hR W hW) rfl rfl rfl rfl (by (repeat (first | exact Ix.here | apply Ix.there))) (by rfl))) hS.base ?_; simp only [Act.put, List.setIfInBounds_toArray, List.set_cons_zero, List.set_cons_succ])
            (refine wpAnyH_all (rs := [6]) (by kernel_rfl) (by simp) ?_; intro i hi; have hi := List.mem_singleton.1 hi; subst hi)
            refine wod_of rfl rfl rfl (wp_call (by go_simp) (HHD.out w2) ?_)
            rintro e w5 ⟨rfl, rfl⟩
            refine ⟨_, rfl, hS.base, ?_⟩
            simp only [Act.put, List.setIfInBounds_toArray, List.set_cons_zero, List.set_cons_succ]
            (refine wpAnyH_all (rs := [8]) (by kernel_rfl) (by simp) ?_; intro i hi; have hi := List.mem_singleton.1 hi; subst hi)
            refine wod_of rfl rfl rfl (wp_call (by go_simp) (jrnSays_any (stubE e) hS) ?_)
            clear hS
            rintro e8 w4 ⟨gq2, rfl, hS⟩
            refine ⟨_, rfl, hS.base, ?_⟩
            simp only [Act.put, List.setIfInBounds_toArray, List.set_cons_zero, List.set_cons_succ]
            (refine wpAnyH_all (rs := [9]) (by kernel_rfl) (by simp) ?_; intro i hi; have hi := List.mem_singleton.1 hi; subst hi)
            refine wod_of rfl rfl rfl (wp_call (by go_simp) (HS3.out F wq _ [] gq2 hS.pick) ?_)
            clear hS
            rintro e w4 ⟨rfl, hS⟩
            refine ⟨_, rfl, hS.base, ?_⟩
            simp only [Act.put, List.setIfInBounds_toArray, List.set_cons_zero, List.set_cons_succ]
            (refine whd_take 10 rfl rfl (by kernel_rfl) (by kernel_rfl) (by kernel_rfl) (fun _ _ _ h => h) rfl (fun W hW => by (go_simp; try with_reducible rfl)) hS.base ?_; simp only [Act.put, List.setIfInBounds_toArray, List.set_cons_zero, List.set_cons_succ])
            (refine wpAnyH_done (by kernel_rfl) ?_ _)
            replace hS := hB _ _ hS
            simp only [List.cons_append, List.nil_append] at hS
            clear hR hB
            by_cases he3 : er3 = 0
            · subst he3
              go_wp2_with (first | go_skip | ((with_reducible refine g_load ?_); refine wl_run rfl (by first | exact a_load1 hS rfl rfl rfl rfl (by (repeat (first | exact Ix.here | apply Ix.there))) (by rfl) | exact a_loadR hS rfl rfl rfl rfl (by (repeat (first | exact Ix.here | apply Ix.there))) (by rfl) | fail) ?_) | ((with_reducible refine g_build ?_); refine wl_run rfl (x_build rfl rfl (built_item 1 (stubE e) e)) ?_) | ((with_reducible refine g_store ?_); refine wl_of rfl ?_; refine a_storeA (vs := (⟨1, stubE e, e⟩ : It).cells) (off := 2 + s * 15) hS rfl rfl rfl (by rfl) (it_one _) (by (repeat (first | exact Sw.here | apply Sw.there))) (by rw [HJL.out]; show 2 + s * 15 + 15 ≤ 122; omega) HCS.out ?_; clear hS; intro w' hS) | fail)
              go_ret
              have hput : putJ D J e = (0, { J with items := J.items.set s ⟨1, stubE e, e⟩ }, D3) := by rw [HPUT.out, if_neg hne, HDO.out]; simp [thenD, H2.out, H1.out, H3.out]
              rw [hput]
              exact ⟨rfl, hS.pick⟩
            · have he31 : (er3 != 0) = true := by simpa using he3
              go_wp2_with (fail)
              go_ret
              have hput : putJ D J e = (er3, J, D3) := by rw [HPUT.out, if_neg hne, HDO.out]; simp [thenD, H2.out, H3.out, he3, H1.out]
              rw [hput]
              exact ⟨rfl, hS.pick⟩
          · have he21 : (er2 != 0) = true := by simpa using he2
            go_wp2_with (fail)
            go_ret
            have hput : putJ D J e = (er2, J, D2) := by rw [HPUT.out, if_neg hne, HDO.out]; simp [thenD, H2.out, he2, H1.out]
            rw [hput]
            exact ⟨rfl, hS.pick⟩
        · have he11 : (er1 != 0) = true := by simpa using he1
          go_wp2_with (fail)
          go_ret
          have hput : putJ D J e = (er1, J, D1) := by rw [HPUT.out, if_neg hne, HDO.out]; simp [thenD, H1.out, he1]
          rw [hput]
          exact ⟨rfl, hS.pick⟩
    · have b1 : (x.kind == 1) = false := by rw [beq_eq_false_iff_ne]; exact k1
      have b2 : (x.kind == 2) = false := by rw [beq_eq_false_iff_ne]; exact k2
      have hne : ¬ (x.kind = 1 ∧ x.ent = e) := fun h => k1 h.1
      have HDO := Lib.hid (hdoq false false (by simp [Jrn.kept, hsq, k1, k2]) (by rw [hsq]; simp [k1, k2]))
      clear hdoq hsq
      (go_enter Try.func9, Try.ntmps9)
      go_wp2_with (first | go_skip | ((with_reducible refine g_box ?_); refine wl_of rfl ?_; refine wp_box hS rfl rfl rfl ?_; clear hS; intro ge w1 hS) | ((with_reducible refine g_load ?_); refine wl_run rfl (by first | exact a_load1 hS rfl rfl rfl rfl (by (repeat (first | exact Ix.here | apply Ix.there))) (by rfl) | exact a_loadR hS rfl rfl rfl rfl (by (repeat (first | exact Ix.here | apply Ix.there))) (by rfl) | fail) ?_) | ((with_reducible refine g_alloc ?_); refine wl_of rfl ?_; refine wp_alloc hS rfl rfl rfl rfl ?_; clear hS; intro gs w1 hS) | ((with_reducible refine g_store ?_); refine wl_of rfl ?_; refine a_storeA (vs := (stubE e).cells) (cs' := (stubE e).cells) hS rfl rfl rfl (by rfl) (stb_one _) (by (repeat (first | exact Sw.here | apply Sw.there))) (by exact Nat.le_refl 5) (by rfl) ?_; clear hS; intro w' hS) | (go_at_call 20; refine (HSO.out _).mono ?_; rintro e w' ⟨rfl, h⟩; replace hS := hS.call h; clear h) | ((with_reducible refine g_eql (t := 35) ?_); refine wl_run rfl (x_structEq rfl rfl rfl stbGuard hz) ?_) | (go_at_call 28; refine (HI.out _ _ (hS.out (by first | ((repeat (first | exact Out.here | apply Out.there)); done) | fail))).mono ?_; rintro e9 w' ⟨rfl, rfl⟩) | (go_at_call 29; refine (HP.out _ _ (hS.out (by first | ((repeat (first | exact Out.here | apply Out.there)); done) | fail))).mono ?_; rintro e9 w' ⟨rfl, rfl⟩) | fail)
      refine region_calm (by kernel_rfl) (by kernel_rfl) hS ?_
      iterate 3 (refine Calm.pure rfl (h := ?_); simp only [Act.put, List.setIfInBounds_toArray, List.set_cons_zero, List.set_cons_succ])
      (refine Calm.run rfl (fun W hW => by exact a_load1 hW (off := 2 + s * 15) rfl rfl rfl rfl (by (repeat (first | exact Ix.here | apply Ix.there))) HK.out) ?_; simp only [Act.put, List.setIfInBounds_toArray, List.set_cons_zero, List.set_cons_succ])
      (refine Calm.pure rfl (h := ?_); simp only [Act.put, List.setIfInBounds_toArray, List.set_cons_zero, List.set_cons_succ])
      try simp only [b2]
      (refine Calm.pure rfl (h := ?_); simp only [Act.put, List.setIfInBounds_toArray, List.set_cons_zero, List.set_cons_succ])
      iterate 6 (refine Calm.skip rfl ?_; simp only [Act.put, List.setIfInBounds_toArray, List.set_cons_zero, List.set_cons_succ])
      (refine Calm.pure rfl (h := ?_); simp only [Act.put, List.setIfInBounds_toArray, List.set_cons_zero, List.set_cons_succ])
      (refine Calm.pure rfl (h := ?_); simp only [Act.put, List.setIfInBounds_toArray, List.set_cons_zero, List.set_cons_succ])
      (refine Calm.nil ?_; clear hS; intro w8 hS)
      go_wp2_with (fail)
      refine region_calm (by kernel_rfl) (by kernel_rfl) hS ?_
      iterate 3 (refine Calm.pure rfl (h := ?_); simp only [Act.put, List.setIfInBounds_toArray, List.set_cons_zero, List.set_cons_succ])
      (refine Calm.run rfl (fun W hW => by exact a_load1 hW (off := 2 + s * 15) rfl rfl rfl rfl (by (repeat (first | exact Ix.here | apply Ix.there))) HK.out) ?_; simp only [Act.put, List.setIfInBounds_toArray, List.set_cons_zero, List.set_cons_succ])
      (refine Calm.pure rfl (h := ?_); simp only [Act.put, List.setIfInBounds_toArray, List.set_cons_zero, List.set_cons_succ])
      try simp only [b1]
      (refine Calm.pure rfl (h := ?_); simp only [Act.put, List.setIfInBounds_toArray, List.set_cons_zero, List.set_cons_succ])
      iterate 6 (refine Calm.skip rfl ?_; simp only [Act.put, List.setIfInBounds_toArray, List.set_cons_zero, List.set_cons_succ])
      (refine Calm.pure rfl (h := ?_); simp only [Act.put, List.setIfInBounds_toArray, List.set_cons_zero, List.set_cons_succ])
      (refine Calm.nil ?_; clear hS; intro w8 hS)
      go_wp2_with (first | go_skip | ((with_reducible refine g_load ?_); refine wl_run rfl (by exact a_load1 hS (off := 2 + s * 15) rfl rfl rfl rfl (by (repeat (first | exact Ix.here | apply Ix.there))) HK.out) ?_) | fail)
      have HE2 := Lib.hid (HLE.out D hD (by omega) (by omega))
      have ok2 := layD_ok hD (by omega) (by omega) (prepN e.op) (fun o => (prepS o e).1)
      have hl2 : layE e (prepN e.op) D = layD D (prepN e.op) (fun o => (prepS o e).1) := rfl
      rw [← hl2] at ok2
      obtain ⟨L2, h2⟩ : ∃ L, layE e (prepN e.op) D = L := ⟨_, rfl⟩
      rw [h2] at HE2 ok2
      obtain ⟨er2, D2⟩ := L2
      simp only at HE2 ok2
      have H2 := Lib.hid h2
      clear h2 hl2
      have HS3 := Lib.hid (HLS.out D2 ok2.1 (by omega) (by omega))
      obtain ⟨L3, h3⟩ : ∃ L, layS (stubE e) (hdrN e.op) D2 = L := ⟨_, rfl⟩
      rw [h3] at HS3
      obtain ⟨er3, D3⟩ := L3
      simp only at HS3
      have H3 := Lib.hid h3
      clear h3
      clear HLE HLS
      have HOK := Lib.hid ok2
      clear ok2
      refine St.named hS fun wq hwq => ?_
      subst hwq
      replace hS : St S w0 wq ([disk g D] ++ (.row gj (jcells g J) 68 (0, 0) :: .row ge e.cells 24 (0, 0) :: .row gs (stubE e).cells 35 (0, 0) :: M)) := hS.pick
      obtain ⟨F, hA, hR, hB⟩ := St.split (A := [disk g D]) hS
      clear hS
      have hS := hA.drew
      clear hA
      refine wp_region_held (S := fun W => Cmp.Mod F wq W) (by kernel_rfl) ?_
      change wpAnyH _ _ _ _ _ _ _ _ (wq).drew
      generalize (wq).drew = w2 at hS ⊢
      (refine whd_take 0 rfl rfl (by kernel_rfl) (by kernel_rfl) (by kernel_rfl) (fun _ _ _ h => h) rfl (fun W hW => by (go_simp; try with_reducible rfl)) hS.base ?_; simp only [Act.put, List.setIfInBounds_toArray, List.set_cons_zero, List.set_cons_succ])
      (refine whd_take 1 rfl rfl (by kernel_rfl) (by kernel_rfl) (by kernel_rfl) (fun _ _ _ h => h) rfl (fun W hW => by (go_simp; try with_reducible rfl)) hS.base ?_; simp only [Act.put, List.setIfInBounds_toArray, List.set_cons_zero, List.set_cons_succ])
      (refine whd_take 2 rfl rfl (by kernel_rfl) (by kernel_rfl) (by kernel_rfl) (fun _ _ _ h => h) rfl (fun W hW => by (go_simp; try with_reducible rfl)) hS.base ?_; simp only [Act.put, List.setIfInBounds_toArray, List.set_cons_zero, List.set_cons_succ])
      (refine whd_take 3 rfl rfl (by kernel_rfl) (by kernel_rfl) (by kernel_rfl) (fun _ _ _ h => h) rfl (fun W hW => (by exact a_load1 (hR W hW) rfl rfl rfl rfl (by (repeat (first | exact Ix.here | apply Ix.there))) (by rfl))) hS.base ?_; simp only [Act.put, List.setIfInBounds_toArray, List.set_cons_zero, List.set_cons_succ])
      (refine whd_take 4 rfl rfl (by kernel_rfl) (by kernel_rfl) (by kernel_rfl) (fun _ _ _ h => h) rfl (fun W hW => by (go_simp; try with_reducible rfl)) hS.base ?_; simp only [Act.put, List.setIfInBounds_toArray, List.set_cons_zero, List.set_cons_succ])
      (refine whd_take 5 rfl rfl (by kernel_rfl) (by kernel_rfl) (by kernel_rfl) (fun _ _ _ h => h) rfl (fun W hW => (by exact a_load1 (hR W hW) rfl rfl rfl rfl (by (repeat (first | exact Ix.here | apply Ix.there))) (by rfl))) hS.base ?_; simp only [Act.put, List.setIfInBounds_toArray, List.set_cons_zero, List.set_cons_succ])
      (refine whd_take 7 rfl rfl (by kernel_rfl) (by kernel_rfl) (by kernel_rfl) (fun _ _ _ h => h) rfl (fun W hW => (by exact a_loadR (hR W hW) rfl rfl rfl rfl (by (repeat (first | exact Ix.here | apply Ix.there))) (by rfl))) hS.base ?_; simp only [Act.put, List.setIfInBounds_toArray, List.set_cons_zero, List.set_cons_succ])
      (refine wpAnyH_all (rs := [6]) (by kernel_rfl) (by simp) ?_; intro i hi; have hi := List.mem_singleton.1 hi; subst hi)
      refine wod_of rfl rfl rfl (wp_call (by go_simp) (HPR.out w2) ?_)
      rintro e w5 ⟨rfl, rfl⟩
      refine ⟨_, rfl, hS.base, ?_⟩
      simp only [Act.put, List.setIfInBounds_toArray, List.set_cons_zero, List.set_cons_succ]
      (refine wpAnyH_all (rs := [8]) (by kernel_rfl) (by simp) ?_; intro i hi; have hi := List.mem_singleton.1 hi; subst hi)
      refine wod_of rfl rfl rfl (wp_call (by go_simp) (jrnHas_any e hS) ?_)
      clear hS
      rintro e8 w4 ⟨gq, rfl, hS⟩
      refine ⟨_, rfl, hS.base, ?_⟩
      simp only [Act.put, List.setIfInBounds_toArray, List.set_cons_zero, List.set_cons_succ]
      (refine wpAnyH_all (rs := [9]) (by kernel_rfl) (by simp) ?_; intro i hi; have hi := List.mem_singleton.1 hi; subst hi)
      refine wod_of rfl rfl rfl (wp_call (by go_simp) (HE2.out F wq _ [] gq hS.pick) ?_)
      clear hS
      rintro e w4 ⟨rfl, hS⟩
      refine ⟨_, rfl, hS.base, ?_⟩
      simp only [Act.put, List.setIfInBounds_toArray, List.set_cons_zero, List.set_cons_succ]
      (refine whd_take 10 rfl rfl (by kernel_rfl) (by kernel_rfl) (by kernel_rfl) (fun _ _ _ h => h) rfl (fun W hW => by (go_simp; try with_reducible rfl)) hS.base ?_; simp only [Act.put, List.setIfInBounds_toArray, List.set_cons_zero, List.set_cons_succ])
      (refine wpAnyH_done (by kernel_rfl) ?_ _)
      replace hS := hB _ _ hS
      simp only [List.cons_append, List.nil_append] at hS
      clear hR hB
      by_cases he2 : er2 = 0
      · subst he2
        go_wp2_with (fail)
        refine St.named hS fun wq hwq => ?_
        subst hwq
        replace hS : St S w0 wq ([disk g D2] ++ (.row gj (jcells g J) 68 (0, 0) :: .row ge e.cells 24 (0, 0) :: .row gs (stubE e).cells 35 (0, 0) :: M)) := hS.pick
        obtain ⟨F, hA, hR, hB⟩ := St.split (A := [disk g D2]) hS
        clear hS
        have hS := hA.drew
        clear hA
        refine wp_region_held (S := fun W => Cmp.Mod F wq W) (by kernel_rfl) ?_
        change wpAnyH _ _ _ _ _ _ _ _ (wq).drew
        generalize (wq).drew = w2 at hS ⊢
        (refine whd_take 0 rfl rfl (by kernel_rfl) (by kernel_rfl) (by kernel_rfl) (fun _ _ _ h => h) rfl (fun W hW => by (go_simp; try with_reducible rfl)) hS.base ?_; simp only [Act.put, List.setIfInBounds_toArray, List.set_cons_zero, List.set_cons_succ])
        (refine whd_take 1 rfl rfl (by kernel_rfl) (by kernel_rfl) (by kernel_rfl) (fun _ _ _ h => h) rfl (fun W hW => by (go_simp; try with_reducible rfl)) hS.base ?_; simp only [Act.put, List.setIfInBounds_toArray, List.set_cons_zero, List.set_cons_succ])
        (refine whd_take 2 rfl rfl (by kernel_rfl) (by kernel_rfl) (by kernel_rfl) (fun _ _ _ h => h) rfl (fun W hW => by (go_simp; try with_reducible rfl)) hS.base ?_; simp only [Act.put, List.setIfInBounds_toArray, List.set_cons_zero, List.set_cons_succ])
        (refine whd_take 3 rfl rfl (by kernel_rfl) (by kernel_rfl) (by kernel_rfl) (fun _ _ _ h => h) rfl (fun W hW => (by exact a_load1 (hR W hW) rfl rfl rfl rfl (by (repeat (first | exact Ix.here | apply Ix.there))) (by rfl))) hS.base ?_; simp only [Act.put, List.setIfInBounds_toArray, List.set_cons_zero, List.set_cons_succ])
        (refine whd_take 4 rfl rfl (by kernel_rfl) (by kernel_rfl) (by kernel_rfl) (fun _ _ _ h => h) rfl (fun W hW => by (go_simp; try with_reducible rfl)) hS.base ?_; simp only [Act.put, List.setIfInBounds_toArray, List.set_cons_zero, List.set_cons_succ])
        (refine whd_take 5 rfl rfl (by kernel_rfl) (by kernel_rfl) (by kernel_rfl) (fun _ _ _ h => h) rfl (fun W hW => (by exact a_load1 (hR W hW) rfl rfl rfl rfl (by (repeat (first | exact Ix.here | apply Ix.there))) (by rfl))) hS.base ?_; simp only [Act.put, List.setIfInBounds_toArray, List.set_cons_zero, List.set_cons_succ])
        (refine whd_take 7 rfl rfl (by kernel_rfl) (by kernel_rfl) (by kernel_rfl) (fun _ _ _ h => h) rfl (fun W hW => (by exact a_loadR (hR W hW) rfl rfl rfl rfl (by (repeat (first | exact Ix.here | apply Ix.there))) (by rfl))) hS.base ?_; simp only [Act.put, List.setIfInBounds_toArray, List.set_cons_zero, List.set_cons_succ])
        (refine wpAnyH_all (rs := [6]) (by kernel_rfl) (by simp) ?_; intro i hi; have hi := List.mem_singleton.1 hi; subst hi)
        refine wod_of rfl rfl rfl (wp_call (by go_simp) (HHD.out w2) ?_)
        rintro e w5 ⟨rfl, rfl⟩
        refine ⟨_, rfl, hS.base, ?_⟩
        simp only [Act.put, List.setIfInBounds_toArray, List.set_cons_zero, List.set_cons_succ]
        (refine wpAnyH_all (rs := [8]) (by kernel_rfl) (by simp) ?_; intro i hi; have hi := List.mem_singleton.1 hi; subst hi)
        refine wod_of rfl rfl rfl (wp_call (by go_simp) (jrnSays_any (stubE e) hS) ?_)
        clear hS
        rintro e8 w4 ⟨gq2, rfl, hS⟩
        refine ⟨_, rfl, hS.base, ?_⟩
        simp only [Act.put, List.setIfInBounds_toArray, List.set_cons_zero, List.set_cons_succ]
        (refine wpAnyH_all (rs := [9]) (by kernel_rfl) (by simp) ?_; intro i hi; have hi := List.mem_singleton.1 hi; subst hi)
        refine wod_of rfl rfl rfl (wp_call (by go_simp) (HS3.out F wq _ [] gq2 hS.pick) ?_)
        clear hS
        rintro e w4 ⟨rfl, hS⟩
        refine ⟨_, rfl, hS.base, ?_⟩
        simp only [Act.put, List.setIfInBounds_toArray, List.set_cons_zero, List.set_cons_succ]
        (refine whd_take 10 rfl rfl (by kernel_rfl) (by kernel_rfl) (by kernel_rfl) (fun _ _ _ h => h) rfl (fun W hW => by (go_simp; try with_reducible rfl)) hS.base ?_; simp only [Act.put, List.setIfInBounds_toArray, List.set_cons_zero, List.set_cons_succ])
        (refine wpAnyH_done (by kernel_rfl) ?_ _)
        replace hS := hB _ _ hS
        simp only [List.cons_append, List.nil_append] at hS
        clear hR hB
        by_cases he3 : er3 = 0
        · subst he3
          go_wp2_with (first | go_skip | ((with_reducible refine g_load ?_); refine wl_run rfl (by first | exact a_load1 hS rfl rfl rfl rfl (by (repeat (first | exact Ix.here | apply Ix.there))) (by rfl) | exact a_loadR hS rfl rfl rfl rfl (by (repeat (first | exact Ix.here | apply Ix.there))) (by rfl) | fail) ?_) | ((with_reducible refine g_build ?_); refine wl_run rfl (x_build rfl rfl (built_item 1 (stubE e) e)) ?_) | ((with_reducible refine g_store ?_); refine wl_of rfl ?_; refine a_storeA (vs := (⟨1, stubE e, e⟩ : It).cells) (off := 2 + s * 15) hS rfl rfl rfl (by rfl) (it_one _) (by (repeat (first | exact Sw.here | apply Sw.there))) (by rw [HJL.out]; show 2 + s * 15 + 15 ≤ 122; omega) HCS.out ?_; clear hS; intro w' hS) | fail)
          go_ret
          have hput : putJ D J e = (0, { J with items := J.items.set s ⟨1, stubE e, e⟩ }, D3) := by rw [HPUT.out, if_neg hne, HDO.out]; simp [thenD, H2.out, H3.out]
          rw [hput]
          exact ⟨rfl, hS.pick⟩
        · have he31 : (er3 != 0) = true := by simpa using he3
          go_wp2_with (fail)
          go_ret
          have hput : putJ D J e = (er3, J, D3) := by rw [HPUT.out, if_neg hne, HDO.out]; simp [thenD, H2.out, H3.out, he3]
          rw [hput]
          exact ⟨rfl, hS.pick⟩
      · have he21 : (er2 != 0) = true := by simpa using he2
        go_wp2_with (fail)
        go_ret
        have hput : putJ D J e = (er2, J, D2) := by rw [HPUT.out, if_neg hne, HDO.out]; simp [thenD, H2.out, he2]
        rw [hput]
        exact ⟨rfl, hS.pick⟩
end
end Go.Proofs.Ytnjboimjlbgdiaa
