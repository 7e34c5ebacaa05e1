/-
  A disk with a journal on it: what is done, by the program.
  A disk without a journal on it: what is done, by the program.
-/
import Derived.Test.YtnjboimjlbgdiaaJrnQ
import Derived.Test.YtnjboimjlbgdiaaJrn6
import Derived.Test.YtnjboimjlbgdiaaJrnB
import Derived.Test.YtnjboimjlbgdiaaDiskB
import Derived.Deep.DeepCutAuto
import Derived.Deep.CutBlock
set_option linter.unusedSimpArgs false
set_option linter.unusedVariables false
set_option linter.unusedSectionVars false
set_option maxRecDepth 100000
namespace Go.Proofs.Ytnjboimjlbgdiaa
open Go.RowKit Go.Cmp

section
def wents (gw gd gj : Nat) (W : Wd) : List Ent :=
  match W.J with
  | none => [.row gw [.pointer (some ⟨gd, 0, none⟩), .pointer none, .int .i64 (W.c : Int)] 50 (0, 0), disk gd W.D]
  | some J => [.row gw [.pointer (some ⟨gd, 0, none⟩), .pointer (some ⟨gj, 0, none⟩), .int .i64 (W.c : Int)] 50 (0, 0), disk gd W.D, .row gj (jcells gd J) 68 (0, 0)]
variable {S : List Nat} {w0 w : World} {M : List Ent} {gw gd gj : Nat}
def DoesPost (S : List Nat) (w0 : World) (gw gd : Nat) (M : List Ent) (r : Int × Wd) (e : Ending) (w' : World) : Prop := ∃ gj', e = .returned (.int .i64 r.1) ∧ St S w0 w' (wents gw gd gj' r.2 ++ M)
/-- Ahead of the end. -/
def preW (W : Wd) (x : JAct) : Int × Wd :=
  if x.kind < 6 then
    match W.J with
    | none => (0, W)
    | some J => ((callJ W.D J x).1, ⟨(callJ W.D J x).2.2, some (callJ W.D J x).2.1, W.c⟩)
  else dskJ W x
set_option maxHeartbeats 32000000 in
theorem does13_some (D : Dsk) (J : Jrn) (c : Nat) (hS : St S w0 w (.row gw [.pointer (some ⟨gd, 0, none⟩), .pointer (some ⟨gj, 0, none⟩), .int .i64 (c : Int)] 50 (0, 0) :: disk gd D :: .row gj (jcells gd J) 68 (0, 0) :: M)) (hon : OnJ D) (hJl : J.items.length = 8) (hJc : J.check ≤ 72057594037927927) (hst : D.steps + 200 ≤ 1000000000) (x : JAct) (vp : Value) (hxp : x.e.parent < 18446744073709551616) (hxb : x.e.body.length ≤ 1000000) (hxo : x.e.op ≤ 9223372036854775807) (hn1 : -9223372036854775808 ≤ x.n) (hn2 : x.n ≤ 9223372036854775807) (hP : Reads S w0 M 1 vp x.picks.length (x.picks.flatMap num)) (hpk : ∀ p ∈ x.picks, p ≤ 9223372036854775807)
    (HSC : Hid (∀ (S : List Nat) (w0 w : World) (M : List Ent) (hS : St S w0 w (disk gd D :: .row gj (jcells gd J) 68 (0, 0) :: M)), Calls Try.prog 12 #[.pointer (some ⟨gj, 0, none⟩)] w fun x w' => x = .returned (.int .i64 (scrubJ D J).1) ∧ St S w0 w' (disk gd (scrubJ D J).2.2 :: .row gj (jcells gd (scrubJ D J).2.1) 68 (0, 0) :: M))) :
    Calls Try.prog 19 #[.pointer (some ⟨gw, 0, none⟩), .agg (x.cells vp).toArray] w (DoesPost S w0 gw gd M (deedW ⟨D, some J, c⟩ x)) := by
  have HPU := Lib.hid (fun (W : World) (M : List Ent) (hS : St S w0 W (disk gd D :: .row gj (jcells gd J) 68 (0, 0) :: M)) => jrnPut_any hS hon.ok (by rw [hon.way]; decide) (by omega) hJl (by omega) x.e hxp hxb hxo)
  have HVO := Lib.hid (fun (W : World) (M : List Ent) (hS : St S w0 W (disk gd D :: .row gj (jcells gd J) 68 (0, 0) :: M)) => jrnVoid_any hS hon.ok (by rw [hon.way]; decide) (by omega) hJl (by omega) x.n hn2)
  have HSH := Lib.hid (fun (W : World) (M : List Ent) (hS : St S w0 W (.row gj (jcells gd J) 68 (0, 0) :: M)) => jrnShift_any hS hJl (by omega) x.n)
  have HRE := Lib.hid (fun (S : List Nat) (w0 W : World) (M : List Ent) (hS : St S w0 W (disk gd D :: .row gj (jcells gd J) 68 (0, 0) :: M)) => jrnRead_any hS hon.ok hJl (by omega) x.n hn2 (by
    have h := hon.read (i := (prepN x.n).toNat) (by unfold prepN; omega)
    rw [show (((prepN x.n).toNat : Nat) : Int) = prepN x.n from by unfold prepN; omega] at h
    rw [h]))
  have HFU := Lib.hid (fun (W : World) (M : List Ent) (hS : St S w0 W (disk gd D :: M)) => disk_fuse hS x.n hn1 hn2)
  have HCU := Lib.hid (fun (W : World) (M : List Ent) (hS : St S w0 W (disk gd D :: M)) => disk_cut hS)
  have hs10 : D.start x.picks = (10, D) := by unfold Dsk.start; rw [if_pos hon.off]
  have HSS := Lib.hid (fun (W : World) (hS : St S w0 W (disk gd D :: .row gw [.pointer (some ⟨gd, 0, none⟩), .pointer (some ⟨gj, 0, none⟩), .int .i64 (c : Int)] 50 (0, 0) :: .row gj (jcells gd J) 68 (0, 0) :: M)) => disk_start hS hon.ok vp x.picks (fun W h => hP W h.tail.tail) hpk)
  rw [hs10] at HSS
  have HS10 := Lib.hid hs10
  clear hs10
  have HRO := Lib.hid (fun (W : World) (M : List Ent) (hS : St S w0 W (disk gd D :: M)) => disk_rot hS hon.ok x.i x.pos x.mask)
  obtain ⟨r, hr⟩ : ∃ r, preW ⟨D, some J, c⟩ x = r := ⟨_, rfl⟩
  have hdeed : deedW ⟨D, some J, c⟩ x = (r.1, endW r.2) := by
    rw [← hr]
    unfold deedW preW
    split <;> rfl
  show Calls _ _ _ _ (DoesPost S w0 gw gd M (deedW ⟨D, some J, c⟩ x))
  rw [hdeed]
  have hr2 : preW ⟨D, some J, c⟩ x = if x.kind < 6 then ((callJ D J x).1, ⟨(callJ D J x).2.2, some (callJ D J x).2.1, c⟩) else dskJ ⟨D, some J, c⟩ x := rfl
  rw [hr] at hr2
  have HR := Lib.hid hr2
  clear hdeed hr hr2 hon hJl hJc hst hxp hxb hxo
  (go_enter Try.func19, Try.ntmps19)
  go_upto_block 0 with (first | go_skip | ((with_reducible refine g_box ?_); refine wl_of rfl ?_; refine wp_box hS rfl rfl rfl ?_; clear hS; intro ga w1 hS) | ((with_reducible refine g_load ?_); refine wl_run rfl (by first | exact a_load1 hS (off := 1) rfl rfl rfl rfl (by (repeat (first | exact Ix.here | apply Ix.there))) (by rfl) | exact a_load1 hS (off := 0) rfl rfl rfl rfl (by (repeat (first | exact Ix.here | apply Ix.there))) (by rfl)) ?_) | fail)
  replace hS : St S w0 _ (.row gw [.pointer (some ⟨gd, 0, none⟩), .pointer (some ⟨gj, 0, none⟩), .int .i64 (c : Int)] 50 (0, 0) :: .row ga (x.cells vp) 46 (0, 0) :: disk gd D :: .row gj (jcells gd J) 68 (0, 0) :: M) := hS.pick
  (try simp only [Act.put, List.setIfInBounds_toArray, List.set_cons_zero, List.set_cons_succ])
  go_cut [5] (fun v wx => ∃ gj', v = .int .i64 r.1 ∧ St S w0 wx (wents gw gd gj' r.2 ++ M))
  case first =>
    by_cases k1 : x.kind = 1
    · have b1 : (x.kind == 1) = true := by rw [k1]; rfl
      have HRR : Hid (r = ((putJ D J x.e).1, ⟨(putJ D J x.e).2.2, some (putJ D J x.e).2.1, c⟩)) := Lib.hid (by rw [HR.out, if_pos (by rw [k1]; decide)]; unfold callJ; simp [k1])
      have KX := Lib.hid k1
      clear k1 HR
      go_wp2_with (fail)
      refine wp_region_tail 6 (by kernel_rfl) (by kernel_rfl) hS ?_
      clear hS
      intro w' hS
      simp only [List.take_succ_cons, List.take_zero, List.drop_succ_cons, List.drop_zero]
      still_step
      still_step
      still_step
      ((with_reducible refine s_load ?_); refine ws_run rfl (by exact a_load1 hS (off := 1) rfl rfl rfl rfl (by (repeat (first | exact Ix.here | apply Ix.there))) (by rfl)) ?_; simp only [Act.put, List.setIfInBounds_toArray, List.set_cons_zero, List.set_cons_succ])
      still_step
      ((with_reducible refine s_load ?_); refine ws_run rfl (by exact a_loadA (vs := x.e.cells) (off := 1) hS rfl rfl rfl rfl (by (repeat (first | exact Ix.here | apply Ix.there))) 9 (by rfl) (by rfl) (by rfl)) ?_; simp only [Act.put, List.setIfInBounds_toArray, List.set_cons_zero, List.set_cons_succ])
      refine wpStill_nil ?_
      go_wp2_with (fail)
      refine (HPU.out _ (.row gw [.pointer (some ⟨gd, 0, none⟩), .pointer (some ⟨gj, 0, none⟩), .int .i64 (c : Int)] 50 (0, 0) :: M) hS.pick).mono ?_
      clear hS
      rintro e9 w' ⟨rfl, hS⟩
      go_wp2_with (fail)
      go_meet
      refine ⟨gj, by rw [HRR.out], ?_⟩
      rw [HRR.out]
      exact (hS.pick : St S w0 _ (.row gw [.pointer (some ⟨gd, 0, none⟩), .pointer (some ⟨gj, 0, none⟩), .int .i64 (c : Int)] 50 (0, 0) :: disk gd (putJ D J x.e).2.2 :: .row gj (jcells gd (putJ D J x.e).2.1) 68 (0, 0) :: M))
    by_cases k2 : x.kind = 2
    · have b1 : (x.kind == 1) = false := by rw [k2]; rfl
      have b2 : (x.kind == 2) = true := by rw [k2]; rfl
      have HRR : Hid (r = ((voidJ D J x.n).1, ⟨(voidJ D J x.n).2.2, some (voidJ D J x.n).2.1, c⟩)) := Lib.hid (by rw [HR.out, if_pos (by rw [k2]; decide)]; unfold callJ; simp [k2])
      have KX := Lib.hid k2
      clear k2 HR
      go_wp2_with (fail)
      refine wp_region_tail 6 (by kernel_rfl) (by kernel_rfl) hS ?_
      clear hS
      intro w' hS
      simp only [List.take_succ_cons, List.take_zero, List.drop_succ_cons, List.drop_zero]
      still_step
      still_step
      still_step
      ((with_reducible refine s_load ?_); refine ws_run rfl (by exact a_load1 hS (off := 1) rfl rfl rfl rfl (by (repeat (first | exact Ix.here | apply Ix.there))) (by rfl)) ?_; simp only [Act.put, List.setIfInBounds_toArray, List.set_cons_zero, List.set_cons_succ])
      still_step
      ((with_reducible refine s_load ?_); refine ws_run rfl (by exact a_load1 hS (off := 10) rfl rfl rfl rfl (by (repeat (first | exact Ix.here | apply Ix.there))) (by rfl)) ?_; simp only [Act.put, List.setIfInBounds_toArray, List.set_cons_zero, List.set_cons_succ])
      refine wpStill_nil ?_
      go_wp2_with (fail)
      refine (HVO.out _ (.row gw [.pointer (some ⟨gd, 0, none⟩), .pointer (some ⟨gj, 0, none⟩), .int .i64 (c : Int)] 50 (0, 0) :: M) hS.pick).mono ?_
      clear hS
      rintro e9 w' ⟨rfl, hS⟩
      go_wp2_with (fail)
      go_meet
      refine ⟨gj, by rw [HRR.out], ?_⟩
      rw [HRR.out]
      exact (hS.pick : St S w0 _ (.row gw [.pointer (some ⟨gd, 0, none⟩), .pointer (some ⟨gj, 0, none⟩), .int .i64 (c : Int)] 50 (0, 0) :: disk gd (voidJ D J x.n).2.2 :: .row gj (jcells gd (voidJ D J x.n).2.1) 68 (0, 0) :: M))
    by_cases k3 : x.kind = 3
    · have b1 : (x.kind == 1) = false := by rw [k3]; rfl
      have b2 : (x.kind == 2) = false := by rw [k3]; rfl
      have b3 : (x.kind == 3) = true := by rw [k3]; rfl
      have HRR : Hid (r = ((shiftJ J x.n).1, ⟨D, some (shiftJ J x.n).2, c⟩)) := Lib.hid (by rw [HR.out, if_pos (by rw [k3]; decide)]; unfold callJ; simp [k3])
      have KX := Lib.hid k3
      clear k3 HR
      go_wp2_with (fail)
      refine wp_region_tail 6 (by kernel_rfl) (by kernel_rfl) hS ?_
      clear hS
      intro w' hS
      simp only [List.take_succ_cons, List.take_zero, List.drop_succ_cons, List.drop_zero]
      still_step
      still_step
      still_step
      ((with_reducible refine s_load ?_); refine ws_run rfl (by exact a_load1 hS (off := 1) rfl rfl rfl rfl (by (repeat (first | exact Ix.here | apply Ix.there))) (by rfl)) ?_; simp only [Act.put, List.setIfInBounds_toArray, List.set_cons_zero, List.set_cons_succ])
      still_step
      ((with_reducible refine s_load ?_); refine ws_run rfl (by exact a_load1 hS (off := 10) rfl rfl rfl rfl (by (repeat (first | exact Ix.here | apply Ix.there))) (by rfl)) ?_; simp only [Act.put, List.setIfInBounds_toArray, List.set_cons_zero, List.set_cons_succ])
      refine wpStill_nil ?_
      go_wp2_with (fail)
      refine (HSH.out _ (.row gw [.pointer (some ⟨gd, 0, none⟩), .pointer (some ⟨gj, 0, none⟩), .int .i64 (c : Int)] 50 (0, 0) :: disk gd D :: M) hS.pick).mono ?_
      clear hS
      rintro e9 w' ⟨rfl, hS⟩
      go_wp2_with (fail)
      go_meet
      refine ⟨gj, by rw [HRR.out], ?_⟩
      rw [HRR.out]
      exact (hS.pick : St S w0 _ (.row gw [.pointer (some ⟨gd, 0, none⟩), .pointer (some ⟨gj, 0, none⟩), .int .i64 (c : Int)] 50 (0, 0) :: disk gd D :: .row gj (jcells gd (shiftJ J x.n).2) 68 (0, 0) :: M))
    by_cases k4 : x.kind = 4
    · have b1 : (x.kind == 1) = false := by rw [k4]; rfl
      have b2 : (x.kind == 2) = false := by rw [k4]; rfl
      have b3 : (x.kind == 3) = false := by rw [k4]; rfl
      have b4 : (x.kind == 4) = true := by rw [k4]; rfl
      have HRR : Hid (r = ((readJ D J x.n).2.1, ⟨D, some (readJ D J x.n).2.2, c⟩)) := Lib.hid (by rw [HR.out, if_pos (by rw [k4]; decide)]; unfold callJ; simp [k4])
      have KX := Lib.hid k4
      clear k4 HR
      go_wp2_with (fail)
      refine St.named hS fun wq hwq => ?_
      subst hwq
      replace hS : St S w0 wq ([disk gd D, .row gj (jcells gd J) 68 (0, 0)] ++ (.row gw [.pointer (some ⟨gd, 0, none⟩), .pointer (some ⟨gj, 0, none⟩), .int .i64 (c : Int)] 50 (0, 0) :: .row ga (x.cells vp) 46 (0, 0) :: M)) := hS.pick
      obtain ⟨F, hA, hR, hB⟩ := St.split (A := [disk gd D, .row gj (jcells gd J) 68 (0, 0)]) hS
      clear hS
      have hS := hA.drew
      clear hA
      refine wp_region_held (S := fun W => Cmp.Mod F wq W) (by kernel_rfl) ?_
      change wpAnyH _ _ _ _ _ _ _ _ (wq).drew
      generalize (wq).drew = w2 at hS ⊢
      (refine whd_take 0 rfl rfl (by kernel_rfl) (by kernel_rfl) (by kernel_rfl) (fun _ _ _ h => h) rfl (fun W hW => by (go_simp; try with_reducible rfl)) hS.base ?_; simp only [Act.put, List.setIfInBounds_toArray, List.set_cons_zero, List.set_cons_succ])
      (refine whd_take 1 rfl rfl (by kernel_rfl) (by kernel_rfl) (by kernel_rfl) (fun _ _ _ h => h) rfl (fun W hW => by (go_simp; try with_reducible rfl)) hS.base ?_; simp only [Act.put, List.setIfInBounds_toArray, List.set_cons_zero, List.set_cons_succ])
      (refine whd_take 2 rfl rfl (by kernel_rfl) (by kernel_rfl) (by kernel_rfl) (fun _ _ _ h => h) rfl (fun W hW => by (go_simp; try with_reducible rfl)) hS.base ?_; simp only [Act.put, List.setIfInBounds_toArray, List.set_cons_zero, List.set_cons_succ])
      (refine whd_take 3 rfl rfl (by kernel_rfl) (by kernel_rfl) (by kernel_rfl) (fun _ _ _ h => h) rfl (fun W hW => (by exact a_load1 (hR W hW) (off := 1) rfl rfl rfl rfl (by (repeat (first | exact Ix.here | apply Ix.there))) (by rfl))) hS.base ?_; simp only [Act.put, List.setIfInBounds_toArray, List.set_cons_zero, List.set_cons_succ])
      (refine whd_take 4 rfl rfl (by kernel_rfl) (by kernel_rfl) (by kernel_rfl) (fun _ _ _ h => h) rfl (fun W hW => by (go_simp; try with_reducible rfl)) hS.base ?_; simp only [Act.put, List.setIfInBounds_toArray, List.set_cons_zero, List.set_cons_succ])
      (refine whd_take 5 rfl rfl (by kernel_rfl) (by kernel_rfl) (by kernel_rfl) (fun _ _ _ h => h) rfl (fun W hW => (by exact a_load1 (hR W hW) (off := 10) rfl rfl rfl rfl (by (repeat (first | exact Ix.here | apply Ix.there))) (by rfl))) hS.base ?_; simp only [Act.put, List.setIfInBounds_toArray, List.set_cons_zero, List.set_cons_succ])
      (refine wpAnyH_all (rs := [6]) (by kernel_rfl) (by simp) ?_; intro i hi; have hi := List.mem_singleton.1 hi; subst hi)
      refine wod_of rfl rfl rfl (wp_call (by go_simp) (HRE.out F wq _ [] hS) ?_)
      clear hS
      rintro e w4 ⟨rfl, hS⟩
      refine ⟨_, rfl, hS.base, ?_⟩
      simp only [Act.put, List.setIfInBounds_toArray, List.set_cons_zero, List.set_cons_succ]
      (refine whd_take 7 rfl rfl (by kernel_rfl) (by kernel_rfl) (by kernel_rfl) (fun _ _ _ h => h) rfl (fun W hW => by (go_simp; try with_reducible rfl)) hS.base ?_; simp only [Act.put, List.setIfInBounds_toArray, List.set_cons_zero, List.set_cons_succ])
      (refine whd_take 8 rfl rfl (by kernel_rfl) (by kernel_rfl) (by kernel_rfl) (fun _ _ _ h => h) rfl (fun W hW => by (go_simp; try with_reducible rfl)) hS.base ?_; simp only [Act.put, List.setIfInBounds_toArray, List.set_cons_zero, List.set_cons_succ])
      (refine whd_take 9 rfl rfl (by kernel_rfl) (by kernel_rfl) (by kernel_rfl) (fun _ _ _ h => h) rfl (fun W hW => by (go_simp; try with_reducible rfl)) hS.base ?_; simp only [Act.put, List.setIfInBounds_toArray, List.set_cons_zero, List.set_cons_succ])
      (refine whd_take 10 rfl rfl (by kernel_rfl) (by kernel_rfl) (by kernel_rfl) (fun _ _ _ h => h) rfl (fun W hW => by (go_simp; try with_reducible rfl)) hS.base ?_; simp only [Act.put, List.setIfInBounds_toArray, List.set_cons_zero, List.set_cons_succ])
      (refine wpAnyH_done (by kernel_rfl) ?_ _)
      replace hS := hB _ _ hS
      simp only [List.cons_append, List.nil_append] at hS
      clear hR hB
      go_wp2_with (fail)
      go_meet
      refine ⟨gj, by rw [HRR.out], ?_⟩
      rw [HRR.out]
      exact (hS.pick : St S w0 _ (.row gw [.pointer (some ⟨gd, 0, none⟩), .pointer (some ⟨gj, 0, none⟩), .int .i64 (c : Int)] 50 (0, 0) :: disk gd D :: .row gj (jcells gd (readJ D J x.n).2.2) 68 (0, 0) :: M))
    by_cases k5 : x.kind = 5
    · have b1 : (x.kind == 1) = false := by rw [k5]; rfl
      have b2 : (x.kind == 2) = false := by rw [k5]; rfl
      have b3 : (x.kind == 3) = false := by rw [k5]; rfl
      have b4 : (x.kind == 4) = false := by rw [k5]; rfl
      have b5 : (x.kind == 5) = true := by rw [k5]; rfl
      have HRR : Hid (r = ((scrubJ D J).1, ⟨(scrubJ D J).2.2, some (scrubJ D J).2.1, c⟩)) := Lib.hid (by rw [HR.out, if_pos (by rw [k5]; decide)]; unfold callJ; simp [k5])
      have KX := Lib.hid k5
      clear k5 HR
      go_wp2_with (first | go_skip | ((with_reducible refine g_load ?_); refine wl_run rfl (by first | exact a_load1 hS (off := 1) rfl rfl rfl rfl (by (repeat (first | exact Ix.here | apply Ix.there))) (by rfl) | exact a_load1 hS (off := 0) rfl rfl rfl rfl (by (repeat (first | exact Ix.here | apply Ix.there))) (by rfl)) ?_) | fail)
      refine (HSC.out _ _ _ (.row gw [.pointer (some ⟨gd, 0, none⟩), .pointer (some ⟨gj, 0, none⟩), .int .i64 (c : Int)] 50 (0, 0) :: M) hS.pick).mono ?_
      clear hS
      rintro e9 w' ⟨rfl, hS⟩
      go_wp2_with (fail)
      go_meet
      refine ⟨gj, by rw [HRR.out], ?_⟩
      rw [HRR.out]
      exact (hS.pick : St S w0 _ (.row gw [.pointer (some ⟨gd, 0, none⟩), .pointer (some ⟨gj, 0, none⟩), .int .i64 (c : Int)] 50 (0, 0) :: disk gd (scrubJ D J).2.2 :: .row gj (jcells gd (scrubJ D J).2.1) 68 (0, 0) :: M))
    by_cases k6 : x.kind = 6
    · have b1 : (x.kind == 1) = false := by rw [k6]; rfl
      have b2 : (x.kind == 2) = false := by rw [k6]; rfl
      have b3 : (x.kind == 3) = false := by rw [k6]; rfl
      have b4 : (x.kind == 4) = false := by rw [k6]; rfl
      have b5 : (x.kind == 5) = false := by rw [k6]; rfl
      have b6 : (x.kind == 6) = true := by rw [k6]; rfl
      have HRR : Hid (r = ((D.setFuse x.n).1, ⟨(D.setFuse x.n).2, some J, c⟩)) := Lib.hid (by rw [HR.out, if_neg (by rw [k6]; decide)]; unfold dskJ; simp [k6])
      have KX := Lib.hid k6
      clear k6 HR
      go_wp2_with (fail)
      refine wp_region_tail 6 (by kernel_rfl) (by kernel_rfl) hS ?_
      clear hS
      intro w' hS
      simp only [List.take_succ_cons, List.take_zero, List.drop_succ_cons, List.drop_zero]
      still_step
      still_step
      still_step
      ((with_reducible refine s_load ?_); refine ws_run rfl (by exact a_load1 hS (off := 0) rfl rfl rfl rfl (by (repeat (first | exact Ix.here | apply Ix.there))) (by rfl)) ?_; simp only [Act.put, List.setIfInBounds_toArray, List.set_cons_zero, List.set_cons_succ])
      still_step
      ((with_reducible refine s_load ?_); refine ws_run rfl (by exact a_load1 hS (off := 10) rfl rfl rfl rfl (by (repeat (first | exact Ix.here | apply Ix.there))) (by rfl)) ?_; simp only [Act.put, List.setIfInBounds_toArray, List.set_cons_zero, List.set_cons_succ])
      refine wpStill_nil ?_
      go_wp2_with (fail)
      refine (HFU.out _ (.row gw [.pointer (some ⟨gd, 0, none⟩), .pointer (some ⟨gj, 0, none⟩), .int .i64 (c : Int)] 50 (0, 0) :: .row gj (jcells gd J) 68 (0, 0) :: M) hS.pick).mono ?_
      clear hS
      rintro e9 w' ⟨rfl, hS⟩
      go_wp2_with (fail)
      go_meet
      refine ⟨gj, by rw [HRR.out], ?_⟩
      rw [HRR.out]
      exact (hS.pick : St S w0 _ (.row gw [.pointer (some ⟨gd, 0, none⟩), .pointer (some ⟨gj, 0, none⟩), .int .i64 (c : Int)] 50 (0, 0) :: disk gd (D.setFuse x.n).2 :: .row gj (jcells gd J) 68 (0, 0) :: M))
    by_cases k7 : x.kind = 7
    · have b1 : (x.kind == 1) = false := by rw [k7]; rfl
      have b2 : (x.kind == 2) = false := by rw [k7]; rfl
      have b3 : (x.kind == 3) = false := by rw [k7]; rfl
      have b4 : (x.kind == 4) = false := by rw [k7]; rfl
      have b5 : (x.kind == 5) = false := by rw [k7]; rfl
      have b6 : (x.kind == 6) = false := by rw [k7]; rfl
      have b7 : (x.kind == 7) = true := by rw [k7]; rfl
      have HRR : Hid (r = (D.cut.1, ⟨D.cut.2, some J, c⟩)) := Lib.hid (by rw [HR.out, if_neg (by rw [k7]; decide)]; unfold dskJ; simp [k7])
      have KX := Lib.hid k7
      clear k7 HR
      go_wp2_with (first | go_skip | ((with_reducible refine g_load ?_); refine wl_run rfl (by first | exact a_load1 hS (off := 1) rfl rfl rfl rfl (by (repeat (first | exact Ix.here | apply Ix.there))) (by rfl) | exact a_load1 hS (off := 0) rfl rfl rfl rfl (by (repeat (first | exact Ix.here | apply Ix.there))) (by rfl)) ?_) | fail)
      refine (HCU.out _ (.row gw [.pointer (some ⟨gd, 0, none⟩), .pointer (some ⟨gj, 0, none⟩), .int .i64 (c : Int)] 50 (0, 0) :: .row gj (jcells gd J) 68 (0, 0) :: M) hS.pick).mono ?_
      clear hS
      rintro e9 w' ⟨rfl, hS⟩
      go_wp2_with (fail)
      go_meet
      refine ⟨gj, by rw [HRR.out], ?_⟩
      rw [HRR.out]
      exact (hS.pick : St S w0 _ (.row gw [.pointer (some ⟨gd, 0, none⟩), .pointer (some ⟨gj, 0, none⟩), .int .i64 (c : Int)] 50 (0, 0) :: disk gd D.cut.2 :: .row gj (jcells gd J) 68 (0, 0) :: M))
    by_cases k8 : x.kind = 8
    · have b1 : (x.kind == 1) = false := by rw [k8]; rfl
      have b2 : (x.kind == 2) = false := by rw [k8]; rfl
      have b3 : (x.kind == 3) = false := by rw [k8]; rfl
      have b4 : (x.kind == 4) = false := by rw [k8]; rfl
      have b5 : (x.kind == 5) = false := by rw [k8]; rfl
      have b6 : (x.kind == 6) = false := by rw [k8]; rfl
      have b7 : (x.kind == 7) = false := by rw [k8]; rfl
      have b8 : (x.kind == 8) = true := by rw [k8]; rfl
      have HRR : Hid (r = (10, ⟨D, some J, c⟩)) := Lib.hid (by rw [HR.out, if_neg (by rw [k8]; decide)]; unfold dskJ; rw [if_neg (by rw [k8]; decide), if_neg (by rw [k8]; decide), if_pos k8, HS10.out]; rfl)
      have KX := Lib.hid k8
      clear k8 HR
      go_wp2_with (fail)
      refine wp_region_tail 6 (by kernel_rfl) (by kernel_rfl) hS ?_
      clear hS
      intro w' hS
      simp only [List.take_succ_cons, List.take_zero, List.drop_succ_cons, List.drop_zero]
      still_step
      still_step
      still_step
      ((with_reducible refine s_load ?_); refine ws_run rfl (by exact a_load1 hS (off := 0) rfl rfl rfl rfl (by (repeat (first | exact Ix.here | apply Ix.there))) (by rfl)) ?_; simp only [Act.put, List.setIfInBounds_toArray, List.set_cons_zero, List.set_cons_succ])
      still_step
      ((with_reducible refine s_load ?_); refine ws_run rfl (by exact a_load1 hS (off := 14) rfl rfl rfl rfl (by (repeat (first | exact Ix.here | apply Ix.there))) (by rfl)) ?_; simp only [Act.put, List.setIfInBounds_toArray, List.set_cons_zero, List.set_cons_succ])
      refine wpStill_nil ?_
      go_wp2_with (fail)
      refine (HSS.out _ hS.pick).mono ?_
      clear hS
      rintro e9 w' ⟨rfl, hS⟩
      go_wp2_with (fail)
      go_meet
      refine ⟨gj, by rw [HRR.out], ?_⟩
      rw [HRR.out]
      exact (hS.pick : St S w0 _ (.row gw [.pointer (some ⟨gd, 0, none⟩), .pointer (some ⟨gj, 0, none⟩), .int .i64 (c : Int)] 50 (0, 0) :: disk gd D :: .row gj (jcells gd J) 68 (0, 0) :: M))
    by_cases k9 : x.kind = 9
    · have b1 : (x.kind == 1) = false := by rw [k9]; rfl
      have b2 : (x.kind == 2) = false := by rw [k9]; rfl
      have b3 : (x.kind == 3) = false := by rw [k9]; rfl
      have b4 : (x.kind == 4) = false := by rw [k9]; rfl
      have b5 : (x.kind == 5) = false := by rw [k9]; rfl
      have b6 : (x.kind == 6) = false := by rw [k9]; rfl
      have b7 : (x.kind == 7) = false := by rw [k9]; rfl
      have b8 : (x.kind == 8) = false := by rw [k9]; rfl
      have b9 : (x.kind == 9) = true := by rw [k9]; rfl
      have HRR : Hid (r = ((D.rot x.i x.pos x.mask).1, ⟨(D.rot x.i x.pos x.mask).2, some J, c⟩)) := Lib.hid (by rw [HR.out, if_neg (by rw [k9]; decide)]; unfold dskJ; simp [k9])
      have KX := Lib.hid k9
      clear k9 HR
      go_wp2_with (fail)
      refine wp_region_tail 10 (by kernel_rfl) (by kernel_rfl) hS ?_
      clear hS
      intro w' hS
      simp only [List.take_succ_cons, List.take_zero, List.drop_succ_cons, List.drop_zero]
      still_step
      still_step
      still_step
      ((with_reducible refine s_load ?_); refine ws_run rfl (by exact a_load1 hS (off := 0) rfl rfl rfl rfl (by (repeat (first | exact Ix.here | apply Ix.there))) (by rfl)) ?_; simp only [Act.put, List.setIfInBounds_toArray, List.set_cons_zero, List.set_cons_succ])
      still_step
      ((with_reducible refine s_load ?_); refine ws_run rfl (by exact a_load1 hS (off := 11) rfl rfl rfl rfl (by (repeat (first | exact Ix.here | apply Ix.there))) (by rfl)) ?_; simp only [Act.put, List.setIfInBounds_toArray, List.set_cons_zero, List.set_cons_succ])
      still_step
      ((with_reducible refine s_load ?_); refine ws_run rfl (by exact a_load1 hS (off := 12) rfl rfl rfl rfl (by (repeat (first | exact Ix.here | apply Ix.there))) (by rfl)) ?_; simp only [Act.put, List.setIfInBounds_toArray, List.set_cons_zero, List.set_cons_succ])
      still_step
      ((with_reducible refine s_load ?_); refine ws_run rfl (by exact a_load1 hS (off := 13) rfl rfl rfl rfl (by (repeat (first | exact Ix.here | apply Ix.there))) (by rfl)) ?_; simp only [Act.put, List.setIfInBounds_toArray, List.set_cons_zero, List.set_cons_succ])
      refine wpStill_nil ?_
      go_wp2_with (fail)
      refine (HRO.out _ (.row gw [.pointer (some ⟨gd, 0, none⟩), .pointer (some ⟨gj, 0, none⟩), .int .i64 (c : Int)] 50 (0, 0) :: .row gj (jcells gd J) 68 (0, 0) :: M) hS.pick).mono ?_
      clear hS
      rintro e9 w' ⟨rfl, hS⟩
      go_wp2_with (fail)
      go_meet
      refine ⟨gj, by rw [HRR.out], ?_⟩
      rw [HRR.out]
      exact (hS.pick : St S w0 _ (.row gw [.pointer (some ⟨gd, 0, none⟩), .pointer (some ⟨gj, 0, none⟩), .int .i64 (c : Int)] 50 (0, 0) :: disk gd (D.rot x.i x.pos x.mask).2 :: .row gj (jcells gd J) 68 (0, 0) :: M))
    have b1 : (x.kind == 1) = false := by rw [beq_eq_false_iff_ne]; exact k1
    have b2 : (x.kind == 2) = false := by rw [beq_eq_false_iff_ne]; exact k2
    have b3 : (x.kind == 3) = false := by rw [beq_eq_false_iff_ne]; exact k3
    have b4 : (x.kind == 4) = false := by rw [beq_eq_false_iff_ne]; exact k4
    have b5 : (x.kind == 5) = false := by rw [beq_eq_false_iff_ne]; exact k5
    have b6 : (x.kind == 6) = false := by rw [beq_eq_false_iff_ne]; exact k6
    have b7 : (x.kind == 7) = false := by rw [beq_eq_false_iff_ne]; exact k7
    have b8 : (x.kind == 8) = false := by rw [beq_eq_false_iff_ne]; exact k8
    have b9 : (x.kind == 9) = false := by rw [beq_eq_false_iff_ne]; exact k9
    have HRR : Hid (r = (0, ⟨D, some J, c⟩)) := Lib.hid (by
      rw [HR.out]
      split
      · unfold callJ; simp [k1, k2, k3, k4, k5]
      · unfold dskJ; simp [k6, k7, k8, k9])
    clear HR k1 k2 k3 k4 k5 k6 k7 k8 k9
    go_wp2_with (fail)
    go_meet
    refine ⟨gj, by rw [HRR.out], ?_⟩
    rw [HRR.out]
    exact (hS.pick : St S w0 _ (.row gw [.pointer (some ⟨gd, 0, none⟩), .pointer (some ⟨gj, 0, none⟩), .int .i64 (c : Int)] 50 (0, 0) :: disk gd D :: .row gj (jcells gd J) 68 (0, 0) :: M))
  case rest =>
    clear hS HR HPU HVO HSH HRE HFU HCU HSS HRO HSC hP hpk
    obtain ⟨gj', rfl, hS⟩ := hcut
    obtain ⟨er, D1, J1, c1⟩ := r
    cases J1 with
    | none =>
      replace hS : St S w0 _ (.row gw [.pointer (some ⟨gd, 0, none⟩), .pointer none, .int .i64 (c1 : Int)] 50 (0, 0) :: disk gd D1 :: M) := hS
      cases ho : D1.off
      · have HE : Hid (endW ⟨D1, none, c1⟩ = ⟨D1, none, c1⟩) := Lib.hid (by unfold endW; simp [ho])
        have HO := Lib.hid ho
        clear ho
        go_upto_if 141 with (first | go_skip | ((with_reducible refine g_load ?_); refine wl_run rfl (by first | exact a_load1 hS (off := 1) rfl rfl rfl rfl (by (repeat (first | exact Ix.here | apply Ix.there))) (by rfl) | exact a_load1 hS (off := 0) rfl rfl rfl rfl (by (repeat (first | exact Ix.here | apply Ix.there))) (by rfl)) ?_) | (go_at_call 47; refine (disk_on (hS.out (by first | ((repeat (first | exact Out.here | apply Out.there)); done) | fail))).mono ?_; rintro e9 w' ⟨rfl, rfl⟩) | ((with_reducible refine g_store ?_); refine wl_of rfl ?_; refine a_store1 (v := .pointer none) (off := 1) (cs' := [.pointer (some ⟨gd, 0, none⟩), .pointer none, .int .i64 (c1 : Int)]) hS rfl rfl rfl rfl rfl rfl (by (repeat (first | exact Sw.here | apply Sw.there))) (by simp) (by rfl) ?_; clear hS; intro w' hS) | fail)
        rw [HO.out]
        go_wp2_with (first | go_skip | ((with_reducible refine g_load ?_); refine wl_run rfl (by first | exact a_load1 hS (off := 1) rfl rfl rfl rfl (by (repeat (first | exact Ix.here | apply Ix.there))) (by rfl) | exact a_load1 hS (off := 0) rfl rfl rfl rfl (by (repeat (first | exact Ix.here | apply Ix.there))) (by rfl)) ?_) | (go_at_call 47; refine (disk_on (hS.out (by first | ((repeat (first | exact Out.here | apply Out.there)); done) | fail))).mono ?_; rintro e9 w' ⟨rfl, rfl⟩) | ((with_reducible refine g_store ?_); refine wl_of rfl ?_; refine a_store1 (v := .pointer none) (off := 1) (cs' := [.pointer (some ⟨gd, 0, none⟩), .pointer none, .int .i64 (c1 : Int)]) hS rfl rfl rfl rfl rfl rfl (by (repeat (first | exact Sw.here | apply Sw.there))) (by simp) (by rfl) ?_; clear hS; intro w' hS) | fail)
        go_ret
        exact ⟨gj', rfl, by rw [HE.out]; exact hS.pick⟩
      · have HE : Hid (endW ⟨D1, none, c1⟩ = ⟨D1, none, c1⟩) := Lib.hid (by unfold endW; simp)
        have HO := Lib.hid ho
        clear ho
        go_upto_if 141 with (first | go_skip | ((with_reducible refine g_load ?_); refine wl_run rfl (by first | exact a_load1 hS (off := 1) rfl rfl rfl rfl (by (repeat (first | exact Ix.here | apply Ix.there))) (by rfl) | exact a_load1 hS (off := 0) rfl rfl rfl rfl (by (repeat (first | exact Ix.here | apply Ix.there))) (by rfl)) ?_) | (go_at_call 47; refine (disk_on (hS.out (by first | ((repeat (first | exact Out.here | apply Out.there)); done) | fail))).mono ?_; rintro e9 w' ⟨rfl, rfl⟩) | ((with_reducible refine g_store ?_); refine wl_of rfl ?_; refine a_store1 (v := .pointer none) (off := 1) (cs' := [.pointer (some ⟨gd, 0, none⟩), .pointer none, .int .i64 (c1 : Int)]) hS rfl rfl rfl rfl rfl rfl (by (repeat (first | exact Sw.here | apply Sw.there))) (by simp) (by rfl) ?_; clear hS; intro w' hS) | fail)
        rw [HO.out]
        go_wp2_with (first | go_skip | ((with_reducible refine g_load ?_); refine wl_run rfl (by first | exact a_load1 hS (off := 1) rfl rfl rfl rfl (by (repeat (first | exact Ix.here | apply Ix.there))) (by rfl) | exact a_load1 hS (off := 0) rfl rfl rfl rfl (by (repeat (first | exact Ix.here | apply Ix.there))) (by rfl)) ?_) | (go_at_call 47; refine (disk_on (hS.out (by first | ((repeat (first | exact Out.here | apply Out.there)); done) | fail))).mono ?_; rintro e9 w' ⟨rfl, rfl⟩) | ((with_reducible refine g_store ?_); refine wl_of rfl ?_; refine a_store1 (v := .pointer none) (off := 1) (cs' := [.pointer (some ⟨gd, 0, none⟩), .pointer none, .int .i64 (c1 : Int)]) hS rfl rfl rfl rfl rfl rfl (by (repeat (first | exact Sw.here | apply Sw.there))) (by simp) (by rfl) ?_; clear hS; intro w' hS) | fail)
        go_ret
        exact ⟨gj', rfl, by rw [HE.out]; exact hS.pick⟩
    | some J1 =>
      replace hS : St S w0 _ (.row gw [.pointer (some ⟨gd, 0, none⟩), .pointer (some ⟨gj', 0, none⟩), .int .i64 (c1 : Int)] 50 (0, 0) :: disk gd D1 :: .row gj' (jcells gd J1) 68 (0, 0) :: M) := hS
      have HCH := Lib.hid (fun (W : World) (M : List Ent) (hS : St S w0 W (.row gj' (jcells gd J1) 68 (0, 0) :: M)) => jrnCheck_any hS)
      cases ho : D1.off
      · have HE : Hid (endW ⟨D1, some J1, c1⟩ = ⟨D1, some J1, J1.check⟩) := Lib.hid (by unfold endW; simp [ho])
        have HO := Lib.hid ho
        clear ho
        go_upto_if 141 with (first | go_skip | ((with_reducible refine g_load ?_); refine wl_run rfl (by first | exact a_load1 hS (off := 1) rfl rfl rfl rfl (by (repeat (first | exact Ix.here | apply Ix.there))) (by rfl) | exact a_load1 hS (off := 0) rfl rfl rfl rfl (by (repeat (first | exact Ix.here | apply Ix.there))) (by rfl)) ?_) | (go_at_call 13; refine (HCH.out _ _ (hS.out (by first | ((repeat (first | exact Out.here | apply Out.there)); done) | fail))).mono ?_; rintro e9 w' ⟨rfl, rfl⟩) | (go_at_call 47; refine (disk_on (hS.out (by first | ((repeat (first | exact Out.here | apply Out.there)); done) | fail))).mono ?_; rintro e9 w' ⟨rfl, rfl⟩) | ((with_reducible refine g_store ?_); refine wl_of rfl ?_; (first | refine a_store1 (v := .int .i64 (J1.check : Int)) (off := 2) (cs' := [.pointer (some ⟨gd, 0, none⟩), .pointer (some ⟨gj', 0, none⟩), .int .i64 (J1.check : Int)]) hS rfl rfl rfl rfl rfl rfl (by (repeat (first | exact Sw.here | apply Sw.there))) (by simp) (by rfl) ?_ | refine a_store1 (v := .pointer none) (off := 1) (cs' := [.pointer (some ⟨gd, 0, none⟩), .pointer none, .int .i64 (J1.check : Int)]) hS rfl rfl rfl rfl rfl rfl (by (repeat (first | exact Sw.here | apply Sw.there))) (by simp) (by rfl) ?_); clear hS; intro w' hS) | fail)
        rw [HO.out]
        go_wp2_with (first | go_skip | ((with_reducible refine g_load ?_); refine wl_run rfl (by first | exact a_load1 hS (off := 1) rfl rfl rfl rfl (by (repeat (first | exact Ix.here | apply Ix.there))) (by rfl) | exact a_load1 hS (off := 0) rfl rfl rfl rfl (by (repeat (first | exact Ix.here | apply Ix.there))) (by rfl)) ?_) | (go_at_call 13; refine (HCH.out _ _ (hS.out (by first | ((repeat (first | exact Out.here | apply Out.there)); done) | fail))).mono ?_; rintro e9 w' ⟨rfl, rfl⟩) | (go_at_call 47; refine (disk_on (hS.out (by first | ((repeat (first | exact Out.here | apply Out.there)); done) | fail))).mono ?_; rintro e9 w' ⟨rfl, rfl⟩) | ((with_reducible refine g_store ?_); refine wl_of rfl ?_; (first | refine a_store1 (v := .int .i64 (J1.check : Int)) (off := 2) (cs' := [.pointer (some ⟨gd, 0, none⟩), .pointer (some ⟨gj', 0, none⟩), .int .i64 (J1.check : Int)]) hS rfl rfl rfl rfl rfl rfl (by (repeat (first | exact Sw.here | apply Sw.there))) (by simp) (by rfl) ?_ | refine a_store1 (v := .pointer none) (off := 1) (cs' := [.pointer (some ⟨gd, 0, none⟩), .pointer none, .int .i64 (J1.check : Int)]) hS rfl rfl rfl rfl rfl rfl (by (repeat (first | exact Sw.here | apply Sw.there))) (by simp) (by rfl) ?_); clear hS; intro w' hS) | fail)
        go_ret
        exact ⟨gj', rfl, by rw [HE.out]; exact hS.pick⟩
      · have HE : Hid (endW ⟨D1, some J1, c1⟩ = ⟨D1, none, J1.check⟩) := Lib.hid (by unfold endW; simp [ho])
        have HO := Lib.hid ho
        clear ho
        go_upto_if 141 with (first | go_skip | ((with_reducible refine g_load ?_); refine wl_run rfl (by first | exact a_load1 hS (off := 1) rfl rfl rfl rfl (by (repeat (first | exact Ix.here | apply Ix.there))) (by rfl) | exact a_load1 hS (off := 0) rfl rfl rfl rfl (by (repeat (first | exact Ix.here | apply Ix.there))) (by rfl)) ?_) | (go_at_call 13; refine (HCH.out _ _ (hS.out (by first | ((repeat (first | exact Out.here | apply Out.there)); done) | fail))).mono ?_; rintro e9 w' ⟨rfl, rfl⟩) | (go_at_call 47; refine (disk_on (hS.out (by first | ((repeat (first | exact Out.here | apply Out.there)); done) | fail))).mono ?_; rintro e9 w' ⟨rfl, rfl⟩) | ((with_reducible refine g_store ?_); refine wl_of rfl ?_; (first | refine a_store1 (v := .int .i64 (J1.check : Int)) (off := 2) (cs' := [.pointer (some ⟨gd, 0, none⟩), .pointer (some ⟨gj', 0, none⟩), .int .i64 (J1.check : Int)]) hS rfl rfl rfl rfl rfl rfl (by (repeat (first | exact Sw.here | apply Sw.there))) (by simp) (by rfl) ?_ | refine a_store1 (v := .pointer none) (off := 1) (cs' := [.pointer (some ⟨gd, 0, none⟩), .pointer none, .int .i64 (J1.check : Int)]) hS rfl rfl rfl rfl rfl rfl (by (repeat (first | exact Sw.here | apply Sw.there))) (by simp) (by rfl) ?_); clear hS; intro w' hS) | fail)
        rw [HO.out]
        go_wp2_with (first | go_skip | ((with_reducible refine g_load ?_); refine wl_run rfl (by first | exact a_load1 hS (off := 1) rfl rfl rfl rfl (by (repeat (first | exact Ix.here | apply Ix.there))) (by rfl) | exact a_load1 hS (off := 0) rfl rfl rfl rfl (by (repeat (first | exact Ix.here | apply Ix.there))) (by rfl)) ?_) | (go_at_call 13; refine (HCH.out _ _ (hS.out (by first | ((repeat (first | exact Out.here | apply Out.there)); done) | fail))).mono ?_; rintro e9 w' ⟨rfl, rfl⟩) | (go_at_call 47; refine (disk_on (hS.out (by first | ((repeat (first | exact Out.here | apply Out.there)); done) | fail))).mono ?_; rintro e9 w' ⟨rfl, rfl⟩) | ((with_reducible refine g_store ?_); refine wl_of rfl ?_; (first | refine a_store1 (v := .int .i64 (J1.check : Int)) (off := 2) (cs' := [.pointer (some ⟨gd, 0, none⟩), .pointer (some ⟨gj', 0, none⟩), .int .i64 (J1.check : Int)]) hS rfl rfl rfl rfl rfl rfl (by (repeat (first | exact Sw.here | apply Sw.there))) (by simp) (by rfl) ?_ | refine a_store1 (v := .pointer none) (off := 1) (cs' := [.pointer (some ⟨gd, 0, none⟩), .pointer none, .int .i64 (J1.check : Int)]) hS rfl rfl rfl rfl rfl rfl (by (repeat (first | exact Sw.here | apply Sw.there))) (by simp) (by rfl) ?_); clear hS; intro w' hS) | fail)
        go_ret
        exact ⟨gj', rfl, by rw [HE.out]; exact hS.pick⟩
end
end Go.Proofs.Ytnjboimjlbgdiaa
namespace Go.Proofs.Ytnjboimjlbgdiaa
open Go.RowKit Go.Cmp

section
variable {S : List Nat} {w0 w : World} {M : List Ent} {gw gd gj : Nat}
set_option maxHeartbeats 32000000 in
theorem does13_none (D : Dsk) (c : Nat) (hS : St S w0 w (.row gw [.pointer (some ⟨gd, 0, none⟩), .pointer none, .int .i64 (c : Int)] 50 (0, 0) :: disk gd D :: M)) (hD : D.Ok) (hc : c ≤ 72057594037927927) (x : JAct) (vp : Value) (hn1 : -9223372036854775808 ≤ x.n) (hn2 : x.n ≤ 9223372036854775807) (hP : Reads S w0 M 1 vp x.picks.length (x.picks.flatMap num)) (hpk : ∀ p ∈ x.picks, p ≤ 9223372036854775807)
    (hst : (D.start x.picks).1 = 0 → OnJ (D.start x.picks).2 ∧ (D.start x.picks).2.steps + 200 ≤ 1000000000 ∧ (openJ (D.start x.picks).2 c).1 = 0) :
    Calls Try.prog 19 #[.pointer (some ⟨gw, 0, none⟩), .agg (x.cells vp).toArray] w (DoesPost S w0 gw gd M (deedW ⟨D, none, c⟩ x)) := by
  by_cases hk : x.kind < 6
  · have hd : deedW ⟨D, none, c⟩ x = (0, ⟨D, none, c⟩) := by unfold deedW; rw [if_pos hk]
    rw [hd]
    clear hd hst hD hP hpk
    (go_enter Try.func19, Try.ntmps19)
    go_wp2_with (first | go_skip | ((with_reducible refine g_box ?_); refine wl_of rfl ?_; refine wp_box hS rfl rfl rfl ?_; clear hS; intro ga w1 hS) | ((with_reducible refine g_load ?_); refine wl_run rfl (by first | exact a_load1 hS (off := 1) rfl rfl rfl rfl (by (repeat (first | exact Ix.here | apply Ix.there))) (by rfl) | exact a_load1 hS (off := 0) rfl rfl rfl rfl (by (repeat (first | exact Ix.here | apply Ix.there))) (by rfl)) ?_) | fail)
    go_ret
    exact ⟨0, rfl, hS.pick⟩
  have HFU := Lib.hid (fun (W : World) (M : List Ent) (hS : St S w0 W (disk gd D :: M)) => disk_fuse hS x.n hn1 hn2)
  have HCU := Lib.hid (fun (W : World) (M : List Ent) (hS : St S w0 W (disk gd D :: M)) => disk_cut hS)
  have HSS := Lib.hid (fun (W : World) (hS : St S w0 W (disk gd D :: .row gw [.pointer (some ⟨gd, 0, none⟩), .pointer none, .int .i64 (c : Int)] 50 (0, 0) :: M)) => disk_start hS hD vp x.picks (fun W h => hP W h.tail) hpk)
  have HRO := Lib.hid (fun (W : World) (M : List Ent) (hS : St S w0 W (disk gd D :: M)) => disk_rot hS hD x.i x.pos x.mask)
  obtain ⟨r, hr⟩ : ∃ r, preW ⟨D, none, c⟩ x = r := ⟨_, rfl⟩
  have hdeed : deedW ⟨D, none, c⟩ x = (r.1, endW r.2) := by
    rw [← hr]
    unfold deedW preW
    rw [if_neg hk, if_neg hk]
  rw [hdeed]
  have hr2 : preW ⟨D, none, c⟩ x = dskJ ⟨D, none, c⟩ x := by unfold preW; rw [if_neg hk]
  rw [hr] at hr2
  have HR := Lib.hid hr2
  obtain ⟨sr, hsr⟩ : ∃ sr, D.start x.picks = sr := ⟨_, rfl⟩
  rw [hsr] at HSS hst
  obtain ⟨es, Ds⟩ := sr
  simp only at HSS hst
  have HSR := Lib.hid hsr
  have HST := Lib.hid hst
  have gj : Nat := 0
  clear hdeed hr hr2 hsr hst hD
  (go_enter Try.func19, Try.ntmps19)
  go_upto_block 0 with (first | go_skip | ((with_reducible refine g_box ?_); refine wl_of rfl ?_; refine wp_box hS rfl rfl rfl ?_; clear hS; intro ga w1 hS) | ((with_reducible refine g_load ?_); refine wl_run rfl (by first | exact a_load1 hS (off := 1) rfl rfl rfl rfl (by (repeat (first | exact Ix.here | apply Ix.there))) (by rfl) | exact a_load1 hS (off := 0) rfl rfl rfl rfl (by (repeat (first | exact Ix.here | apply Ix.there))) (by rfl)) ?_) | fail)
  replace hS : St S w0 _ (.row gw [.pointer (some ⟨gd, 0, none⟩), .pointer none, .int .i64 (c : Int)] 50 (0, 0) :: .row ga (x.cells vp) 46 (0, 0) :: disk gd D :: M) := hS.pick
  (try simp only [Act.put, List.setIfInBounds_toArray, List.set_cons_zero, List.set_cons_succ])
  go_cut [5] (fun v wx => ∃ gj', v = .int .i64 r.1 ∧ St S w0 wx (wents gw gd gj' r.2 ++ M))
  case first =>
    have b1 : (x.kind == 1) = false := by rw [beq_eq_false_iff_ne]; omega
    have b2 : (x.kind == 2) = false := by rw [beq_eq_false_iff_ne]; omega
    have b3 : (x.kind == 3) = false := by rw [beq_eq_false_iff_ne]; omega
    have b4 : (x.kind == 4) = false := by rw [beq_eq_false_iff_ne]; omega
    have b5 : (x.kind == 5) = false := by rw [beq_eq_false_iff_ne]; omega
    by_cases k6 : x.kind = 6
    · have b6 : (x.kind == 6) = true := by rw [k6]; rfl
      have HRR : Hid (r = ((D.setFuse x.n).1, ⟨(D.setFuse x.n).2, none, c⟩)) := Lib.hid (by rw [HR.out]; unfold dskJ; simp [k6])
      have KX := Lib.hid k6
      clear k6 HR
      go_wp2_with (fail)
      refine wp_region_tail 6 (by kernel_rfl) (by kernel_rfl) hS ?_
      clear hS
      intro w' hS
      simp only [List.take_succ_cons, List.take_zero, List.drop_succ_cons, List.drop_zero]
      still_step
      still_step
      still_step
      ((with_reducible refine s_load ?_); refine ws_run rfl (by exact a_load1 hS (off := 0) rfl rfl rfl rfl (by (repeat (first | exact Ix.here | apply Ix.there))) (by rfl)) ?_; simp only [Act.put, List.setIfInBounds_toArray, List.set_cons_zero, List.set_cons_succ])
      still_step
      ((with_reducible refine s_load ?_); refine ws_run rfl (by exact a_load1 hS (off := 10) rfl rfl rfl rfl (by (repeat (first | exact Ix.here | apply Ix.there))) (by rfl)) ?_; simp only [Act.put, List.setIfInBounds_toArray, List.set_cons_zero, List.set_cons_succ])
      refine wpStill_nil ?_
      go_wp2_with (fail)
      refine (HFU.out _ (.row gw [.pointer (some ⟨gd, 0, none⟩), .pointer none, .int .i64 (c : Int)] 50 (0, 0) :: M) hS.pick).mono ?_
      clear hS
      rintro e9 w' ⟨rfl, hS⟩
      go_wp2_with (fail)
      go_meet
      refine ⟨0, by rw [HRR.out], ?_⟩
      rw [HRR.out]
      exact (hS.pick : St S w0 _ (.row gw [.pointer (some ⟨gd, 0, none⟩), .pointer none, .int .i64 (c : Int)] 50 (0, 0) :: disk gd (D.setFuse x.n).2 :: M))
    by_cases k7 : x.kind = 7
    · have b6 : (x.kind == 6) = false := by rw [k7]; rfl
      have b7 : (x.kind == 7) = true := by rw [k7]; rfl
      have HRR : Hid (r = (D.cut.1, ⟨D.cut.2, none, c⟩)) := Lib.hid (by rw [HR.out]; unfold dskJ; simp [k7])
      have KX := Lib.hid k7
      clear k7 HR
      go_wp2_with (first | go_skip | ((with_reducible refine g_load ?_); refine wl_run rfl (by first | exact a_load1 hS (off := 1) rfl rfl rfl rfl (by (repeat (first | exact Ix.here | apply Ix.there))) (by rfl) | exact a_load1 hS (off := 0) rfl rfl rfl rfl (by (repeat (first | exact Ix.here | apply Ix.there))) (by rfl)) ?_) | fail)
      refine (HCU.out _ (.row gw [.pointer (some ⟨gd, 0, none⟩), .pointer none, .int .i64 (c : Int)] 50 (0, 0) :: M) hS.pick).mono ?_
      clear hS
      rintro e9 w' ⟨rfl, hS⟩
      go_wp2_with (fail)
      go_meet
      refine ⟨0, by rw [HRR.out], ?_⟩
      rw [HRR.out]
      exact (hS.pick : St S w0 _ (.row gw [.pointer (some ⟨gd, 0, none⟩), .pointer none, .int .i64 (c : Int)] 50 (0, 0) :: disk gd D.cut.2 :: M))
    by_cases k8 : x.kind = 8
    · have b6 : (x.kind == 6) = false := by rw [k8]; rfl
      have b7 : (x.kind == 7) = false := by rw [k8]; rfl
      have b8 : (x.kind == 8) = true := by rw [k8]; rfl
      have HR8 : Hid (r = if es ≠ 0 then (es, ⟨Ds, none, c⟩) else ((openJ Ds c).1, ⟨(openJ Ds c).2.2, if (openJ Ds c).1 = 0 then some (openJ Ds c).2.1 else none, c⟩)) := Lib.hid (by rw [HR.out]; unfold dskJ; rw [if_neg (by rw [k8]; decide), if_neg (by rw [k8]; decide), if_pos k8]; simp only [HSR.out])
      have KX := Lib.hid k8
      clear k8 HR
      go_wp2_with (fail)
      refine wp_region_tail 6 (by kernel_rfl) (by kernel_rfl) hS ?_
      clear hS
      intro w' hS
      simp only [List.take_succ_cons, List.take_zero, List.drop_succ_cons, List.drop_zero]
      still_step
      still_step
      still_step
      ((with_reducible refine s_load ?_); refine ws_run rfl (by exact a_load1 hS (off := 0) rfl rfl rfl rfl (by (repeat (first | exact Ix.here | apply Ix.there))) (by rfl)) ?_; simp only [Act.put, List.setIfInBounds_toArray, List.set_cons_zero, List.set_cons_succ])
      still_step
      ((with_reducible refine s_load ?_); refine ws_run rfl (by exact a_load1 hS (off := 14) rfl rfl rfl rfl (by (repeat (first | exact Ix.here | apply Ix.there))) (by rfl)) ?_; simp only [Act.put, List.setIfInBounds_toArray, List.set_cons_zero, List.set_cons_succ])
      refine wpStill_nil ?_
      go_wp2_with (fail)
      refine (HSS.out _ hS.pick).mono ?_
      clear hS
      rintro e9 w' ⟨rfl, hS⟩
      by_cases he : es = 0
      · obtain ⟨hon, hst, ho1⟩ := HST.out he
        have hrr : r = ((openJ Ds c).1, ⟨(openJ Ds c).2.2, if (openJ Ds c).1 = 0 then some (openJ Ds c).2.1 else none, c⟩) := by rw [HR8.out, if_neg (by simp [he])]
        rw [ho1, if_pos rfl] at hrr
        have HOP := Lib.hid (fun (S : List Nat) (w0 W : World) (M : List Ent) (hS : St S w0 W (disk gd Ds :: M)) => jrnOpen_any hS c hc (OpnI c Ds.steps) ⟨hon, by simp, by simp, rfl⟩ (fun s D J h hs => opnI_step (by omega) h hs))
        obtain ⟨R, hR⟩ : ∃ R, openJ Ds c = R := ⟨_, rfl⟩
        rw [hR] at HOP hrr ho1
        obtain ⟨eo, Jo, Do⟩ := R
        simp only at hrr ho1
        subst ho1
        subst he
        have HRR := Lib.hid hrr
        clear hrr hR hon hst
        go_wp2_with (fail)
        refine St.named hS fun wq hwq => ?_
        subst hwq
        replace hS : St S w0 wq ([disk gd Ds] ++ (.row gw [.pointer (some ⟨gd, 0, none⟩), .pointer none, .int .i64 (c : Int)] 50 (0, 0) :: M)) := hS.pick
        obtain ⟨F, hA, hR, hB⟩ := St.split (A := [disk gd Ds]) hS
        clear hS
        have hS := hA.drew
        clear hA
        refine wp_region_held (S := fun W => Cmp.Mod F wq W) (by kernel_rfl) ?_
        change wpAnyH _ _ _ _ _ _ _ _ (wq).drew
        generalize (wq).drew = w2 at hS ⊢
        (refine whd_take 0 rfl rfl (by kernel_rfl) (by kernel_rfl) (by kernel_rfl) (fun _ _ _ h => h) rfl (fun W hW => by (go_simp; try with_reducible rfl)) hS.base ?_; simp only [Act.put, List.setIfInBounds_toArray, List.set_cons_zero, List.set_cons_succ])
        (refine whd_take 1 rfl rfl (by kernel_rfl) (by kernel_rfl) (by kernel_rfl) (fun _ _ _ h => h) rfl (fun W hW => by (go_simp; try with_reducible rfl)) hS.base ?_; simp only [Act.put, List.setIfInBounds_toArray, List.set_cons_zero, List.set_cons_succ])
        (refine whd_take 2 rfl rfl (by kernel_rfl) (by kernel_rfl) (by kernel_rfl) (fun _ _ _ h => h) rfl (fun W hW => by (go_simp; try with_reducible rfl)) hS.base ?_; simp only [Act.put, List.setIfInBounds_toArray, List.set_cons_zero, List.set_cons_succ])
        (refine whd_take 3 rfl rfl (by kernel_rfl) (by kernel_rfl) (by kernel_rfl) (fun _ _ _ h => h) rfl (fun W hW => (by exact a_load1 (hR W hW) (off := 0) rfl rfl rfl rfl (by (repeat (first | exact Ix.here | apply Ix.there))) (by rfl))) hS.base ?_; simp only [Act.put, List.setIfInBounds_toArray, List.set_cons_zero, List.set_cons_succ])
        (refine whd_take 4 rfl rfl (by kernel_rfl) (by kernel_rfl) (by kernel_rfl) (fun _ _ _ h => h) rfl (fun W hW => by (go_simp; try with_reducible rfl)) hS.base ?_; simp only [Act.put, List.setIfInBounds_toArray, List.set_cons_zero, List.set_cons_succ])
        (refine whd_take 5 rfl rfl (by kernel_rfl) (by kernel_rfl) (by kernel_rfl) (fun _ _ _ h => h) rfl (fun W hW => by (go_simp; try with_reducible rfl)) hS.base ?_; simp only [Act.put, List.setIfInBounds_toArray, List.set_cons_zero, List.set_cons_succ])
        (refine whd_take 6 rfl rfl (by kernel_rfl) (by kernel_rfl) (by kernel_rfl) (fun _ _ _ h => h) rfl (fun W hW => by (go_simp; try with_reducible rfl)) hS.base ?_; simp only [Act.put, List.setIfInBounds_toArray, List.set_cons_zero, List.set_cons_succ])
        (refine whd_take 7 rfl rfl (by kernel_rfl) (by kernel_rfl) (by kernel_rfl) (fun _ _ _ h => h) rfl (fun W hW => (by exact a_load1 (hR W hW) (off := 2) rfl rfl rfl rfl (by (repeat (first | exact Ix.here | apply Ix.there))) (by rfl))) hS.base ?_; simp only [Act.put, List.setIfInBounds_toArray, List.set_cons_zero, List.set_cons_succ])
        (refine wpAnyH_all (rs := [8]) (by kernel_rfl) (by simp) ?_; intro i hi; have hi := List.mem_singleton.1 hi; subst hi)
        refine wod_of rfl rfl rfl (wp_call (by go_simp) (HOP.out F wq _ [] hS) ?_)
        clear hS
        intro e8 w4 h8
        rcases h8 with ⟨h8, _⟩ | ⟨_, gn, rfl, hS⟩
        · exact absurd rfl h8
        refine ⟨_, rfl, hS.base, ?_⟩
        simp only [Act.put, List.setIfInBounds_toArray, List.set_cons_zero, List.set_cons_succ]
        (refine whd_take 9 rfl rfl (by kernel_rfl) (by kernel_rfl) (by kernel_rfl) (fun _ _ _ h => h) rfl (fun W hW => by (go_simp; try with_reducible rfl)) hS.base ?_; simp only [Act.put, List.setIfInBounds_toArray, List.set_cons_zero, List.set_cons_succ])
        (refine whd_take 10 rfl rfl (by kernel_rfl) (by kernel_rfl) (by kernel_rfl) (fun _ _ _ h => h) rfl (fun W hW => by (go_simp; try with_reducible rfl)) hS.base ?_; simp only [Act.put, List.setIfInBounds_toArray, List.set_cons_zero, List.set_cons_succ])
        (refine whd_take 11 rfl rfl (by kernel_rfl) (by kernel_rfl) (by kernel_rfl) (fun _ _ _ h => h) rfl (fun W hW => by (go_simp; try with_reducible rfl)) hS.base ?_; simp only [Act.put, List.setIfInBounds_toArray, List.set_cons_zero, List.set_cons_succ])
        (refine whd_take 12 rfl rfl (by kernel_rfl) (by kernel_rfl) (by kernel_rfl) (fun _ _ _ h => h) rfl (fun W hW => by (go_simp; try with_reducible rfl)) hS.base ?_; simp only [Act.put, List.setIfInBounds_toArray, List.set_cons_zero, List.set_cons_succ])
        (refine whd_take 13 rfl rfl (by kernel_rfl) (by kernel_rfl) (by kernel_rfl) (fun _ _ _ h => h) rfl (fun W hW => by (go_simp; try with_reducible rfl)) hS.base ?_; simp only [Act.put, List.setIfInBounds_toArray, List.set_cons_zero, List.set_cons_succ])
        (refine wpAnyH_done (by kernel_rfl) ?_ _)
        replace hS := hB _ _ hS
        simp only [List.cons_append, List.nil_append] at hS
        clear hR hB
        go_wp2_with (first | go_skip | ((with_reducible refine g_store ?_); refine wl_of rfl ?_; refine a_store1 (v := .pointer (some ⟨gn, 0, none⟩)) (off := 1) (cs' := [.pointer (some ⟨gd, 0, none⟩), .pointer (some ⟨gn, 0, none⟩), .int .i64 (c : Int)]) hS rfl rfl rfl rfl rfl rfl (by (repeat (first | exact Sw.here | apply Sw.there))) (by simp) (by rfl) ?_; clear hS; intro w' hS) | fail)
        go_meet
        refine ⟨gn, by rw [HRR.out], ?_⟩
        rw [HRR.out]
        exact (hS.pick : St S w0 _ (.row gw [.pointer (some ⟨gd, 0, none⟩), .pointer (some ⟨gn, 0, none⟩), .int .i64 (c : Int)] 50 (0, 0) :: disk gd Do :: .row gn (jcells gd Jo) 68 (0, 0) :: M))
      · have HRR : Hid (r = (es, ⟨Ds, none, c⟩)) := Lib.hid (by rw [HR8.out, if_pos he])
        have he1 : (es == 0) = false := by rw [beq_eq_false_iff_ne]; exact he
        go_wp2_with (fail)
        go_meet
        refine ⟨0, by rw [HRR.out], ?_⟩
        rw [HRR.out]
        exact (hS.pick : St S w0 _ (.row gw [.pointer (some ⟨gd, 0, none⟩), .pointer none, .int .i64 (c : Int)] 50 (0, 0) :: disk gd Ds :: M))
    by_cases k9 : x.kind = 9
    · have b6 : (x.kind == 6) = false := by rw [k9]; rfl
      have b7 : (x.kind == 7) = false := by rw [k9]; rfl
      have b8 : (x.kind == 8) = false := by rw [k9]; rfl
      have b9 : (x.kind == 9) = true := by rw [k9]; rfl
      have HRR : Hid (r = ((D.rot x.i x.pos x.mask).1, ⟨(D.rot x.i x.pos x.mask).2, none, c⟩)) := Lib.hid (by rw [HR.out]; unfold dskJ; simp [k9])
      have KX := Lib.hid k9
      clear k9 HR
      go_wp2_with (fail)
      refine wp_region_tail 10 (by kernel_rfl) (by kernel_rfl) hS ?_
      clear hS
      intro w' hS
      simp only [List.take_succ_cons, List.take_zero, List.drop_succ_cons, List.drop_zero]
      still_step
      still_step
      still_step
      ((with_reducible refine s_load ?_); refine ws_run rfl (by exact a_load1 hS (off := 0) rfl rfl rfl rfl (by (repeat (first | exact Ix.here | apply Ix.there))) (by rfl)) ?_; simp only [Act.put, List.setIfInBounds_toArray, List.set_cons_zero, List.set_cons_succ])
      still_step
      ((with_reducible refine s_load ?_); refine ws_run rfl (by exact a_load1 hS (off := 11) rfl rfl rfl rfl (by (repeat (first | exact Ix.here | apply Ix.there))) (by rfl)) ?_; simp only [Act.put, List.setIfInBounds_toArray, List.set_cons_zero, List.set_cons_succ])
      still_step
      ((with_reducible refine s_load ?_); refine ws_run rfl (by exact a_load1 hS (off := 12) rfl rfl rfl rfl (by (repeat (first | exact Ix.here | apply Ix.there))) (by rfl)) ?_; simp only [Act.put, List.setIfInBounds_toArray, List.set_cons_zero, List.set_cons_succ])
      still_step
      ((with_reducible refine s_load ?_); refine ws_run rfl (by exact a_load1 hS (off := 13) rfl rfl rfl rfl (by (repeat (first | exact Ix.here | apply Ix.there))) (by rfl)) ?_; simp only [Act.put, List.setIfInBounds_toArray, List.set_cons_zero, List.set_cons_succ])
      refine wpStill_nil ?_
      go_wp2_with (fail)
      refine (HRO.out _ (.row gw [.pointer (some ⟨gd, 0, none⟩), .pointer none, .int .i64 (c : Int)] 50 (0, 0) :: M) hS.pick).mono ?_
      clear hS
      rintro e9 w' ⟨rfl, hS⟩
      go_wp2_with (fail)
      go_meet
      refine ⟨0, by rw [HRR.out], ?_⟩
      rw [HRR.out]
      exact (hS.pick : St S w0 _ (.row gw [.pointer (some ⟨gd, 0, none⟩), .pointer none, .int .i64 (c : Int)] 50 (0, 0) :: disk gd (D.rot x.i x.pos x.mask).2 :: M))
    have b6 : (x.kind == 6) = false := by rw [beq_eq_false_iff_ne]; exact k6
    have b7 : (x.kind == 7) = false := by rw [beq_eq_false_iff_ne]; exact k7
    have b8 : (x.kind == 8) = false := by rw [beq_eq_false_iff_ne]; exact k8
    have b9 : (x.kind == 9) = false := by rw [beq_eq_false_iff_ne]; exact k9
    have HRR : Hid (r = (0, ⟨D, none, c⟩)) := Lib.hid (by rw [HR.out]; unfold dskJ; simp [k6, k7, k8, k9])
    clear HR k6 k7 k8 k9
    go_wp2_with (fail)
    go_meet
    refine ⟨0, by rw [HRR.out], ?_⟩
    rw [HRR.out]
    exact (hS.pick : St S w0 _ (.row gw [.pointer (some ⟨gd, 0, none⟩), .pointer none, .int .i64 (c : Int)] 50 (0, 0) :: disk gd D :: M))
  case rest =>
    clear hS HR HFU HCU HSS HRO hP hpk
    obtain ⟨gj', rfl, hS⟩ := hcut
    obtain ⟨er, D1, J1, c1⟩ := r
    cases J1 with
    | none =>
      replace hS : St S w0 _ (.row gw [.pointer (some ⟨gd, 0, none⟩), .pointer none, .int .i64 (c1 : Int)] 50 (0, 0) :: disk gd D1 :: M) := hS
      cases ho : D1.off
      · have HE : Hid (endW ⟨D1, none, c1⟩ = ⟨D1, none, c1⟩) := Lib.hid (by unfold endW; simp [ho])
        have HO := Lib.hid ho
        clear ho
        go_upto_if 141 with (first | go_skip | ((with_reducible refine g_load ?_); refine wl_run rfl (by first | exact a_load1 hS (off := 1) rfl rfl rfl rfl (by (repeat (first | exact Ix.here | apply Ix.there))) (by rfl) | exact a_load1 hS (off := 0) rfl rfl rfl rfl (by (repeat (first | exact Ix.here | apply Ix.there))) (by rfl)) ?_) | (go_at_call 47; refine (disk_on (hS.out (by first | ((repeat (first | exact Out.here | apply Out.there)); done) | fail))).mono ?_; rintro e9 w' ⟨rfl, rfl⟩) | ((with_reducible refine g_store ?_); refine wl_of rfl ?_; refine a_store1 (v := .pointer none) (off := 1) (cs' := [.pointer (some ⟨gd, 0, none⟩), .pointer none, .int .i64 (c1 : Int)]) hS rfl rfl rfl rfl rfl rfl (by (repeat (first | exact Sw.here | apply Sw.there))) (by simp) (by rfl) ?_; clear hS; intro w' hS) | fail)
        rw [HO.out]
        go_wp2_with (first | go_skip | ((with_reducible refine g_load ?_); refine wl_run rfl (by first | exact a_load1 hS (off := 1) rfl rfl rfl rfl (by (repeat (first | exact Ix.here | apply Ix.there))) (by rfl) | exact a_load1 hS (off := 0) rfl rfl rfl rfl (by (repeat (first | exact Ix.here | apply Ix.there))) (by rfl)) ?_) | (go_at_call 47; refine (disk_on (hS.out (by first | ((repeat (first | exact Out.here | apply Out.there)); done) | fail))).mono ?_; rintro e9 w' ⟨rfl, rfl⟩) | ((with_reducible refine g_store ?_); refine wl_of rfl ?_; refine a_store1 (v := .pointer none) (off := 1) (cs' := [.pointer (some ⟨gd, 0, none⟩), .pointer none, .int .i64 (c1 : Int)]) hS rfl rfl rfl rfl rfl rfl (by (repeat (first | exact Sw.here | apply Sw.there))) (by simp) (by rfl) ?_; clear hS; intro w' hS) | fail)
        go_ret
        exact ⟨gj', rfl, by rw [HE.out]; exact hS.pick⟩
      · have HE : Hid (endW ⟨D1, none, c1⟩ = ⟨D1, none, c1⟩) := Lib.hid (by unfold endW; simp)
        have HO := Lib.hid ho
        clear ho
        go_upto_if 141 with (first | go_skip | ((with_reducible refine g_load ?_); refine wl_run rfl (by first | exact a_load1 hS (off := 1) rfl rfl rfl rfl (by (repeat (first | exact Ix.here | apply Ix.there))) (by rfl) | exact a_load1 hS (off := 0) rfl rfl rfl rfl (by (repeat (first | exact Ix.here | apply Ix.there))) (by rfl)) ?_) | (go_at_call 47; refine (disk_on (hS.out (by first | ((repeat (first | exact Out.here | apply Out.there)); done) | fail))).mono ?_; rintro e9 w' ⟨rfl, rfl⟩) | ((with_reducible refine g_store ?_); refine wl_of rfl ?_; refine a_store1 (v := .pointer none) (off := 1) (cs' := [.pointer (some ⟨gd, 0, none⟩), .pointer none, .int .i64 (c1 : Int)]) hS rfl rfl rfl rfl rfl rfl (by (repeat (first | exact Sw.here | apply Sw.there))) (by simp) (by rfl) ?_; clear hS; intro w' hS) | fail)
        rw [HO.out]
        go_wp2_with (first | go_skip | ((with_reducible refine g_load ?_); refine wl_run rfl (by first | exact a_load1 hS (off := 1) rfl rfl rfl rfl (by (repeat (first | exact Ix.here | apply Ix.there))) (by rfl) | exact a_load1 hS (off := 0) rfl rfl rfl rfl (by (repeat (first | exact Ix.here | apply Ix.there))) (by rfl)) ?_) | (go_at_call 47; refine (disk_on (hS.out (by first | ((repeat (first | exact Out.here | apply Out.there)); done) | fail))).mono ?_; rintro e9 w' ⟨rfl, rfl⟩) | ((with_reducible refine g_store ?_); refine wl_of rfl ?_; refine a_store1 (v := .pointer none) (off := 1) (cs' := [.pointer (some ⟨gd, 0, none⟩), .pointer none, .int .i64 (c1 : Int)]) hS rfl rfl rfl rfl rfl rfl (by (repeat (first | exact Sw.here | apply Sw.there))) (by simp) (by rfl) ?_; clear hS; intro w' hS) | fail)
        go_ret
        exact ⟨gj', rfl, by rw [HE.out]; exact hS.pick⟩
    | some J1 =>
      replace hS : St S w0 _ (.row gw [.pointer (some ⟨gd, 0, none⟩), .pointer (some ⟨gj', 0, none⟩), .int .i64 (c1 : Int)] 50 (0, 0) :: disk gd D1 :: .row gj' (jcells gd J1) 68 (0, 0) :: M) := hS
      have HCH := Lib.hid (fun (W : World) (M : List Ent) (hS : St S w0 W (.row gj' (jcells gd J1) 68 (0, 0) :: M)) => jrnCheck_any hS)
      cases ho : D1.off
      · have HE : Hid (endW ⟨D1, some J1, c1⟩ = ⟨D1, some J1, J1.check⟩) := Lib.hid (by unfold endW; simp [ho])
        have HO := Lib.hid ho
        clear ho
        go_upto_if 141 with (first | go_skip | ((with_reducible refine g_load ?_); refine wl_run rfl (by first | exact a_load1 hS (off := 1) rfl rfl rfl rfl (by (repeat (first | exact Ix.here | apply Ix.there))) (by rfl) | exact a_load1 hS (off := 0) rfl rfl rfl rfl (by (repeat (first | exact Ix.here | apply Ix.there))) (by rfl)) ?_) | (go_at_call 13; refine (HCH.out _ _ (hS.out (by first | ((repeat (first | exact Out.here | apply Out.there)); done) | fail))).mono ?_; rintro e9 w' ⟨rfl, rfl⟩) | (go_at_call 47; refine (disk_on (hS.out (by first | ((repeat (first | exact Out.here | apply Out.there)); done) | fail))).mono ?_; rintro e9 w' ⟨rfl, rfl⟩) | ((with_reducible refine g_store ?_); refine wl_of rfl ?_; (first | refine a_store1 (v := .int .i64 (J1.check : Int)) (off := 2) (cs' := [.pointer (some ⟨gd, 0, none⟩), .pointer (some ⟨gj', 0, none⟩), .int .i64 (J1.check : Int)]) hS rfl rfl rfl rfl rfl rfl (by (repeat (first | exact Sw.here | apply Sw.there))) (by simp) (by rfl) ?_ | refine a_store1 (v := .pointer none) (off := 1) (cs' := [.pointer (some ⟨gd, 0, none⟩), .pointer none, .int .i64 (J1.check : Int)]) hS rfl rfl rfl rfl rfl rfl (by (repeat (first | exact Sw.here | apply Sw.there))) (by simp) (by rfl) ?_); clear hS; intro w' hS) | fail)
        rw [HO.out]
        go_wp2_with (first | go_skip | ((with_reducible refine g_load ?_); refine wl_run rfl (by first | exact a_load1 hS (off := 1) rfl rfl rfl rfl (by (repeat (first | exact Ix.here | apply Ix.there))) (by rfl) | exact a_load1 hS (off := 0) rfl rfl rfl rfl (by (repeat (first | exact Ix.here | apply Ix.there))) (by rfl)) ?_) | (go_at_call 13; refine (HCH.out _ _ (hS.out (by first | ((repeat (first | exact Out.here | apply Out.there)); done) | fail))).mono ?_; rintro e9 w' ⟨rfl, rfl⟩) | (go_at_call 47; refine (disk_on (hS.out (by first | ((repeat (first | exact Out.here | apply Out.there)); done) | fail))).mono ?_; rintro e9 w' ⟨rfl, rfl⟩) | ((with_reducible refine g_store ?_); refine wl_of rfl ?_; (first | refine a_store1 (v := .int .i64 (J1.check : Int)) (off := 2) (cs' := [.pointer (some ⟨gd, 0, none⟩), .pointer (some ⟨gj', 0, none⟩), .int .i64 (J1.check : Int)]) hS rfl rfl rfl rfl rfl rfl (by (repeat (first | exact Sw.here | apply Sw.there))) (by simp) (by rfl) ?_ | refine a_store1 (v := .pointer none) (off := 1) (cs' := [.pointer (some ⟨gd, 0, none⟩), .pointer none, .int .i64 (J1.check : Int)]) hS rfl rfl rfl rfl rfl rfl (by (repeat (first | exact Sw.here | apply Sw.there))) (by simp) (by rfl) ?_); clear hS; intro w' hS) | fail)
        go_ret
        exact ⟨gj', rfl, by rw [HE.out]; exact hS.pick⟩
      · have HE : Hid (endW ⟨D1, some J1, c1⟩ = ⟨D1, none, J1.check⟩) := Lib.hid (by unfold endW; simp [ho])
        have HO := Lib.hid ho
        clear ho
        go_upto_if 141 with (first | go_skip | ((with_reducible refine g_load ?_); refine wl_run rfl (by first | exact a_load1 hS (off := 1) rfl rfl rfl rfl (by (repeat (first | exact Ix.here | apply Ix.there))) (by rfl) | exact a_load1 hS (off := 0) rfl rfl rfl rfl (by (repeat (first | exact Ix.here | apply Ix.there))) (by rfl)) ?_) | (go_at_call 13; refine (HCH.out _ _ (hS.out (by first | ((repeat (first | exact Out.here | apply Out.there)); done) | fail))).mono ?_; rintro e9 w' ⟨rfl, rfl⟩) | (go_at_call 47; refine (disk_on (hS.out (by first | ((repeat (first | exact Out.here | apply Out.there)); done) | fail))).mono ?_; rintro e9 w' ⟨rfl, rfl⟩) | ((with_reducible refine g_store ?_); refine wl_of rfl ?_; (first | refine a_store1 (v := .int .i64 (J1.check : Int)) (off := 2) (cs' := [.pointer (some ⟨gd, 0, none⟩), .pointer (some ⟨gj', 0, none⟩), .int .i64 (J1.check : Int)]) hS rfl rfl rfl rfl rfl rfl (by (repeat (first | exact Sw.here | apply Sw.there))) (by simp) (by rfl) ?_ | refine a_store1 (v := .pointer none) (off := 1) (cs' := [.pointer (some ⟨gd, 0, none⟩), .pointer none, .int .i64 (J1.check : Int)]) hS rfl rfl rfl rfl rfl rfl (by (repeat (first | exact Sw.here | apply Sw.there))) (by simp) (by rfl) ?_); clear hS; intro w' hS) | fail)
        rw [HO.out]
        go_wp2_with (first | go_skip | ((with_reducible refine g_load ?_); refine wl_run rfl (by first | exact a_load1 hS (off := 1) rfl rfl rfl rfl (by (repeat (first | exact Ix.here | apply Ix.there))) (by rfl) | exact a_load1 hS (off := 0) rfl rfl rfl rfl (by (repeat (first | exact Ix.here | apply Ix.there))) (by rfl)) ?_) | (go_at_call 13; refine (HCH.out _ _ (hS.out (by first | ((repeat (first | exact Out.here | apply Out.there)); done) | fail))).mono ?_; rintro e9 w' ⟨rfl, rfl⟩) | (go_at_call 47; refine (disk_on (hS.out (by first | ((repeat (first | exact Out.here | apply Out.there)); done) | fail))).mono ?_; rintro e9 w' ⟨rfl, rfl⟩) | ((with_reducible refine g_store ?_); refine wl_of rfl ?_; (first | refine a_store1 (v := .int .i64 (J1.check : Int)) (off := 2) (cs' := [.pointer (some ⟨gd, 0, none⟩), .pointer (some ⟨gj', 0, none⟩), .int .i64 (J1.check : Int)]) hS rfl rfl rfl rfl rfl rfl (by (repeat (first | exact Sw.here | apply Sw.there))) (by simp) (by rfl) ?_ | refine a_store1 (v := .pointer none) (off := 1) (cs' := [.pointer (some ⟨gd, 0, none⟩), .pointer none, .int .i64 (J1.check : Int)]) hS rfl rfl rfl rfl rfl rfl (by (repeat (first | exact Sw.here | apply Sw.there))) (by simp) (by rfl) ?_); clear hS; intro w' hS) | fail)
        go_ret
        exact ⟨gj', rfl, by rw [HE.out]; exact hS.pick⟩
end
end Go.Proofs.Ytnjboimjlbgdiaa
