/-
  Behind a scrub each slot is read as what it is: JournalScrubs returns true.
-/
import Derived.Test.YtnjboimjlbgdiaaWldC
import Derived.Test.YtnjboimjlbgdiaaJrn5
set_option linter.unusedSimpArgs false
set_option linter.unusedVariables false
set_option linter.unusedSectionVars false
set_option maxRecDepth 100000
namespace Go.Proofs.Ytnjboimjlbgdiaa
open Go.RowKit Go.Cmp

section
set_option maxHeartbeats 4000000 in
theorem eqIt (s t : It) : eqV Try.prog 4 37 (.agg s.cells.toArray) (.agg t.cells.toArray) = some (decide (s = t)) := by
  obtain ⟨k1, ⟨a1, a2, a3, a4, a5⟩, ⟨e1, e2, e3, e4, e5, e6, e7, e8, e9⟩⟩ := s
  obtain ⟨k2, ⟨b1, b2, b3, b4, b5⟩, ⟨f1, f2, f3, f4, f5, f6, f7, f8, f9⟩⟩ := t
  have e : eqV Try.prog 4 37 (.agg (It.cells ⟨k1, ⟨a1, a2, a3, a4, a5⟩, ⟨e1, e2, e3, e4, e5, e6, e7, e8, e9⟩⟩).toArray) (.agg (It.cells ⟨k2, ⟨b1, b2, b3, b4, b5⟩, ⟨f1, f2, f3, f4, f5, f6, f7, f8, f9⟩⟩).toArray) = some ((k1 == k2) && (((a1 == b1) && ((a2 == b2) && ((a3 == b3) && (((a4 : Int) == (b4 : Int)) && (((a5 : Int) == (b5 : Int)) && true))))) && (((e1 == f1) && ((e2 == f2) && ((e3 == f3) && (((e4 : Int) == (f4 : Int)) && ((e5 == f5) && ((e6 == f6) && ((e7 == f7) && ((e8 == f8) && (((⟨e9.toArray⟩ : ByteArray) == ⟨f9.toArray⟩) && true))))))))) && true))) := by rfl
  rw [e]
  congr 1
  rw [Bool.eq_iff_iff, str_beq]
  simp only [Bool.and_eq_true, beq_iff_eq, Int.ofNat_inj, decide_eq_true_eq, and_true, It.mk.injEq, En.mk.injEq, Stb.mk.injEq]
theorem itGuard : (Try.prog).eqGuardType (Try.prog).depth 37 = false := by kernel_rfl
set_option maxHeartbeats 16000000 in
theorem law_scrubs13 (vl : Value) (L : List (JAct × Value)) (w : World) (hL : Rd w 15 vl L.length (L.flatMap jactCells)) (hok : ∀ x ∈ L, JActOk w x) :
    Calls Try.prog 6 #[vl] w fun e w' => e = .returned (.bool true) ∧ St [] w w' [] := by
  have hS := St.init w
  have HL := Lib.hid hL
  have HOK := Lib.hid hok
  clear hL hok
  have HAW := Lib.hid (fun w => awake13_any w)
  obtain ⟨D0, J0, hv, hJ, hbg⟩ := begin13_any
  have K0 := Lib.hid (wi_start (PS := PS0) (FS := FS0) hv hJ (fun _ _ _ _ => .lacks))
  have HBG := Lib.hid hbg
  clear hv hJ hbg
  (go_enter Try.func6, Try.ntmps6)
  go_upto_block 0 with (first | go_skip | (go_at_call 7; refine (HAW.out _).mono ?_; rintro e w' ⟨rfl, h⟩; replace hS := hS.call h; clear h) | (go_at_call 16; refine (HBG.out _).mono ?_; rintro e w' ⟨gw, gd, gj, rfl, h⟩; replace hS := hS.call h; clear h) | fail)
  (try simp only [Act.put, List.setIfInBounds_toArray, List.set_cons_zero, List.set_cons_succ])
  go_cut [] (fun wx => ∃ (B : Int) (W : Wd) (gj : Nat), B ≤ 100000 ∧ Hid (WI PS0 FS0 B W) ∧ St [] w wx (wents gw gd gj W ++ []))
  case first =>
    go_wp2_with (fail)
    go_loopw [4] (fun k wr => ∃ (j : Nat) (W : Wd) (gj : Nat), j ≤ 50 ∧ j ≤ L.length ∧ k = .int .i64 j ∧ Hid (WI PS0 FS0 (1017 + 40 * j) W) ∧ St [] w wr (wents gw gd gj W ++ [])) (fun k _ => (50 - intOf k).toNat)
    case atStart => exact ⟨0, _, gj, by omega, by omega, rfl, K0, hS⟩
    case round =>
      clear hS K0 HBG HAW
      obtain ⟨j, W, gj, hj, hjl, rfl, HK, hS⟩ := hrel
      by_cases hlt : j < 50 ∧ j < L.length
      · obtain ⟨hlt, hlt2⟩ := hlt
        have hlt1 : (j : Int) < L.length := by omega
        have hlt3 : (j : Int) < 50 := by omega
        have hget0 := Lib.hid (get_lt (L := L) hlt2)
        have HX := Lib.hid (HOK.out _ (nth_mem hlt2))
        obtain ⟨X, hX⟩ : ∃ X, nth L j = X := ⟨_, rfl⟩
        rw [hX] at hget0 HX
        clear hX
        obtain ⟨x, vx⟩ := X
        have hv1 : vx.oneCell' = true := HX.out.rd.one
        have HFA := Lib.hid (fun w => far13_any x vx w)
        have hLx := HL.out
        have hget := hget0.out
        by_cases hfar : 1000 < (x.e.body.length : Int)
        · rw [decide_eq_true hfar] at HFA
          clear hfar
          go_wp2_with (first | go_skip | ((with_reducible refine g_len ?_); refine wl_run rfl (by exact a_len rfl rfl rfl (hS.old0 hLx)) ?_) | ((with_reducible refine g_index ?_); refine wl_run rfl (by exact a_index rfl rfl rfl rfl (hS.old0 hLx) (by rfl) (by omega) (by omega)) ?_) | ((with_reducible refine g_load (t := 46) ?_); refine wl_run rfl (by exact a_loadG (vs := x.cells vx) rfl (hS.old0 hLx) rfl rfl rfl (by rfl) (by intro _; rfl) hget rfl) ?_) | (go_at_call 17; refine (HFA.out _).mono ?_; rintro e w' ⟨rfl, h⟩; replace hS := hS.call h; clear h) | fail)
          clear hLx hget hv1
          go_round
          case rel => exact ⟨j + 1, W, gj, by omega, by omega, by go_num, Lib.hid (HK.out.more (by omega)), hS⟩
          case measure => simp [intOf]; omega
        · have hb : x.e.body.length ≤ 1000 := by omega
          rw [decide_eq_false hfar] at HFA
          have HK1 := Lib.hid (deed_keep keeps0 HK.out (by omega) (keptBy0 _ W.c x HX.out.par) HX.out.par HX.out.n2)
          have HDO := Lib.hid (fun (W1 : World) (hS : St [] w W1 (wents gw gd gj W ++ [])) => does13_any keeps0 HK.out (by omega) (x, vx) HX.out hb (Reads.old HX.out.rd) hS)
          obtain ⟨Y, hY⟩ : ∃ Y, deedW W x = Y := ⟨_, rfl⟩
          rw [hY] at HK1
          simp only at HDO
          rw [hY] at HDO
          obtain ⟨e1, W1⟩ := Y
          simp only at HK1
          clear hY hfar hb
          go_wp2_with (first | go_skip | ((with_reducible refine g_len ?_); refine wl_run rfl (by exact a_len rfl rfl rfl (hS.old0 hLx)) ?_) | ((with_reducible refine g_index ?_); refine wl_run rfl (by exact a_index rfl rfl rfl rfl (hS.old0 hLx) (by rfl) (by omega) (by omega)) ?_) | ((with_reducible refine g_load (t := 46) ?_); refine wl_run rfl (by exact a_loadG (vs := x.cells vx) rfl (hS.old0 hLx) rfl rfl rfl (by rfl) (by intro _; rfl) hget rfl) ?_) | (go_at_call 17; refine (HFA.out _).mono ?_; rintro e w' ⟨rfl, h⟩; replace hS := hS.call h; clear h) | (go_at_call 19; refine (HDO.out _ hS).mono ?_; clear hS; rintro e w' ⟨gj2, rfl, hS⟩) | fail)
          clear hLx hget hv1
          go_round
          case rel => exact ⟨j + 1, W1, gj2, by omega, by omega, by go_num, by have h := HK1.out; exact Lib.hid (by rw [show (1017 : Int) + 40 * ((j + 1 : Nat) : Int) = 1017 + 40 * (j : Int) + 40 from by omega]; exact h), hS⟩
          case measure => simp [intOf]; omega
      · by_cases hlt1 : (j : Int) < L.length
        all_goals
          try (have hlt2 : ¬ (j : Int) < 50 := by omega)
          have hLx := HL.out
          go_wp2_with (first | go_skip | ((with_reducible refine g_len ?_); refine wl_run rfl (by exact a_len rfl rfl rfl (hS.old0 hLx)) ?_) | fail)
          go_meet
          exact ⟨_, W, gj, by omega, HK, hS⟩
  case rest =>
    clear hS K0 HBG HAW HL HOK
    obtain ⟨B, W, gj, hB, HK, hS⟩ := hcut
    have hK := HK.out
    clear HK
    cases hK with
    | off D c hc hs h =>
      replace hS : St [] w _ [.row gw [.pointer (some ⟨gd, 0, none⟩), .pointer none, .int .i64 (c : Int)] 50 (0, 0), disk gd D] := hS
      clear hc hs h
      go_wp2_with (first | go_skip | ((with_reducible refine g_load ?_); refine wl_run rfl (by first | exact a_load1 hS (off := 1) rfl rfl rfl rfl (by (repeat (first | exact Ix.here | apply Ix.there))) (by rfl) | exact a_load1 hS (off := 0) rfl rfl rfl rfl (by (repeat (first | exact Ix.here | apply Ix.there))) (by rfl) | exact a_load1 hS (off := 2) rfl rfl rfl rfl (by (repeat (first | exact Ix.here | apply Ix.there))) (by rfl)) ?_) | fail)
      go_ret
      exact ⟨rfl, hS.nil⟩
    | on D J h =>
      replace hS : St [] w _ [.row gw [.pointer (some ⟨gd, 0, none⟩), .pointer (some ⟨gj, 0, none⟩), .int .i64 (J.check : Int)] 50 (0, 0), disk gd D, .row gj (jcells gd J) 68 (0, 0)] := hS
      have hst := h.steps
      have hJc := h.check
      obtain ⟨f1, f2, f3, f4⟩ := fuse_on h.on 0 (by omega)
      have hFU0 : (D.setFuse 0).1 = 0 := by unfold Dsk.setFuse; rw [if_neg (by rw [h.on.off]; simp)]
      have h2 := h.sl f1 (by omega) (fun s _ => same_sl f3 s)
      have HFU := Lib.hid (fun (W : World) (M : List Ent) (hS : St [] w W (disk gd D :: M)) => disk_fuse hS 0 (by omega) (by omega))
      rw [hFU0] at HFU
      obtain ⟨D2, hD2⟩ : ∃ D2, (D.setFuse 0).2 = D2 := ⟨_, rfl⟩
      rw [hD2] at HFU f1 f2 f3 f4 h2
      have f4 : D2.fuse = 0 := f4.trans (by omega)
      obtain ⟨q1, q2, q3, q4, q5, q6⟩ := scrub_open h2 f4 (by omega)
      have hst2 := h2.steps
      have HSC := Lib.hid (fun (W : World) (M : List Ent) (hS : St [] w W (disk gd D2 :: .row gj (jcells gd J) 68 (0, 0) :: M)) => scrub13 h2.on (by omega) h2.len h2.check (fun i hi => (keeps0.fit _ _ _ _ (h2.ps i hi)).1) (fun i hi => (keeps0.fit _ _ _ _ (h2.ps i hi)).2) hS)
      obtain ⟨R, hR⟩ : ∃ R, scrubJ D2 J = R := ⟨_, rfl⟩
      rw [hR] at HSC q1 q2 q3 q4 q5 q6
      obtain ⟨r0, J2, D3⟩ := R
      simp only at HSC q1 q2 q3 q4 q5 q6
      subst q1
      have HOP := Lib.hid (fun (S : List Nat) (w0 W : World) (M : List Ent) (hS : St S w0 W (disk gd D3 :: M)) => jrnOpen_any hS J.check h.check (OpnI J.check D3.steps) ⟨q4, by simp, by simp, rfl⟩ (fun s D J h hs => opnI_step (by omega) h hs))
      rw [q6] at HOP
      have HI1 := fun (gj : Nat) (n : Int) (hn : n ≤ 9223372036854775807) => Lib.hid (fun (W : World) (M : List Ent) (hS : St [] w W (.row gj (jcells gd J2) 68 (0, 0) :: M)) => jrnItem_any hS q3 n hn)
      have HI := Lib.hid HI1
      clear HI1 h h2 hFU0 f1 f2 f3 f4 q2 q3 q4 q5 q6 hR hst hst2 hD2
      generalize J.check = c at hJc hS HOP
      go_upto_region 17 with (first | go_skip | ((with_reducible refine g_load ?_); refine wl_run rfl (by first | exact a_load1 hS (off := 1) rfl rfl rfl rfl (by (repeat (first | exact Ix.here | apply Ix.there))) (by rfl) | exact a_load1 hS (off := 0) rfl rfl rfl rfl (by (repeat (first | exact Ix.here | apply Ix.there))) (by rfl) | exact a_load1 hS (off := 2) rfl rfl rfl rfl (by (repeat (first | exact Ix.here | apply Ix.there))) (by rfl)) ?_) | (go_at_call 21; (refine (HFU.out _ _ (hS.out (by first | ((repeat (first | exact Out.here | apply Out.there)); done) | fail))).mono ?_; clear hS; rintro e w' ⟨rfl, hS⟩)) | (go_at_call 12; (refine (HSC.out _ [.row gw [.pointer (some ⟨gd, 0, none⟩), .pointer (some ⟨gj, 0, none⟩), .int .i64 (c : Int)] 50 (0, 0)] hS.pick).mono ?_; clear hS; rintro e w' ⟨rfl, hS⟩)) | (go_at_call 22; refine (disk_steps (hS.out (by first | ((repeat (first | exact Out.here | apply Out.there)); done) | fail))).mono ?_; rintro e w' ⟨rfl, rfl⟩) | fail)
      refine St.named hS fun wq hwq => ?_
      subst hwq
      replace hS : St [] w wq ([disk gd D3] ++ [.row gw [.pointer (some ⟨gd, 0, none⟩), .pointer (some ⟨gj, 0, none⟩), .int .i64 (c : Int)] 50 (0, 0), .row gj (jcells gd J2) 68 (0, 0)]) := hS.pick
      go_wp2_with (fail)
      obtain ⟨F, hA, hR, hB⟩ := St.split (A := [disk gd D3]) hS
      clear hS
      have hS := hA.drew
      clear hA
      refine wp_region_held (S := fun W => Cmp.Mod F wq W) (by kernel_rfl) ?_
      change wpAnyH _ _ _ _ _ _ _ _ (wq).drew
      generalize (wq).drew = w2 at hS ⊢
      (refine whd_take 0 rfl rfl (by kernel_rfl) (by kernel_rfl) (by kernel_rfl) (fun _ _ _ h => h) rfl (fun W hW => by (go_simp; try with_reducible rfl)) hS.base ?_; simp only [Act.put, List.setIfInBounds_toArray, List.set_cons_zero, List.set_cons_succ])
      (refine whd_take 1 rfl rfl (by kernel_rfl) (by kernel_rfl) (by kernel_rfl) (fun _ _ _ h => h) rfl (fun W hW => by (go_simp; try with_reducible rfl)) hS.base ?_; simp only [Act.put, List.setIfInBounds_toArray, List.set_cons_zero, List.set_cons_succ])
      (refine whd_take 2 rfl rfl (by kernel_rfl) (by kernel_rfl) (by kernel_rfl) (fun _ _ _ h => h) rfl (fun W hW => by (go_simp; try with_reducible rfl)) hS.base ?_; simp only [Act.put, List.setIfInBounds_toArray, List.set_cons_zero, List.set_cons_succ])
      (refine whd_take 3 rfl rfl (by kernel_rfl) (by kernel_rfl) (by kernel_rfl) (fun _ _ _ h => h) rfl (fun W hW => (by exact a_load1 (hR W hW) (off := 0) rfl rfl rfl rfl (by (repeat (first | exact Ix.here | apply Ix.there))) (by rfl))) hS.base ?_; simp only [Act.put, List.setIfInBounds_toArray, List.set_cons_zero, List.set_cons_succ])
      (refine whd_take 4 rfl rfl (by kernel_rfl) (by kernel_rfl) (by kernel_rfl) (fun _ _ _ h => h) rfl (fun W hW => by (go_simp; try with_reducible rfl)) hS.base ?_; simp only [Act.put, List.setIfInBounds_toArray, List.set_cons_zero, List.set_cons_succ])
      (refine whd_take 5 rfl rfl (by kernel_rfl) (by kernel_rfl) (by kernel_rfl) (fun _ _ _ h => h) rfl (fun W hW => by (go_simp; try with_reducible rfl)) hS.base ?_; simp only [Act.put, List.setIfInBounds_toArray, List.set_cons_zero, List.set_cons_succ])
      (refine whd_take 6 rfl rfl (by kernel_rfl) (by kernel_rfl) (by kernel_rfl) (fun _ _ _ h => h) rfl (fun W hW => by (go_simp; try with_reducible rfl)) hS.base ?_; simp only [Act.put, List.setIfInBounds_toArray, List.set_cons_zero, List.set_cons_succ])
      (refine whd_take 7 rfl rfl (by kernel_rfl) (by kernel_rfl) (by kernel_rfl) (fun _ _ _ h => h) rfl (fun W hW => (by exact a_load1 (hR W hW) (off := 2) rfl rfl rfl rfl (by (repeat (first | exact Ix.here | apply Ix.there))) (by rfl))) hS.base ?_; simp only [Act.put, List.setIfInBounds_toArray, List.set_cons_zero, List.set_cons_succ])
      (refine wpAnyH_all (rs := [8]) (by kernel_rfl) (by simp) ?_; intro i hi; have hi := List.mem_singleton.1 hi; subst hi)
      refine wod_of rfl rfl rfl (wp_call (by go_simp) (HOP.out F wq _ [] hS) ?_)
      clear hS
      intro e8 w4 h8
      rcases h8 with ⟨h8, _⟩ | ⟨_, gn, rfl, hS⟩
      · exact absurd rfl h8
      refine ⟨_, rfl, hS.base, ?_⟩
      simp only [Act.put, List.setIfInBounds_toArray, List.set_cons_zero, List.set_cons_succ]
      (refine whd_take 9 rfl rfl (by kernel_rfl) (by kernel_rfl) (by kernel_rfl) (fun _ _ _ h => h) rfl (fun W hW => by (go_simp; try with_reducible rfl)) hS.base ?_; simp only [Act.put, List.setIfInBounds_toArray, List.set_cons_zero, List.set_cons_succ])
      (refine whd_take 10 rfl rfl (by kernel_rfl) (by kernel_rfl) (by kernel_rfl) (fun _ _ _ h => h) rfl (fun W hW => by (go_simp; try with_reducible rfl)) hS.base ?_; simp only [Act.put, List.setIfInBounds_toArray, List.set_cons_zero, List.set_cons_succ])
      (refine whd_take 11 rfl rfl (by kernel_rfl) (by kernel_rfl) (by kernel_rfl) (fun _ _ _ h => h) rfl (fun W hW => by (go_simp; try with_reducible rfl)) hS.base ?_; simp only [Act.put, List.setIfInBounds_toArray, List.set_cons_zero, List.set_cons_succ])
      (refine whd_take 12 rfl rfl (by kernel_rfl) (by kernel_rfl) (by kernel_rfl) (fun _ _ _ h => h) rfl (fun W hW => by (go_simp; try with_reducible rfl)) hS.base ?_; simp only [Act.put, List.setIfInBounds_toArray, List.set_cons_zero, List.set_cons_succ])
      (refine whd_take 13 rfl rfl (by kernel_rfl) (by kernel_rfl) (by kernel_rfl) (fun _ _ _ h => h) rfl (fun W hW => by (go_simp; try with_reducible rfl)) hS.base ?_; simp only [Act.put, List.setIfInBounds_toArray, List.set_cons_zero, List.set_cons_succ])
      (refine wpAnyH_done (by kernel_rfl) ?_ _)
      replace hS := hB _ _ hS
      simp only [List.cons_append, List.nil_append] at hS
      clear hR hB HOP HFU HSC
      replace hS : St [] w _ [disk gd D3, .row gn (jcells gd J2) 68 (0, 0), .row gw [.pointer (some ⟨gd, 0, none⟩), .pointer (some ⟨gj, 0, none⟩), .int .i64 (c : Int)] 50 (0, 0), .row gj (jcells gd J2) 68 (0, 0)] := hS.pick
      go_wp2_with (first | go_skip | ((with_reducible refine g_load ?_); refine wl_run rfl (by first | exact a_load1 hS (off := 1) rfl rfl rfl rfl (by (repeat (first | exact Ix.here | apply Ix.there))) (by rfl) | exact a_load1 hS (off := 0) rfl rfl rfl rfl (by (repeat (first | exact Ix.here | apply Ix.there))) (by rfl) | exact a_load1 hS (off := 2) rfl rfl rfl rfl (by (repeat (first | exact Ix.here | apply Ix.there))) (by rfl)) ?_) | (go_at_call 22; refine (disk_steps (hS.out (by first | ((repeat (first | exact Out.here | apply Out.there)); done) | fail))).mono ?_; rintro e w' ⟨rfl, rfl⟩) | fail)
      go_loopw [8] (fun k wr => ∃ i : Nat, i ≤ 8 ∧ k = .int .i64 ((c : Int) + 1 + (i : Int)) ∧ St [] w wr [disk gd D3, .row gn (jcells gd J2) 68 (0, 0), .row gw [.pointer (some ⟨gd, 0, none⟩), .pointer (some ⟨gj, 0, none⟩), .int .i64 (c : Int)] 50 (0, 0), .row gj (jcells gd J2) 68 (0, 0)]) (fun k _ => ((c : Int) + 9 - intOf k).toNat)
      case atStart => exact ⟨0, by omega, by simp, hS⟩
      case round =>
        clear hS
        obtain ⟨i, hi, rfl, hS⟩ := hrel
        by_cases hi8 : i < 8
        · have hi1 : (c : Int) + 1 + (i : Int) ≤ (c : Int) + 8 := by omega
          have HA := HI.out gj ((c : Int) + 1 + (i : Int)) (by omega)
          have HB := HI.out gn ((c : Int) + 1 + (i : Int)) (by omega)
          generalize J2.item0 ((c : Int) + 1 + (i : Int)) = t at HA HB
          have hq : eqV Try.prog 4 37 (.agg t.cells.toArray) (.agg t.cells.toArray) = some true := by rw [eqIt, decide_eq_true rfl]
          go_upto_region 23 with (first | go_skip | ((with_reducible refine g_load ?_); refine wl_run rfl (by first | exact a_load1 hS (off := 1) rfl rfl rfl rfl (by (repeat (first | exact Ix.here | apply Ix.there))) (by rfl) | exact a_load1 hS (off := 0) rfl rfl rfl rfl (by (repeat (first | exact Ix.here | apply Ix.there))) (by rfl) | exact a_load1 hS (off := 2) rfl rfl rfl rfl (by (repeat (first | exact Ix.here | apply Ix.there))) (by rfl)) ?_) | fail)
          go_wp2_with (fail)
          refine region_calm (by kernel_rfl) (by kernel_rfl) hS ?_
          by_cases k3 : t.kind = 3
          · have hb : (t.kind != 3) = false := by rw [k3]; rfl
            clear k3
            (refine Calm.pure rfl (h := ?_); simp only [Act.put, List.setIfInBounds_toArray, List.set_cons_zero, List.set_cons_succ])
            (refine Calm.run rfl (fun W hW => p_nil rfl rfl) ?_; simp only [Act.put, List.setIfInBounds_toArray, List.set_cons_zero, List.set_cons_succ])
            (refine Calm.pure rfl (h := ?_); simp only [Act.put, List.setIfInBounds_toArray, List.set_cons_zero, List.set_cons_succ])
            (refine Calm.run rfl (fun W hW => by exact a_load1 hW (off := 1) rfl rfl rfl rfl (by (repeat (first | exact Ix.here | apply Ix.there))) (by rfl)) ?_; simp only [Act.put, List.setIfInBounds_toArray, List.set_cons_zero, List.set_cons_succ])
            (refine Calm.pure rfl (h := ?_); simp only [Act.put, List.setIfInBounds_toArray, List.set_cons_zero, List.set_cons_succ])
            (refine Calm.call2 (fun W hW => ((HA).out W _ (hW.out (by (repeat (first | exact Out.here | apply Out.there))))).mono fun _ _ k => ⟨k.1, k.2.pick⟩) rfl (h := ?_); simp only [Act.put, List.setIfInBounds_toArray, List.set_cons_zero, List.set_cons_succ])
            (refine Calm.run (v := .int .i64 t.kind) rfl (fun W hW => by exact a_fieldV rfl rfl rfl rfl rfl rfl rfl) ?_; simp only [Act.put, List.setIfInBounds_toArray, List.set_cons_zero, List.set_cons_succ])
            (refine Calm.run (v := .bool false) rfl (fun W hW => by (go_simp; try simp [hb])) ?_; simp only [Act.put, List.setIfInBounds_toArray, List.set_cons_zero, List.set_cons_succ])
            (refine Calm.pure rfl (h := ?_); simp only [Act.put, List.setIfInBounds_toArray, List.set_cons_zero, List.set_cons_succ])
            iterate 10 (refine Calm.skip rfl ?_; simp only [Act.put, List.setIfInBounds_toArray, List.set_cons_zero, List.set_cons_succ])
            (refine Calm.pure rfl (h := ?_); simp only [Act.put, List.setIfInBounds_toArray, List.set_cons_zero, List.set_cons_succ])
            (refine Calm.nil ?_; clear hS; intro w8 hS)
            clear HA HB hq hb
            go_wp2_with (first | go_skip | fail | fail)
            go_round
            case rel => exact ⟨i + 1, by omega, by go_num, hS⟩
            case measure => simp [intOf]; omega
          · have hb : (t.kind != 3) = true := by simp [k3]
            clear k3
            (refine Calm.pure rfl (h := ?_); simp only [Act.put, List.setIfInBounds_toArray, List.set_cons_zero, List.set_cons_succ])
            (refine Calm.run rfl (fun W hW => p_nil rfl rfl) ?_; simp only [Act.put, List.setIfInBounds_toArray, List.set_cons_zero, List.set_cons_succ])
            (refine Calm.pure rfl (h := ?_); simp only [Act.put, List.setIfInBounds_toArray, List.set_cons_zero, List.set_cons_succ])
            (refine Calm.run rfl (fun W hW => by exact a_load1 hW (off := 1) rfl rfl rfl rfl (by (repeat (first | exact Ix.here | apply Ix.there))) (by rfl)) ?_; simp only [Act.put, List.setIfInBounds_toArray, List.set_cons_zero, List.set_cons_succ])
            (refine Calm.pure rfl (h := ?_); simp only [Act.put, List.setIfInBounds_toArray, List.set_cons_zero, List.set_cons_succ])
            (refine Calm.call2 (fun W hW => ((HA).out W _ (hW.out (by (repeat (first | exact Out.here | apply Out.there))))).mono fun _ _ k => ⟨k.1, k.2.pick⟩) rfl (h := ?_); simp only [Act.put, List.setIfInBounds_toArray, List.set_cons_zero, List.set_cons_succ])
            (refine Calm.run (v := .int .i64 t.kind) rfl (fun W hW => by exact a_fieldV rfl rfl rfl rfl rfl rfl rfl) ?_; simp only [Act.put, List.setIfInBounds_toArray, List.set_cons_zero, List.set_cons_succ])
            (refine Calm.run (v := .bool true) rfl (fun W hW => by (go_simp; try simp [hb])) ?_; simp only [Act.put, List.setIfInBounds_toArray, List.set_cons_zero, List.set_cons_succ])
            iterate 3 (refine Calm.pure rfl (h := ?_); simp only [Act.put, List.setIfInBounds_toArray, List.set_cons_zero, List.set_cons_succ])
            (refine Calm.call2 (fun W hW => ((HB).out W _ (hW.out (by (repeat (first | exact Out.here | apply Out.there))))).mono fun _ _ k => ⟨k.1, k.2.pick⟩) rfl (h := ?_); simp only [Act.put, List.setIfInBounds_toArray, List.set_cons_zero, List.set_cons_succ])
            (refine Calm.pure rfl (h := ?_); simp only [Act.put, List.setIfInBounds_toArray, List.set_cons_zero, List.set_cons_succ])
            (refine Calm.run rfl (fun W hW => p_nil rfl rfl) ?_; simp only [Act.put, List.setIfInBounds_toArray, List.set_cons_zero, List.set_cons_succ])
            (refine Calm.pure rfl (h := ?_); simp only [Act.put, List.setIfInBounds_toArray, List.set_cons_zero, List.set_cons_succ])
            (refine Calm.run rfl (fun W hW => by exact a_load1 hW (off := 1) rfl rfl rfl rfl (by (repeat (first | exact Ix.here | apply Ix.there))) (by rfl)) ?_; simp only [Act.put, List.setIfInBounds_toArray, List.set_cons_zero, List.set_cons_succ])
            (refine Calm.pure rfl (h := ?_); simp only [Act.put, List.setIfInBounds_toArray, List.set_cons_zero, List.set_cons_succ])
            (refine Calm.call2 (fun W hW => ((HA).out W _ (hW.out (by (repeat (first | exact Out.here | apply Out.there))))).mono fun _ _ k => ⟨k.1, k.2.pick⟩) rfl (h := ?_); simp only [Act.put, List.setIfInBounds_toArray, List.set_cons_zero, List.set_cons_succ])
            ((with_reducible refine c_neqS (t := 37) ?_); refine Calm.run rfl (fun W hW => by exact x_structNe rfl rfl rfl itGuard hq) ?_; simp only [Act.put, List.setIfInBounds_toArray, List.set_cons_zero, List.set_cons_succ])
            (refine Calm.pure rfl (h := ?_); simp only [Act.put, List.setIfInBounds_toArray, List.set_cons_zero, List.set_cons_succ])
            (refine Calm.nil ?_; clear hS; intro w8 hS)
            clear HA HB hq hb
            go_wp2_with (first | go_skip | fail | fail)
            go_round
            case rel => exact ⟨i + 1, by omega, by go_num, hS⟩
            case measure => simp [intOf]; omega
        · have hi1 : ¬ (c : Int) + 1 + (i : Int) ≤ (c : Int) + 8 := by omega
          go_wp2_with (first | go_skip | ((with_reducible refine g_load ?_); refine wl_run rfl (by first | exact a_load1 hS (off := 1) rfl rfl rfl rfl (by (repeat (first | exact Ix.here | apply Ix.there))) (by rfl) | exact a_load1 hS (off := 0) rfl rfl rfl rfl (by (repeat (first | exact Ix.here | apply Ix.there))) (by rfl) | exact a_load1 hS (off := 2) rfl rfl rfl rfl (by (repeat (first | exact Ix.here | apply Ix.there))) (by rfl)) ?_) | fail)
          go_ret
          exact ⟨rfl, hS.nil⟩
end
end Go.Proofs.Ytnjboimjlbgdiaa
