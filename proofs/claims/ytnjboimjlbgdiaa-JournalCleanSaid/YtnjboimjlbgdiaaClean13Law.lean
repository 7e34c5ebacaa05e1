/-
  Where nothing rots nothing is faulty: JournalClean returns true.
-/
import Derived.Test.YtnjboimjlbgdiaaWldC
import Derived.Test.YtnjboimjlbgdiaaJrn5
set_option linter.unusedSimpArgs false
set_option linter.unusedVariables false
set_option linter.unusedSectionVars false
set_option maxRecDepth 100000
namespace Go.Proofs.Ytnjboimjlbgdiaa
open Go.RowKit Go.Cmp

section
set_option maxHeartbeats 16000000 in
theorem law_clean13 (vl : Value) (L : List (JAct × Value)) (w : World) (hL : Rd w 15 vl L.length (L.flatMap jactCells)) (hok : ∀ x ∈ L, JActOk w x) :
    Calls Try.prog 5 #[vl] w fun e w' => e = .returned (.bool true) ∧ St [] w w' [] := by
  have hS := St.init w
  have HL := Lib.hid hL
  have HOK := Lib.hid hok
  clear hL hok
  have HAW := Lib.hid (fun w => awake13_any w)
  obtain ⟨D0, J0, hv, hJ, hbg⟩ := begin13_any
  have K0 := Lib.hid (wi_start (PS := PSC) (FS := FSC) hv hJ (fun _ _ _ _ => ⟨rfl, rfl, .inl ⟨rfl, fun h => absurd h (by simp [voidSl, voidB])⟩⟩))
  have HBG := Lib.hid hbg
  clear hv hJ hbg
  (go_enter Try.func5, Try.ntmps5)
  go_upto_block 0 with (first | go_skip | (go_at_call 7; refine (HAW.out _).mono ?_; rintro e w' ⟨rfl, h⟩; replace hS := hS.call h; clear h) | (go_at_call 16; refine (HBG.out _).mono ?_; rintro e w' ⟨gw, gd, gj, rfl, h⟩; replace hS := hS.call h; clear h) | fail)
  (try simp only [Act.put, List.setIfInBounds_toArray, List.set_cons_zero, List.set_cons_succ])
  go_wp2_with (fail)
  go_loopw [4] (fun k wr => ∃ (j : Nat) (W : Wd) (gj : Nat), j ≤ 50 ∧ j ≤ L.length ∧ k = .int .i64 j ∧ Hid (WI PSC FSC (1017 + 40 * j) W) ∧ St [] w wr (wents gw gd gj W ++ [])) (fun k _ => (50 - intOf k).toNat)
  case atStart => exact ⟨0, _, gj, by omega, by omega, rfl, K0, hS⟩
  case round =>
    clear hS K0 HBG HAW
    obtain ⟨j, W, gj, hj, hjl, rfl, HK, hS⟩ := hrel
    by_cases hlt : j < 50 ∧ j < L.length
    · obtain ⟨hlt, hlt2⟩ := hlt
      have hlt1 : (j : Int) < L.length := by omega
      have hlt3 : (j : Int) < 50 := by omega
      have hget0 := Lib.hid (get_lt (L := L) hlt2)
      have HX := Lib.hid (HOK.out _ (nth_mem hlt2))
      obtain ⟨X, hX⟩ : ∃ X, nth L j = X := ⟨_, rfl⟩
      rw [hX] at hget0 HX
      clear hX
      obtain ⟨x, vx⟩ := X
      have hv1 : vx.oneCell' = true := HX.out.rd.one
      have HFA := Lib.hid (fun w => far13_any x vx w)
      have hLx := HL.out
      have hget := hget0.out
      go_upto_region 10 with (first | go_skip | ((with_reducible refine g_len ?_); refine wl_run rfl (by exact a_len rfl rfl rfl (hS.old0 hLx)) ?_) | ((with_reducible refine g_index ?_); refine wl_run rfl (by exact a_index rfl rfl rfl rfl (hS.old0 hLx) (by rfl) (by omega) (by omega)) ?_) | ((with_reducible refine g_load (t := 46) ?_); refine wl_run rfl (by exact a_loadG (vs := x.cells vx) rfl (hS.old0 hLx) rfl rfl rfl (by rfl) (by intro _; rfl) hget rfl) ?_) | ((with_reducible refine g_alloc ?_); refine wl_of rfl ?_; refine wp_alloc hS rfl rfl rfl rfl ?_; clear hS; intro ga w1 hS) | ((with_reducible refine g_store ?_); refine wl_of rfl ?_; refine a_storeA (vs := x.cells vx) (cs' := x.cells vx) hS rfl rfl rfl (by rfl) (act_one x hv1) (by (repeat (first | exact Sw.here | apply Sw.there))) (by exact Nat.le_refl 15) (by rfl) ?_; clear hS; intro w' hS) | fail)
      clear hLx hget
      by_cases hfar : 1000 < (x.e.body.length : Int)
      · rw [decide_eq_true hfar] at HFA
        clear hfar
        go_wp2_with (first | go_skip | ((with_reducible refine g_load ?_); refine wl_run rfl (by exact a_loadA (vs := x.cells vx) (off := 0) hS rfl rfl rfl rfl (by (repeat (first | exact Ix.here | apply Ix.there))) 15 (by rfl) (by rfl) (by rfl)) ?_) | (go_at_call 17; refine (HFA.out _).mono ?_; rintro e w' ⟨rfl, h⟩; replace hS := hS.call h; clear h) | fail)
        go_round
        case rel => exact ⟨j + 1, W, gj, by omega, by omega, by go_num, Lib.hid (HK.out.more (by omega)), hS.pick⟩
        case measure => simp [intOf]; omega
      have hb : x.e.body.length ≤ 1000 := by omega
      rw [decide_eq_false hfar] at HFA
      by_cases h9 : x.kind = 9
      · have b9 : (x.kind == 9) = true := by rw [h9]; rfl
        clear hfar hb h9
        go_wp2_with (first | go_skip | ((with_reducible refine g_load ?_); refine wl_run rfl (by exact a_loadA (vs := x.cells vx) (off := 0) hS rfl rfl rfl rfl (by (repeat (first | exact Ix.here | apply Ix.there))) 15 (by rfl) (by rfl) (by rfl)) ?_) | ((with_reducible refine g_load ?_); refine wl_run rfl (by exact a_load1 hS (off := 0) rfl rfl rfl rfl (by (repeat (first | exact Ix.here | apply Ix.there))) (by rfl)) ?_) | (go_at_call 17; refine (HFA.out _).mono ?_; rintro e w' ⟨rfl, h⟩; replace hS := hS.call h; clear h) | fail)
        go_round
        case rel => exact ⟨j + 1, W, gj, by omega, by omega, by go_num, Lib.hid (HK.out.more (by omega)), hS.pick⟩
        case measure => simp [intOf]; omega
      have b9 : (x.kind == 9) = false := by rw [beq_eq_false_iff_ne]; exact h9
      have HK1 := Lib.hid (deed_keep keepsC HK.out (by omega) (keptByC _ W.c x HX.out.par h9) HX.out.par HX.out.n2)
      have HDO := Lib.hid (fun (W1 : World) (M : List Ent) (hS : St [] w W1 (wents gw gd gj W ++ M)) => does13_any keepsC HK.out (by omega) (x, vx) HX.out hb (Reads.old HX.out.rd) hS)
      have HPU := Lib.hid (deed_put HK.out (by omega) (fun _ _ _ _ h => PSC_stub h) (x := x) HX.out.par)
      obtain ⟨Y, hY⟩ : ∃ Y, deedW W x = Y := ⟨_, rfl⟩
      rw [hY] at HK1 HPU
      simp only at HDO
      rw [hY] at HDO
      obtain ⟨e1, W1⟩ := Y
      simp only at HK1 HDO
      clear hY hfar hb h9
      go_upto_region 11 with (first | go_skip | ((with_reducible refine g_load ?_); refine wl_run rfl (by exact a_loadA (vs := x.cells vx) (off := 0) hS rfl rfl rfl rfl (by (repeat (first | exact Ix.here | apply Ix.there))) 15 (by rfl) (by rfl) (by rfl)) ?_) | ((with_reducible refine g_load ?_); refine wl_run rfl (by exact a_load1 hS (off := 0) rfl rfl rfl rfl (by (repeat (first | exact Ix.here | apply Ix.there))) (by rfl)) ?_) | (go_at_call 17; refine (HFA.out _).mono ?_; rintro e w' ⟨rfl, h⟩; replace hS := hS.call h; clear h) | fail)
      clear HFA b9
      go_cut [6] (fun a wx => ∃ b : Bool, a = .bool b ∧ Hid (b = W.J.isSome) ∧ St [] w wx (.row ga (x.cells vx) 46 (0, 0) :: (wents gw gd gj W ++ [])))
      case first =>
        have hK := HK.out
        clear HK HK1 HDO HPU
        cases hK with
        | off D c hc hs h =>
          replace hS : St [] w _ [.row gw [.pointer (some ⟨gd, 0, none⟩), .pointer none, .int .i64 (c : Int)] 50 (0, 0), disk gd D, .row ga (x.cells vx) 46 (0, 0)] := hS.pick
          clear hc hs h
          go_wp2_with (first | go_skip | ((with_reducible refine g_load ?_); refine wl_run rfl (by first | exact a_load1 hS (off := 1) rfl rfl rfl rfl (by (repeat (first | exact Ix.here | apply Ix.there))) (by rfl) | exact a_load1 hS (off := 0) rfl rfl rfl rfl (by (repeat (first | exact Ix.here | apply Ix.there))) (by rfl) | exact a_load1 hS (off := 2) rfl rfl rfl rfl (by (repeat (first | exact Ix.here | apply Ix.there))) (by rfl)) ?_) | fail)
          go_meet
          exact ⟨false, rfl, Lib.hid rfl, (hS.pick : St [] w _ [.row ga (x.cells vx) 46 (0, 0), .row gw [.pointer (some ⟨gd, 0, none⟩), .pointer none, .int .i64 (c : Int)] 50 (0, 0), disk gd D])⟩
        | on D J h =>
          replace hS : St [] w _ [.row gw [.pointer (some ⟨gd, 0, none⟩), .pointer (some ⟨gj, 0, none⟩), .int .i64 (J.check : Int)] 50 (0, 0), disk gd D, .row gj (jcells gd J) 68 (0, 0), .row ga (x.cells vx) 46 (0, 0)] := hS.pick
          clear h
          go_wp2_with (first | go_skip | ((with_reducible refine g_load ?_); refine wl_run rfl (by first | exact a_load1 hS (off := 1) rfl rfl rfl rfl (by (repeat (first | exact Ix.here | apply Ix.there))) (by rfl) | exact a_load1 hS (off := 0) rfl rfl rfl rfl (by (repeat (first | exact Ix.here | apply Ix.there))) (by rfl) | exact a_load1 hS (off := 2) rfl rfl rfl rfl (by (repeat (first | exact Ix.here | apply Ix.there))) (by rfl)) ?_) | fail)
          go_meet
          exact ⟨true, rfl, Lib.hid rfl, (hS.pick : St [] w _ [.row ga (x.cells vx) 46 (0, 0), .row gw [.pointer (some ⟨gd, 0, none⟩), .pointer (some ⟨gj, 0, none⟩), .int .i64 (J.check : Int)] 50 (0, 0), disk gd D, .row gj (jcells gd J) 68 (0, 0)])⟩
      case rest =>
        clear hS
        obtain ⟨b, rfl, HB, hS⟩ := hcut
        go_upto_region 13 with (first | go_skip | ((with_reducible refine g_load ?_); refine wl_run rfl (by exact a_loadA (vs := x.cells vx) (off := 0) hS rfl rfl rfl rfl (by (repeat (first | exact Ix.here | apply Ix.there))) 15 (by rfl) (by rfl) (by rfl)) ?_) | (go_at_call 19; refine (HDO.out _ [.row ga (x.cells vx) 46 (0, 0)] (St.back (A := [.row ga (x.cells vx) 46 (0, 0)]) hS)).mono ?_; clear hS; rintro e w' ⟨gj2, rfl, hS⟩) | fail)
        have hK := HK1.out
        clear HK HDO
        cases hK with
        | off D1 c1 hc hs h =>
          replace hS : St [] w _ [.row gw [.pointer (some ⟨gd, 0, none⟩), .pointer none, .int .i64 (c1 : Int)] 50 (0, 0), disk gd D1, .row ga (x.cells vx) 46 (0, 0)] := hS.pick
          clear hc hs h HPU
          go_wp2_with (first | go_skip | ((with_reducible refine g_load ?_); refine wl_run rfl (by first | exact a_load1 hS (off := 1) rfl rfl rfl rfl (by (repeat (first | exact Ix.here | apply Ix.there))) (by rfl) | exact a_load1 hS (off := 0) rfl rfl rfl rfl (by (repeat (first | exact Ix.here | apply Ix.there))) (by rfl) | exact a_load1 hS (off := 2) rfl rfl rfl rfl (by (repeat (first | exact Ix.here | apply Ix.there))) (by rfl)) ?_) | fail)
          go_round
          case rel => exact ⟨j + 1, ⟨D1, none, c1⟩, gj2, by omega, by omega, by go_num, Lib.hid (HK1.out.more (by omega)), hS.pick⟩
          case measure => simp [intOf]; omega
        | on D1 J1 h1 =>
          replace hS : St [] w _ [.row gw [.pointer (some ⟨gd, 0, none⟩), .pointer (some ⟨gj2, 0, none⟩), .int .i64 (J1.check : Int)] 50 (0, 0), disk gd D1, .row gj2 (jcells gd J1) 68 (0, 0), .row ga (x.cells vx) 46 (0, 0)] := hS.pick
          have hJc := h1.check
          have H1 := Lib.hid h1
          clear h1
          go_upto_block 2 with (first | go_skip | ((with_reducible refine g_load ?_); refine wl_run rfl (by first | exact a_load1 hS (off := 1) rfl rfl rfl rfl (by (repeat (first | exact Ix.here | apply Ix.there))) (by rfl) | exact a_load1 hS (off := 0) rfl rfl rfl rfl (by (repeat (first | exact Ix.here | apply Ix.there))) (by rfl) | exact a_load1 hS (off := 2) rfl rfl rfl rfl (by (repeat (first | exact Ix.here | apply Ix.there))) (by rfl)) ?_) | fail)
          go_wp2_with (fail)
          go_loopw [8] (fun k wr => ∃ i : Nat, i ≤ 8 ∧ k = .int .i64 ((J1.check : Int) + 1 + (i : Int)) ∧ St [] w wr [.row gw [.pointer (some ⟨gd, 0, none⟩), .pointer (some ⟨gj2, 0, none⟩), .int .i64 (J1.check : Int)] 50 (0, 0), disk gd D1, .row gj2 (jcells gd J1) 68 (0, 0), .row ga (x.cells vx) 46 (0, 0)]) (fun k _ => ((J1.check : Int) + 9 - intOf k).toNat)
          case atStart => exact ⟨0, by omega, by simp, hS⟩
          case round =>
            clear hS
            obtain ⟨i, hi, rfl, hS⟩ := hrel
            by_cases hi8 : i < 8
            · have hi1 : (J1.check : Int) + 1 + (i : Int) ≤ (J1.check : Int) + 8 := by omega
              have HN : Hid (J1.has ((J1.check : Int) + 1 + (i : Int)) = true) := Lib.hid (by unfold Jrn.has; simp only [Bool.and_eq_true, decide_eq_true_eq]; omega)
              have e0 : J1.item0 ((J1.check : Int) + 1 + (i : Int)) = J1.item ((J1.check : Int) + 1 + (i : Int)) := by unfold Jrn.item0; rw [if_pos HN.out]
              have hr1 : (D1.read (prepN ((J1.check : Int) + 1 + (i : Int)))).2 = 0 := by
                have h := H1.out.on.read (i := (prepN ((J1.check : Int) + 1 + (i : Int))).toNat) (by unfold prepN; omega)
                rw [show (((prepN ((J1.check : Int) + 1 + (i : Int))).toNat : Nat) : Int) = prepN ((J1.check : Int) + 1 + (i : Int)) from by unfold prepN; omega] at h
                rw [h]
              have HA := Lib.hid (fun (W : World) (M : List Ent) (hS : St [] w W (.row gj2 (jcells gd J1) 68 (0, 0) :: M)) => jrnItem_any hS H1.out.len ((J1.check : Int) + 1 + (i : Int)) (by omega))
              have HR := Lib.hid (fun (W : World) (M : List Ent) (hS : St [] w W (disk gd D1 :: .row gj2 (jcells gd J1) 68 (0, 0) :: M)) => jrnRead_any hS H1.out.on.ok H1.out.len (by omega) ((J1.check : Int) + 1 + (i : Int)) (by omega) hr1)
              obtain ⟨z, f, hrd, hz, hcase⟩ : ∃ z f, readJ D1 J1 ((J1.check : Int) + 1 + (i : Int)) = (z, f, J1) ∧ z = (J1.item ((J1.check : Int) + 1 + (i : Int))).ent ∧ (((J1.item ((J1.check : Int) + 1 + (i : Int))).kind = 1 ∧ f = 0) ∨ ((J1.item ((J1.check : Int) + 1 + (i : Int))).kind = 0 ∧ f = 8)) := by
                rcases clean_told H1.out HN.out with ⟨a, b⟩ | ⟨a, b⟩
                · exact ⟨_, _, b, rfl, .inl ⟨a, rfl⟩⟩
                · exact ⟨_, _, b, by rw [a]; rfl, .inr ⟨by rw [a]; rfl, rfl⟩⟩
              rw [hrd] at HR
              rw [e0] at HA
              simp only at HR
              clear hrd e0 hr1 HN
              generalize J1.item ((J1.check : Int) + 1 + (i : Int)) = t at HA hz hcase
              have hq : eqV Try.prog 4 24 (.agg z.cells.toArray) (.agg t.ent.cells.toArray) = some true := by rw [eqEn, decide_eq_true hz]
              clear hz
              have HCA := Lib.hid hcase
              clear hcase
              go_upto_region 18 with (first | go_skip | ((with_reducible refine g_load ?_); refine wl_run rfl (by first | exact a_load1 hS (off := 1) rfl rfl rfl rfl (by (repeat (first | exact Ix.here | apply Ix.there))) (by rfl) | exact a_load1 hS (off := 0) rfl rfl rfl rfl (by (repeat (first | exact Ix.here | apply Ix.there))) (by rfl) | exact a_load1 hS (off := 2) rfl rfl rfl rfl (by (repeat (first | exact Ix.here | apply Ix.there))) (by rfl)) ?_) | (go_at_call 15; (refine (HA.out _ _ (hS.out (by first | ((repeat (first | exact Out.here | apply Out.there)); done) | fail))).mono ?_; clear hS; rintro e w' ⟨rfl, hS⟩)) | ((with_reducible refine g_alloc ?_); refine wl_of rfl ?_; refine wp_alloc hS rfl rfl rfl rfl ?_; clear hS; intro gi w1 hS) | ((with_reducible refine g_store ?_); refine wl_of rfl ?_; refine a_storeA (vs := t.cells) (cs' := t.cells) hS rfl rfl rfl (by rfl) (it_one _) (by (repeat (first | exact Sw.here | apply Sw.there))) (by exact Nat.le_refl 15) (by rfl) ?_; clear hS; intro w' hS) | fail)
              go_upto_region 19 with (first | go_skip | ((with_reducible refine g_load ?_); refine wl_run rfl (by first | exact a_load1 hS (off := 1) rfl rfl rfl rfl (by (repeat (first | exact Ix.here | apply Ix.there))) (by rfl) | exact a_load1 hS (off := 0) rfl rfl rfl rfl (by (repeat (first | exact Ix.here | apply Ix.there))) (by rfl) | exact a_load1 hS (off := 2) rfl rfl rfl rfl (by (repeat (first | exact Ix.here | apply Ix.there))) (by rfl)) ?_) | (go_at_call 8; (refine (HR.out _ [.row gi t.cells 37 (0, 0), .row gw [.pointer (some ⟨gd, 0, none⟩), .pointer (some ⟨gj2, 0, none⟩), .int .i64 (J1.check : Int)] 50 (0, 0), .row ga (x.cells vx) 46 (0, 0)] hS.pick).mono ?_; clear hS; rintro e w' ⟨rfl, hS⟩)) | ((with_reducible refine g_alloc ?_); refine wl_of rfl ?_; refine wp_alloc hS rfl rfl rfl rfl ?_; clear hS; intro ge w1 hS) | ((with_reducible refine g_store ?_); refine wl_of rfl ?_; refine a_storeA (vs := z.cells) (cs' := z.cells) hS rfl rfl rfl (by rfl) (en_one _) (by (repeat (first | exact Sw.here | apply Sw.there))) (by exact Nat.le_refl 9) (by rfl) ?_; clear hS; intro w' hS) | fail)
              rcases HCA.out with ⟨k1, rfl⟩ | ⟨k1, rfl⟩
              · have b1 : (t.kind != 1) = false := by rw [k1]; rfl
                have b2 : (t.kind == 1) = true := by rw [k1]; rfl
                clear k1 HCA
                go_wp2_with (first | go_skip | ((with_reducible refine g_load ?_); refine wl_run rfl (by exact a_load1 hS (off := 0) rfl rfl rfl rfl (by (repeat (first | exact Ix.here | apply Ix.there))) (by rfl)) ?_) | ((with_reducible refine g_load ?_); refine wl_run rfl (by exact a_loadA (vs := z.cells) (off := 0) hS rfl rfl rfl rfl (by (repeat (first | exact Ix.here | apply Ix.there))) 9 (by rfl) (by rfl) (by rfl)) ?_) | ((with_reducible refine g_load ?_); refine wl_run rfl (by exact a_loadA (vs := t.ent.cells) (off := 6) hS rfl rfl rfl rfl (by (repeat (first | exact Ix.here | apply Ix.there))) 9 (by rfl) (by rfl) (by rfl)) ?_) | ((with_reducible refine g_neqS (t := 24) ?_); refine wl_run rfl (x_structNe rfl rfl rfl enGuard hq) ?_) | fail)
                go_round
                case rel => exact ⟨i + 1, by omega, by go_num, hS.pick⟩
                case measure => simp [intOf]; omega
              · have b1 : (t.kind != 1) = true := by rw [k1]; rfl
                have b2 : (t.kind == 1) = false := by rw [k1]; rfl
                have b3 : (t.kind != 0) = false := by rw [k1]; rfl
                clear k1 HCA
                go_wp2_with (first | go_skip | ((with_reducible refine g_load ?_); refine wl_run rfl (by exact a_load1 hS (off := 0) rfl rfl rfl rfl (by (repeat (first | exact Ix.here | apply Ix.there))) (by rfl)) ?_) | ((with_reducible refine g_load ?_); refine wl_run rfl (by exact a_loadA (vs := z.cells) (off := 0) hS rfl rfl rfl rfl (by (repeat (first | exact Ix.here | apply Ix.there))) 9 (by rfl) (by rfl) (by rfl)) ?_) | ((with_reducible refine g_load ?_); refine wl_run rfl (by exact a_loadA (vs := t.ent.cells) (off := 6) hS rfl rfl rfl rfl (by (repeat (first | exact Ix.here | apply Ix.there))) 9 (by rfl) (by rfl) (by rfl)) ?_) | ((with_reducible refine g_neqS (t := 24) ?_); refine wl_run rfl (x_structNe rfl rfl rfl enGuard hq) ?_) | fail)
                go_round
                case rel => exact ⟨i + 1, by omega, by go_num, hS.pick⟩
                case measure => simp [intOf]; omega
            · have hi1 : ¬ (J1.check : Int) + 1 + (i : Int) ≤ (J1.check : Int) + 8 := by omega
              go_upto_region 21 with (first | go_skip | ((with_reducible refine g_load ?_); refine wl_run rfl (by first | exact a_load1 hS (off := 1) rfl rfl rfl rfl (by (repeat (first | exact Ix.here | apply Ix.there))) (by rfl) | exact a_load1 hS (off := 0) rfl rfl rfl rfl (by (repeat (first | exact Ix.here | apply Ix.there))) (by rfl) | exact a_load1 hS (off := 2) rfl rfl rfl rfl (by (repeat (first | exact Ix.here | apply Ix.there))) (by rfl)) ?_) | fail)
              go_wp2_with (fail)
              refine region_calm (by kernel_rfl) (by kernel_rfl) hS ?_
              cases b
              · iterate 2 (refine Calm.pure rfl (h := ?_); simp only [Act.put, List.setIfInBounds_toArray, List.set_cons_zero, List.set_cons_succ])
                iterate 3 (refine Calm.skip rfl ?_; simp only [Act.put, List.setIfInBounds_toArray, List.set_cons_zero, List.set_cons_succ])
                iterate 2 (refine Calm.pure rfl (h := ?_); simp only [Act.put, List.setIfInBounds_toArray, List.set_cons_zero, List.set_cons_succ])
                iterate 2 (refine Calm.skip rfl ?_; simp only [Act.put, List.setIfInBounds_toArray, List.set_cons_zero, List.set_cons_succ])
                iterate 2 (refine Calm.pure rfl (h := ?_); simp only [Act.put, List.setIfInBounds_toArray, List.set_cons_zero, List.set_cons_succ])
                iterate 12 (refine Calm.skip rfl ?_; simp only [Act.put, List.setIfInBounds_toArray, List.set_cons_zero, List.set_cons_succ])
                (refine Calm.pure rfl (h := ?_); simp only [Act.put, List.setIfInBounds_toArray, List.set_cons_zero, List.set_cons_succ])
                (refine Calm.nil ?_; clear hS; intro w8 hS)
                clear HPU HB
                go_wp2_with (first | go_skip | fail | fail)
                go_round
                case rel => exact ⟨j + 1, ⟨D1, some J1, J1.check⟩, gj2, by omega, by omega, by go_num, Lib.hid (HK1.out.more (by omega)), hS.pick⟩
                case measure => simp [intOf]; omega
              by_cases k1 : x.kind = 1
              · have b1 : (x.kind == 1) = true := by rw [k1]; rfl
                by_cases k2 : e1 = 0
                · subst k2
                  obtain ⟨D2, J2, e2, _, h2, h3, _⟩ := HPU.out k1 HB.out.symm rfl
                  have e3 : J1 = J2 := by simpa using congrArg Wd.J e2
                  rw [← e3] at h2 h3
                  clear e2 e3
                  have e0 : J1.item0 x.e.op = ⟨1, stubE x.e, x.e⟩ := by unfold Jrn.item0; rw [if_pos h2]; exact h3
                  have hop := HX.out.op
                  have HA := Lib.hid (fun (W : World) (M : List Ent) (hS : St [] w W (.row gj2 (jcells gd J1) 68 (0, 0) :: M)) => jrnItem_any hS H1.out.len x.e.op hop)
                  rw [e0] at HA
                  have hq : eqV Try.prog 4 24 (.agg x.e.cells.toArray) (.agg x.e.cells.toArray) = some true := by rw [eqEn, decide_eq_true rfl]
                  clear h2 h3 e0 hop k1 HPU
                  iterate 3 (refine Calm.pure rfl (h := ?_); simp only [Act.put, List.setIfInBounds_toArray, List.set_cons_zero, List.set_cons_succ])
                  (refine Calm.run rfl (fun W hW => by exact a_load1 hW (off := 0) rfl rfl rfl rfl (by (repeat (first | exact Ix.here | apply Ix.there))) (by rfl)) ?_; simp only [Act.put, List.setIfInBounds_toArray, List.set_cons_zero, List.set_cons_succ])
                  (refine Calm.run (v := .bool true) rfl (fun W hW => by (go_simp; try simp [b1])) ?_; simp only [Act.put, List.setIfInBounds_toArray, List.set_cons_zero, List.set_cons_succ])
                  iterate 7 (refine Calm.pure rfl (h := ?_); simp only [Act.put, List.setIfInBounds_toArray, List.set_cons_zero, List.set_cons_succ])
                  (refine Calm.run rfl (fun W hW => p_nil rfl rfl) ?_; simp only [Act.put, List.setIfInBounds_toArray, List.set_cons_zero, List.set_cons_succ])
                  (refine Calm.pure rfl (h := ?_); simp only [Act.put, List.setIfInBounds_toArray, List.set_cons_zero, List.set_cons_succ])
                  (refine Calm.run rfl (fun W hW => by exact a_load1 hW (off := 1) rfl rfl rfl rfl (by (repeat (first | exact Ix.here | apply Ix.there))) (by rfl)) ?_; simp only [Act.put, List.setIfInBounds_toArray, List.set_cons_zero, List.set_cons_succ])
                  iterate 2 (refine Calm.pure rfl (h := ?_); simp only [Act.put, List.setIfInBounds_toArray, List.set_cons_zero, List.set_cons_succ])
                  (refine Calm.run rfl (fun W hW => by exact a_load1 hW (off := 2) rfl rfl rfl rfl (by (repeat (first | exact Ix.here | apply Ix.there))) (by rfl)) ?_; simp only [Act.put, List.setIfInBounds_toArray, List.set_cons_zero, List.set_cons_succ])
                  (refine Calm.call2 (fun W hW => ((HA).out W _ (hW.out (by (repeat (first | exact Out.here | apply Out.there))))).mono fun _ _ k => ⟨k.1, k.2.pick⟩) rfl (h := ?_); simp only [Act.put, List.setIfInBounds_toArray, List.set_cons_zero, List.set_cons_succ])
                  (refine Calm.run (v := .agg (List.toArray (x.e.cells))) rfl (fun W hW => by exact a_fieldA rfl rfl rfl rfl rfl rfl (by rfl)) ?_; simp only [Act.put, List.setIfInBounds_toArray, List.set_cons_zero, List.set_cons_succ])
                  (refine Calm.pure rfl (h := ?_); simp only [Act.put, List.setIfInBounds_toArray, List.set_cons_zero, List.set_cons_succ])
                  (refine Calm.run rfl (fun W hW => by exact a_loadA (vs := x.e.cells) (off := 1) hW rfl rfl rfl rfl (by (repeat (first | exact Ix.here | apply Ix.there))) 9 (by rfl) (by rfl) (by rfl)) ?_; simp only [Act.put, List.setIfInBounds_toArray, List.set_cons_zero, List.set_cons_succ])
                  ((with_reducible refine c_neqS (t := 24) ?_); refine Calm.run rfl (fun W hW => by exact x_structNe rfl rfl rfl enGuard hq) ?_; simp only [Act.put, List.setIfInBounds_toArray, List.set_cons_zero, List.set_cons_succ])
                  (refine Calm.pure rfl (h := ?_); simp only [Act.put, List.setIfInBounds_toArray, List.set_cons_zero, List.set_cons_succ])
                  (refine Calm.nil ?_; clear hS; intro w8 hS)
                  clear HA hq HB
                  go_wp2_with (first | go_skip | fail | fail)
                  go_round
                  case rel => exact ⟨j + 1, ⟨D1, some J1, J1.check⟩, gj2, by omega, by omega, by go_num, Lib.hid (HK1.out.more (by omega)), hS.pick⟩
                  case measure => simp [intOf]; omega
                · have b2 : (e1 == 0) = false := by rw [beq_eq_false_iff_ne]; exact k2
                  clear k1 k2
                  iterate 3 (refine Calm.pure rfl (h := ?_); simp only [Act.put, List.setIfInBounds_toArray, List.set_cons_zero, List.set_cons_succ])
                  (refine Calm.run rfl (fun W hW => by exact a_load1 hW (off := 0) rfl rfl rfl rfl (by (repeat (first | exact Ix.here | apply Ix.there))) (by rfl)) ?_; simp only [Act.put, List.setIfInBounds_toArray, List.set_cons_zero, List.set_cons_succ])
                  (refine Calm.run (v := .bool true) rfl (fun W hW => by (go_simp; try simp [b1])) ?_; simp only [Act.put, List.setIfInBounds_toArray, List.set_cons_zero, List.set_cons_succ])
                  iterate 3 (refine Calm.pure rfl (h := ?_); simp only [Act.put, List.setIfInBounds_toArray, List.set_cons_zero, List.set_cons_succ])
                  (refine Calm.run (v := .bool false) rfl (fun W hW => by (go_simp; try simp [b2])) ?_; simp only [Act.put, List.setIfInBounds_toArray, List.set_cons_zero, List.set_cons_succ])
                  iterate 2 (refine Calm.pure rfl (h := ?_); simp only [Act.put, List.setIfInBounds_toArray, List.set_cons_zero, List.set_cons_succ])
                  iterate 12 (refine Calm.skip rfl ?_; simp only [Act.put, List.setIfInBounds_toArray, List.set_cons_zero, List.set_cons_succ])
                  (refine Calm.pure rfl (h := ?_); simp only [Act.put, List.setIfInBounds_toArray, List.set_cons_zero, List.set_cons_succ])
                  (refine Calm.nil ?_; clear hS; intro w8 hS)
                  clear HPU HB
                  go_wp2_with (first | go_skip | fail | fail)
                  go_round
                  case rel => exact ⟨j + 1, ⟨D1, some J1, J1.check⟩, gj2, by omega, by omega, by go_num, Lib.hid (HK1.out.more (by omega)), hS.pick⟩
                  case measure => simp [intOf]; omega
              · have b1 : (x.kind == 1) = false := by rw [beq_eq_false_iff_ne]; exact k1
                clear k1
                iterate 3 (refine Calm.pure rfl (h := ?_); simp only [Act.put, List.setIfInBounds_toArray, List.set_cons_zero, List.set_cons_succ])
                (refine Calm.run rfl (fun W hW => by exact a_load1 hW (off := 0) rfl rfl rfl rfl (by (repeat (first | exact Ix.here | apply Ix.there))) (by rfl)) ?_; simp only [Act.put, List.setIfInBounds_toArray, List.set_cons_zero, List.set_cons_succ])
                (refine Calm.run (v := .bool false) rfl (fun W hW => by (go_simp; try simp [b1])) ?_; simp only [Act.put, List.setIfInBounds_toArray, List.set_cons_zero, List.set_cons_succ])
                iterate 2 (refine Calm.pure rfl (h := ?_); simp only [Act.put, List.setIfInBounds_toArray, List.set_cons_zero, List.set_cons_succ])
                iterate 2 (refine Calm.skip rfl ?_; simp only [Act.put, List.setIfInBounds_toArray, List.set_cons_zero, List.set_cons_succ])
                iterate 2 (refine Calm.pure rfl (h := ?_); simp only [Act.put, List.setIfInBounds_toArray, List.set_cons_zero, List.set_cons_succ])
                iterate 12 (refine Calm.skip rfl ?_; simp only [Act.put, List.setIfInBounds_toArray, List.set_cons_zero, List.set_cons_succ])
                (refine Calm.pure rfl (h := ?_); simp only [Act.put, List.setIfInBounds_toArray, List.set_cons_zero, List.set_cons_succ])
                (refine Calm.nil ?_; clear hS; intro w8 hS)
                clear HPU HB
                go_wp2_with (first | go_skip | fail | fail)
                go_round
                case rel => exact ⟨j + 1, ⟨D1, some J1, J1.check⟩, gj2, by omega, by omega, by go_num, Lib.hid (HK1.out.more (by omega)), hS.pick⟩
                case measure => simp [intOf]; omega
    · by_cases hlt1 : (j : Int) < L.length
      all_goals
        try (have hlt2 : ¬ (j : Int) < 50 := by omega)
        have hLx := HL.out
        go_wp2_with (first | go_skip | ((with_reducible refine g_len ?_); refine wl_run rfl (by exact a_len rfl rfl rfl (hS.old0 hLx)) ?_) | fail)
        go_ret
        exact ⟨rfl, hS.nil⟩
end
end Go.Proofs.Ytnjboimjlbgdiaa
