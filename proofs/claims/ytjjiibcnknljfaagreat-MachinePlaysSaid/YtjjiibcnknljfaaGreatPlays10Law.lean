/-
  The statement on all entries of a machine: the walk.
-/
import Derived.Test.YtjjiibcnknljfaaGreatMacRef3
import Derived.Test.YtjjiibcnknljfaaGreatPlays16
import Derived.Test.YtjjiibcnknljfaaGreatHeld2
import Derived.Deep.DeepCutAuto
import Derived.Deep.CutBlock
import Derived.Test.YtjjiibcnknljfaaGreatMacCa
import Derived.Test.YtjjiibcnknljfaaGreatMacAw
import Derived.Test.YtjjiibcnknljfaaGreatMacRun
import Derived.Test.YtjjiibcnknljfaaGreatMin
set_option linter.unusedSimpArgs false
set_option linter.unusedVariables false
set_option linter.unusedSectionVars false
set_option maxRecDepth 100000
namespace Go.Proofs.YtjjiibcnknljfaaGreat
open Go.RowKit Go.Cmp

def reqOk (x : En) : Prop := x.parent < 18446744073709551616 ∧ -9223372036854775808 ≤ x.request ∧ x.request ≤ 9223372036854775807
theorem putL_req : ∀ (l : List En) (m : Mk), (∀ x ∈ l, reqOk x) → m.sum < 18446744073709551616 → ∀ x ∈ putL m l, reqOk x
  | [], _, _, _ => by intro x hx; cases hx
  | e :: l, m, h, hm => by
    have h2 : ∀ x ∈ l, reqOk x := fun x hx => h x (List.mem_cons_of_mem _ hx)
    have h1 := h e List.mem_cons_self
    unfold putL
    split
    · intro x hx
      rcases List.mem_cons.1 hx with rfl | hx
      · exact ⟨hm, h1.2.1, h1.2.2⟩
      · exact putL_req l _ h2 (markE_sum (e := nextE m e) hm) x hx
    · intro x hx
      rcases List.mem_cons.1 hx with rfl | hx
      · exact h1
      · exact putL_req l m h2 hm x hx
theorem cut_front10 {α : Type} {f : α → List Value} {k : Nat} (hf : ∀ x, (f x).length = k) {xs : List α} {w : World} {v : Value} (hX : Rd w k v xs.length (xs.flatMap f)) {m : Nat} (hm : m ≤ xs.length) : Rd w k (cutSl v k 0 m) (xs.take m).length ((xs.take m).flatMap f) := by
  have h := hX.cut 0 m (by omega) hm
  rw [Nat.zero_mul, List.drop_zero, flat_take hf, Nat.sub_zero] at h
  rw [List.length_take, Nat.min_eq_left hm]
  exact h

theorem logOf_req {l : List En} (h : ∀ x ∈ l, reqOk x) : ∀ x ∈ logOf l, reqOk x := putL_req _ _ (fun x hx => h x (List.mem_of_mem_take hx)) (by show (0 : Nat) < _; omega)

section
set_option maxHeartbeats 64000000 in
theorem law_plays10 (vl : Value) (L : List En) (pl : Bool) (w : World) (hL : Rd w 9 vl L.length (L.flatMap En.cells)) (hpar : ∀ x ∈ L, reqOk x) :
    Calls Tryz.prog 4 #[vl, .bool pl] w fun x w' => x = .returned (.bool true) ∧ St [] w w' [] := by
  have hS := St.init w
  obtain ⟨n, hn⟩ : ∃ n, n = min L.length 60 := ⟨_, rfl⟩
  have hnl : n ≤ L.length := by omega
  have hn60 : n ≤ 60 := by omega
  have HMI : Hid ((if (60 : Int) < L.length then (60 : Int) else L.length) = (n : Int)) := Lib.hid (by split <;> omega)
  have hC := cut_front10 (f := En.cells) (k := 9) (fun _ => rfl) hL hnl
  have HQ0 : Hid (∀ x ∈ L.take n, reqOk x) := Lib.hid (fun x hx => hpar x (List.mem_of_mem_take hx))
  have hCl : (L.take n).length ≤ 60 := by rw [List.length_take]; omega
  clear hpar hn
  obtain ⟨N0, hN0⟩ : ∃ N0, L.take n = N0 := ⟨_, rfl⟩
  rw [hN0] at hC HQ0 hCl
  clear hN0
  have hlN : L.length ≤ 9223372036854775807 := hL.le
  have HC := Lib.hid hC
  have HP := Lib.hid (fun (w1 : World) (M : List Ent) (hS : St [] w w1 M) => put_any10 hS (Reads.old (M := M) hC) (fun x hx => (HQ0.out x hx).1))
  clear hC
  (go_enter Tryz.func4, Tryz.ntmps4)
  go_upto_if 23 with (first | (go_at_call 5; refine (awake10_any _).mono ?_; rintro e w' ⟨rfl, h⟩; replace hS := hS.call h; clear h) | ((with_reducible refine g_min ?_); refine wl_run rfl (x_min (m := (n : Int)) rfl rfl rfl HMI.out) ?_) | ((with_reducible refine g_cut ?_); refine wl_run rfl (x_cutHi (ti := Tryz.t34) rfl (hS.old0 hL) rfl rfl rfl rfl rfl (by omega) (by omega)) ?_) | ((with_reducible refine g_len ?_); refine wl_run rfl (a_len rfl rfl rfl (hS.old0 hL)) ?_))
  replace hS : St [] w _ [] := hS.nil
  clear HMI hlN hL
  generalize cutSl vl 9 0 n = cv0 at HC HP ⊢
  go_cut [0] (fun v wx => ∃ (N : List En) (MV : List Ent), N.length ≤ 60 ∧ Hid (∀ x ∈ N, reqOk x) ∧ Hid (Reads [] w MV 9 v N.length (N.flatMap En.cells)) ∧ St [] w wx MV)
  case first =>
    cases pl
    · go_wp2_with (fail)
      go_meet
      exact ⟨N0, [], hCl, HQ0, Lib.hid (Reads.old HC.out), hS⟩
    · go_wp2_with (fail)
      refine (HP.out _ _ hS).mono ?_
      clear hS
      rintro e w' ⟨u, rfl, hS⟩
      go_wp2_with (fail)
      go_meet
      exact ⟨logOf N0, _, logOf_len N0, Lib.hid (logOf_req HQ0.out), Lib.hid (fun W h => h.rdx Ix.here), hS⟩
  case rest =>
    clear hS HC HP HQ0 hCl hnl hn60
    obtain ⟨N, MV, hN60, HQ, HV, hS⟩ := hcut
    have hV := HV.out
    clear HV
    go_upto_region 8 with (first | (go_at_call 7; refine (mach_new hS).mono ?_; clear hS; rintro e w' ⟨g, rfl, hS⟩) | (go_at_call 18; refine (rmach_new hS).mono ?_; clear hS; rintro e w' ⟨g2, rfl, hS⟩))
    replace hS : St [] w _ (mach g newMac :: rmach g2 newMac :: MV) := hS.pick
    go_wp2_with (fail)
    go_loopw [7] (fun i wr => ∃ (j : Nat) (m : Mac), j ≤ N.length ∧ i = .int .i64 j ∧ Hid m.Ok ∧ St [] w wr (mach g m :: rmach g2 m :: MV)) (fun i _ => (N.length - intOf i).toNat)
    case atStart => exact ⟨0, newMac, by omega, rfl, Lib.hid newMac_ok, hS.pick⟩
    case round =>
      clear hS
      obtain ⟨j, m, hj, rfl, HOK, hS⟩ := hrel
      by_cases hlt : j < N.length
      · have hlt1 : (j : Int) < N.length := by omega
        have hget := get_lt (L := N) hlt
        have hpx := HQ.out _ (nth_mem hlt)
        obtain ⟨x, hX⟩ : ∃ X, nth N j = X := ⟨_, rfl⟩
        rw [hX] at hget hpx
        clear hX
        obtain ⟨hpp, hq1, hq2⟩ := hpx
        by_cases hb : (5000 : Int) < x.body.length
        · obtain ⟨vw, po, un, par, cl, se, rq, opr, body⟩ := x
          simp only at hb hpp hq1 hq2
          go_wp2_with (first | ((with_reducible refine g_index ?_); refine wl_run rfl (by exact a_index rfl rfl rfl rfl (Reads.at hV hS (by (repeat (first | exact List.Sublist.refl _ | apply List.Sublist.cons)))) (by rfl) (by omega) (by omega)) ?_) | ((with_reducible refine g_field ?_); refine wl_run rfl (by exact a_field rfl rfl (Reads.at hV hS (by (repeat (first | exact List.Sublist.refl _ | apply List.Sublist.cons)))) (by omega) rfl rfl rfl (by rfl)) ?_) | ((with_reducible refine g_len ?_); refine wl_run rfl (by exact a_len rfl rfl rfl (Reads.at hV hS (by (repeat (first | exact List.Sublist.refl _ | apply List.Sublist.cons))))) ?_) | ((with_reducible refine g_load ?_); refine wl_run rfl (by exact a_loadF rfl (Reads.at hV hS (by (repeat (first | exact List.Sublist.refl _ | apply List.Sublist.cons)))) rfl rfl rfl (by intro _; rfl) hget (by rfl)) ?_))
          refine ⟨⟨j + 1, m, by omega, by go_num, HOK, hS.pick⟩, by simp [intOf]; omega⟩
        · have hok := HOK.out
          have hok2 := apply_ok hok hpp
          have HA := Lib.hid (fun (S : List Nat) (w0 w : World) (M : List Ent) (g : Nat) (hS : St S w0 w (mach g m :: M)) => mach_apply hS hok x hpp)
          have HRA := Lib.hid (fun (S : List Nat) (w0 w : World) (M : List Ent) (g : Nat) (hS : St S w0 w (rmach g m :: M)) => rmach_apply hS hok x hpp (by omega))
          generalize (m.apply x).1 = R at HA HRA
          obtain ⟨m2, hm2⟩ : ∃ m2, (m.apply x).2 = m2 := ⟨_, rfl⟩
          rw [hm2] at HA HRA hok2
          clear hm2 hok HOK
          have HC := Lib.hid (fun (S : List Nat) (w0 w : World) (M : List Ent) (g : Nat) (hS : St S w0 w (mach g m2 :: M)) => mach_cached hS hok2 x.client x.session x.request hq1 hq2)
          have HRC := Lib.hid (fun (S : List Nat) (w0 w : World) (M : List Ent) (g : Nat) (hS : St S w0 w (rmach g m2 :: M)) => rmach_cached hS hok2 x.client x.session x.request)
          have HVE := Lib.hid (fun (S : List Nat) (w0 w : World) (M : List Ent) (g : Nat) (hS : St S w0 w (mach g m2 :: M)) => mach_verdict hS hok2 x.client x.session x.request hq1 hq2)
          have hl3 : m2.T.length ≤ 3 := hok2.good.ok.len
          have HRV := Lib.hid (fun (S : List Nat) (w0 w : World) (M : List Ent) (g : Nat) (hS : St S w0 w (rses g m2.T :: M)) => rses_verdict hS (by omega) x.client x.session x.request hok2.good.ok.req)
          have HMK := Lib.hid (fun (S : List Nat) (w0 w : World) (M : List Ent) (g : Nat) (hS : St S w0 w (mach g m2 :: M)) => mach_mark hS)
          have HSE := Lib.hid (fun (S : List Nat) (w0 w : World) (M : List Ent) (g : Nat) (hS : St S w0 w (mach g m2 :: M)) => mach_sessions hS hl3)
          have HAC := Lib.hid (fun (S : List Nat) (w0 w : World) (M : List Ent) (g : Nat) (hS : St S w0 w (mach g m2 :: M)) => mach_accounts hS hok2.led)
          have HTR := Lib.hid (fun (S : List Nat) (w0 w : World) (M : List Ent) (g : Nat) (hS : St S w0 w (mach g m2 :: M)) => mach_transfers hS hok2.led)
          have HPK := Lib.hid (fun (S : List Nat) (w0 w : World) (M : List Ent) (g : Nat) (hS : St S w0 w (mach g m2 :: M)) => mach_pack hS hok2)
          have HOK2 := Lib.hid hok2
          clear hok2
          generalize m2.cached x.client x.session x.request = CC at HC HRC
          obtain ⟨⟨a1, a2, a3, a4, a5, a6⟩, er⟩ := R
          obtain ⟨⟨c1, c2, c3, c4, c5, c6⟩, cb⟩ := CC
          obtain ⟨vw, po, un, par, cl, se, rq, opr, body⟩ := x
          simp only at hb hpp hq1 hq2
          simp only [Ans.cells, En.cells] at HA HRA HC HRC HVE HRV
          simp only [Mk.cells] at HMK
          go_upto_region 14 with (first | (go_at_call 8; refine (HA.out _ _ _ _ _ (hS.out (by (repeat (first | exact Out.here | apply Out.there))))).mono ?_; clear hS; rintro e w' ⟨rfl, hS⟩) | (go_at_call 19; refine (HRA.out _ _ _ _ _ (hS.out (by (repeat (first | exact Out.here | apply Out.there))))).mono ?_; clear hS; rintro e w' ⟨rfl, hS⟩) | ((with_reducible refine g_index ?_); refine wl_run rfl (by exact a_index rfl rfl rfl rfl (Reads.at hV hS (by (repeat (first | exact List.Sublist.refl _ | apply List.Sublist.cons)))) (by rfl) (by omega) (by omega)) ?_) | ((with_reducible refine g_field ?_); refine wl_run rfl (by exact a_field rfl rfl (Reads.at hV hS (by (repeat (first | exact List.Sublist.refl _ | apply List.Sublist.cons)))) (by omega) rfl rfl rfl (by rfl)) ?_) | ((with_reducible refine g_len ?_); refine wl_run rfl (by exact a_len rfl rfl rfl (Reads.at hV hS (by (repeat (first | exact List.Sublist.refl _ | apply List.Sublist.cons))))) ?_) | ((with_reducible refine g_load ?_); refine wl_run rfl (by exact a_loadG (vs := [.int .i64 vw, .int .i64 po, .int .i64 un, .int .u64 par, .int .i64 cl, .int .i64 se, .int .i64 rq, .int .i64 opr, .string ⟨body.toArray⟩]) rfl (Reads.at hV hS (by (repeat (first | exact List.Sublist.refl _ | apply List.Sublist.cons)))) rfl rfl rfl (by rfl) (by intro _; rfl) hget (by rfl)) ?_) | ((with_reducible refine g_load ?_); refine wl_run rfl (by exact a_loadF rfl (Reads.at hV hS (by (repeat (first | exact List.Sublist.refl _ | apply List.Sublist.cons)))) rfl rfl rfl (by intro _; rfl) hget (by rfl)) ?_) | (have _h := ga; clear _h; ((with_reducible refine g_alloc ?_); refine wl_of rfl ?_; refine wp_alloc hS rfl rfl rfl rfl ?_; clear hS; intro gb2 w1 hS)) | ((with_reducible refine g_alloc ?_); refine wl_of rfl ?_; refine wp_alloc hS rfl rfl rfl rfl ?_; clear hS; intro ga w1 hS) | (refine au5 (n := ?_); clear hS; intro w' hS))
          clear HA HRA
          as_aux_lemma =>
          replace hS := hS.out (m := mach g m2) (by (repeat (first | exact Out.here | apply Out.there)))
          obtain ⟨wq, rfl⟩ : ∃ wq, wq = w' := ⟨_, rfl⟩
          obtain ⟨F, hA, hR, hB⟩ := St.split (A := [mach g m2]) hS
          clear hS
          have hS := hA.drew
          clear hA
          refine wp_region_held (S := fun W => Cmp.Mod F wq W) (by kernel_rfl) ?_
          change wpAnyH _ _ _ _ _ _ _ _ (wq).drew
          generalize (wq).drew = w2 at hS ⊢
          (refine whd_take 0 rfl rfl (by kernel_rfl) (by kernel_rfl) (by kernel_rfl) (fun _ _ _ h => h) rfl (fun W hW => by (go_simp; try with_reducible rfl)) hS.base ?_; simp only [Act.put, List.setIfInBounds_toArray, List.set_cons_zero, List.set_cons_succ])
          (refine whd_take 1 rfl rfl (by kernel_rfl) (by kernel_rfl) (by kernel_rfl) (fun _ _ _ h => h) rfl (fun W hW => by (go_simp; try with_reducible rfl)) hS.base ?_; simp only [Act.put, List.setIfInBounds_toArray, List.set_cons_zero, List.set_cons_succ])
          (refine whd_take 2 rfl rfl (by kernel_rfl) (by kernel_rfl) (by kernel_rfl) (fun _ _ _ h => h) rfl (fun W hW => by (go_simp; try with_reducible rfl)) hS.base ?_; simp only [Act.put, List.setIfInBounds_toArray, List.set_cons_zero, List.set_cons_succ])
          (refine whd_take 3 rfl rfl (by kernel_rfl) (by kernel_rfl) (by kernel_rfl) (fun _ _ _ h => h) rfl (fun W hW => (by exact a_index rfl rfl rfl rfl (Reads.at hV (hR W hW) (by (repeat (first | exact List.Sublist.refl _ | apply List.Sublist.cons)))) (by rfl) (by omega) (by omega))) hS.base ?_; simp only [Act.put, List.setIfInBounds_toArray, List.set_cons_zero, List.set_cons_succ])
          (refine whd_take 4 rfl rfl (by kernel_rfl) (by kernel_rfl) (by kernel_rfl) (fun _ _ _ h => h) rfl (fun W hW => (by exact a_field rfl rfl (Reads.at hV (hR W hW) (by (repeat (first | exact List.Sublist.refl _ | apply List.Sublist.cons)))) (by omega) rfl rfl rfl (by rfl))) hS.base ?_; simp only [Act.put, List.setIfInBounds_toArray, List.set_cons_zero, List.set_cons_succ])
          (refine whd_take 5 rfl rfl (by kernel_rfl) (by kernel_rfl) (by kernel_rfl) (fun _ _ _ h => h) rfl (fun W hW => (by exact a_loadF rfl (Reads.at hV (hR W hW) (by (repeat (first | exact List.Sublist.refl _ | apply List.Sublist.cons)))) rfl rfl rfl (by intro _; rfl) hget (by rfl))) hS.base ?_; simp only [Act.put, List.setIfInBounds_toArray, List.set_cons_zero, List.set_cons_succ])
          (refine whd_take 6 rfl rfl (by kernel_rfl) (by kernel_rfl) (by kernel_rfl) (fun _ _ _ h => h) rfl (fun W hW => by (go_simp; try with_reducible rfl)) hS.base ?_; simp only [Act.put, List.setIfInBounds_toArray, List.set_cons_zero, List.set_cons_succ])
          (refine whd_take 7 rfl rfl (by kernel_rfl) (by kernel_rfl) (by kernel_rfl) (fun _ _ _ h => h) rfl (fun W hW => by (go_simp; try with_reducible rfl)) hS.base ?_; simp only [Act.put, List.setIfInBounds_toArray, List.set_cons_zero, List.set_cons_succ])
          (refine whd_take 8 rfl rfl (by kernel_rfl) (by kernel_rfl) (by kernel_rfl) (fun _ _ _ h => h) rfl (fun W hW => (by exact a_index rfl rfl rfl rfl (Reads.at hV (hR W hW) (by (repeat (first | exact List.Sublist.refl _ | apply List.Sublist.cons)))) (by rfl) (by omega) (by omega))) hS.base ?_; simp only [Act.put, List.setIfInBounds_toArray, List.set_cons_zero, List.set_cons_succ])
          (refine whd_take 9 rfl rfl (by kernel_rfl) (by kernel_rfl) (by kernel_rfl) (fun _ _ _ h => h) rfl (fun W hW => (by exact a_field rfl rfl (Reads.at hV (hR W hW) (by (repeat (first | exact List.Sublist.refl _ | apply List.Sublist.cons)))) (by omega) rfl rfl rfl (by rfl))) hS.base ?_; simp only [Act.put, List.setIfInBounds_toArray, List.set_cons_zero, List.set_cons_succ])
          (refine whd_take 10 rfl rfl (by kernel_rfl) (by kernel_rfl) (by kernel_rfl) (fun _ _ _ h => h) rfl (fun W hW => (by exact a_loadF rfl (Reads.at hV (hR W hW) (by (repeat (first | exact List.Sublist.refl _ | apply List.Sublist.cons)))) rfl rfl rfl (by intro _; rfl) hget (by rfl))) hS.base ?_; simp only [Act.put, List.setIfInBounds_toArray, List.set_cons_zero, List.set_cons_succ])
          (refine whd_take 11 rfl rfl (by kernel_rfl) (by kernel_rfl) (by kernel_rfl) (fun _ _ _ h => h) rfl (fun W hW => by (go_simp; try with_reducible rfl)) hS.base ?_; simp only [Act.put, List.setIfInBounds_toArray, List.set_cons_zero, List.set_cons_succ])
          (refine whd_take 12 rfl rfl (by kernel_rfl) (by kernel_rfl) (by kernel_rfl) (fun _ _ _ h => h) rfl (fun W hW => by (go_simp; try with_reducible rfl)) hS.base ?_; simp only [Act.put, List.setIfInBounds_toArray, List.set_cons_zero, List.set_cons_succ])
          (refine whd_take 13 rfl rfl (by kernel_rfl) (by kernel_rfl) (by kernel_rfl) (fun _ _ _ h => h) rfl (fun W hW => (by exact a_index rfl rfl rfl rfl (Reads.at hV (hR W hW) (by (repeat (first | exact List.Sublist.refl _ | apply List.Sublist.cons)))) (by rfl) (by omega) (by omega))) hS.base ?_; simp only [Act.put, List.setIfInBounds_toArray, List.set_cons_zero, List.set_cons_succ])
          (refine whd_take 14 rfl rfl (by kernel_rfl) (by kernel_rfl) (by kernel_rfl) (fun _ _ _ h => h) rfl (fun W hW => (by exact a_field rfl rfl (Reads.at hV (hR W hW) (by (repeat (first | exact List.Sublist.refl _ | apply List.Sublist.cons)))) (by omega) rfl rfl rfl (by rfl))) hS.base ?_; simp only [Act.put, List.setIfInBounds_toArray, List.set_cons_zero, List.set_cons_succ])
          (refine whd_take 15 rfl rfl (by kernel_rfl) (by kernel_rfl) (by kernel_rfl) (fun _ _ _ h => h) rfl (fun W hW => (by exact a_loadF rfl (Reads.at hV (hR W hW) (by (repeat (first | exact List.Sublist.refl _ | apply List.Sublist.cons)))) rfl rfl rfl (by intro _; rfl) hget (by rfl))) hS.base ?_; simp only [Act.put, List.setIfInBounds_toArray, List.set_cons_zero, List.set_cons_succ])
          apply mrg
          · intro kk
            have hS := hS
            (refine wpAnyH_all (rs := [16, 20]) (by kernel_rfl) (by simp) ?_; intro i hi; simp only [List.mem_cons, List.not_mem_nil, or_false] at hi)
            rcases hi with rfl | rfl
            · refine wod_of rfl rfl rfl (wp_call (by go_simp) (HC.out F wq _ _ g (hS.out (by (repeat (first | exact Out.here | apply Out.there))))) ?_)
              clear hS
              rintro e w4 ⟨rfl, hS⟩
              refine ⟨_, rfl, hS.base, ?_⟩
              simp only [Act.put, List.setIfInBounds_toArray, List.set_cons_zero, List.set_cons_succ]
              (refine whd_take 17 rfl rfl (by kernel_rfl) (by kernel_rfl) (by kernel_rfl) (fun _ _ _ h => h) rfl (fun W hW => by (go_simp; try with_reducible rfl)) hS.base ?_; simp only [Act.put, List.setIfInBounds_toArray, List.set_cons_zero, List.set_cons_succ])
              (refine whd_take 18 rfl rfl (by kernel_rfl) (by kernel_rfl) (by kernel_rfl) (fun _ _ _ h => h) rfl (fun W hW => by (go_simp; try with_reducible rfl)) hS.base ?_; simp only [Act.put, List.setIfInBounds_toArray, List.set_cons_zero, List.set_cons_succ])
              (refine whd_take 19 rfl rfl (by kernel_rfl) (by kernel_rfl) (by kernel_rfl) (fun _ _ _ h => h) rfl (fun W hW => by (go_simp; try with_reducible rfl)) hS.base ?_; simp only [Act.put, List.setIfInBounds_toArray, List.set_cons_zero, List.set_cons_succ])
              (refine wpAnyH_all (rs := [20]) (by kernel_rfl) (by simp) ?_; intro i hi; have hi := List.mem_singleton.1 hi; subst hi)
              (refine wod_of rfl rfl rfl (wp_alloc hS rfl rfl rfl rfl ?_); clear hS; intro gc w3 hS; refine ⟨hS.base, ?_⟩; simp only [Act.put, List.setIfInBounds_toArray, List.set_cons_zero, List.set_cons_succ])
              (refine wpAnyH_all (rs := [21]) (by kernel_rfl) (by simp) ?_; intro i hi; have hi := List.mem_singleton.1 hi; subst hi)
              refine won_of rfl rfl rfl (k_sta hS rfl rfl rfl (h := ?_))
              clear hS
              intro w6 hS
              simp only [List.take, List.drop, List.cons_append, List.nil_append, List.length_cons, List.length_nil] at hS
              refine ⟨hS.base, ?_⟩
              simp only [Act.put, List.setIfInBounds_toArray, List.set_cons_zero, List.set_cons_succ]
              (refine whd_take 22 rfl rfl (by kernel_rfl) (by kernel_rfl) (by kernel_rfl) (fun _ _ _ h => h) rfl (fun W hW => by (go_simp; try with_reducible rfl)) hS.base ?_; simp only [Act.put, List.setIfInBounds_toArray, List.set_cons_zero, List.set_cons_succ])
              (refine wpAnyH_done (by kernel_rfl) ?_ _)
              replace hS := hB _ _ hS
              simp only [List.cons_append, List.nil_append] at hS
              revert gc w6 hS
              exact kk.out
            · (refine wod_of rfl rfl rfl (wp_alloc hS rfl rfl rfl rfl ?_); clear hS; intro gc w3 hS; refine ⟨hS.base, ?_⟩; simp only [Act.put, List.setIfInBounds_toArray, List.set_cons_zero, List.set_cons_succ])
              (refine wpAnyH_all (rs := [16]) (by kernel_rfl) (by simp) ?_; intro i hi; have hi := List.mem_singleton.1 hi; subst hi)
              refine wod_of rfl rfl rfl (wp_call (by go_simp) (HC.out F wq _ _ g (hS.out (by (repeat (first | exact Out.here | apply Out.there))))) ?_)
              clear hS
              rintro e w4 ⟨rfl, hS⟩
              refine ⟨_, rfl, hS.base, ?_⟩
              simp only [Act.put, List.setIfInBounds_toArray, List.set_cons_zero, List.set_cons_succ]
              (refine whd_take 17 rfl rfl (by kernel_rfl) (by kernel_rfl) (by kernel_rfl) (fun _ _ _ h => h) rfl (fun W hW => by (go_simp; try with_reducible rfl)) hS.base ?_; simp only [Act.put, List.setIfInBounds_toArray, List.set_cons_zero, List.set_cons_succ])
              (refine whd_take 18 rfl rfl (by kernel_rfl) (by kernel_rfl) (by kernel_rfl) (fun _ _ _ h => h) rfl (fun W hW => by (go_simp; try with_reducible rfl)) hS.base ?_; simp only [Act.put, List.setIfInBounds_toArray, List.set_cons_zero, List.set_cons_succ])
              (refine whd_take 19 rfl rfl (by kernel_rfl) (by kernel_rfl) (by kernel_rfl) (fun _ _ _ h => h) rfl (fun W hW => by (go_simp; try with_reducible rfl)) hS.base ?_; simp only [Act.put, List.setIfInBounds_toArray, List.set_cons_zero, List.set_cons_succ])
              (refine wpAnyH_all (rs := [21]) (by kernel_rfl) (by simp) ?_; intro i hi; have hi := List.mem_singleton.1 hi; subst hi)
              refine won_of rfl rfl rfl (k_sta hS rfl rfl rfl (h := ?_))
              clear hS
              intro w6 hS
              simp only [List.take, List.drop, List.cons_append, List.nil_append, List.length_cons, List.length_nil] at hS
              refine ⟨hS.base, ?_⟩
              simp only [Act.put, List.setIfInBounds_toArray, List.set_cons_zero, List.set_cons_succ]
              (refine whd_take 22 rfl rfl (by kernel_rfl) (by kernel_rfl) (by kernel_rfl) (fun _ _ _ h => h) rfl (fun W hW => by (go_simp; try with_reducible rfl)) hS.base ?_; simp only [Act.put, List.setIfInBounds_toArray, List.set_cons_zero, List.set_cons_succ])
              (refine wpAnyH_done (by kernel_rfl) ?_ _)
              replace hS := hB _ _ hS
              simp only [List.cons_append, List.nil_append] at hS
              exact kk.out _ _ hS.pick
          clear hS
          intro gc w6 hS
          go_wp2_with (fail)
          obtain ⟨wz, rfl⟩ : ∃ wz, wz = w6 := ⟨_, rfl⟩
          as_aux_lemma =>
          replace hS := hS.out (m := rmach g2 m2) (by (repeat (first | exact Out.here | apply Out.there)))
          obtain ⟨wq, rfl⟩ : ∃ wq, wq = wz := ⟨_, rfl⟩
          obtain ⟨F, hA, hR, hB⟩ := St.split (A := [rmach g2 m2]) hS
          clear hS
          have hS := hA.drew
          clear hA
          refine wp_region_held (S := fun W => Cmp.Mod F wq W) (by kernel_rfl) ?_
          change wpAnyH _ _ _ _ _ _ _ _ (wq).drew
          generalize (wq).drew = w2 at hS ⊢
          (refine whd_take 0 rfl rfl (by kernel_rfl) (by kernel_rfl) (by kernel_rfl) (fun _ _ _ h => h) rfl (fun W hW => by (go_simp; try with_reducible rfl)) hS.base ?_; simp only [Act.put, List.setIfInBounds_toArray, List.set_cons_zero, List.set_cons_succ])
          (refine whd_take 1 rfl rfl (by kernel_rfl) (by kernel_rfl) (by kernel_rfl) (fun _ _ _ h => h) rfl (fun W hW => by (go_simp; try with_reducible rfl)) hS.base ?_; simp only [Act.put, List.setIfInBounds_toArray, List.set_cons_zero, List.set_cons_succ])
          (refine whd_take 2 rfl rfl (by kernel_rfl) (by kernel_rfl) (by kernel_rfl) (fun _ _ _ h => h) rfl (fun W hW => by (go_simp; try with_reducible rfl)) hS.base ?_; simp only [Act.put, List.setIfInBounds_toArray, List.set_cons_zero, List.set_cons_succ])
          (refine whd_take 3 rfl rfl (by kernel_rfl) (by kernel_rfl) (by kernel_rfl) (fun _ _ _ h => h) rfl (fun W hW => (by exact a_index rfl rfl rfl rfl (Reads.at hV (hR W hW) (by (repeat (first | exact List.Sublist.refl _ | apply List.Sublist.cons)))) (by rfl) (by omega) (by omega))) hS.base ?_; simp only [Act.put, List.setIfInBounds_toArray, List.set_cons_zero, List.set_cons_succ])
          (refine whd_take 4 rfl rfl (by kernel_rfl) (by kernel_rfl) (by kernel_rfl) (fun _ _ _ h => h) rfl (fun W hW => (by exact a_field rfl rfl (Reads.at hV (hR W hW) (by (repeat (first | exact List.Sublist.refl _ | apply List.Sublist.cons)))) (by omega) rfl rfl rfl (by rfl))) hS.base ?_; simp only [Act.put, List.setIfInBounds_toArray, List.set_cons_zero, List.set_cons_succ])
          (refine whd_take 5 rfl rfl (by kernel_rfl) (by kernel_rfl) (by kernel_rfl) (fun _ _ _ h => h) rfl (fun W hW => (by exact a_loadF rfl (Reads.at hV (hR W hW) (by (repeat (first | exact List.Sublist.refl _ | apply List.Sublist.cons)))) rfl rfl rfl (by intro _; rfl) hget (by rfl))) hS.base ?_; simp only [Act.put, List.setIfInBounds_toArray, List.set_cons_zero, List.set_cons_succ])
          (refine whd_take 6 rfl rfl (by kernel_rfl) (by kernel_rfl) (by kernel_rfl) (fun _ _ _ h => h) rfl (fun W hW => by (go_simp; try with_reducible rfl)) hS.base ?_; simp only [Act.put, List.setIfInBounds_toArray, List.set_cons_zero, List.set_cons_succ])
          (refine whd_take 7 rfl rfl (by kernel_rfl) (by kernel_rfl) (by kernel_rfl) (fun _ _ _ h => h) rfl (fun W hW => by (go_simp; try with_reducible rfl)) hS.base ?_; simp only [Act.put, List.setIfInBounds_toArray, List.set_cons_zero, List.set_cons_succ])
          (refine whd_take 8 rfl rfl (by kernel_rfl) (by kernel_rfl) (by kernel_rfl) (fun _ _ _ h => h) rfl (fun W hW => (by exact a_index rfl rfl rfl rfl (Reads.at hV (hR W hW) (by (repeat (first | exact List.Sublist.refl _ | apply List.Sublist.cons)))) (by rfl) (by omega) (by omega))) hS.base ?_; simp only [Act.put, List.setIfInBounds_toArray, List.set_cons_zero, List.set_cons_succ])
          (refine whd_take 9 rfl rfl (by kernel_rfl) (by kernel_rfl) (by kernel_rfl) (fun _ _ _ h => h) rfl (fun W hW => (by exact a_field rfl rfl (Reads.at hV (hR W hW) (by (repeat (first | exact List.Sublist.refl _ | apply List.Sublist.cons)))) (by omega) rfl rfl rfl (by rfl))) hS.base ?_; simp only [Act.put, List.setIfInBounds_toArray, List.set_cons_zero, List.set_cons_succ])
          (refine whd_take 10 rfl rfl (by kernel_rfl) (by kernel_rfl) (by kernel_rfl) (fun _ _ _ h => h) rfl (fun W hW => (by exact a_loadF rfl (Reads.at hV (hR W hW) (by (repeat (first | exact List.Sublist.refl _ | apply List.Sublist.cons)))) rfl rfl rfl (by intro _; rfl) hget (by rfl))) hS.base ?_; simp only [Act.put, List.setIfInBounds_toArray, List.set_cons_zero, List.set_cons_succ])
          (refine whd_take 11 rfl rfl (by kernel_rfl) (by kernel_rfl) (by kernel_rfl) (fun _ _ _ h => h) rfl (fun W hW => by (go_simp; try with_reducible rfl)) hS.base ?_; simp only [Act.put, List.setIfInBounds_toArray, List.set_cons_zero, List.set_cons_succ])
          (refine whd_take 12 rfl rfl (by kernel_rfl) (by kernel_rfl) (by kernel_rfl) (fun _ _ _ h => h) rfl (fun W hW => by (go_simp; try with_reducible rfl)) hS.base ?_; simp only [Act.put, List.setIfInBounds_toArray, List.set_cons_zero, List.set_cons_succ])
          (refine whd_take 13 rfl rfl (by kernel_rfl) (by kernel_rfl) (by kernel_rfl) (fun _ _ _ h => h) rfl (fun W hW => (by exact a_index rfl rfl rfl rfl (Reads.at hV (hR W hW) (by (repeat (first | exact List.Sublist.refl _ | apply List.Sublist.cons)))) (by rfl) (by omega) (by omega))) hS.base ?_; simp only [Act.put, List.setIfInBounds_toArray, List.set_cons_zero, List.set_cons_succ])
          (refine whd_take 14 rfl rfl (by kernel_rfl) (by kernel_rfl) (by kernel_rfl) (fun _ _ _ h => h) rfl (fun W hW => (by exact a_field rfl rfl (Reads.at hV (hR W hW) (by (repeat (first | exact List.Sublist.refl _ | apply List.Sublist.cons)))) (by omega) rfl rfl rfl (by rfl))) hS.base ?_; simp only [Act.put, List.setIfInBounds_toArray, List.set_cons_zero, List.set_cons_succ])
          (refine whd_take 15 rfl rfl (by kernel_rfl) (by kernel_rfl) (by kernel_rfl) (fun _ _ _ h => h) rfl (fun W hW => (by exact a_loadF rfl (Reads.at hV (hR W hW) (by (repeat (first | exact List.Sublist.refl _ | apply List.Sublist.cons)))) rfl rfl rfl (by intro _; rfl) hget (by rfl))) hS.base ?_; simp only [Act.put, List.setIfInBounds_toArray, List.set_cons_zero, List.set_cons_succ])
          apply mrg
          · intro kk
            have hS := hS
            (refine wpAnyH_all (rs := [16, 20]) (by kernel_rfl) (by simp) ?_; intro i hi; simp only [List.mem_cons, List.not_mem_nil, or_false] at hi)
            rcases hi with rfl | rfl
            · refine wod_of rfl rfl rfl (wp_call (by go_simp) (HRC.out F wq _ _ g2 (hS.out (by (repeat (first | exact Out.here | apply Out.there))))) ?_)
              clear hS
              rintro e w4 ⟨rfl, hS⟩
              refine ⟨_, rfl, hS.base, ?_⟩
              simp only [Act.put, List.setIfInBounds_toArray, List.set_cons_zero, List.set_cons_succ]
              (refine whd_take 17 rfl rfl (by kernel_rfl) (by kernel_rfl) (by kernel_rfl) (fun _ _ _ h => h) rfl (fun W hW => by (go_simp; try with_reducible rfl)) hS.base ?_; simp only [Act.put, List.setIfInBounds_toArray, List.set_cons_zero, List.set_cons_succ])
              (refine whd_take 18 rfl rfl (by kernel_rfl) (by kernel_rfl) (by kernel_rfl) (fun _ _ _ h => h) rfl (fun W hW => by (go_simp; try with_reducible rfl)) hS.base ?_; simp only [Act.put, List.setIfInBounds_toArray, List.set_cons_zero, List.set_cons_succ])
              (refine whd_take 19 rfl rfl (by kernel_rfl) (by kernel_rfl) (by kernel_rfl) (fun _ _ _ h => h) rfl (fun W hW => by (go_simp; try with_reducible rfl)) hS.base ?_; simp only [Act.put, List.setIfInBounds_toArray, List.set_cons_zero, List.set_cons_succ])
              (refine wpAnyH_all (rs := [20]) (by kernel_rfl) (by simp) ?_; intro i hi; have hi := List.mem_singleton.1 hi; subst hi)
              (refine wod_of rfl rfl rfl (wp_alloc hS rfl rfl rfl rfl ?_); clear hS; intro gd w3 hS; refine ⟨hS.base, ?_⟩; simp only [Act.put, List.setIfInBounds_toArray, List.set_cons_zero, List.set_cons_succ])
              (refine wpAnyH_all (rs := [21]) (by kernel_rfl) (by simp) ?_; intro i hi; have hi := List.mem_singleton.1 hi; subst hi)
              refine won_of rfl rfl rfl (k_sta hS rfl rfl rfl (h := ?_))
              clear hS
              intro w6 hS
              simp only [List.take, List.drop, List.cons_append, List.nil_append, List.length_cons, List.length_nil] at hS
              refine ⟨hS.base, ?_⟩
              simp only [Act.put, List.setIfInBounds_toArray, List.set_cons_zero, List.set_cons_succ]
              (refine whd_take 22 rfl rfl (by kernel_rfl) (by kernel_rfl) (by kernel_rfl) (fun _ _ _ h => h) rfl (fun W hW => by (go_simp; try with_reducible rfl)) hS.base ?_; simp only [Act.put, List.setIfInBounds_toArray, List.set_cons_zero, List.set_cons_succ])
              (refine wpAnyH_done (by kernel_rfl) ?_ _)
              replace hS := hB _ _ hS
              simp only [List.cons_append, List.nil_append] at hS
              revert gd w6 hS
              exact kk.out
            · (refine wod_of rfl rfl rfl (wp_alloc hS rfl rfl rfl rfl ?_); clear hS; intro gd w3 hS; refine ⟨hS.base, ?_⟩; simp only [Act.put, List.setIfInBounds_toArray, List.set_cons_zero, List.set_cons_succ])
              (refine wpAnyH_all (rs := [16]) (by kernel_rfl) (by simp) ?_; intro i hi; have hi := List.mem_singleton.1 hi; subst hi)
              refine wod_of rfl rfl rfl (wp_call (by go_simp) (HRC.out F wq _ _ g2 (hS.out (by (repeat (first | exact Out.here | apply Out.there))))) ?_)
              clear hS
              rintro e w4 ⟨rfl, hS⟩
              refine ⟨_, rfl, hS.base, ?_⟩
              simp only [Act.put, List.setIfInBounds_toArray, List.set_cons_zero, List.set_cons_succ]
              (refine whd_take 17 rfl rfl (by kernel_rfl) (by kernel_rfl) (by kernel_rfl) (fun _ _ _ h => h) rfl (fun W hW => by (go_simp; try with_reducible rfl)) hS.base ?_; simp only [Act.put, List.setIfInBounds_toArray, List.set_cons_zero, List.set_cons_succ])
              (refine whd_take 18 rfl rfl (by kernel_rfl) (by kernel_rfl) (by kernel_rfl) (fun _ _ _ h => h) rfl (fun W hW => by (go_simp; try with_reducible rfl)) hS.base ?_; simp only [Act.put, List.setIfInBounds_toArray, List.set_cons_zero, List.set_cons_succ])
              (refine whd_take 19 rfl rfl (by kernel_rfl) (by kernel_rfl) (by kernel_rfl) (fun _ _ _ h => h) rfl (fun W hW => by (go_simp; try with_reducible rfl)) hS.base ?_; simp only [Act.put, List.setIfInBounds_toArray, List.set_cons_zero, List.set_cons_succ])
              (refine wpAnyH_all (rs := [21]) (by kernel_rfl) (by simp) ?_; intro i hi; have hi := List.mem_singleton.1 hi; subst hi)
              refine won_of rfl rfl rfl (k_sta hS rfl rfl rfl (h := ?_))
              clear hS
              intro w6 hS
              simp only [List.take, List.drop, List.cons_append, List.nil_append, List.length_cons, List.length_nil] at hS
              refine ⟨hS.base, ?_⟩
              simp only [Act.put, List.setIfInBounds_toArray, List.set_cons_zero, List.set_cons_succ]
              (refine whd_take 22 rfl rfl (by kernel_rfl) (by kernel_rfl) (by kernel_rfl) (fun _ _ _ h => h) rfl (fun W hW => by (go_simp; try with_reducible rfl)) hS.base ?_; simp only [Act.put, List.setIfInBounds_toArray, List.set_cons_zero, List.set_cons_succ])
              (refine wpAnyH_done (by kernel_rfl) ?_ _)
              replace hS := hB _ _ hS
              simp only [List.cons_append, List.nil_append] at hS
              exact kk.out _ _ hS.pick
          clear hS
          intro gd w6 hS
          go_wp2_with (fail)
          clear HC HRC
          as_aux_lemma =>
          replace hS := hS.out (m := rmach g2 m2) (by (repeat (first | exact Out.here | apply Out.there)))
          (have hU := St.unpack hS; clear hS; obtain ⟨⟨gs, gl⟩, _, hS⟩ := hU; simp only [List.cons_append, List.nil_append] at hS)
          replace hS := hS.out (m := rledg gl m2.D) (by (repeat (first | exact Out.here | apply Out.there)))
          (have hU := St.unpack hS; clear hS; obtain ⟨⟨xa, xt⟩, _, hS⟩ := hU; simp only [List.cons_append, List.nil_append] at hS)
          replace hS := (((((((((hS.out (m := .row gd _ _ _) (by (repeat (first | exact Out.here | apply Out.there)))).out (m := .row gc _ _ _) (by (repeat (first | exact Out.here | apply Out.there)))).out (m := .row gb2 _ _ _) (by (repeat (first | exact Out.here | apply Out.there)))).out (m := .row ga _ _ _) (by (repeat (first | exact Out.here | apply Out.there)))).out (m := mach g m2) (by (repeat (first | exact Out.here | apply Out.there)))).out (m := .vec xt _ _ _ _) (by (repeat (first | exact Out.here | apply Out.there)))).out (m := .vec xa _ _ _ _) (by (repeat (first | exact Out.here | apply Out.there)))).out (m := .row gl _ _ _) (by (repeat (first | exact Out.here | apply Out.there)))).out (m := .row g2 _ _ _) (by (repeat (first | exact Out.here | apply Out.there)))).out (m := rses gs m2.T) (by (repeat (first | exact Out.here | apply Out.there)))
          obtain ⟨wq, rfl⟩ : ∃ wq, wq = w6 := ⟨_, rfl⟩
          obtain ⟨F, hA, hR, hB⟩ := St.split (A := [_, _, _, _, _, _, _, _, _, _]) hS
          clear hS
          have hS := hA.drew
          clear hA
          refine wp_region_held (S := fun W => Cmp.Mod F wq W) (by kernel_rfl) ?_
          change wpAnyH _ _ _ _ _ _ _ _ (wq).drew
          generalize (wq).drew = w2 at hS ⊢
          refine held_lit [false, false, false, false, false, false, false, false, false, false, false, false, false, false, false, false, false, false, false, false, false, false, false, false, false, false, false, false, false, false, false, false, false, false, false, false, false, false, false, false, false, false, false, false, false, false, false, false, false, false, false, false, false, false, false, false, false, false, false, false, false, false, false, false, false, false, false, false, false, false, false, false, false, false, false, false, false, false, false, false, false, false, false, false, false, false, false, false, false, false, false, false, false, false, false, false, false, false, false, false, false, false, false, false, false, false, false, false, false, false, false, false, false] (by kernel_rfl) ?_
          refine held_ns (by kernel_rfl) fun hNS => ?_
          refine held_tab tab16 (by kernel_rfl) fun hTB => ?_
          refine held_st hS ?_
          have hR0 := hR
          clear hR
          have hR : ∀ {A : List Ent} W, St F wq W A → St [] w W MV := fun W h => hR0 W h.base
          as_aux_lemma =>
          refine whd_take4 0 rfl rfl hNS.out hTB.out (by as_aux_lemma => kernel_rfl) (by as_aux_lemma => kernel_rfl) (by kernel_rfl) (fun _ _ _ h => h) (by kernel_rfl) (fun W hW => rdW) hS (put_lit (by first | (dsimp only [List.set_cons_zero, List.set_cons_succ]; done) | (dsimp only [List.set_cons_zero, List.set_cons_succ]; rfl))) (by first | (dsimp only [List.set_cons_zero, List.set_cons_succ]; done) | (dsimp only [List.set_cons_zero, List.set_cons_succ]; rfl)) ?_
          refine whd_take4 1 rfl rfl hNS.out hTB.out (by as_aux_lemma => kernel_rfl) (by as_aux_lemma => kernel_rfl) (by kernel_rfl) (fun _ _ _ h => h) (by kernel_rfl) (fun W hW => rdW) hS (put_lit (by first | (dsimp only [List.set_cons_zero, List.set_cons_succ]; done) | (dsimp only [List.set_cons_zero, List.set_cons_succ]; rfl))) (by first | (dsimp only [List.set_cons_zero, List.set_cons_succ]; done) | (dsimp only [List.set_cons_zero, List.set_cons_succ]; rfl)) ?_
          refine whd_take4 2 rfl rfl hNS.out hTB.out (by as_aux_lemma => kernel_rfl) (by as_aux_lemma => kernel_rfl) (by kernel_rfl) (fun _ _ _ h => h) (by kernel_rfl) (fun W hW => (by (go_simp; try with_reducible rfl))) hS (put_lit (by first | (dsimp only [List.set_cons_zero, List.set_cons_succ]; done) | (dsimp only [List.set_cons_zero, List.set_cons_succ]; rfl))) (by first | (dsimp only [List.set_cons_zero, List.set_cons_succ]; done) | (dsimp only [List.set_cons_zero, List.set_cons_succ]; rfl)) ?_
          refine whd_take4 3 rfl rfl hNS.out hTB.out (by as_aux_lemma => kernel_rfl) (by as_aux_lemma => kernel_rfl) (by kernel_rfl) (fun _ _ _ h => h) (by kernel_rfl) (fun W hW => (by (go_simp; try with_reducible rfl))) hS (put_lit (by first | (dsimp only [List.set_cons_zero, List.set_cons_succ]; done) | (dsimp only [List.set_cons_zero, List.set_cons_succ]; rfl))) (by first | (dsimp only [List.set_cons_zero, List.set_cons_succ]; done) | (dsimp only [List.set_cons_zero, List.set_cons_succ]; rfl)) ?_
          refine whd_take4 4 rfl rfl hNS.out hTB.out (by as_aux_lemma => kernel_rfl) (by as_aux_lemma => kernel_rfl) (by kernel_rfl) (fun _ _ _ h => h) (by kernel_rfl) (fun W hW => (by (go_simp; try with_reducible rfl))) hS (put_lit (by first | (dsimp only [List.set_cons_zero, List.set_cons_succ]; done) | (dsimp only [List.set_cons_zero, List.set_cons_succ]; rfl))) (by first | (dsimp only [List.set_cons_zero, List.set_cons_succ]; done) | (dsimp only [List.set_cons_zero, List.set_cons_succ]; rfl)) ?_
          refine whd_take4 5 rfl rfl hNS.out hTB.out (by as_aux_lemma => kernel_rfl) (by as_aux_lemma => kernel_rfl) (by kernel_rfl) (fun _ _ _ h => h) (by kernel_rfl) (fun W hW => (by (go_simp; try with_reducible rfl))) hS (put_lit (by first | (dsimp only [List.set_cons_zero, List.set_cons_succ]; done) | (dsimp only [List.set_cons_zero, List.set_cons_succ]; rfl))) (by first | (dsimp only [List.set_cons_zero, List.set_cons_succ]; done) | (dsimp only [List.set_cons_zero, List.set_cons_succ]; rfl)) ?_
          refine whd_take4 6 rfl rfl hNS.out hTB.out (by as_aux_lemma => kernel_rfl) (by as_aux_lemma => kernel_rfl) (by kernel_rfl) (fun _ _ _ h => h) (by kernel_rfl) (fun W hW => (by (go_simp; try with_reducible rfl))) hS (put_lit (by first | (dsimp only [List.set_cons_zero, List.set_cons_succ]; done) | (dsimp only [List.set_cons_zero, List.set_cons_succ]; rfl))) (by first | (dsimp only [List.set_cons_zero, List.set_cons_succ]; done) | (dsimp only [List.set_cons_zero, List.set_cons_succ]; rfl)) ?_
          refine whd_take4 7 rfl rfl hNS.out hTB.out (by as_aux_lemma => kernel_rfl) (by as_aux_lemma => kernel_rfl) (by kernel_rfl) (fun _ _ _ h => h) (by kernel_rfl) (fun W hW => (by (go_simp; try with_reducible rfl))) hS (put_lit (by first | (dsimp only [List.set_cons_zero, List.set_cons_succ]; done) | (dsimp only [List.set_cons_zero, List.set_cons_succ]; rfl))) (by first | (dsimp only [List.set_cons_zero, List.set_cons_succ]; done) | (dsimp only [List.set_cons_zero, List.set_cons_succ]; rfl)) ?_
          refine whd_take4 8 rfl rfl hNS.out hTB.out (by as_aux_lemma => kernel_rfl) (by as_aux_lemma => kernel_rfl) (by kernel_rfl) (fun _ _ _ h => h) (by kernel_rfl) (fun W hW => (by (go_simp; try with_reducible rfl))) hS (put_lit (by first | (dsimp only [List.set_cons_zero, List.set_cons_succ]; done) | (dsimp only [List.set_cons_zero, List.set_cons_succ]; rfl))) (by first | (dsimp only [List.set_cons_zero, List.set_cons_succ]; done) | (dsimp only [List.set_cons_zero, List.set_cons_succ]; rfl)) ?_
          refine whd_take4 9 rfl rfl hNS.out hTB.out (by as_aux_lemma => kernel_rfl) (by as_aux_lemma => kernel_rfl) (by kernel_rfl) (fun _ _ _ h => h) (by kernel_rfl) (fun W hW => rdW) hS (put_lit (by first | (dsimp only [List.set_cons_zero, List.set_cons_succ]; done) | (dsimp only [List.set_cons_zero, List.set_cons_succ]; rfl))) (by first | (dsimp only [List.set_cons_zero, List.set_cons_succ]; done) | (dsimp only [List.set_cons_zero, List.set_cons_succ]; rfl)) ?_
          as_aux_lemma =>
          refine whd_take4 10 rfl rfl hNS.out hTB.out (by as_aux_lemma => kernel_rfl) (by as_aux_lemma => kernel_rfl) (by kernel_rfl) (fun _ _ _ h => h) (by kernel_rfl) (fun W hW => rdW) hS (put_lit (by first | (dsimp only [List.set_cons_zero, List.set_cons_succ]; done) | (dsimp only [List.set_cons_zero, List.set_cons_succ]; rfl))) (by first | (dsimp only [List.set_cons_zero, List.set_cons_succ]; done) | (dsimp only [List.set_cons_zero, List.set_cons_succ]; rfl)) ?_
          refine whd_take4 11 rfl rfl hNS.out hTB.out (by as_aux_lemma => kernel_rfl) (by as_aux_lemma => kernel_rfl) (by kernel_rfl) (fun _ _ _ h => h) (by kernel_rfl) (fun W hW => (by (go_simp; try with_reducible rfl))) hS (put_lit (by first | (dsimp only [List.set_cons_zero, List.set_cons_succ]; done) | (dsimp only [List.set_cons_zero, List.set_cons_succ]; rfl))) (by first | (dsimp only [List.set_cons_zero, List.set_cons_succ]; done) | (dsimp only [List.set_cons_zero, List.set_cons_succ]; rfl)) ?_
          refine whd_take4 12 rfl rfl hNS.out hTB.out (by as_aux_lemma => kernel_rfl) (by as_aux_lemma => kernel_rfl) (by kernel_rfl) (fun _ _ _ h => h) (by kernel_rfl) (fun W hW => (by (go_simp; try with_reducible rfl))) hS (put_lit (by first | (dsimp only [List.set_cons_zero, List.set_cons_succ]; done) | (dsimp only [List.set_cons_zero, List.set_cons_succ]; rfl))) (by first | (dsimp only [List.set_cons_zero, List.set_cons_succ]; done) | (dsimp only [List.set_cons_zero, List.set_cons_succ]; rfl)) ?_
          refine whd_take4 13 rfl rfl hNS.out hTB.out (by as_aux_lemma => kernel_rfl) (by as_aux_lemma => kernel_rfl) (by kernel_rfl) (fun _ _ _ h => h) (by kernel_rfl) (fun W hW => (by (go_simp; try with_reducible rfl))) hS (put_lit (by first | (dsimp only [List.set_cons_zero, List.set_cons_succ]; done) | (dsimp only [List.set_cons_zero, List.set_cons_succ]; rfl))) (by first | (dsimp only [List.set_cons_zero, List.set_cons_succ]; done) | (dsimp only [List.set_cons_zero, List.set_cons_succ]; rfl)) ?_
          refine whd_take4 14 rfl rfl hNS.out hTB.out (by as_aux_lemma => kernel_rfl) (by as_aux_lemma => kernel_rfl) (by kernel_rfl) (fun _ _ _ h => h) (by kernel_rfl) (fun W hW => (by (go_simp; try with_reducible rfl))) hS (put_lit (by first | (dsimp only [List.set_cons_zero, List.set_cons_succ]; done) | (dsimp only [List.set_cons_zero, List.set_cons_succ]; rfl))) (by first | (dsimp only [List.set_cons_zero, List.set_cons_succ]; done) | (dsimp only [List.set_cons_zero, List.set_cons_succ]; rfl)) ?_
          refine whd_take4 15 rfl rfl hNS.out hTB.out (by as_aux_lemma => kernel_rfl) (by as_aux_lemma => kernel_rfl) (by kernel_rfl) (fun _ _ _ h => h) (by kernel_rfl) (fun W hW => (by (go_simp; try with_reducible rfl))) hS (put_lit (by first | (dsimp only [List.set_cons_zero, List.set_cons_succ]; done) | (dsimp only [List.set_cons_zero, List.set_cons_succ]; rfl))) (by first | (dsimp only [List.set_cons_zero, List.set_cons_succ]; done) | (dsimp only [List.set_cons_zero, List.set_cons_succ]; rfl)) ?_
          refine whd_take4 16 rfl rfl hNS.out hTB.out (by as_aux_lemma => kernel_rfl) (by as_aux_lemma => kernel_rfl) (by kernel_rfl) (fun _ _ _ h => h) (by kernel_rfl) (fun W hW => (by (go_simp; try with_reducible rfl))) hS (put_lit (by first | (dsimp only [List.set_cons_zero, List.set_cons_succ]; done) | (dsimp only [List.set_cons_zero, List.set_cons_succ]; rfl))) (by first | (dsimp only [List.set_cons_zero, List.set_cons_succ]; done) | (dsimp only [List.set_cons_zero, List.set_cons_succ]; rfl)) ?_
          refine whd_take4 17 rfl rfl hNS.out hTB.out (by as_aux_lemma => kernel_rfl) (by as_aux_lemma => kernel_rfl) (by kernel_rfl) (fun _ _ _ h => h) (by kernel_rfl) (fun W hW => (by (go_simp; try with_reducible rfl))) hS (put_lit (by first | (dsimp only [List.set_cons_zero, List.set_cons_succ]; done) | (dsimp only [List.set_cons_zero, List.set_cons_succ]; rfl))) (by first | (dsimp only [List.set_cons_zero, List.set_cons_succ]; done) | (dsimp only [List.set_cons_zero, List.set_cons_succ]; rfl)) ?_
          refine whd_take4 18 rfl rfl hNS.out hTB.out (by as_aux_lemma => kernel_rfl) (by as_aux_lemma => kernel_rfl) (by kernel_rfl) (fun _ _ _ h => h) (by kernel_rfl) (fun W hW => (by (go_simp; try with_reducible rfl))) hS (put_lit (by first | (dsimp only [List.set_cons_zero, List.set_cons_succ]; done) | (dsimp only [List.set_cons_zero, List.set_cons_succ]; rfl))) (by first | (dsimp only [List.set_cons_zero, List.set_cons_succ]; done) | (dsimp only [List.set_cons_zero, List.set_cons_succ]; rfl)) ?_
          refine whd_take4 19 rfl rfl hNS.out hTB.out (by as_aux_lemma => kernel_rfl) (by as_aux_lemma => kernel_rfl) (by kernel_rfl) (fun _ _ _ h => h) (by kernel_rfl) (fun W hW => (by (go_simp; try with_reducible rfl))) hS (put_lit (by first | (dsimp only [List.set_cons_zero, List.set_cons_succ]; done) | (dsimp only [List.set_cons_zero, List.set_cons_succ]; rfl))) (by first | (dsimp only [List.set_cons_zero, List.set_cons_succ]; done) | (dsimp only [List.set_cons_zero, List.set_cons_succ]; rfl)) ?_
          refine whd_take4 20 rfl rfl hNS.out hTB.out (by as_aux_lemma => kernel_rfl) (by as_aux_lemma => kernel_rfl) (by kernel_rfl) (fun _ _ _ h => h) (by kernel_rfl) (fun W hW => (by (go_simp; try with_reducible rfl))) hS (put_lit (by first | (dsimp only [List.set_cons_zero, List.set_cons_succ]; done) | (dsimp only [List.set_cons_zero, List.set_cons_succ]; rfl))) (by first | (dsimp only [List.set_cons_zero, List.set_cons_succ]; done) | (dsimp only [List.set_cons_zero, List.set_cons_succ]; rfl)) ?_
          refine whd_take4 21 rfl rfl hNS.out hTB.out (by as_aux_lemma => kernel_rfl) (by as_aux_lemma => kernel_rfl) (by kernel_rfl) (fun _ _ _ h => h) (by kernel_rfl) (fun W hW => (by (go_simp; try with_reducible rfl))) hS (put_lit (by first | (dsimp only [List.set_cons_zero, List.set_cons_succ]; done) | (dsimp only [List.set_cons_zero, List.set_cons_succ]; rfl))) (by first | (dsimp only [List.set_cons_zero, List.set_cons_succ]; done) | (dsimp only [List.set_cons_zero, List.set_cons_succ]; rfl)) ?_
          as_aux_lemma =>
          refine whd_take4 22 rfl rfl hNS.out hTB.out (by as_aux_lemma => kernel_rfl) (by as_aux_lemma => kernel_rfl) (by kernel_rfl) (fun _ _ _ h => h) (by kernel_rfl) (fun W hW => (by exact a_index rfl rfl rfl rfl (hV _ (hR W hW)) (by rfl) (by omega) (by omega))) hS (put_lit (by first | (dsimp only [List.set_cons_zero, List.set_cons_succ]; done) | (dsimp only [List.set_cons_zero, List.set_cons_succ]; rfl))) (by first | (dsimp only [List.set_cons_zero, List.set_cons_succ]; done) | (dsimp only [List.set_cons_zero, List.set_cons_succ]; rfl)) ?_
          refine whd_take4 23 rfl rfl hNS.out hTB.out (by as_aux_lemma => kernel_rfl) (by as_aux_lemma => kernel_rfl) (by kernel_rfl) (fun _ _ _ h => h) (by kernel_rfl) (fun W hW => (by exact a_field rfl rfl (hV _ (hR W hW)) (by omega) rfl rfl rfl (by rfl))) hS (put_lit (by first | (dsimp only [List.set_cons_zero, List.set_cons_succ]; done) | (dsimp only [List.set_cons_zero, List.set_cons_succ]; rfl))) (by first | (dsimp only [List.set_cons_zero, List.set_cons_succ]; done) | (dsimp only [List.set_cons_zero, List.set_cons_succ]; rfl)) ?_
          refine whd_take4 24 rfl rfl hNS.out hTB.out (by as_aux_lemma => kernel_rfl) (by as_aux_lemma => kernel_rfl) (by kernel_rfl) (fun _ _ _ h => h) (by kernel_rfl) (fun W hW => (by exact a_loadF rfl (hV _ (hR W hW)) rfl rfl rfl (by intro _; rfl) hget (by rfl))) hS (put_lit (by first | (dsimp only [List.set_cons_zero, List.set_cons_succ]; done) | (dsimp only [List.set_cons_zero, List.set_cons_succ]; rfl))) (by first | (dsimp only [List.set_cons_zero, List.set_cons_succ]; done) | (dsimp only [List.set_cons_zero, List.set_cons_succ]; rfl)) ?_
          refine whd_take4 25 rfl rfl hNS.out hTB.out (by as_aux_lemma => kernel_rfl) (by as_aux_lemma => kernel_rfl) (by kernel_rfl) (fun _ _ _ h => h) (by kernel_rfl) (fun W hW => (by (go_simp; try with_reducible rfl))) hS (put_lit (by first | (dsimp only [List.set_cons_zero, List.set_cons_succ]; done) | (dsimp only [List.set_cons_zero, List.set_cons_succ]; rfl))) (by first | (dsimp only [List.set_cons_zero, List.set_cons_succ]; done) | (dsimp only [List.set_cons_zero, List.set_cons_succ]; rfl)) ?_
          refine whd_take4 26 rfl rfl hNS.out hTB.out (by as_aux_lemma => kernel_rfl) (by as_aux_lemma => kernel_rfl) (by kernel_rfl) (fun _ _ _ h => h) (by kernel_rfl) (fun W hW => (by (go_simp; try with_reducible rfl))) hS (put_lit (by first | (dsimp only [List.set_cons_zero, List.set_cons_succ]; done) | (dsimp only [List.set_cons_zero, List.set_cons_succ]; rfl))) (by first | (dsimp only [List.set_cons_zero, List.set_cons_succ]; done) | (dsimp only [List.set_cons_zero, List.set_cons_succ]; rfl)) ?_
          refine whd_take4 27 rfl rfl hNS.out hTB.out (by as_aux_lemma => kernel_rfl) (by as_aux_lemma => kernel_rfl) (by kernel_rfl) (fun _ _ _ h => h) (by kernel_rfl) (fun W hW => (by exact a_index rfl rfl rfl rfl (hV _ (hR W hW)) (by rfl) (by omega) (by omega))) hS (put_lit (by first | (dsimp only [List.set_cons_zero, List.set_cons_succ]; done) | (dsimp only [List.set_cons_zero, List.set_cons_succ]; rfl))) (by first | (dsimp only [List.set_cons_zero, List.set_cons_succ]; done) | (dsimp only [List.set_cons_zero, List.set_cons_succ]; rfl)) ?_
          refine whd_take4 28 rfl rfl hNS.out hTB.out (by as_aux_lemma => kernel_rfl) (by as_aux_lemma => kernel_rfl) (by kernel_rfl) (fun _ _ _ h => h) (by kernel_rfl) (fun W hW => (by exact a_field rfl rfl (hV _ (hR W hW)) (by omega) rfl rfl rfl (by rfl))) hS (put_lit (by first | (dsimp only [List.set_cons_zero, List.set_cons_succ]; done) | (dsimp only [List.set_cons_zero, List.set_cons_succ]; rfl))) (by first | (dsimp only [List.set_cons_zero, List.set_cons_succ]; done) | (dsimp only [List.set_cons_zero, List.set_cons_succ]; rfl)) ?_
          refine whd_take4 29 rfl rfl hNS.out hTB.out (by as_aux_lemma => kernel_rfl) (by as_aux_lemma => kernel_rfl) (by kernel_rfl) (fun _ _ _ h => h) (by kernel_rfl) (fun W hW => (by exact a_loadF rfl (hV _ (hR W hW)) rfl rfl rfl (by intro _; rfl) hget (by rfl))) hS (put_lit (by first | (dsimp only [List.set_cons_zero, List.set_cons_succ]; done) | (dsimp only [List.set_cons_zero, List.set_cons_succ]; rfl))) (by first | (dsimp only [List.set_cons_zero, List.set_cons_succ]; done) | (dsimp only [List.set_cons_zero, List.set_cons_succ]; rfl)) ?_
          refine whd_take4 30 rfl rfl hNS.out hTB.out (by as_aux_lemma => kernel_rfl) (by as_aux_lemma => kernel_rfl) (by kernel_rfl) (fun _ _ _ h => h) (by kernel_rfl) (fun W hW => (by (go_simp; try with_reducible rfl))) hS (put_lit (by first | (dsimp only [List.set_cons_zero, List.set_cons_succ]; done) | (dsimp only [List.set_cons_zero, List.set_cons_succ]; rfl))) (by first | (dsimp only [List.set_cons_zero, List.set_cons_succ]; done) | (dsimp only [List.set_cons_zero, List.set_cons_succ]; rfl)) ?_
          refine whd_take4 31 rfl rfl hNS.out hTB.out (by as_aux_lemma => kernel_rfl) (by as_aux_lemma => kernel_rfl) (by kernel_rfl) (fun _ _ _ h => h) (by kernel_rfl) (fun W hW => (by (go_simp; try with_reducible rfl))) hS (put_lit (by first | (dsimp only [List.set_cons_zero, List.set_cons_succ]; done) | (dsimp only [List.set_cons_zero, List.set_cons_succ]; rfl))) (by first | (dsimp only [List.set_cons_zero, List.set_cons_succ]; done) | (dsimp only [List.set_cons_zero, List.set_cons_succ]; rfl)) ?_
          as_aux_lemma =>
          refine whd_take4 32 rfl rfl hNS.out hTB.out (by as_aux_lemma => kernel_rfl) (by as_aux_lemma => kernel_rfl) (by kernel_rfl) (fun _ _ _ h => h) (by kernel_rfl) (fun W hW => (by exact a_index rfl rfl rfl rfl (hV _ (hR W hW)) (by rfl) (by omega) (by omega))) hS (put_lit (by first | (dsimp only [List.set_cons_zero, List.set_cons_succ]; done) | (dsimp only [List.set_cons_zero, List.set_cons_succ]; rfl))) (by first | (dsimp only [List.set_cons_zero, List.set_cons_succ]; done) | (dsimp only [List.set_cons_zero, List.set_cons_succ]; rfl)) ?_
          refine whd_take4 33 rfl rfl hNS.out hTB.out (by as_aux_lemma => kernel_rfl) (by as_aux_lemma => kernel_rfl) (by kernel_rfl) (fun _ _ _ h => h) (by kernel_rfl) (fun W hW => (by exact a_field rfl rfl (hV _ (hR W hW)) (by omega) rfl rfl rfl (by rfl))) hS (put_lit (by first | (dsimp only [List.set_cons_zero, List.set_cons_succ]; done) | (dsimp only [List.set_cons_zero, List.set_cons_succ]; rfl))) (by first | (dsimp only [List.set_cons_zero, List.set_cons_succ]; done) | (dsimp only [List.set_cons_zero, List.set_cons_succ]; rfl)) ?_
          refine whd_take4 34 rfl rfl hNS.out hTB.out (by as_aux_lemma => kernel_rfl) (by as_aux_lemma => kernel_rfl) (by kernel_rfl) (fun _ _ _ h => h) (by kernel_rfl) (fun W hW => (by exact a_loadF rfl (hV _ (hR W hW)) rfl rfl rfl (by intro _; rfl) hget (by rfl))) hS (put_lit (by first | (dsimp only [List.set_cons_zero, List.set_cons_succ]; done) | (dsimp only [List.set_cons_zero, List.set_cons_succ]; rfl))) (by first | (dsimp only [List.set_cons_zero, List.set_cons_succ]; done) | (dsimp only [List.set_cons_zero, List.set_cons_succ]; rfl)) ?_
          refine whd_take4 36 rfl rfl hNS.out hTB.out (by as_aux_lemma => kernel_rfl) (by as_aux_lemma => kernel_rfl) (by kernel_rfl) (fun _ _ _ h => h) (by kernel_rfl) (fun W hW => (by (go_simp; try with_reducible rfl))) hS (put_lit (by first | (dsimp only [List.set_cons_zero, List.set_cons_succ]; done) | (dsimp only [List.set_cons_zero, List.set_cons_succ]; rfl))) (by first | (dsimp only [List.set_cons_zero, List.set_cons_succ]; done) | (dsimp only [List.set_cons_zero, List.set_cons_succ]; rfl)) ?_
          refine whd_take4 37 rfl rfl hNS.out hTB.out (by as_aux_lemma => kernel_rfl) (by as_aux_lemma => kernel_rfl) (by kernel_rfl) (fun _ _ _ h => h) (by kernel_rfl) (fun W hW => (by (go_simp; try with_reducible rfl))) hS (put_lit (by first | (dsimp only [List.set_cons_zero, List.set_cons_succ]; done) | (dsimp only [List.set_cons_zero, List.set_cons_succ]; rfl))) (by first | (dsimp only [List.set_cons_zero, List.set_cons_succ]; done) | (dsimp only [List.set_cons_zero, List.set_cons_succ]; rfl)) ?_
          refine whd_take4 38 rfl rfl hNS.out hTB.out (by as_aux_lemma => kernel_rfl) (by as_aux_lemma => kernel_rfl) (by kernel_rfl) (fun _ _ _ h => h) (by kernel_rfl) (fun W hW => (by (go_simp; try with_reducible rfl))) hS (put_lit (by first | (dsimp only [List.set_cons_zero, List.set_cons_succ]; done) | (dsimp only [List.set_cons_zero, List.set_cons_succ]; rfl))) (by first | (dsimp only [List.set_cons_zero, List.set_cons_succ]; done) | (dsimp only [List.set_cons_zero, List.set_cons_succ]; rfl)) ?_
          refine whd_take4 39 rfl rfl hNS.out hTB.out (by as_aux_lemma => kernel_rfl) (by as_aux_lemma => kernel_rfl) (by kernel_rfl) (fun _ _ _ h => h) (by kernel_rfl) (fun W hW => rdW) hS (put_lit (by first | (dsimp only [List.set_cons_zero, List.set_cons_succ]; done) | (dsimp only [List.set_cons_zero, List.set_cons_succ]; rfl))) (by first | (dsimp only [List.set_cons_zero, List.set_cons_succ]; done) | (dsimp only [List.set_cons_zero, List.set_cons_succ]; rfl)) ?_
          refine whd_take4 40 rfl rfl hNS.out hTB.out (by as_aux_lemma => kernel_rfl) (by as_aux_lemma => kernel_rfl) (by kernel_rfl) (fun _ _ _ h => h) (by kernel_rfl) (fun W hW => (by (go_simp; try with_reducible rfl))) hS (put_lit (by first | (dsimp only [List.set_cons_zero, List.set_cons_succ]; done) | (dsimp only [List.set_cons_zero, List.set_cons_succ]; rfl))) (by first | (dsimp only [List.set_cons_zero, List.set_cons_succ]; done) | (dsimp only [List.set_cons_zero, List.set_cons_succ]; rfl)) ?_
          refine whd_take4 41 rfl rfl hNS.out hTB.out (by as_aux_lemma => kernel_rfl) (by as_aux_lemma => kernel_rfl) (by kernel_rfl) (fun _ _ _ h => h) (by kernel_rfl) (fun W hW => (by (go_simp; try with_reducible rfl))) hS (put_lit (by first | (dsimp only [List.set_cons_zero, List.set_cons_succ]; done) | (dsimp only [List.set_cons_zero, List.set_cons_succ]; rfl))) (by first | (dsimp only [List.set_cons_zero, List.set_cons_succ]; done) | (dsimp only [List.set_cons_zero, List.set_cons_succ]; rfl)) ?_
          as_aux_lemma =>
          refine whd_take4 42 rfl rfl hNS.out hTB.out (by as_aux_lemma => kernel_rfl) (by as_aux_lemma => kernel_rfl) (by kernel_rfl) (fun _ _ _ h => h) (by kernel_rfl) (fun W hW => (by exact a_index rfl rfl rfl rfl (hV _ (hR W hW)) (by rfl) (by omega) (by omega))) hS (put_lit (by first | (dsimp only [List.set_cons_zero, List.set_cons_succ]; done) | (dsimp only [List.set_cons_zero, List.set_cons_succ]; rfl))) (by first | (dsimp only [List.set_cons_zero, List.set_cons_succ]; done) | (dsimp only [List.set_cons_zero, List.set_cons_succ]; rfl)) ?_
          refine whd_take4 43 rfl rfl hNS.out hTB.out (by as_aux_lemma => kernel_rfl) (by as_aux_lemma => kernel_rfl) (by kernel_rfl) (fun _ _ _ h => h) (by kernel_rfl) (fun W hW => (by exact a_field rfl rfl (hV _ (hR W hW)) (by omega) rfl rfl rfl (by rfl))) hS (put_lit (by first | (dsimp only [List.set_cons_zero, List.set_cons_succ]; done) | (dsimp only [List.set_cons_zero, List.set_cons_succ]; rfl))) (by first | (dsimp only [List.set_cons_zero, List.set_cons_succ]; done) | (dsimp only [List.set_cons_zero, List.set_cons_succ]; rfl)) ?_
          refine whd_take4 44 rfl rfl hNS.out hTB.out (by as_aux_lemma => kernel_rfl) (by as_aux_lemma => kernel_rfl) (by kernel_rfl) (fun _ _ _ h => h) (by kernel_rfl) (fun W hW => (by exact a_loadF rfl (hV _ (hR W hW)) rfl rfl rfl (by intro _; rfl) hget (by rfl))) hS (put_lit (by first | (dsimp only [List.set_cons_zero, List.set_cons_succ]; done) | (dsimp only [List.set_cons_zero, List.set_cons_succ]; rfl))) (by first | (dsimp only [List.set_cons_zero, List.set_cons_succ]; done) | (dsimp only [List.set_cons_zero, List.set_cons_succ]; rfl)) ?_
          refine whd_take4 45 rfl rfl hNS.out hTB.out (by as_aux_lemma => kernel_rfl) (by as_aux_lemma => kernel_rfl) (by kernel_rfl) (fun _ _ _ h => h) (by kernel_rfl) (fun W hW => (by (go_simp; try with_reducible rfl))) hS (put_lit (by first | (dsimp only [List.set_cons_zero, List.set_cons_succ]; done) | (dsimp only [List.set_cons_zero, List.set_cons_succ]; rfl))) (by first | (dsimp only [List.set_cons_zero, List.set_cons_succ]; done) | (dsimp only [List.set_cons_zero, List.set_cons_succ]; rfl)) ?_
          refine whd_take4 46 rfl rfl hNS.out hTB.out (by as_aux_lemma => kernel_rfl) (by as_aux_lemma => kernel_rfl) (by kernel_rfl) (fun _ _ _ h => h) (by kernel_rfl) (fun W hW => (by (go_simp; try with_reducible rfl))) hS (put_lit (by first | (dsimp only [List.set_cons_zero, List.set_cons_succ]; done) | (dsimp only [List.set_cons_zero, List.set_cons_succ]; rfl))) (by first | (dsimp only [List.set_cons_zero, List.set_cons_succ]; done) | (dsimp only [List.set_cons_zero, List.set_cons_succ]; rfl)) ?_
          refine whd_take4 47 rfl rfl hNS.out hTB.out (by as_aux_lemma => kernel_rfl) (by as_aux_lemma => kernel_rfl) (by kernel_rfl) (fun _ _ _ h => h) (by kernel_rfl) (fun W hW => (by exact a_index rfl rfl rfl rfl (hV _ (hR W hW)) (by rfl) (by omega) (by omega))) hS (put_lit (by first | (dsimp only [List.set_cons_zero, List.set_cons_succ]; done) | (dsimp only [List.set_cons_zero, List.set_cons_succ]; rfl))) (by first | (dsimp only [List.set_cons_zero, List.set_cons_succ]; done) | (dsimp only [List.set_cons_zero, List.set_cons_succ]; rfl)) ?_
          refine whd_take4 48 rfl rfl hNS.out hTB.out (by as_aux_lemma => kernel_rfl) (by as_aux_lemma => kernel_rfl) (by kernel_rfl) (fun _ _ _ h => h) (by kernel_rfl) (fun W hW => (by exact a_field rfl rfl (hV _ (hR W hW)) (by omega) rfl rfl rfl (by rfl))) hS (put_lit (by first | (dsimp only [List.set_cons_zero, List.set_cons_succ]; done) | (dsimp only [List.set_cons_zero, List.set_cons_succ]; rfl))) (by first | (dsimp only [List.set_cons_zero, List.set_cons_succ]; done) | (dsimp only [List.set_cons_zero, List.set_cons_succ]; rfl)) ?_
          as_aux_lemma =>
          refine whd_take4 49 rfl rfl hNS.out hTB.out (by as_aux_lemma => kernel_rfl) (by as_aux_lemma => kernel_rfl) (by kernel_rfl) (fun _ _ _ h => h) (by kernel_rfl) (fun W hW => (by exact a_loadF rfl (hV _ (hR W hW)) rfl rfl rfl (by intro _; rfl) hget (by rfl))) hS (put_lit (by first | (dsimp only [List.set_cons_zero, List.set_cons_succ]; done) | (dsimp only [List.set_cons_zero, List.set_cons_succ]; rfl))) (by first | (dsimp only [List.set_cons_zero, List.set_cons_succ]; done) | (dsimp only [List.set_cons_zero, List.set_cons_succ]; rfl)) ?_
          refine whd_take4 50 rfl rfl hNS.out hTB.out (by as_aux_lemma => kernel_rfl) (by as_aux_lemma => kernel_rfl) (by kernel_rfl) (fun _ _ _ h => h) (by kernel_rfl) (fun W hW => (by (go_simp; try with_reducible rfl))) hS (put_lit (by first | (dsimp only [List.set_cons_zero, List.set_cons_succ]; done) | (dsimp only [List.set_cons_zero, List.set_cons_succ]; rfl))) (by first | (dsimp only [List.set_cons_zero, List.set_cons_succ]; done) | (dsimp only [List.set_cons_zero, List.set_cons_succ]; rfl)) ?_
          refine whd_take4 51 rfl rfl hNS.out hTB.out (by as_aux_lemma => kernel_rfl) (by as_aux_lemma => kernel_rfl) (by kernel_rfl) (fun _ _ _ h => h) (by kernel_rfl) (fun W hW => (by (go_simp; try with_reducible rfl))) hS (put_lit (by first | (dsimp only [List.set_cons_zero, List.set_cons_succ]; done) | (dsimp only [List.set_cons_zero, List.set_cons_succ]; rfl))) (by first | (dsimp only [List.set_cons_zero, List.set_cons_succ]; done) | (dsimp only [List.set_cons_zero, List.set_cons_succ]; rfl)) ?_
          refine whd_take4 52 rfl rfl hNS.out hTB.out (by as_aux_lemma => kernel_rfl) (by as_aux_lemma => kernel_rfl) (by kernel_rfl) (fun _ _ _ h => h) (by kernel_rfl) (fun W hW => (by exact a_index rfl rfl rfl rfl (hV _ (hR W hW)) (by rfl) (by omega) (by omega))) hS (put_lit (by first | (dsimp only [List.set_cons_zero, List.set_cons_succ]; done) | (dsimp only [List.set_cons_zero, List.set_cons_succ]; rfl))) (by first | (dsimp only [List.set_cons_zero, List.set_cons_succ]; done) | (dsimp only [List.set_cons_zero, List.set_cons_succ]; rfl)) ?_
          refine whd_take4 53 rfl rfl hNS.out hTB.out (by as_aux_lemma => kernel_rfl) (by as_aux_lemma => kernel_rfl) (by kernel_rfl) (fun _ _ _ h => h) (by kernel_rfl) (fun W hW => (by exact a_field rfl rfl (hV _ (hR W hW)) (by omega) rfl rfl rfl (by rfl))) hS (put_lit (by first | (dsimp only [List.set_cons_zero, List.set_cons_succ]; done) | (dsimp only [List.set_cons_zero, List.set_cons_succ]; rfl))) (by first | (dsimp only [List.set_cons_zero, List.set_cons_succ]; done) | (dsimp only [List.set_cons_zero, List.set_cons_succ]; rfl)) ?_
          refine whd_take4 54 rfl rfl hNS.out hTB.out (by as_aux_lemma => kernel_rfl) (by as_aux_lemma => kernel_rfl) (by kernel_rfl) (fun _ _ _ h => h) (by kernel_rfl) (fun W hW => (by exact a_loadF rfl (hV _ (hR W hW)) rfl rfl rfl (by intro _; rfl) hget (by rfl))) hS (put_lit (by first | (dsimp only [List.set_cons_zero, List.set_cons_succ]; done) | (dsimp only [List.set_cons_zero, List.set_cons_succ]; rfl))) (by first | (dsimp only [List.set_cons_zero, List.set_cons_succ]; done) | (dsimp only [List.set_cons_zero, List.set_cons_succ]; rfl)) ?_
          as_aux_lemma =>
          ((refine wpAnyH_all (rs := [35]) (by kernel_rfl) (by simp) ?_; intro i hi; have hi := List.mem_singleton.1 hi; subst hi); refine wod_of rfl rfl rfl (wp_call (by go_simp) (HVE.out F wq _ _ g (hS.out (by (repeat (first | exact Out.here | apply Out.there))))) ?_); clear hS; rintro e w4 ⟨rfl, hS⟩; refine ⟨_, rfl, and_hold hS.pick ?_⟩; clear hS; intro hS; simp only [Act.put, List.setIfInBounds_toArray, List.set_cons_zero, List.set_cons_succ])
          as_aux_lemma =>
          ((refine wpAnyH_all (rs := [55]) (by kernel_rfl) (by simp) ?_; intro i hi; have hi := List.mem_singleton.1 hi; subst hi); refine wod_of rfl rfl rfl (wp_call (by go_simp) (HRV.out F wq _ _ gs (hS.out (by (repeat (first | exact Out.here | apply Out.there))))) ?_); clear hS; rintro e w4 ⟨rfl, hS⟩; refine ⟨_, rfl, and_hold hS.pick ?_⟩; clear hS; intro hS; simp only [Act.put, List.setIfInBounds_toArray, List.set_cons_zero, List.set_cons_succ])
          refine whd_take4 56 rfl rfl hNS.out hTB.out (by as_aux_lemma => kernel_rfl) (by as_aux_lemma => kernel_rfl) (by kernel_rfl) (fun _ _ _ h => h) (by kernel_rfl) (fun W hW => (by (go_simp; try with_reducible rfl))) hS (put_lit (by first | (dsimp only [List.set_cons_zero, List.set_cons_succ]; done) | (dsimp only [List.set_cons_zero, List.set_cons_succ]; rfl))) (by first | (dsimp only [List.set_cons_zero, List.set_cons_succ]; done) | (dsimp only [List.set_cons_zero, List.set_cons_succ]; rfl)) ?_
          refine whd_take4 57 rfl rfl hNS.out hTB.out (by as_aux_lemma => kernel_rfl) (by as_aux_lemma => kernel_rfl) (by kernel_rfl) (fun _ _ _ h => h) (by kernel_rfl) (fun W hW => (by (go_simp; try with_reducible rfl))) hS (put_lit (by first | (dsimp only [List.set_cons_zero, List.set_cons_succ]; done) | (dsimp only [List.set_cons_zero, List.set_cons_succ]; rfl))) (by first | (dsimp only [List.set_cons_zero, List.set_cons_succ]; done) | (dsimp only [List.set_cons_zero, List.set_cons_succ]; rfl)) ?_
          refine whd_take4 58 rfl rfl hNS.out hTB.out (by as_aux_lemma => kernel_rfl) (by as_aux_lemma => kernel_rfl) (by kernel_rfl) (fun _ _ _ h => h) (by kernel_rfl) (fun W hW => (by (go_simp; try with_reducible rfl))) hS (put_lit (by first | (dsimp only [List.set_cons_zero, List.set_cons_succ]; done) | (dsimp only [List.set_cons_zero, List.set_cons_succ]; rfl))) (by first | (dsimp only [List.set_cons_zero, List.set_cons_succ]; done) | (dsimp only [List.set_cons_zero, List.set_cons_succ]; rfl)) ?_
          refine held_un hS ?_
          clear hS
          rintro vt - hS
          simp only [List.cons_append, List.nil_append] at hS ⊢
          as_aux_lemma =>
          refine whd_take4 59 rfl rfl hNS.out hTB.out (by as_aux_lemma => kernel_rfl) (by as_aux_lemma => kernel_rfl) (by kernel_rfl) (fun _ _ _ h => h) (by kernel_rfl) (fun W hW => (by (go_simp; try with_reducible rfl))) hS (put_lit (by first | (dsimp only [List.set_cons_zero, List.set_cons_succ]; done) | (dsimp only [List.set_cons_zero, List.set_cons_succ]; rfl))) (by first | (dsimp only [List.set_cons_zero, List.set_cons_succ]; done) | (dsimp only [List.set_cons_zero, List.set_cons_succ]; rfl)) ?_
          refine whd_take4 61 rfl rfl hNS.out hTB.out (by as_aux_lemma => kernel_rfl) (by as_aux_lemma => kernel_rfl) (by kernel_rfl) (fun _ _ _ h => h) (by kernel_rfl) (fun W hW => (by (go_simp; try with_reducible rfl))) hS (put_lit (by first | (dsimp only [List.set_cons_zero, List.set_cons_succ]; done) | (dsimp only [List.set_cons_zero, List.set_cons_succ]; rfl))) (by first | (dsimp only [List.set_cons_zero, List.set_cons_succ]; done) | (dsimp only [List.set_cons_zero, List.set_cons_succ]; rfl)) ?_
          refine whd_take4 62 rfl rfl hNS.out hTB.out (by as_aux_lemma => kernel_rfl) (by as_aux_lemma => kernel_rfl) (by kernel_rfl) (fun _ _ _ h => h) (by kernel_rfl) (fun W hW => (by (go_simp; try with_reducible rfl))) hS (put_lit (by first | (dsimp only [List.set_cons_zero, List.set_cons_succ]; done) | (dsimp only [List.set_cons_zero, List.set_cons_succ]; rfl))) (by first | (dsimp only [List.set_cons_zero, List.set_cons_succ]; done) | (dsimp only [List.set_cons_zero, List.set_cons_succ]; rfl)) ?_
          refine whd_take4 63 rfl rfl hNS.out hTB.out (by as_aux_lemma => kernel_rfl) (by as_aux_lemma => kernel_rfl) (by kernel_rfl) (fun _ _ _ h => h) (by kernel_rfl) (fun W hW => (by (go_simp; try with_reducible rfl))) hS (put_lit (by first | (dsimp only [List.set_cons_zero, List.set_cons_succ]; done) | (dsimp only [List.set_cons_zero, List.set_cons_succ]; rfl))) (by first | (dsimp only [List.set_cons_zero, List.set_cons_succ]; done) | (dsimp only [List.set_cons_zero, List.set_cons_succ]; rfl)) ?_
          refine whd_take4 64 rfl rfl hNS.out hTB.out (by as_aux_lemma => kernel_rfl) (by as_aux_lemma => kernel_rfl) (by kernel_rfl) (fun _ _ _ h => h) (by kernel_rfl) (fun W hW => (by exact a_loadA (vs := [_, _, _]) hW rfl rfl rfl rfl (by (repeat (first | exact Ix.here | apply Ix.there))) 3 (by rfl) (by rfl) (by rfl))) hS (put_lit (by first | (dsimp only [List.set_cons_zero, List.set_cons_succ]; done) | (dsimp only [List.set_cons_zero, List.set_cons_succ]; rfl))) (by first | (dsimp only [List.set_cons_zero, List.set_cons_succ]; done) | (dsimp only [List.set_cons_zero, List.set_cons_succ]; rfl)) ?_
          as_aux_lemma =>
          (refine wpAnyH_all (rs := [60]) (by kernel_rfl) (by simp) ?_; intro i hi; have hi := List.mem_singleton.1 hi; subst hi)
          refine wod_of rfl rfl rfl (wp_call (by go_simp) (HMK.out F wq _ _ g (hS.out (by (repeat (first | exact Out.here | apply Out.there))))) ?_)
          rintro e w4 ⟨rfl, h⟩
          replace hS := hS.same h.base
          clear h
          refine ⟨_, rfl, hS, ?_⟩
          simp only [Act.put, List.setIfInBounds_toArray, List.set_cons_zero, List.set_cons_succ]
          as_aux_lemma =>
          refine whd_take4 65 rfl rfl hNS.out hTB.out (by as_aux_lemma => kernel_rfl) (by as_aux_lemma => kernel_rfl) (by kernel_rfl) (fun _ _ _ h => h) (by kernel_rfl) (fun W hW => (by (go_simp; try with_reducible rfl))) hS (put_lit (by first | (dsimp only [List.set_cons_zero, List.set_cons_succ]; done) | (dsimp only [List.set_cons_zero, List.set_cons_succ]; rfl))) (by first | (dsimp only [List.set_cons_zero, List.set_cons_succ]; done) | (dsimp only [List.set_cons_zero, List.set_cons_succ]; rfl)) ?_
          refine whd_take4 66 rfl rfl hNS.out hTB.out (by as_aux_lemma => kernel_rfl) (by as_aux_lemma => kernel_rfl) (by kernel_rfl) (fun _ _ _ h => h) (by kernel_rfl) (fun W hW => (by (go_simp; try with_reducible rfl))) hS (put_lit (by first | (dsimp only [List.set_cons_zero, List.set_cons_succ]; done) | (dsimp only [List.set_cons_zero, List.set_cons_succ]; rfl))) (by first | (dsimp only [List.set_cons_zero, List.set_cons_succ]; done) | (dsimp only [List.set_cons_zero, List.set_cons_succ]; rfl)) ?_
          refine whd_take4 67 rfl rfl hNS.out hTB.out (by as_aux_lemma => kernel_rfl) (by as_aux_lemma => kernel_rfl) (by kernel_rfl) (fun _ _ _ h => h) (by kernel_rfl) (fun W hW => (by (go_simp; try with_reducible rfl))) hS (put_lit (by first | (dsimp only [List.set_cons_zero, List.set_cons_succ]; done) | (dsimp only [List.set_cons_zero, List.set_cons_succ]; rfl))) (by first | (dsimp only [List.set_cons_zero, List.set_cons_succ]; done) | (dsimp only [List.set_cons_zero, List.set_cons_succ]; rfl)) ?_
          refine whd_take4 68 rfl rfl hNS.out hTB.out (by as_aux_lemma => kernel_rfl) (by as_aux_lemma => kernel_rfl) (by kernel_rfl) (fun _ _ _ h => h) (by kernel_rfl) (fun W hW => (by (go_simp; try with_reducible rfl))) hS (put_lit (by first | (dsimp only [List.set_cons_zero, List.set_cons_succ]; done) | (dsimp only [List.set_cons_zero, List.set_cons_succ]; rfl))) (by first | (dsimp only [List.set_cons_zero, List.set_cons_succ]; done) | (dsimp only [List.set_cons_zero, List.set_cons_succ]; rfl)) ?_
          as_aux_lemma =>
          refine whd_take4 70 rfl rfl hNS.out hTB.out (by as_aux_lemma => kernel_rfl) (by as_aux_lemma => kernel_rfl) (by kernel_rfl) (fun _ _ _ h => h) (by kernel_rfl) (fun W hW => (by (go_simp; try with_reducible rfl))) hS (put_lit (by first | (dsimp only [List.set_cons_zero, List.set_cons_succ]; done) | (dsimp only [List.set_cons_zero, List.set_cons_succ]; rfl))) (by first | (dsimp only [List.set_cons_zero, List.set_cons_succ]; done) | (dsimp only [List.set_cons_zero, List.set_cons_succ]; rfl)) ?_
          refine whd_take4 71 rfl rfl hNS.out hTB.out (by as_aux_lemma => kernel_rfl) (by as_aux_lemma => kernel_rfl) (by kernel_rfl) (fun _ _ _ h => h) (by kernel_rfl) (fun W hW => (by (go_simp; try with_reducible rfl))) hS (put_lit (by first | (dsimp only [List.set_cons_zero, List.set_cons_succ]; done) | (dsimp only [List.set_cons_zero, List.set_cons_succ]; rfl))) (by first | (dsimp only [List.set_cons_zero, List.set_cons_succ]; done) | (dsimp only [List.set_cons_zero, List.set_cons_succ]; rfl)) ?_
          refine whd_take4 72 rfl rfl hNS.out hTB.out (by as_aux_lemma => kernel_rfl) (by as_aux_lemma => kernel_rfl) (by kernel_rfl) (fun _ _ _ h => h) (by kernel_rfl) (fun W hW => (by (go_simp; try with_reducible rfl))) hS (put_lit (by first | (dsimp only [List.set_cons_zero, List.set_cons_succ]; done) | (dsimp only [List.set_cons_zero, List.set_cons_succ]; rfl))) (by first | (dsimp only [List.set_cons_zero, List.set_cons_succ]; done) | (dsimp only [List.set_cons_zero, List.set_cons_succ]; rfl)) ?_
          refine whd_take4 73 rfl rfl hNS.out hTB.out (by as_aux_lemma => kernel_rfl) (by as_aux_lemma => kernel_rfl) (by kernel_rfl) (fun _ _ _ h => h) (by kernel_rfl) (fun W hW => rdW) hS (put_lit (by first | (dsimp only [List.set_cons_zero, List.set_cons_succ]; done) | (dsimp only [List.set_cons_zero, List.set_cons_succ]; rfl))) (by first | (dsimp only [List.set_cons_zero, List.set_cons_succ]; done) | (dsimp only [List.set_cons_zero, List.set_cons_succ]; rfl)) ?_
          refine whd_take4 74 rfl rfl hNS.out hTB.out (by as_aux_lemma => kernel_rfl) (by as_aux_lemma => kernel_rfl) (by kernel_rfl) (fun _ _ _ h => h) (by kernel_rfl) (fun W hW => (by (go_simp; try with_reducible rfl))) hS (put_lit (by first | (dsimp only [List.set_cons_zero, List.set_cons_succ]; done) | (dsimp only [List.set_cons_zero, List.set_cons_succ]; rfl))) (by first | (dsimp only [List.set_cons_zero, List.set_cons_succ]; done) | (dsimp only [List.set_cons_zero, List.set_cons_succ]; rfl)) ?_
          refine whd_take4 75 rfl rfl hNS.out hTB.out (by as_aux_lemma => kernel_rfl) (by as_aux_lemma => kernel_rfl) (by kernel_rfl) (fun _ _ _ h => h) (by kernel_rfl) (fun W hW => (by (go_simp; try with_reducible rfl))) hS (put_lit (by first | (dsimp only [List.set_cons_zero, List.set_cons_succ]; done) | (dsimp only [List.set_cons_zero, List.set_cons_succ]; rfl))) (by first | (dsimp only [List.set_cons_zero, List.set_cons_succ]; done) | (dsimp only [List.set_cons_zero, List.set_cons_succ]; rfl)) ?_
          refine whd_take4 76 rfl rfl hNS.out hTB.out (by as_aux_lemma => kernel_rfl) (by as_aux_lemma => kernel_rfl) (by kernel_rfl) (fun _ _ _ h => h) (by kernel_rfl) (fun W hW => rdW) hS (put_lit (by first | (dsimp only [List.set_cons_zero, List.set_cons_succ]; done) | (dsimp only [List.set_cons_zero, List.set_cons_succ]; rfl))) (by first | (dsimp only [List.set_cons_zero, List.set_cons_succ]; done) | (dsimp only [List.set_cons_zero, List.set_cons_succ]; rfl)) ?_
          as_aux_lemma =>
          (refine wpAnyH_all (rs := [69]) (by kernel_rfl) (by simp) ?_; intro i hi; have hi := List.mem_singleton.1 hi; subst hi)
          refine wod_of rfl rfl rfl (wp_call (by go_simp) (HSE.out F wq _ _ g (hS.out (by (repeat (first | exact Out.here | apply Out.there))))) ?_)
          clear hS
          rintro e w4 ⟨us, rfl, hS⟩
          refine ⟨_, rfl, hS.pick, ?_⟩
          simp only [Act.put, List.setIfInBounds_toArray, List.set_cons_zero, List.set_cons_succ]
          as_aux_lemma =>
          (refine wpAnyH_all (rs := [77]) (by kernel_rfl) (by simp) ?_; intro i hi; have hi := List.mem_singleton.1 hi; subst hi)
          refine wod_of rfl rfl rfl (wp_call (by go_simp) (same_any us vt m2.T m2.T hS (fun W h => h.rdx (by (repeat (first | exact Ix.here | apply Ix.there)))) (fun W h => h.rdx (by (repeat (first | exact Ix.here | apply Ix.there)))) (by omega)) ?_)
          clear hS
          rintro e w5 ⟨rfl, hS⟩
          refine ⟨_, rfl, and_hold hS.pick ?_⟩
          clear hS
          intro hS
          simp only [Act.put, List.setIfInBounds_toArray, List.set_cons_zero, List.set_cons_succ]
          simp only [decide_true]
          as_aux_lemma =>
          refine whd_take4 78 rfl rfl hNS.out hTB.out (by as_aux_lemma => kernel_rfl) (by as_aux_lemma => kernel_rfl) (by kernel_rfl) (fun _ _ _ h => h) (by kernel_rfl) (fun W hW => (by (go_simp; try with_reducible rfl))) hS (put_lit (by first | (dsimp only [List.set_cons_zero, List.set_cons_succ]; done) | (dsimp only [List.set_cons_zero, List.set_cons_succ]; rfl))) (by first | (dsimp only [List.set_cons_zero, List.set_cons_succ]; done) | (dsimp only [List.set_cons_zero, List.set_cons_succ]; rfl)) ?_
          refine whd_take4 79 rfl rfl hNS.out hTB.out (by as_aux_lemma => kernel_rfl) (by as_aux_lemma => kernel_rfl) (by kernel_rfl) (fun _ _ _ h => h) (by kernel_rfl) (fun W hW => (by (go_simp; try with_reducible rfl))) hS (put_lit (by first | (dsimp only [List.set_cons_zero, List.set_cons_succ]; done) | (dsimp only [List.set_cons_zero, List.set_cons_succ]; rfl))) (by first | (dsimp only [List.set_cons_zero, List.set_cons_succ]; done) | (dsimp only [List.set_cons_zero, List.set_cons_succ]; rfl)) ?_
          refine whd_take4 80 rfl rfl hNS.out hTB.out (by as_aux_lemma => kernel_rfl) (by as_aux_lemma => kernel_rfl) (by kernel_rfl) (fun _ _ _ h => h) (by kernel_rfl) (fun W hW => (by (go_simp; try with_reducible rfl))) hS (put_lit (by first | (dsimp only [List.set_cons_zero, List.set_cons_succ]; done) | (dsimp only [List.set_cons_zero, List.set_cons_succ]; rfl))) (by first | (dsimp only [List.set_cons_zero, List.set_cons_succ]; done) | (dsimp only [List.set_cons_zero, List.set_cons_succ]; rfl)) ?_
          refine whd_take4 81 rfl rfl hNS.out hTB.out (by as_aux_lemma => kernel_rfl) (by as_aux_lemma => kernel_rfl) (by kernel_rfl) (fun _ _ _ h => h) (by kernel_rfl) (fun W hW => (by (go_simp; try with_reducible rfl))) hS (put_lit (by first | (dsimp only [List.set_cons_zero, List.set_cons_succ]; done) | (dsimp only [List.set_cons_zero, List.set_cons_succ]; rfl))) (by first | (dsimp only [List.set_cons_zero, List.set_cons_succ]; done) | (dsimp only [List.set_cons_zero, List.set_cons_succ]; rfl)) ?_
          as_aux_lemma =>
          refine whd_take4 83 rfl rfl hNS.out hTB.out (by as_aux_lemma => kernel_rfl) (by as_aux_lemma => kernel_rfl) (by kernel_rfl) (fun _ _ _ h => h) (by kernel_rfl) (fun W hW => (by (go_simp; try with_reducible rfl))) hS (put_lit (by first | (dsimp only [List.set_cons_zero, List.set_cons_succ]; done) | (dsimp only [List.set_cons_zero, List.set_cons_succ]; rfl))) (by first | (dsimp only [List.set_cons_zero, List.set_cons_succ]; done) | (dsimp only [List.set_cons_zero, List.set_cons_succ]; rfl)) ?_
          refine whd_take4 84 rfl rfl hNS.out hTB.out (by as_aux_lemma => kernel_rfl) (by as_aux_lemma => kernel_rfl) (by kernel_rfl) (fun _ _ _ h => h) (by kernel_rfl) (fun W hW => (by (go_simp; try with_reducible rfl))) hS (put_lit (by first | (dsimp only [List.set_cons_zero, List.set_cons_succ]; done) | (dsimp only [List.set_cons_zero, List.set_cons_succ]; rfl))) (by first | (dsimp only [List.set_cons_zero, List.set_cons_succ]; done) | (dsimp only [List.set_cons_zero, List.set_cons_succ]; rfl)) ?_
          refine whd_take4 85 rfl rfl hNS.out hTB.out (by as_aux_lemma => kernel_rfl) (by as_aux_lemma => kernel_rfl) (by kernel_rfl) (fun _ _ _ h => h) (by kernel_rfl) (fun W hW => (by (go_simp; try with_reducible rfl))) hS (put_lit (by first | (dsimp only [List.set_cons_zero, List.set_cons_succ]; done) | (dsimp only [List.set_cons_zero, List.set_cons_succ]; rfl))) (by first | (dsimp only [List.set_cons_zero, List.set_cons_succ]; done) | (dsimp only [List.set_cons_zero, List.set_cons_succ]; rfl)) ?_
          refine whd_take4 86 rfl rfl hNS.out hTB.out (by as_aux_lemma => kernel_rfl) (by as_aux_lemma => kernel_rfl) (by kernel_rfl) (fun _ _ _ h => h) (by kernel_rfl) (fun W hW => rdW) hS (put_lit (by first | (dsimp only [List.set_cons_zero, List.set_cons_succ]; done) | (dsimp only [List.set_cons_zero, List.set_cons_succ]; rfl))) (by first | (dsimp only [List.set_cons_zero, List.set_cons_succ]; done) | (dsimp only [List.set_cons_zero, List.set_cons_succ]; rfl)) ?_
          refine whd_take4 87 rfl rfl hNS.out hTB.out (by as_aux_lemma => kernel_rfl) (by as_aux_lemma => kernel_rfl) (by kernel_rfl) (fun _ _ _ h => h) (by kernel_rfl) (fun W hW => (by (go_simp; try with_reducible rfl))) hS (put_lit (by first | (dsimp only [List.set_cons_zero, List.set_cons_succ]; done) | (dsimp only [List.set_cons_zero, List.set_cons_succ]; rfl))) (by first | (dsimp only [List.set_cons_zero, List.set_cons_succ]; done) | (dsimp only [List.set_cons_zero, List.set_cons_succ]; rfl)) ?_
          refine whd_take4 88 rfl rfl hNS.out hTB.out (by as_aux_lemma => kernel_rfl) (by as_aux_lemma => kernel_rfl) (by kernel_rfl) (fun _ _ _ h => h) (by kernel_rfl) (fun W hW => (by (go_simp; try with_reducible rfl))) hS (put_lit (by first | (dsimp only [List.set_cons_zero, List.set_cons_succ]; done) | (dsimp only [List.set_cons_zero, List.set_cons_succ]; rfl))) (by first | (dsimp only [List.set_cons_zero, List.set_cons_succ]; done) | (dsimp only [List.set_cons_zero, List.set_cons_succ]; rfl)) ?_
          refine whd_take4 89 rfl rfl hNS.out hTB.out (by as_aux_lemma => kernel_rfl) (by as_aux_lemma => kernel_rfl) (by kernel_rfl) (fun _ _ _ h => h) (by kernel_rfl) (fun W hW => rdW) hS (put_lit (by first | (dsimp only [List.set_cons_zero, List.set_cons_succ]; done) | (dsimp only [List.set_cons_zero, List.set_cons_succ]; rfl))) (by first | (dsimp only [List.set_cons_zero, List.set_cons_succ]; done) | (dsimp only [List.set_cons_zero, List.set_cons_succ]; rfl)) ?_
          as_aux_lemma =>
          (refine wpAnyH_all (rs := [82]) (by kernel_rfl) (by simp) ?_; intro i hi; have hi := List.mem_singleton.1 hi; subst hi)
          refine wod_of rfl rfl rfl (wp_call (by go_simp) (HAC.out F wq _ _ g (hS.out (by (repeat (first | exact Out.here | apply Out.there))))) ?_)
          clear hS
          rintro e w4 ⟨ua, rfl, hS⟩
          refine ⟨_, rfl, hS.pick, ?_⟩
          simp only [Act.put, List.setIfInBounds_toArray, List.set_cons_zero, List.set_cons_succ]
          as_aux_lemma =>
          (refine wpAnyH_all (rs := [90]) (by kernel_rfl) (by simp) ?_; intro i hi; have hi := List.mem_singleton.1 hi; subst hi)
          refine wod_of rfl rfl rfl (wp_call (by go_simp) (sameAccounts_any m2.D.A m2.D.A ua xa _ _ _ rfl rfl (hS.rdx (by (repeat (first | exact Ix.here | apply Ix.there)))) (hS.rdx (by (repeat (first | exact Ix.here | apply Ix.there))))) ?_)
          rintro e w5 ⟨rfl, h⟩
          replace hS := hS.same h.base
          clear h
          refine ⟨_, rfl, and_hold hS.pick ?_⟩
          clear hS
          intro hS
          simp only [Act.put, List.setIfInBounds_toArray, List.set_cons_zero, List.set_cons_succ]
          simp only [decide_true]
          as_aux_lemma =>
          refine whd_take4 91 rfl rfl hNS.out hTB.out (by as_aux_lemma => kernel_rfl) (by as_aux_lemma => kernel_rfl) (by kernel_rfl) (fun _ _ _ h => h) (by kernel_rfl) (fun W hW => (by (go_simp; try with_reducible rfl))) hS (put_lit (by first | (dsimp only [List.set_cons_zero, List.set_cons_succ]; done) | (dsimp only [List.set_cons_zero, List.set_cons_succ]; rfl))) (by first | (dsimp only [List.set_cons_zero, List.set_cons_succ]; done) | (dsimp only [List.set_cons_zero, List.set_cons_succ]; rfl)) ?_
          refine whd_take4 92 rfl rfl hNS.out hTB.out (by as_aux_lemma => kernel_rfl) (by as_aux_lemma => kernel_rfl) (by kernel_rfl) (fun _ _ _ h => h) (by kernel_rfl) (fun W hW => (by (go_simp; try with_reducible rfl))) hS (put_lit (by first | (dsimp only [List.set_cons_zero, List.set_cons_succ]; done) | (dsimp only [List.set_cons_zero, List.set_cons_succ]; rfl))) (by first | (dsimp only [List.set_cons_zero, List.set_cons_succ]; done) | (dsimp only [List.set_cons_zero, List.set_cons_succ]; rfl)) ?_
          refine whd_take4 93 rfl rfl hNS.out hTB.out (by as_aux_lemma => kernel_rfl) (by as_aux_lemma => kernel_rfl) (by kernel_rfl) (fun _ _ _ h => h) (by kernel_rfl) (fun W hW => (by (go_simp; try with_reducible rfl))) hS (put_lit (by first | (dsimp only [List.set_cons_zero, List.set_cons_succ]; done) | (dsimp only [List.set_cons_zero, List.set_cons_succ]; rfl))) (by first | (dsimp only [List.set_cons_zero, List.set_cons_succ]; done) | (dsimp only [List.set_cons_zero, List.set_cons_succ]; rfl)) ?_
          refine whd_take4 94 rfl rfl hNS.out hTB.out (by as_aux_lemma => kernel_rfl) (by as_aux_lemma => kernel_rfl) (by kernel_rfl) (fun _ _ _ h => h) (by kernel_rfl) (fun W hW => (by (go_simp; try with_reducible rfl))) hS (put_lit (by first | (dsimp only [List.set_cons_zero, List.set_cons_succ]; done) | (dsimp only [List.set_cons_zero, List.set_cons_succ]; rfl))) (by first | (dsimp only [List.set_cons_zero, List.set_cons_succ]; done) | (dsimp only [List.set_cons_zero, List.set_cons_succ]; rfl)) ?_
          as_aux_lemma =>
          refine whd_take4 96 rfl rfl hNS.out hTB.out (by as_aux_lemma => kernel_rfl) (by as_aux_lemma => kernel_rfl) (by kernel_rfl) (fun _ _ _ h => h) (by kernel_rfl) (fun W hW => (by (go_simp; try with_reducible rfl))) hS (put_lit (by first | (dsimp only [List.set_cons_zero, List.set_cons_succ]; done) | (dsimp only [List.set_cons_zero, List.set_cons_succ]; rfl))) (by first | (dsimp only [List.set_cons_zero, List.set_cons_succ]; done) | (dsimp only [List.set_cons_zero, List.set_cons_succ]; rfl)) ?_
          refine whd_take4 97 rfl rfl hNS.out hTB.out (by as_aux_lemma => kernel_rfl) (by as_aux_lemma => kernel_rfl) (by kernel_rfl) (fun _ _ _ h => h) (by kernel_rfl) (fun W hW => (by (go_simp; try with_reducible rfl))) hS (put_lit (by first | (dsimp only [List.set_cons_zero, List.set_cons_succ]; done) | (dsimp only [List.set_cons_zero, List.set_cons_succ]; rfl))) (by first | (dsimp only [List.set_cons_zero, List.set_cons_succ]; done) | (dsimp only [List.set_cons_zero, List.set_cons_succ]; rfl)) ?_
          refine whd_take4 98 rfl rfl hNS.out hTB.out (by as_aux_lemma => kernel_rfl) (by as_aux_lemma => kernel_rfl) (by kernel_rfl) (fun _ _ _ h => h) (by kernel_rfl) (fun W hW => (by (go_simp; try with_reducible rfl))) hS (put_lit (by first | (dsimp only [List.set_cons_zero, List.set_cons_succ]; done) | (dsimp only [List.set_cons_zero, List.set_cons_succ]; rfl))) (by first | (dsimp only [List.set_cons_zero, List.set_cons_succ]; done) | (dsimp only [List.set_cons_zero, List.set_cons_succ]; rfl)) ?_
          refine whd_take4 99 rfl rfl hNS.out hTB.out (by as_aux_lemma => kernel_rfl) (by as_aux_lemma => kernel_rfl) (by kernel_rfl) (fun _ _ _ h => h) (by kernel_rfl) (fun W hW => rdW) hS (put_lit (by first | (dsimp only [List.set_cons_zero, List.set_cons_succ]; done) | (dsimp only [List.set_cons_zero, List.set_cons_succ]; rfl))) (by first | (dsimp only [List.set_cons_zero, List.set_cons_succ]; done) | (dsimp only [List.set_cons_zero, List.set_cons_succ]; rfl)) ?_
          refine whd_take4 100 rfl rfl hNS.out hTB.out (by as_aux_lemma => kernel_rfl) (by as_aux_lemma => kernel_rfl) (by kernel_rfl) (fun _ _ _ h => h) (by kernel_rfl) (fun W hW => (by (go_simp; try with_reducible rfl))) hS (put_lit (by first | (dsimp only [List.set_cons_zero, List.set_cons_succ]; done) | (dsimp only [List.set_cons_zero, List.set_cons_succ]; rfl))) (by first | (dsimp only [List.set_cons_zero, List.set_cons_succ]; done) | (dsimp only [List.set_cons_zero, List.set_cons_succ]; rfl)) ?_
          refine whd_take4 101 rfl rfl hNS.out hTB.out (by as_aux_lemma => kernel_rfl) (by as_aux_lemma => kernel_rfl) (by kernel_rfl) (fun _ _ _ h => h) (by kernel_rfl) (fun W hW => (by (go_simp; try with_reducible rfl))) hS (put_lit (by first | (dsimp only [List.set_cons_zero, List.set_cons_succ]; done) | (dsimp only [List.set_cons_zero, List.set_cons_succ]; rfl))) (by first | (dsimp only [List.set_cons_zero, List.set_cons_succ]; done) | (dsimp only [List.set_cons_zero, List.set_cons_succ]; rfl)) ?_
          refine whd_take4 102 rfl rfl hNS.out hTB.out (by as_aux_lemma => kernel_rfl) (by as_aux_lemma => kernel_rfl) (by kernel_rfl) (fun _ _ _ h => h) (by kernel_rfl) (fun W hW => rdW) hS (put_lit (by first | (dsimp only [List.set_cons_zero, List.set_cons_succ]; done) | (dsimp only [List.set_cons_zero, List.set_cons_succ]; rfl))) (by first | (dsimp only [List.set_cons_zero, List.set_cons_succ]; done) | (dsimp only [List.set_cons_zero, List.set_cons_succ]; rfl)) ?_
          as_aux_lemma =>
          (refine wpAnyH_all (rs := [95]) (by kernel_rfl) (by simp) ?_; intro i hi; have hi := List.mem_singleton.1 hi; subst hi)
          refine wod_of rfl rfl rfl (wp_call (by go_simp) (HTR.out F wq _ _ g (hS.out (by (repeat (first | exact Out.here | apply Out.there))))) ?_)
          clear hS
          rintro e w4 ⟨ut, rfl, hS⟩
          refine ⟨_, rfl, hS.pick, ?_⟩
          simp only [Act.put, List.setIfInBounds_toArray, List.set_cons_zero, List.set_cons_succ]
          as_aux_lemma =>
          (refine wpAnyH_all (rs := [103]) (by kernel_rfl) (by simp) ?_; intro i hi; have hi := List.mem_singleton.1 hi; subst hi)
          refine wod_of rfl rfl rfl (wp_call (by go_simp) (sameTransfers_any m2.D.T m2.D.T ut xt _ _ _ rfl rfl (hS.rdx (by (repeat (first | exact Ix.here | apply Ix.there)))) (hS.rdx (by (repeat (first | exact Ix.here | apply Ix.there))))) ?_)
          rintro e w5 ⟨rfl, h⟩
          replace hS := hS.same h.base
          clear h
          refine ⟨_, rfl, and_hold hS.pick ?_⟩
          clear hS
          intro hS
          simp only [Act.put, List.setIfInBounds_toArray, List.set_cons_zero, List.set_cons_succ]
          simp only [decide_true]
          as_aux_lemma =>
          refine whd_take4 104 rfl rfl hNS.out hTB.out (by as_aux_lemma => kernel_rfl) (by as_aux_lemma => kernel_rfl) (by kernel_rfl) (fun _ _ _ h => h) (by kernel_rfl) (fun W hW => (by (go_simp; try with_reducible rfl))) hS (put_lit (by first | (dsimp only [List.set_cons_zero, List.set_cons_succ]; done) | (dsimp only [List.set_cons_zero, List.set_cons_succ]; rfl))) (by first | (dsimp only [List.set_cons_zero, List.set_cons_succ]; done) | (dsimp only [List.set_cons_zero, List.set_cons_succ]; rfl)) ?_
          refine whd_take4 105 rfl rfl hNS.out hTB.out (by as_aux_lemma => kernel_rfl) (by as_aux_lemma => kernel_rfl) (by kernel_rfl) (fun _ _ _ h => h) (by kernel_rfl) (fun W hW => (by (go_simp; try with_reducible rfl))) hS (put_lit (by first | (dsimp only [List.set_cons_zero, List.set_cons_succ]; done) | (dsimp only [List.set_cons_zero, List.set_cons_succ]; rfl))) (by first | (dsimp only [List.set_cons_zero, List.set_cons_succ]; done) | (dsimp only [List.set_cons_zero, List.set_cons_succ]; rfl)) ?_
          refine whd_take4 106 rfl rfl hNS.out hTB.out (by as_aux_lemma => kernel_rfl) (by as_aux_lemma => kernel_rfl) (by kernel_rfl) (fun _ _ _ h => h) (by kernel_rfl) (fun W hW => (by (go_simp; try with_reducible rfl))) hS (put_lit (by first | (dsimp only [List.set_cons_zero, List.set_cons_succ]; done) | (dsimp only [List.set_cons_zero, List.set_cons_succ]; rfl))) (by first | (dsimp only [List.set_cons_zero, List.set_cons_succ]; done) | (dsimp only [List.set_cons_zero, List.set_cons_succ]; rfl)) ?_
          refine whd_take4 107 rfl rfl hNS.out hTB.out (by as_aux_lemma => kernel_rfl) (by as_aux_lemma => kernel_rfl) (by kernel_rfl) (fun _ _ _ h => h) (by kernel_rfl) (fun W hW => (by (go_simp; try with_reducible rfl))) hS (put_lit (by first | (dsimp only [List.set_cons_zero, List.set_cons_succ]; done) | (dsimp only [List.set_cons_zero, List.set_cons_succ]; rfl))) (by first | (dsimp only [List.set_cons_zero, List.set_cons_succ]; done) | (dsimp only [List.set_cons_zero, List.set_cons_succ]; rfl)) ?_
          refine whd_take4 109 rfl rfl hNS.out hTB.out (by as_aux_lemma => kernel_rfl) (by as_aux_lemma => kernel_rfl) (by kernel_rfl) (fun _ _ _ h => h) (by kernel_rfl) (fun W hW => (by (go_simp; try with_reducible rfl))) hS (put_lit (by first | (dsimp only [List.set_cons_zero, List.set_cons_succ]; done) | (dsimp only [List.set_cons_zero, List.set_cons_succ]; rfl))) (by first | (dsimp only [List.set_cons_zero, List.set_cons_succ]; done) | (dsimp only [List.set_cons_zero, List.set_cons_succ]; rfl)) ?_
          ((refine wpAnyH_all (rs := [108]) (by kernel_rfl) (by simp) ?_; intro i hi; have hi := List.mem_singleton.1 hi; subst hi); refine wod_of rfl rfl rfl (wp_call (by go_simp) (HPK.out F wq _ _ g (hS.out (by (repeat (first | exact Out.here | apply Out.there))))) ?_); clear hS; rintro e w4 ⟨rfl, hS⟩; refine ⟨_, rfl, and_hold hS.pick ?_⟩; clear hS; intro hS; simp only [Act.put, List.setIfInBounds_toArray, List.set_cons_zero, List.set_cons_succ])
          replace hS := (((((hS.out (m := .vec xt _ _ _ _) (by (repeat (first | exact Out.here | apply Out.there)))).out (m := .vec xa _ _ _ _) (by (repeat (first | exact Out.here | apply Out.there)))).out (m := .row gl _ _ _) (by (repeat (first | exact Out.here | apply Out.there)))).out (m := .vec vt _ _ _ _) (by (repeat (first | exact Out.here | apply Out.there)))).out (m := .row gs _ _ _) (by (repeat (first | exact Out.here | apply Out.there)))).out (m := .row g2 _ _ _) (by (repeat (first | exact Out.here | apply Out.there)))
          as_aux_lemma =>
          (refine wpAnyH_all (rs := [110]) (by kernel_rfl) (by simp) ?_; intro i hi; have hi := List.mem_singleton.1 hi; subst hi)
          refine wod_of rfl rfl rfl (wp_call (by go_simp) (rmach_packQ m2 hS HOK2.out) ?_)
          clear hS
          rintro e w4 ⟨rfl, hS⟩
          refine ⟨_, rfl, and_hold hS.pick ?_⟩
          clear hS
          intro hS
          simp only [Act.put, List.setIfInBounds_toArray, List.set_cons_zero, List.set_cons_succ]
          refine whd_take4 111 rfl rfl hNS.out hTB.out (by as_aux_lemma => kernel_rfl) (by as_aux_lemma => kernel_rfl) (by kernel_rfl) (fun _ _ _ h => h) (by kernel_rfl) (fun W hW => (by (go_simp; try with_reducible rfl))) hS (put_lit (by first | (dsimp only [List.set_cons_zero, List.set_cons_succ]; done) | (dsimp only [List.set_cons_zero, List.set_cons_succ]; rfl))) (by first | (dsimp only [List.set_cons_zero, List.set_cons_succ]; done) | (dsimp only [List.set_cons_zero, List.set_cons_succ]; rfl)) ?_
          as_aux_lemma =>
          refine whd_take4 112 rfl rfl hNS.out hTB.out (by as_aux_lemma => kernel_rfl) (by as_aux_lemma => kernel_rfl) (by kernel_rfl) (fun _ _ _ h => h) (by kernel_rfl) (fun W hW => (by (go_simp; try with_reducible rfl))) hS (put_lit (by first | (dsimp only [List.set_cons_zero, List.set_cons_succ]; done) | (dsimp only [List.set_cons_zero, List.set_cons_succ]; rfl))) (by first | (dsimp only [List.set_cons_zero, List.set_cons_succ]; done) | (dsimp only [List.set_cons_zero, List.set_cons_succ]; rfl)) ?_
          (refine wpAnyH_done (by kernel_rfl) ?_ _)
          replace hS := hB _ _ hS
          simp only [List.cons_append, List.nil_append] at hS
          go_wp2_with (fail)
          replace hS : St [] w _ (rses gs m2.T :: _) := St.packs vt hS
          replace hS : St [] w _ (rledg gl m2.D :: _) := St.packs (xa, xt) hS
          replace hS := rmach_in m2 ((((hS.out (m := rledg gl _) (by (repeat (first | exact Out.here | apply Out.there)))).out (m := rses gs _) (by (repeat (first | exact Out.here | apply Out.there)))).out (m := .row g2 _ _ _) (by (repeat (first | exact Out.here | apply Out.there)))))
          refine ⟨⟨j + 1, m2, by omega, by go_num, HOK2, hS.pick⟩, by simp [intOf]; omega⟩
      · obtain rfl : j = N.length := by omega
        go_wp2_with (((with_reducible refine g_len ?_); refine wl_run rfl (by exact a_len rfl rfl rfl (Reads.at hV hS (by (repeat (first | exact List.Sublist.refl _ | apply List.Sublist.cons))))) ?_))
        go_ret
        exact ⟨rfl, hS.nil⟩
end
end Go.Proofs.YtjjiibcnknljfaaGreat
