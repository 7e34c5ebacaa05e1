/-
  The statement on what was done: the walk.
-/
import Derived.Test.YtggngdjncokanaaLedC
import Derived.Test.YtggngdjncokanaaEvRd
set_option linter.unusedSimpArgs false
set_option linter.unusedVariables false
set_option linter.unusedSectionVars false
namespace Go.Proofs.Ytggngdjncokanaa
open Go.RowKit Go.Cmp

theorem takes_acc {x : Acc} (hx : x.Ok) {s : List UInt8} (hs : byAcc x = some s) : takeS gAcc 9 s = ([x.bare], true) := by
  have h := takeS_cat byAcc gAcc Acc.bare 9 (by omega) [x] s (fun y hy t ht => by simp only [List.mem_singleton] at hy; subst hy; exact gAcc_by y hx t ht) (by simp [cat, hs]) (by simp) (by simp)
  simpa using h
theorem takes_tra {x : Tra} (hx : x.Ok) : takeS gTra 32 (traB x) = ([x], true) := by
  have h := takeS_cat byTra gTra id 32 (by omega) [x] (traB x) (fun y hy t ht => by simp only [List.mem_singleton] at hy; subst hy; exact gTra_by y hx t ht) (by simp [cat, byTra, traB]) (by simp) (by simp)
  simpa using h
theorem again_acc {D : Led} (hD : D.Good) {m : Nat} (h : m < D.A.length) : ∃ s, putS byAcc [nth D.A m] = (s, 0) ∧ s.length ≤ 1000 ∧ D.doIt 2 s = ([0, 2], D) := by
  obtain ⟨h1, h2, h3, _⟩ := hD.acc m h
  have hok := hD.ok.acc _ (nth_mem h)
  have hb : byAcc (nth D.A m) = some (leB 8 (nth D.A m).id ++ [fb (nth D.A m).flags]) := by unfold byAcc; rw [if_pos ⟨h2, by omega⟩]
  refine ⟨leB 8 (nth D.A m).id ++ [fb (nth D.A m).flags], by simp [putS, cat, hb], by simp [leB_length], ?_⟩
  have ht := takes_acc hok hb
  have hat : 0 ≤ accAt (nth D.A m).id D.A := by
    by_cases hh : accAt (nth D.A m).id D.A < 0
    · exact absurd rfl (at_none hh m h)
    · omega
  have ho : D.open (nth D.A m).bare = (2, D) := by
    unfold Led.open
    rw [if_neg (show ¬ (nth D.A m).bare.id = 0 from h1), if_pos (show 0 ≤ accAt (nth D.A m).bare.id D.A from hat)]
  unfold Led.doIt
  rw [if_pos rfl]
  rw [ht]
  simp [Led.opens, ho]
theorem again_tra {D : Led} (hD : D.Good) {m : Nat} (h : m < D.T.length) : D.doIt 3 (traB (nth D.T m)) = ([0, 2], D) := by
  obtain ⟨h1, _⟩ := hD.tra m h
  have hok := hD.ok.tra _ (nth_mem h)
  have hat : 0 ≤ traAt (nth D.T m).id D.T := by
    by_cases hh : traAt (nth D.T m).id D.T < 0
    · exact absurd rfl (tra_none hh m h)
    · omega
  have ho : D.move (nth D.T m) = (2, D) := by
    unfold Led.move
    rw [if_neg h1, if_pos hat]
  unfold Led.doIt
  rw [if_neg (by omega), if_pos rfl, takes_tra hok]
  simp [Led.moves, ho]

set_option maxRecDepth 100000 in
set_option maxHeartbeats 8000000 in
theorem law_again (vl : Value) (L : List Act7) (k : Int) (w : World) (hL : Rd w 2 vl L.length (L.flatMap Act7.cells)) :
    Calls Try.prog 7 #[vl, .int .i64 k] w fun e w' => e = .returned (.bool true) ∧ St [] w w' [] := by
  have hS := St.init w
  have hD := playedS_gd L
  have HPL := Lib.hid (fun (W : World) (M : List Ent) (hS : St [] w W M) => played7 hS (L := L) (vl := vl) (fun W hW => hW.old0 hL))
  obtain ⟨D, hDe⟩ : ∃ D, playedS L = D := ⟨_, rfl⟩
  rw [hDe] at hD HPL
  clear hDe
  have hD8 := hD.ok.la
  have hD16 := hD.ok.lt
  have HP := Lib.hid (fun (W : World) (g : Nat) (M : List Ent) (hS : St [] w W (ledg g D :: M)) => ledg_pack hS hD.ok)
  have HA := Lib.hid (fun (W : World) (g : Nat) (M : List Ent) (hS : St [] w W (ledg g D :: M)) => ledg_accounts hS (show D.A.length ≤ 1000 by omega))
  have HT := Lib.hid (fun (W : World) (g : Nat) (M : List Ent) (hS : St [] w W (ledg g D :: M)) => ledg_transfers hS (show D.T.length ≤ 1000 by omega))
  have hAA := fun (m : Nat) (h : m < D.A.length) => again_acc hD h
  have hTT := fun (m : Nat) (h : m < D.T.length) => again_tra hD h
  have HDO := Lib.hid (fun (W : World) (g : Nat) (M : List Ent) (hS : St [] w W (ledg g D :: M)) (op : Int) (s : List UInt8) (hs : s.length ≤ 1000) => ledg_do hS hD.ok op s hs)
  obtain ⟨kn, hkn⟩ : ∃ kn : Nat, IntKind.u64.wrap k = (kn : Int) := by
    refine ⟨(IntKind.u64.wrap k).toNat, (Int.toNat_of_nonneg ?_).symm⟩
    simp only [IntKind.wrap, IntKind.bits, IntKind.signed]
    simp
    omega
  have HG := Lib.hid hD
  have HAA := Lib.hid hAA
  have HTT := Lib.hid hTT
  clear hD hAA hTT
  generalize lPack D = pk at HP
  have hwA : IntKind.u64.wrap (D.A.length : Int) = (D.A.length : Int) := u64_in (by omega) (by omega)
  have hwT : IntKind.u64.wrap (D.T.length : Int) = (D.T.length : Int) := u64_in (by omega) (by omega)
  have HPA := Lib.hid (fun (x : Acc) (hx : x.Ok) (v : Value) (w : World) (hL : Rd w 4 v 1 ([x].flatMap Acc.cells)) => putAccounts_any [x] v 1 w rfl (by intro y hy; simp only [List.mem_singleton] at hy; subst hy; exact hx) hL)
  have HPT := Lib.hid (fun (x : Tra) (hx : x.Ok) (v : Value) (w : World) (hL : Rd w 4 v 1 ([x].flatMap Tra.cells)) => putTransfers_any [x] v 1 w rfl (by intro y hy; simp only [List.mem_singleton] at hy; subst hy; exact hx) hL)
  by_cases hA : 0 < D.A.length
  · by_cases hT : 0 < D.T.length
    · have hm := Nat.mod_lt kn hA
      have hr : (kn : Int) % (D.A.length : Int) = ((kn % D.A.length : Nat) : Int) := by push_cast; rfl
      obtain ⟨m, hme⟩ : ∃ m, kn % D.A.length = m := ⟨_, rfl⟩
      rw [hme] at hm hr
      clear hme
      have hget := get_lt (L := D.A) hm
      have hxo := HG.out.ok.acc _ (nth_mem hm)
      obtain ⟨s, hs1, hs2, hs3⟩ := HAA.out m hm
      obtain ⟨x, hX⟩ : ∃ x, nth D.A m = x := ⟨_, rfl⟩
      rw [hX] at hget hxo hs1
      have HPX := Lib.hid (HPA.out x hxo)
      rw [hs1] at HPX
      have HS3 := Lib.hid hs3
      clear hX hxo hs1 hs3
      obtain ⟨x1, x2, x3, x4⟩ := x
      have hwm : IntKind.i64.wrap (m : Int) = (m : Int) := IntWalk.i64_in _ (by omega)
      have hA1 : (0 : Int) < D.A.length := by omega
      have hA2 : ((D.A.length : Int) == 0) = false := by rw [beq_eq_false_iff_ne]; omega
      have hm1 : (m : Int) < D.A.length := by omega
      have hn := Nat.mod_lt kn hT
      have hr2 : (kn : Int) % (D.T.length : Int) = ((kn % D.T.length : Nat) : Int) := by push_cast; rfl
      obtain ⟨n, hne⟩ : ∃ n, kn % D.T.length = n := ⟨_, rfl⟩
      rw [hne] at hn hr2
      clear hne
      have hget2 := get_lt (L := D.T) hn
      have hyo := HG.out.ok.tra _ (nth_mem hn)
      have hs5 := HTT.out n hn
      obtain ⟨y, hY⟩ : ∃ y, nth D.T n = y := ⟨_, rfl⟩
      rw [hY] at hget2 hyo hs5
      have HPY := Lib.hid (HPT.out y hyo)
      have ey : putS byTra [y] = (traB y, 0) := by simp [putS, cat, byTra, traB]
      rw [ey] at HPY
      have hs4 : (traB y).length ≤ 1000 := by rw [traB_len]; omega
      have HS5 := Lib.hid hs5
      clear hY hyo hs5 ey
      generalize traB y = z at *
      obtain ⟨y1, y2, y3, y4⟩ := y
      have hwn : IntKind.i64.wrap (n : Int) = (n : Int) := IntWalk.i64_in _ (by omega)
      have hT1 : (0 : Int) < D.T.length := by omega
      have hT2 : ((D.T.length : Int) == 0) = false := by rw [beq_eq_false_iff_ne]; omega
      have hn1 : (n : Int) < D.T.length := by omega
      (go_enter Try.func7, Try.ntmps7)
      go_wp2_with (first | (go_at_call 10; refine (awake7 _).mono ?_; rintro e w' ⟨rfl, h⟩; replace hS := hS.call h; clear h) | (go_at_call 11; refine (HPL.out _ _ hS).mono ?_; clear hS; rintro e w' ⟨g, rfl, hS⟩) | (go_at_call 15; refine (HP.out _ _ _ (hS.out (by (repeat (first | exact Out.here | apply Out.there))))).mono ?_; clear hS; rintro e w' ⟨rfl, hS⟩) | (go_at_call 19; refine (HA.out _ _ _ (hS.out (by (repeat (first | exact Out.here | apply Out.there))))).mono ?_; clear hS; rintro e w' ⟨u1, rfl, hS⟩) | (go_at_call 20; refine (HT.out _ _ _ (hS.out (by (repeat (first | exact Out.here | apply Out.there))))).mono ?_; clear hS; rintro e w' ⟨u2, rfl, hS⟩) | (go_at_call 12; refine (HPX.out _ _ (hS.rdx Ix.here)).mono ?_; rintro e w' ⟨rfl, h⟩; replace hS := hS.call h; clear h; simp only [List.nil_append] at hS) | (go_at_call 13; refine (HPY.out _ _ (hS.rdx Ix.here)).mono ?_; rintro e w' ⟨rfl, h⟩; replace hS := hS.call h; clear h; simp only [List.nil_append] at hS) | (go_at_call 14; refine (HDO.out _ _ _ (hS.out (by (repeat (first | exact Out.here | apply Out.there)))) _ _ (by first | exact hs2 | exact hs4)).mono ?_; clear hS; rintro e w' ⟨rfl, hS⟩; simp only [HS3.out, HS5.out] at hS ⊢) | (first | ((with_reducible refine g_load ?_); refine k_read rfl (h := ?_)) | ((with_reducible refine g_len ?_); refine k_len rfl (h := ?_)) | ((with_reducible refine g_index ?_); refine k_idx rfl (h := ?_)) | ((with_reducible refine g_field ?_); refine k_fld rfl (h := ?_)) | ((with_reducible refine g_store ?_); refine wl_of rfl ?_; first | (refine k_sta hS rfl rfl rfl (h := ?_); clear hS; intro w' hS; simp only [List.take, List.drop, List.cons_append, List.nil_append, List.length_cons, List.length_nil] at hS) | (first | ((first | (refine k_st1 (v := .int _ _) hS rfl rfl rfl (h := ?_)) | (refine k_st1 (v := .bool _) hS rfl rfl rfl (h := ?_)) | (refine k_st1 (v := .string _) hS rfl rfl rfl (h := ?_)) | (refine k_st1 (v := .slice none 0 0) hS rfl rfl rfl (h := ?_))); clear hS; intro w' hS; simp only [List.set_cons_zero, List.set_cons_succ] at hS) | ((refine k_st1  hS rfl rfl rfl (h := ?_)); clear hS; intro w' hS; simp only [List.set_cons_zero, List.set_cons_succ] at hS; simp only [Act.eval, Array.getD_eq_getD_getElem?, List.getElem?_toArray, List.getElem?_cons_succ, List.getElem?_cons_zero, Option.getD_some] at hS)) | (first | (refine k_ste (v := .int _ _) hS rfl rfl rfl (h := ?_); clear hS; intro w' hS) | (refine k_ste (v := .bool _) hS rfl rfl rfl (h := ?_); clear hS; intro w' hS) | (refine k_ste (v := .string _) hS rfl rfl rfl (h := ?_); clear hS; intro w' hS))) | ((with_reducible refine g_alloc ?_); refine wl_of rfl ?_; refine wp_alloc hS rfl rfl rfl rfl ?_; clear hS; intro gb w1 hS) | ((with_reducible refine g_box ?_); refine wl_of rfl ?_; refine wp_box hS rfl rfl rfl ?_; clear hS; intro gb w1 hS) | ((with_reducible refine g_bs ?_); refine wl_of rfl ?_; (first | refine a_build1 (v := .int _ _) hS rfl rfl rfl rfl (by rfl) (by simp) ?_ | refine a_build1 (v := .string _) hS rfl rfl rfl rfl (by rfl) (by simp) ?_ | refine a_build1 (v := .bool _) hS rfl rfl rfl rfl (by rfl) (by simp) ?_ | refine a_build1 (v := .agg _) hS rfl rfl rfl rfl (by rfl) (by simp) ?_ | refine a_build1  hS rfl rfl rfl rfl (by rfl) (by simp) ?_); clear hS; intro v1 w' hS; simp only [List.length_cons, List.length_nil, Nat.zero_add] at hS; try simp only [Nat.reduceAdd] at hS) | ((with_reducible refine g_cut ?_); refine k_str rfl (h := ?_)) | ((with_reducible refine g_indexV ?_); refine k_six rfl (h := ?_)) | ((with_reducible refine g_bin ?_); refine k_cat rfl (h := ?_)) | ((with_reducible refine g_conv ?_); refine k_tos rfl (h := ?_)) | ((with_reducible refine wl_guard ?_); refine stop_mem rfl rfl ?_)))
      go_ret
      exact ⟨by first | rfl | simp, hS.nil⟩
    · have hm := Nat.mod_lt kn hA
      have hr : (kn : Int) % (D.A.length : Int) = ((kn % D.A.length : Nat) : Int) := by push_cast; rfl
      obtain ⟨m, hme⟩ : ∃ m, kn % D.A.length = m := ⟨_, rfl⟩
      rw [hme] at hm hr
      clear hme
      have hget := get_lt (L := D.A) hm
      have hxo := HG.out.ok.acc _ (nth_mem hm)
      obtain ⟨s, hs1, hs2, hs3⟩ := HAA.out m hm
      obtain ⟨x, hX⟩ : ∃ x, nth D.A m = x := ⟨_, rfl⟩
      rw [hX] at hget hxo hs1
      have HPX := Lib.hid (HPA.out x hxo)
      rw [hs1] at HPX
      have HS3 := Lib.hid hs3
      clear hX hxo hs1 hs3
      obtain ⟨x1, x2, x3, x4⟩ := x
      have hwm : IntKind.i64.wrap (m : Int) = (m : Int) := IntWalk.i64_in _ (by omega)
      have hA1 : (0 : Int) < D.A.length := by omega
      have hA2 : ((D.A.length : Int) == 0) = false := by rw [beq_eq_false_iff_ne]; omega
      have hm1 : (m : Int) < D.A.length := by omega
      have hT1 : ¬ (0 : Int) < D.T.length := by omega
      (go_enter Try.func7, Try.ntmps7)
      go_wp2_with (first | (go_at_call 10; refine (awake7 _).mono ?_; rintro e w' ⟨rfl, h⟩; replace hS := hS.call h; clear h) | (go_at_call 11; refine (HPL.out _ _ hS).mono ?_; clear hS; rintro e w' ⟨g, rfl, hS⟩) | (go_at_call 15; refine (HP.out _ _ _ (hS.out (by (repeat (first | exact Out.here | apply Out.there))))).mono ?_; clear hS; rintro e w' ⟨rfl, hS⟩) | (go_at_call 19; refine (HA.out _ _ _ (hS.out (by (repeat (first | exact Out.here | apply Out.there))))).mono ?_; clear hS; rintro e w' ⟨u1, rfl, hS⟩) | (go_at_call 20; refine (HT.out _ _ _ (hS.out (by (repeat (first | exact Out.here | apply Out.there))))).mono ?_; clear hS; rintro e w' ⟨u2, rfl, hS⟩) | (go_at_call 12; refine (HPX.out _ _ (hS.rdx Ix.here)).mono ?_; rintro e w' ⟨rfl, h⟩; replace hS := hS.call h; clear h; simp only [List.nil_append] at hS) | (go_at_call 14; refine (HDO.out _ _ _ (hS.out (by (repeat (first | exact Out.here | apply Out.there)))) _ _ (by first | exact hs2)).mono ?_; clear hS; rintro e w' ⟨rfl, hS⟩; simp only [HS3.out] at hS ⊢) | (first | ((with_reducible refine g_load ?_); refine k_read rfl (h := ?_)) | ((with_reducible refine g_len ?_); refine k_len rfl (h := ?_)) | ((with_reducible refine g_index ?_); refine k_idx rfl (h := ?_)) | ((with_reducible refine g_field ?_); refine k_fld rfl (h := ?_)) | ((with_reducible refine g_store ?_); refine wl_of rfl ?_; first | (refine k_sta hS rfl rfl rfl (h := ?_); clear hS; intro w' hS; simp only [List.take, List.drop, List.cons_append, List.nil_append, List.length_cons, List.length_nil] at hS) | (first | ((first | (refine k_st1 (v := .int _ _) hS rfl rfl rfl (h := ?_)) | (refine k_st1 (v := .bool _) hS rfl rfl rfl (h := ?_)) | (refine k_st1 (v := .string _) hS rfl rfl rfl (h := ?_)) | (refine k_st1 (v := .slice none 0 0) hS rfl rfl rfl (h := ?_))); clear hS; intro w' hS; simp only [List.set_cons_zero, List.set_cons_succ] at hS) | ((refine k_st1  hS rfl rfl rfl (h := ?_)); clear hS; intro w' hS; simp only [List.set_cons_zero, List.set_cons_succ] at hS; simp only [Act.eval, Array.getD_eq_getD_getElem?, List.getElem?_toArray, List.getElem?_cons_succ, List.getElem?_cons_zero, Option.getD_some] at hS)) | (first | (refine k_ste (v := .int _ _) hS rfl rfl rfl (h := ?_); clear hS; intro w' hS) | (refine k_ste (v := .bool _) hS rfl rfl rfl (h := ?_); clear hS; intro w' hS) | (refine k_ste (v := .string _) hS rfl rfl rfl (h := ?_); clear hS; intro w' hS))) | ((with_reducible refine g_alloc ?_); refine wl_of rfl ?_; refine wp_alloc hS rfl rfl rfl rfl ?_; clear hS; intro gb w1 hS) | ((with_reducible refine g_box ?_); refine wl_of rfl ?_; refine wp_box hS rfl rfl rfl ?_; clear hS; intro gb w1 hS) | ((with_reducible refine g_bs ?_); refine wl_of rfl ?_; (first | refine a_build1 (v := .int _ _) hS rfl rfl rfl rfl (by rfl) (by simp) ?_ | refine a_build1 (v := .string _) hS rfl rfl rfl rfl (by rfl) (by simp) ?_ | refine a_build1 (v := .bool _) hS rfl rfl rfl rfl (by rfl) (by simp) ?_ | refine a_build1 (v := .agg _) hS rfl rfl rfl rfl (by rfl) (by simp) ?_ | refine a_build1  hS rfl rfl rfl rfl (by rfl) (by simp) ?_); clear hS; intro v1 w' hS; simp only [List.length_cons, List.length_nil, Nat.zero_add] at hS; try simp only [Nat.reduceAdd] at hS) | ((with_reducible refine g_cut ?_); refine k_str rfl (h := ?_)) | ((with_reducible refine g_indexV ?_); refine k_six rfl (h := ?_)) | ((with_reducible refine g_bin ?_); refine k_cat rfl (h := ?_)) | ((with_reducible refine g_conv ?_); refine k_tos rfl (h := ?_)) | ((with_reducible refine wl_guard ?_); refine stop_mem rfl rfl ?_)))
      go_ret
      exact ⟨by first | rfl | simp, hS.nil⟩
  · by_cases hT : 0 < D.T.length
    · have hA1 : ¬ (0 : Int) < D.A.length := by omega
      have hn := Nat.mod_lt kn hT
      have hr2 : (kn : Int) % (D.T.length : Int) = ((kn % D.T.length : Nat) : Int) := by push_cast; rfl
      obtain ⟨n, hne⟩ : ∃ n, kn % D.T.length = n := ⟨_, rfl⟩
      rw [hne] at hn hr2
      clear hne
      have hget2 := get_lt (L := D.T) hn
      have hyo := HG.out.ok.tra _ (nth_mem hn)
      have hs5 := HTT.out n hn
      obtain ⟨y, hY⟩ : ∃ y, nth D.T n = y := ⟨_, rfl⟩
      rw [hY] at hget2 hyo hs5
      have HPY := Lib.hid (HPT.out y hyo)
      have ey : putS byTra [y] = (traB y, 0) := by simp [putS, cat, byTra, traB]
      rw [ey] at HPY
      have hs4 : (traB y).length ≤ 1000 := by rw [traB_len]; omega
      have HS5 := Lib.hid hs5
      clear hY hyo hs5 ey
      generalize traB y = z at *
      obtain ⟨y1, y2, y3, y4⟩ := y
      have hwn : IntKind.i64.wrap (n : Int) = (n : Int) := IntWalk.i64_in _ (by omega)
      have hT1 : (0 : Int) < D.T.length := by omega
      have hT2 : ((D.T.length : Int) == 0) = false := by rw [beq_eq_false_iff_ne]; omega
      have hn1 : (n : Int) < D.T.length := by omega
      (go_enter Try.func7, Try.ntmps7)
      go_wp2_with (first | (go_at_call 10; refine (awake7 _).mono ?_; rintro e w' ⟨rfl, h⟩; replace hS := hS.call h; clear h) | (go_at_call 11; refine (HPL.out _ _ hS).mono ?_; clear hS; rintro e w' ⟨g, rfl, hS⟩) | (go_at_call 15; refine (HP.out _ _ _ (hS.out (by (repeat (first | exact Out.here | apply Out.there))))).mono ?_; clear hS; rintro e w' ⟨rfl, hS⟩) | (go_at_call 19; refine (HA.out _ _ _ (hS.out (by (repeat (first | exact Out.here | apply Out.there))))).mono ?_; clear hS; rintro e w' ⟨u1, rfl, hS⟩) | (go_at_call 20; refine (HT.out _ _ _ (hS.out (by (repeat (first | exact Out.here | apply Out.there))))).mono ?_; clear hS; rintro e w' ⟨u2, rfl, hS⟩) | (go_at_call 13; refine (HPY.out _ _ (hS.rdx Ix.here)).mono ?_; rintro e w' ⟨rfl, h⟩; replace hS := hS.call h; clear h; simp only [List.nil_append] at hS) | (go_at_call 14; refine (HDO.out _ _ _ (hS.out (by (repeat (first | exact Out.here | apply Out.there)))) _ _ (by first | exact hs4)).mono ?_; clear hS; rintro e w' ⟨rfl, hS⟩; simp only [HS5.out] at hS ⊢) | (first | ((with_reducible refine g_load ?_); refine k_read rfl (h := ?_)) | ((with_reducible refine g_len ?_); refine k_len rfl (h := ?_)) | ((with_reducible refine g_index ?_); refine k_idx rfl (h := ?_)) | ((with_reducible refine g_field ?_); refine k_fld rfl (h := ?_)) | ((with_reducible refine g_store ?_); refine wl_of rfl ?_; first | (refine k_sta hS rfl rfl rfl (h := ?_); clear hS; intro w' hS; simp only [List.take, List.drop, List.cons_append, List.nil_append, List.length_cons, List.length_nil] at hS) | (first | ((first | (refine k_st1 (v := .int _ _) hS rfl rfl rfl (h := ?_)) | (refine k_st1 (v := .bool _) hS rfl rfl rfl (h := ?_)) | (refine k_st1 (v := .string _) hS rfl rfl rfl (h := ?_)) | (refine k_st1 (v := .slice none 0 0) hS rfl rfl rfl (h := ?_))); clear hS; intro w' hS; simp only [List.set_cons_zero, List.set_cons_succ] at hS) | ((refine k_st1  hS rfl rfl rfl (h := ?_)); clear hS; intro w' hS; simp only [List.set_cons_zero, List.set_cons_succ] at hS; simp only [Act.eval, Array.getD_eq_getD_getElem?, List.getElem?_toArray, List.getElem?_cons_succ, List.getElem?_cons_zero, Option.getD_some] at hS)) | (first | (refine k_ste (v := .int _ _) hS rfl rfl rfl (h := ?_); clear hS; intro w' hS) | (refine k_ste (v := .bool _) hS rfl rfl rfl (h := ?_); clear hS; intro w' hS) | (refine k_ste (v := .string _) hS rfl rfl rfl (h := ?_); clear hS; intro w' hS))) | ((with_reducible refine g_alloc ?_); refine wl_of rfl ?_; refine wp_alloc hS rfl rfl rfl rfl ?_; clear hS; intro gb w1 hS) | ((with_reducible refine g_box ?_); refine wl_of rfl ?_; refine wp_box hS rfl rfl rfl ?_; clear hS; intro gb w1 hS) | ((with_reducible refine g_bs ?_); refine wl_of rfl ?_; (first | refine a_build1 (v := .int _ _) hS rfl rfl rfl rfl (by rfl) (by simp) ?_ | refine a_build1 (v := .string _) hS rfl rfl rfl rfl (by rfl) (by simp) ?_ | refine a_build1 (v := .bool _) hS rfl rfl rfl rfl (by rfl) (by simp) ?_ | refine a_build1 (v := .agg _) hS rfl rfl rfl rfl (by rfl) (by simp) ?_ | refine a_build1  hS rfl rfl rfl rfl (by rfl) (by simp) ?_); clear hS; intro v1 w' hS; simp only [List.length_cons, List.length_nil, Nat.zero_add] at hS; try simp only [Nat.reduceAdd] at hS) | ((with_reducible refine g_cut ?_); refine k_str rfl (h := ?_)) | ((with_reducible refine g_indexV ?_); refine k_six rfl (h := ?_)) | ((with_reducible refine g_bin ?_); refine k_cat rfl (h := ?_)) | ((with_reducible refine g_conv ?_); refine k_tos rfl (h := ?_)) | ((with_reducible refine wl_guard ?_); refine stop_mem rfl rfl ?_)))
      go_ret
      exact ⟨by first | rfl | simp, hS.nil⟩
    · have hA1 : ¬ (0 : Int) < D.A.length := by omega
      have hT1 : ¬ (0 : Int) < D.T.length := by omega
      (go_enter Try.func7, Try.ntmps7)
      go_wp2_with (first | (go_at_call 10; refine (awake7 _).mono ?_; rintro e w' ⟨rfl, h⟩; replace hS := hS.call h; clear h) | (go_at_call 11; refine (HPL.out _ _ hS).mono ?_; clear hS; rintro e w' ⟨g, rfl, hS⟩) | (go_at_call 15; refine (HP.out _ _ _ (hS.out (by (repeat (first | exact Out.here | apply Out.there))))).mono ?_; clear hS; rintro e w' ⟨rfl, hS⟩) | (go_at_call 19; refine (HA.out _ _ _ (hS.out (by (repeat (first | exact Out.here | apply Out.there))))).mono ?_; clear hS; rintro e w' ⟨u1, rfl, hS⟩) | (go_at_call 20; refine (HT.out _ _ _ (hS.out (by (repeat (first | exact Out.here | apply Out.there))))).mono ?_; clear hS; rintro e w' ⟨u2, rfl, hS⟩) | (first | ((with_reducible refine g_load ?_); refine k_read rfl (h := ?_)) | ((with_reducible refine g_len ?_); refine k_len rfl (h := ?_)) | ((with_reducible refine g_index ?_); refine k_idx rfl (h := ?_)) | ((with_reducible refine g_field ?_); refine k_fld rfl (h := ?_)) | ((with_reducible refine g_store ?_); refine wl_of rfl ?_; first | (refine k_sta hS rfl rfl rfl (h := ?_); clear hS; intro w' hS; simp only [List.take, List.drop, List.cons_append, List.nil_append, List.length_cons, List.length_nil] at hS) | (first | ((first | (refine k_st1 (v := .int _ _) hS rfl rfl rfl (h := ?_)) | (refine k_st1 (v := .bool _) hS rfl rfl rfl (h := ?_)) | (refine k_st1 (v := .string _) hS rfl rfl rfl (h := ?_)) | (refine k_st1 (v := .slice none 0 0) hS rfl rfl rfl (h := ?_))); clear hS; intro w' hS; simp only [List.set_cons_zero, List.set_cons_succ] at hS) | ((refine k_st1  hS rfl rfl rfl (h := ?_)); clear hS; intro w' hS; simp only [List.set_cons_zero, List.set_cons_succ] at hS; simp only [Act.eval, Array.getD_eq_getD_getElem?, List.getElem?_toArray, List.getElem?_cons_succ, List.getElem?_cons_zero, Option.getD_some] at hS)) | (first | (refine k_ste (v := .int _ _) hS rfl rfl rfl (h := ?_); clear hS; intro w' hS) | (refine k_ste (v := .bool _) hS rfl rfl rfl (h := ?_); clear hS; intro w' hS) | (refine k_ste (v := .string _) hS rfl rfl rfl (h := ?_); clear hS; intro w' hS))) | ((with_reducible refine g_alloc ?_); refine wl_of rfl ?_; refine wp_alloc hS rfl rfl rfl rfl ?_; clear hS; intro gb w1 hS) | ((with_reducible refine g_box ?_); refine wl_of rfl ?_; refine wp_box hS rfl rfl rfl ?_; clear hS; intro gb w1 hS) | ((with_reducible refine g_bs ?_); refine wl_of rfl ?_; (first | refine a_build1 (v := .int _ _) hS rfl rfl rfl rfl (by rfl) (by simp) ?_ | refine a_build1 (v := .string _) hS rfl rfl rfl rfl (by rfl) (by simp) ?_ | refine a_build1 (v := .bool _) hS rfl rfl rfl rfl (by rfl) (by simp) ?_ | refine a_build1 (v := .agg _) hS rfl rfl rfl rfl (by rfl) (by simp) ?_ | refine a_build1  hS rfl rfl rfl rfl (by rfl) (by simp) ?_); clear hS; intro v1 w' hS; simp only [List.length_cons, List.length_nil, Nat.zero_add] at hS; try simp only [Nat.reduceAdd] at hS) | ((with_reducible refine g_cut ?_); refine k_str rfl (h := ?_)) | ((with_reducible refine g_indexV ?_); refine k_six rfl (h := ?_)) | ((with_reducible refine g_bin ?_); refine k_cat rfl (h := ?_)) | ((with_reducible refine g_conv ?_); refine k_tos rfl (h := ?_)) | ((with_reducible refine wl_guard ?_); refine stop_mem rfl rfl ?_)))
      go_ret
      exact ⟨by first | rfl | simp, hS.nil⟩
end Go.Proofs.Ytggngdjncokanaa
