/-
  The statement on a list of events: the walk.
-/
import Derived.Test.YtggngdjncokanaaAgainLaw
import Derived.Test.YtggngdjncokanaaMin
set_option linter.unusedSimpArgs false
set_option linter.unusedVariables false
set_option linter.unusedSectionVars false
namespace Go.Proofs.Ytggngdjncokanaa
open Go.RowKit Go.Cmp

theorem cat_each {α : Type} (f : α → Option (List UInt8)) : ∀ (xs : List α) (acc : List UInt8), cat f xs = some acc → ∀ x ∈ xs, ∃ s, f x = some s
  | [], _, _, x, hx => by cases hx
  | y :: xs, acc, h, x, hx => by
    simp only [cat] at h
    cases hy : f y with
    | none => rw [hy] at h; cases h
    | some a =>
      rw [hy] at h
      cases hc : cat f xs with
      | none => rw [hc] at h; cases h
      | some b =>
        rcases List.mem_cons.1 hx with rfl | hx
        · exact ⟨a, hy⟩
        · exact cat_each f xs b hc x hx
theorem one_acc (D : Led) {x : Acc} (hx : x.Ok) {s : List UInt8} (hs : byAcc x = some s) : D.doIt 2 s = ([0, (D.open x.bare).1], (D.open x.bare).2) := by
  unfold Led.doIt
  rw [if_pos rfl, takes_acc hx hs]
  simp [Led.opens]
theorem one_tra (D : Led) {x : Tra} (hx : x.Ok) : D.doIt 3 (traB x) = ([0, (D.move x).1], (D.move x).2) := by
  unfold Led.doIt
  rw [if_neg (by omega), if_pos rfl, takes_tra hx]
  simp [Led.moves]
theorem all_acc (D : Led) {xs : List Acc} (hx : ∀ x ∈ xs, x.Ok) {s : List UInt8} (hs : cat byAcc xs = some s) (h1 : 1 ≤ xs.length) (h4 : xs.length ≤ 4) : D.doIt 2 s = ([0] ++ (D.opens (xs.map Acc.bare)).1, (D.opens (xs.map Acc.bare)).2) := by
  have h := takeS_cat byAcc gAcc Acc.bare 9 (by omega) xs s (fun y hy t ht => gAcc_by y (hx y hy) t ht) hs h1 h4
  unfold Led.doIt
  rw [if_pos rfl, h]
  simp
theorem all_tra (D : Led) {xs : List Tra} (hx : ∀ x ∈ xs, x.Ok) {s : List UInt8} (hs : cat byTra xs = some s) (h1 : 1 ≤ xs.length) (h4 : xs.length ≤ 4) : D.doIt 3 s = ([0] ++ (D.moves xs).1, (D.moves xs).2) := by
  have h := takeS_cat byTra gTra id 32 (by omega) xs s (fun y hy t ht => gTra_by y (hx y hy) t ht) hs h1 h4
  unfold Led.doIt
  rw [if_neg (by omega), if_pos rfl, h]
  simp
theorem cut_front {α : Type} {f : α → List Value} {k : Nat} (hf : ∀ x, (f x).length = k) {xs : List α} {w : World} {v : Value} (hX : Rd w k v xs.length (xs.flatMap f)) {m : Nat} (hm : m ≤ xs.length) : Rd w k (cutSl v k 0 m) (xs.take m).length ((xs.take m).flatMap f) := by
  have := hX.cut 0 m (by omega) hm
  rw [Nat.sub_zero, Nat.zero_mul, List.drop_zero, flatMap_take f k hf] at this
  rw [List.length_take, Nat.min_eq_left hm]
  exact this
theorem bare_ok {x : Acc} (h : x.Ok) : x.bare.Ok := ⟨h.1, Nat.pow_pos (by omega), Nat.pow_pos (by omega), h.2.2.2.1, h.2.2.2.2⟩

set_option maxRecDepth 100000 in
set_option maxHeartbeats 16000000 in
theorem law_one (vl v1 v2 : Value) (L : List Act7) (xs : List Acc) (ts : List Tra) (w : World) (hL : Rd w 2 vl L.length (L.flatMap Act7.cells)) (hX : Rd w 4 v1 xs.length (xs.flatMap Acc.cells)) (hx : ∀ x ∈ xs, x.Ok) (hT : Rd w 4 v2 ts.length (ts.flatMap Tra.cells)) (ht : ∀ x ∈ ts, x.Ok) :
    Calls Try.prog 3 #[vl, v1, v2] w fun e w' => e = .returned (.bool true) ∧ St [] w w' [] := by
  have hS := St.init w
  have HPL := Lib.hid (fun (W : World) (M : List Ent) (hS : St [] w W M) => played7 hS (L := L) (vl := vl) (fun W hW => hW.old0 hL))
  have hD := playedS_ok L
  obtain ⟨D, hDe⟩ : ∃ D, playedS L = D := ⟨_, rfl⟩
  rw [hDe] at hD HPL
  clear hDe
  have HDO := Lib.hid (fun (W : World) (g : Nat) (D : Led) (M : List Ent) (hS : St [] w W (ledg g D :: M)) (hD : D.Ok) (op : Int) (s : List UInt8) (hs : s.length ≤ 1000) => ledg_do hS hD op s hs)
  obtain ⟨m1, hm1⟩ : ∃ m, min xs.length 4 = m := ⟨_, rfl⟩
  obtain ⟨m2, hm2⟩ : ∃ m, min ts.length 4 = m := ⟨_, rfl⟩
  have hM1 := cut_front (f := Acc.cells) (fun _ => rfl) hX (show m1 ≤ xs.length by omega)
  have hM2 := cut_front (f := Tra.cells) (fun _ => rfl) hT (show m2 ≤ ts.length by omega)
  have hyx : ∀ x ∈ xs.take m1, x.Ok := fun x h => hx x (List.mem_of_mem_take h)
  have hyt : ∀ x ∈ ts.take m2, x.Ok := fun x h => ht x (List.mem_of_mem_take h)
  have hl1 : (xs.take m1).length ≤ 4 := by rw [List.length_take]; omega
  have hl2 : (ts.take m2).length ≤ 4 := by rw [List.length_take]; omega
  obtain ⟨ys, hys⟩ : ∃ ys, xs.take m1 = ys := ⟨_, rfl⟩
  obtain ⟨zs, hzs⟩ : ∃ zs, ts.take m2 = zs := ⟨_, rfl⟩
  rw [hys] at hM1 hyx hl1
  rw [hzs] at hM2 hyt hl2
  have HPA := Lib.hid (fun (v : Value) (w : World) (hL : Rd w 4 v ys.length (ys.flatMap Acc.cells)) => putAccounts_any ys v _ w rfl hyx hL)
  have HPT := Lib.hid (fun (v : Value) (w : World) (hL : Rd w 4 v zs.length (zs.flatMap Tra.cells)) => putTransfers_any zs v _ w rfl hyt hL)
  have HOX := Lib.hid (fun (x : Acc) (hx : x.Ok) (v : Value) (w : World) (hL : Rd w 4 v 1 ([x].flatMap Acc.cells)) => putAccounts_any [x] v 1 w rfl (by intro y hy; simp only [List.mem_singleton] at hy; subst hy; exact hx) hL)
  have HOT := Lib.hid (fun (x : Tra) (hx : x.Ok) (v : Value) (w : World) (hL : Rd w 4 v 1 ([x].flatMap Tra.cells)) => putTransfers_any [x] v 1 w rfl (by intro y hy; simp only [List.mem_singleton] at hy; subst hy; exact hx) hL)
  have HYX := Lib.hid hyx
  have HYT := Lib.hid hyt
  have HDK := Lib.hid hD
  clear hys hzs hx ht hyx hyt
  have HM1I : Hid ((if (4 : Int) < (xs.length : Int) then (4 : Int) else (xs.length : Int)) = (m1 : Int)) := Lib.hid (by split <;> omega)
  have HM2I : Hid ((if (4 : Int) < (ts.length : Int) then (4 : Int) else (ts.length : Int)) = (m2 : Int)) := Lib.hid (by split <;> omega)
  have hml1 : m1 ≤ xs.length := by omega
  have hml2 : m2 ≤ ts.length := by omega
  clear hm1 hm2
  rcases putS_cases byAcc ys with ⟨s, e1, e2, e3, e4⟩ | e1
  · rw [e1] at HPA
    have hsl : s.length ≤ 1000 := by have := cat_len byAcc byAcc_len _ _ e2; omega
    have hall := all_acc D HYX.out e2 e3 e4
    have heach := cat_each byAcc ys s e2
    have hD1 := opens_ok (ys.map Acc.bare) hD (by intro a ha; obtain ⟨x, hx, rfl⟩ := List.mem_map.1 ha; exact bare_ok (HYX.out x hx))
    have hlen1 := opens_len (ys.map Acc.bare) D
    rw [List.length_map] at hlen1
    have HALL := Lib.hid hall
    have HEA := Lib.hid heach
    clear e1 e2 hall heach
    rcases putS_cases byTra zs with ⟨t, f1, f2, f3, f4⟩ | f1
    · rw [f1] at HPT
      have htl : t.length ≤ 1000 := by have := cat_len byTra byTra_len _ _ f2; omega
      have hall2 := all_tra (D.opens (ys.map Acc.bare)).2 HYT.out f2 f3 f4
      have HALL2 := Lib.hid hall2
      clear f1 f2 hall2
      (go_enter Try.func3, Try.ntmps3)
      go_wp2_with (first | (go_at_call 10; refine (awake7 _).mono ?_; rintro e w' ⟨rfl, h⟩; replace hS := hS.call h; clear h) | fail)
      refine (HPL.out _ _ hS).mono ?_
      clear hS
      rintro e w' ⟨g1, rfl, hS⟩
      go_wp2_with (fail)
      refine (HPL.out _ _ hS).mono ?_
      clear hS
      rintro e w' ⟨g2, rfl, hS⟩
      go_wp2_with (first | ((with_reducible refine g_min ?_); first | refine wl_run rfl (x_min (m := (m1 : Int)) rfl rfl rfl HM1I.out) ?_ | refine wl_run rfl (x_min (m := (m2 : Int)) rfl rfl rfl HM2I.out) ?_) | ((with_reducible refine g_cut ?_); refine wl_run rfl (x_cutHi (ti := Try.t47) rfl (hS.old0 hX) rfl rfl rfl rfl rfl (by omega) (by omega)) ?_) | ((with_reducible refine g_cut ?_); refine wl_run rfl (x_cutHi (ti := Try.t45) rfl (hS.old0 hT) rfl rfl rfl rfl rfl (by omega) (by omega)) ?_) | (go_at_call 12; refine (HPA.out _ _ (hS.old0 hM1)).mono ?_; rintro e w' ⟨rfl, h⟩; replace hS := hS.call h; clear h; simp only [List.nil_append] at hS) | (go_at_call 13; refine (HPT.out _ _ (hS.old0 hM2)).mono ?_; rintro e w' ⟨rfl, h⟩; replace hS := hS.call h; clear h; simp only [List.nil_append] at hS) | (go_at_call 14; refine (HDO.out _ _ _ _ (hS.out (by (repeat (first | exact Out.here | apply Out.there)))) (by first | exact hD | exact hD1) _ _ (by first | exact hsl | exact htl)).mono ?_; clear hS; rintro e w' ⟨rfl, hS⟩; simp only [HALL.out, HALL2.out] at hS ⊢) | (first | ((with_reducible refine g_load ?_); refine k_read rfl (h := ?_)) | ((with_reducible refine g_len ?_); refine k_len rfl (h := ?_)) | ((with_reducible refine g_index ?_); refine k_idx rfl (h := ?_)) | ((with_reducible refine g_field ?_); refine k_fld rfl (h := ?_)) | ((with_reducible refine g_store ?_); refine wl_of rfl ?_; first | (refine k_sta hS rfl rfl rfl (h := ?_); clear hS; intro w' hS; simp only [List.take, List.drop, List.cons_append, List.nil_append, List.length_cons, List.length_nil] at hS) | (first | ((first | (refine k_st1 (v := .int _ _) hS rfl rfl rfl (h := ?_)) | (refine k_st1 (v := .bool _) hS rfl rfl rfl (h := ?_)) | (refine k_st1 (v := .string _) hS rfl rfl rfl (h := ?_)) | (refine k_st1 (v := .slice none 0 0) hS rfl rfl rfl (h := ?_))); clear hS; intro w' hS; simp only [List.set_cons_zero, List.set_cons_succ] at hS) | ((refine k_st1  hS rfl rfl rfl (h := ?_)); clear hS; intro w' hS; simp only [List.set_cons_zero, List.set_cons_succ] at hS; simp only [Act.eval, Array.getD_eq_getD_getElem?, List.getElem?_toArray, List.getElem?_cons_succ, List.getElem?_cons_zero, Option.getD_some] at hS)) | (first | (refine k_ste (v := .int _ _) hS rfl rfl rfl (h := ?_); clear hS; intro w' hS) | (refine k_ste (v := .bool _) hS rfl rfl rfl (h := ?_); clear hS; intro w' hS) | (refine k_ste (v := .string _) hS rfl rfl rfl (h := ?_); clear hS; intro w' hS))) | ((with_reducible refine g_alloc ?_); refine wl_of rfl ?_; refine wp_alloc hS rfl rfl rfl rfl ?_; clear hS; intro gb w1 hS) | ((with_reducible refine g_box ?_); refine wl_of rfl ?_; refine wp_box hS rfl rfl rfl ?_; clear hS; intro gb w1 hS) | ((with_reducible refine g_bs ?_); refine wl_of rfl ?_; (first | refine a_build1 (v := .int _ _) hS rfl rfl rfl rfl (by rfl) (by simp) ?_ | refine a_build1 (v := .string _) hS rfl rfl rfl rfl (by rfl) (by simp) ?_ | refine a_build1 (v := .bool _) hS rfl rfl rfl rfl (by rfl) (by simp) ?_ | refine a_build1 (v := .agg _) hS rfl rfl rfl rfl (by rfl) (by simp) ?_ | refine a_build1  hS rfl rfl rfl rfl (by rfl) (by simp) ?_); clear hS; intro v1 w' hS; simp only [List.length_cons, List.length_nil, Nat.zero_add] at hS; try simp only [Nat.reduceAdd] at hS) | ((with_reducible refine g_cut ?_); refine k_str rfl (h := ?_)) | ((with_reducible refine g_indexV ?_); refine k_six rfl (h := ?_)) | ((with_reducible refine g_bin ?_); refine k_cat rfl (h := ?_)) | ((with_reducible refine g_conv ?_); refine k_tos rfl (h := ?_)) | ((with_reducible refine wl_guard ?_); refine stop_mem rfl rfl ?_)))
      clear HPA HPT HALL HALL2
      replace hS : St [] w _ [ledg g2 D, ledg g1 ((D.opens (ys.map Acc.bare)).2.moves zs).2] := hS.pick
      obtain ⟨bs, hbs⟩ : ∃ bs, ys.map Acc.bare = bs := ⟨_, rfl⟩
      have HBN : Hid (∀ j, j < ys.length → nth bs j = (nth ys j).bare) := Lib.hid (by intro j hj; rw [← hbs]; exact nth_eq (by rw [List.getElem?_map, get_lt hj]; rfl))
      have hbl : bs.length = ys.length := by rw [← hbs, List.length_map]
      have HBO : Hid (∀ a ∈ bs, a.Ok) := Lib.hid (by intro a ha; rw [← hbs] at ha; obtain ⟨x, hx, rfl⟩ := List.mem_map.1 ha; exact bare_ok (HYX.out x hx))
      rw [hbs] at hS hD1 hlen1 ⊢
      obtain ⟨R1, hR1⟩ : ∃ R, D.opens bs = R := ⟨_, rfl⟩
      rw [hR1] at hS hD1 hlen1 ⊢
      obtain ⟨r1, D1⟩ := R1
      simp only at hS hD1 hlen1 ⊢
      have hok2 := moves_ok zs hD1 HYT.out
      have hlen2 := moves_len zs D1
      obtain ⟨R2, hR2⟩ : ∃ R, D1.moves zs = R := ⟨_, rfl⟩
      rw [hR2] at hS hok2 hlen2 ⊢
      obtain ⟨r2, D2⟩ := R2
      simp only at hS hok2 hlen2 ⊢
      obtain ⟨a1, ha1⟩ : ∃ a, [0] ++ r1 = a := ⟨_, rfl⟩
      obtain ⟨a2, ha2⟩ : ∃ a, [0] ++ r2 = a := ⟨_, rfl⟩
      rw [ha1, ha2]
      have HA1 := Lib.hid ha1
      have HA2 := Lib.hid ha2
      clear ha1 ha2
      have HR1 := Lib.hid hR1
      have HR2 := Lib.hid hR2
      have HOK2 := Lib.hid hok2
      have HD1 := Lib.hid hD1
      clear hbs hok2 hD1 hR1 hR2
      go_loopw [15, 17] (fun p k wr => ∃ j : Nat, j ≤ ys.length ∧ p = .string ⟨([0] ++ (D.opens (bs.take j)).1).toArray⟩ ∧ k = .int .i64 j ∧ St [] w wr [ledg g2 (D.opens (bs.take j)).2, ledg g1 D2]) (fun _ k _ => ys.length - (intOf k).toNat)
      case atStart => exact ⟨0, by omega, rfl, rfl, hS⟩
      case round =>
        clear hS
        obtain ⟨j, hj, rfl, rfl, hS⟩ := hrel
        by_cases hlt : j < ys.length
        · have hlt1 : (j : Int) < ys.length := by omega
          have hlb : j < bs.length := by omega
          have hx := HYX.out _ (nth_mem hlt)
          obtain ⟨sj, hsj⟩ := HEA.out _ (nth_mem hlt)
          have hone := fun (v : Value) (w : World) (hR : Rd w 4 v ys.length (ys.flatMap Acc.cells)) => Rd.cut1 (f := Acc.cells) (fun _ => rfl) hR hlt
          have hsn := opens_snoc (bs.take j) (nth bs j) D
          rw [← take_nth hlb, HBN.out j hlt] at hsn
          have hok := opens_ok (bs.take j) HDK.out (fun a h => HBO.out a (List.mem_of_mem_take h))
          have hle := opens_len (bs.take j) D
          have hle2 : (bs.take j).length ≤ 4 := by rw [List.length_take]; omega
          obtain ⟨x, hX1⟩ : ∃ x, nth ys j = x := ⟨_, rfl⟩
          rw [hX1] at hx hsj hone hsn
          have hdo := fun D => one_acc D hx hsj
          have hsjl := byAcc_len x sj hsj
          have HP1 := Lib.hid (HOX.out x hx)
          have ep : putS byAcc [x] = (sj, 0) := by simp [putS, cat, hsj]
          rw [ep] at HP1
          obtain ⟨R, hR⟩ : ∃ R, D.opens (bs.take j) = R := ⟨_, rfl⟩
          rw [hR] at hS hsn hok hle ⊢
          obtain ⟨r, Dj⟩ := R
          simp only at hS hsn hok hle ⊢
          have HC := Lib.hid (hdo Dj)
          obtain ⟨Y, hY⟩ : ∃ Y, Dj.open x.bare = Y := ⟨_, rfl⟩
          rw [hY] at HC hsn
          obtain ⟨c, Dn⟩ := Y
          simp only at HC hsn
          have HSN := Lib.hid hsn
          have HO := Lib.hid hone
          have hsl1 : sj.length ≤ 1000 := by omega
          have hpl : ([0] ++ r).length ≤ 10 := by simp only [List.length_append, List.length_singleton]; omega
          obtain ⟨pp, hpp⟩ : ∃ pp, [0] ++ r = pp := ⟨_, rfl⟩
          rw [hpp] at hpl
          have HPP := Lib.hid hpp
          rw [hpp]
          clear hX1 hx hsj hone hsn hdo ep hR hY hpp hle
          go_wp2_with (first | ((with_reducible refine g_cut ?_); refine wl_run rfl (x_cut (ti := Try.t47) rfl (hS.old0 hM1) rfl rfl rfl rfl rfl rfl (by omega) (by omega) (by omega)) ?_) | (go_at_call 12; refine (HP1.out _ _ (HO.out _ _ (hS.old0 hM1))).mono ?_; rintro e w' ⟨rfl, h⟩; replace hS := hS.call h; clear h; simp only [List.nil_append] at hS) | (go_at_call 14; refine (HDO.out _ _ _ _ (hS.out (by (repeat (first | exact Out.here | apply Out.there)))) hok _ _ hsl1).mono ?_; clear hS; rintro e w' ⟨rfl, hS⟩; simp only [HC.out] at hS ⊢) | (first | ((with_reducible refine g_load ?_); refine k_read rfl (h := ?_)) | ((with_reducible refine g_len ?_); refine k_len rfl (h := ?_)) | ((with_reducible refine g_index ?_); refine k_idx rfl (h := ?_)) | ((with_reducible refine g_field ?_); refine k_fld rfl (h := ?_)) | ((with_reducible refine g_store ?_); refine wl_of rfl ?_; first | (refine k_sta hS rfl rfl rfl (h := ?_); clear hS; intro w' hS; simp only [List.take, List.drop, List.cons_append, List.nil_append, List.length_cons, List.length_nil] at hS) | (first | ((first | (refine k_st1 (v := .int _ _) hS rfl rfl rfl (h := ?_)) | (refine k_st1 (v := .bool _) hS rfl rfl rfl (h := ?_)) | (refine k_st1 (v := .string _) hS rfl rfl rfl (h := ?_)) | (refine k_st1 (v := .slice none 0 0) hS rfl rfl rfl (h := ?_))); clear hS; intro w' hS; simp only [List.set_cons_zero, List.set_cons_succ] at hS) | ((refine k_st1  hS rfl rfl rfl (h := ?_)); clear hS; intro w' hS; simp only [List.set_cons_zero, List.set_cons_succ] at hS; simp only [Act.eval, Array.getD_eq_getD_getElem?, List.getElem?_toArray, List.getElem?_cons_succ, List.getElem?_cons_zero, Option.getD_some] at hS)) | (first | (refine k_ste (v := .int _ _) hS rfl rfl rfl (h := ?_); clear hS; intro w' hS) | (refine k_ste (v := .bool _) hS rfl rfl rfl (h := ?_); clear hS; intro w' hS) | (refine k_ste (v := .string _) hS rfl rfl rfl (h := ?_); clear hS; intro w' hS))) | ((with_reducible refine g_alloc ?_); refine wl_of rfl ?_; refine wp_alloc hS rfl rfl rfl rfl ?_; clear hS; intro gb w1 hS) | ((with_reducible refine g_box ?_); refine wl_of rfl ?_; refine wp_box hS rfl rfl rfl ?_; clear hS; intro gb w1 hS) | ((with_reducible refine g_bs ?_); refine wl_of rfl ?_; (first | refine a_build1 (v := .int _ _) hS rfl rfl rfl rfl (by rfl) (by simp) ?_ | refine a_build1 (v := .string _) hS rfl rfl rfl rfl (by rfl) (by simp) ?_ | refine a_build1 (v := .bool _) hS rfl rfl rfl rfl (by rfl) (by simp) ?_ | refine a_build1 (v := .agg _) hS rfl rfl rfl rfl (by rfl) (by simp) ?_ | refine a_build1  hS rfl rfl rfl rfl (by rfl) (by simp) ?_); clear hS; intro v1 w' hS; simp only [List.length_cons, List.length_nil, Nat.zero_add] at hS; try simp only [Nat.reduceAdd] at hS) | ((with_reducible refine g_cut ?_); refine k_str rfl (h := ?_)) | ((with_reducible refine g_indexV ?_); refine k_six rfl (h := ?_)) | ((with_reducible refine g_bin ?_); refine k_cat rfl (h := ?_)) | ((with_reducible refine g_conv ?_); refine k_tos rfl (h := ?_)) | ((with_reducible refine wl_guard ?_); refine stop_mem rfl rfl ?_)))
          refine ⟨⟨j + 1, by omega, ?_, by go_num, ?_⟩, by simp [intOf]; omega⟩
          · rw [HSN.out]
            simp only
            rw [← List.append_assoc, HPP.out]
            try rfl
          · rw [HSN.out]
            exact hS.pick
        · obtain rfl : j = ys.length := by omega
          rw [List.take_of_length_le (show bs.length ≤ ys.length by omega)] at hS ⊢
          rw [HR1.out] at hS ⊢
          simp only at hS ⊢
          rw [HA1.out]
          go_wp2_with (first | ((with_reducible refine g_load ?_); refine k_read rfl (h := ?_)) | ((with_reducible refine g_len ?_); refine k_len rfl (h := ?_)) | ((with_reducible refine g_index ?_); refine k_idx rfl (h := ?_)) | ((with_reducible refine g_field ?_); refine k_fld rfl (h := ?_)) | ((with_reducible refine g_store ?_); refine wl_of rfl ?_; first | (refine k_sta hS rfl rfl rfl (h := ?_); clear hS; intro w' hS; simp only [List.take, List.drop, List.cons_append, List.nil_append, List.length_cons, List.length_nil] at hS) | (first | ((first | (refine k_st1 (v := .int _ _) hS rfl rfl rfl (h := ?_)) | (refine k_st1 (v := .bool _) hS rfl rfl rfl (h := ?_)) | (refine k_st1 (v := .string _) hS rfl rfl rfl (h := ?_)) | (refine k_st1 (v := .slice none 0 0) hS rfl rfl rfl (h := ?_))); clear hS; intro w' hS; simp only [List.set_cons_zero, List.set_cons_succ] at hS) | ((refine k_st1  hS rfl rfl rfl (h := ?_)); clear hS; intro w' hS; simp only [List.set_cons_zero, List.set_cons_succ] at hS; simp only [Act.eval, Array.getD_eq_getD_getElem?, List.getElem?_toArray, List.getElem?_cons_succ, List.getElem?_cons_zero, Option.getD_some] at hS)) | (first | (refine k_ste (v := .int _ _) hS rfl rfl rfl (h := ?_); clear hS; intro w' hS) | (refine k_ste (v := .bool _) hS rfl rfl rfl (h := ?_); clear hS; intro w' hS) | (refine k_ste (v := .string _) hS rfl rfl rfl (h := ?_); clear hS; intro w' hS))) | ((with_reducible refine g_alloc ?_); refine wl_of rfl ?_; refine wp_alloc hS rfl rfl rfl rfl ?_; clear hS; intro gb w1 hS) | ((with_reducible refine g_box ?_); refine wl_of rfl ?_; refine wp_box hS rfl rfl rfl ?_; clear hS; intro gb w1 hS) | ((with_reducible refine g_bs ?_); refine wl_of rfl ?_; (first | refine a_build1 (v := .int _ _) hS rfl rfl rfl rfl (by rfl) (by simp) ?_ | refine a_build1 (v := .string _) hS rfl rfl rfl rfl (by rfl) (by simp) ?_ | refine a_build1 (v := .bool _) hS rfl rfl rfl rfl (by rfl) (by simp) ?_ | refine a_build1 (v := .agg _) hS rfl rfl rfl rfl (by rfl) (by simp) ?_ | refine a_build1  hS rfl rfl rfl rfl (by rfl) (by simp) ?_); clear hS; intro v1 w' hS; simp only [List.length_cons, List.length_nil, Nat.zero_add] at hS; try simp only [Nat.reduceAdd] at hS) | ((with_reducible refine g_cut ?_); refine k_str rfl (h := ?_)) | ((with_reducible refine g_indexV ?_); refine k_six rfl (h := ?_)) | ((with_reducible refine g_bin ?_); refine k_cat rfl (h := ?_)) | ((with_reducible refine g_conv ?_); refine k_tos rfl (h := ?_)) | ((with_reducible refine wl_guard ?_); refine stop_mem rfl rfl ?_))
          clear HBN HBO HEA HR1
          go_loopw [16, 21] (fun p k wr => ∃ j : Nat, j ≤ zs.length ∧ p = .string ⟨([0] ++ (D1.moves (zs.take j)).1).toArray⟩ ∧ k = .int .i64 j ∧ St [] w wr [ledg g2 (D1.moves (zs.take j)).2, ledg g1 D2]) (fun _ k _ => zs.length - (intOf k).toNat)
          case atStart => exact ⟨0, by omega, rfl, rfl, hS⟩
          case round =>
            clear hS
            obtain ⟨j, hj, rfl, rfl, hS⟩ := hrel
            by_cases hlt : j < zs.length
            · have hlt1 : (j : Int) < zs.length := by omega
              have hx := HYT.out _ (nth_mem hlt)
              have hone := fun (v : Value) (w : World) (hR : Rd w 4 v zs.length (zs.flatMap Tra.cells)) => Rd.cut1 (f := Tra.cells) (fun _ => rfl) hR hlt
              have hsn := moves_snoc (zs.take j) (nth zs j) D1
              rw [← take_nth hlt] at hsn
              have hok := moves_ok (zs.take j) HD1.out (fun a h => HYT.out a (List.mem_of_mem_take h))
              have hle := moves_len (zs.take j) D1
              have hle2 : (zs.take j).length ≤ 4 := by rw [List.length_take]; omega
              obtain ⟨x, hX1⟩ : ∃ x, nth zs j = x := ⟨_, rfl⟩
              rw [hX1] at hx hone hsn
              have hdo := fun D => one_tra D hx
              have hsjl := traB_len x
              have HP1 := Lib.hid (HOT.out x hx)
              have ep : putS byTra [x] = (traB x, 0) := by simp [putS, cat, byTra, traB]
              rw [ep] at HP1
              obtain ⟨R, hR⟩ : ∃ R, D1.moves (zs.take j) = R := ⟨_, rfl⟩
              rw [hR] at hS hsn hok hle ⊢
              obtain ⟨r, Dj⟩ := R
              simp only at hS hsn hok hle ⊢
              have HC := Lib.hid (hdo Dj)
              obtain ⟨Y, hY⟩ : ∃ Y, Dj.move x = Y := ⟨_, rfl⟩
              rw [hY] at HC hsn
              obtain ⟨c, Dn⟩ := Y
              simp only at HC hsn
              have HSN := Lib.hid hsn
              have HO := Lib.hid hone
              obtain ⟨sj, hsj⟩ : ∃ sj, traB x = sj := ⟨_, rfl⟩
              rw [hsj] at HP1 HC hsjl
              have hsl1 : sj.length ≤ 1000 := by omega
              have hpl : ([0] ++ r).length ≤ 10 := by simp only [List.length_append, List.length_singleton]; omega
              obtain ⟨pp, hpp⟩ : ∃ pp, [0] ++ r = pp := ⟨_, rfl⟩
              rw [hpp] at hpl
              have HPP := Lib.hid hpp
              rw [hpp]
              clear hX1 hx hone hsn hdo ep hR hY hpp hle hsj
              go_wp2_with (first | ((with_reducible refine g_cut ?_); refine wl_run rfl (x_cut (ti := Try.t45) rfl (hS.old0 hM2) rfl rfl rfl rfl rfl rfl (by omega) (by omega) (by omega)) ?_) | (go_at_call 13; refine (HP1.out _ _ (HO.out _ _ (hS.old0 hM2))).mono ?_; rintro e w' ⟨rfl, h⟩; replace hS := hS.call h; clear h; simp only [List.nil_append] at hS) | (go_at_call 14; refine (HDO.out _ _ _ _ (hS.out (by (repeat (first | exact Out.here | apply Out.there)))) hok _ _ hsl1).mono ?_; clear hS; rintro e w' ⟨rfl, hS⟩; simp only [HC.out] at hS ⊢) | (first | ((with_reducible refine g_load ?_); refine k_read rfl (h := ?_)) | ((with_reducible refine g_len ?_); refine k_len rfl (h := ?_)) | ((with_reducible refine g_index ?_); refine k_idx rfl (h := ?_)) | ((with_reducible refine g_field ?_); refine k_fld rfl (h := ?_)) | ((with_reducible refine g_store ?_); refine wl_of rfl ?_; first | (refine k_sta hS rfl rfl rfl (h := ?_); clear hS; intro w' hS; simp only [List.take, List.drop, List.cons_append, List.nil_append, List.length_cons, List.length_nil] at hS) | (first | ((first | (refine k_st1 (v := .int _ _) hS rfl rfl rfl (h := ?_)) | (refine k_st1 (v := .bool _) hS rfl rfl rfl (h := ?_)) | (refine k_st1 (v := .string _) hS rfl rfl rfl (h := ?_)) | (refine k_st1 (v := .slice none 0 0) hS rfl rfl rfl (h := ?_))); clear hS; intro w' hS; simp only [List.set_cons_zero, List.set_cons_succ] at hS) | ((refine k_st1  hS rfl rfl rfl (h := ?_)); clear hS; intro w' hS; simp only [List.set_cons_zero, List.set_cons_succ] at hS; simp only [Act.eval, Array.getD_eq_getD_getElem?, List.getElem?_toArray, List.getElem?_cons_succ, List.getElem?_cons_zero, Option.getD_some] at hS)) | (first | (refine k_ste (v := .int _ _) hS rfl rfl rfl (h := ?_); clear hS; intro w' hS) | (refine k_ste (v := .bool _) hS rfl rfl rfl (h := ?_); clear hS; intro w' hS) | (refine k_ste (v := .string _) hS rfl rfl rfl (h := ?_); clear hS; intro w' hS))) | ((with_reducible refine g_alloc ?_); refine wl_of rfl ?_; refine wp_alloc hS rfl rfl rfl rfl ?_; clear hS; intro gb w1 hS) | ((with_reducible refine g_box ?_); refine wl_of rfl ?_; refine wp_box hS rfl rfl rfl ?_; clear hS; intro gb w1 hS) | ((with_reducible refine g_bs ?_); refine wl_of rfl ?_; (first | refine a_build1 (v := .int _ _) hS rfl rfl rfl rfl (by rfl) (by simp) ?_ | refine a_build1 (v := .string _) hS rfl rfl rfl rfl (by rfl) (by simp) ?_ | refine a_build1 (v := .bool _) hS rfl rfl rfl rfl (by rfl) (by simp) ?_ | refine a_build1 (v := .agg _) hS rfl rfl rfl rfl (by rfl) (by simp) ?_ | refine a_build1  hS rfl rfl rfl rfl (by rfl) (by simp) ?_); clear hS; intro v1 w' hS; simp only [List.length_cons, List.length_nil, Nat.zero_add] at hS; try simp only [Nat.reduceAdd] at hS) | ((with_reducible refine g_cut ?_); refine k_str rfl (h := ?_)) | ((with_reducible refine g_indexV ?_); refine k_six rfl (h := ?_)) | ((with_reducible refine g_bin ?_); refine k_cat rfl (h := ?_)) | ((with_reducible refine g_conv ?_); refine k_tos rfl (h := ?_)) | ((with_reducible refine wl_guard ?_); refine stop_mem rfl rfl ?_)))
              refine ⟨⟨j + 1, by omega, ?_, by go_num, ?_⟩, by simp [intOf]; omega⟩
              · rw [HSN.out]
                simp only
                rw [← List.append_assoc, HPP.out]
                try rfl
              · rw [HSN.out]
                exact hS.pick
            · obtain rfl : j = zs.length := by omega
              rw [List.take_length] at hS ⊢
              rw [HR2.out] at hS ⊢
              simp only at hS ⊢
              rw [HA2.out]
              have HPK := Lib.hid (fun (W : World) (g : Nat) (M : List Ent) (hS : St [] w W (ledg g D2 :: M)) => ledg_pack hS HOK2.out)
              generalize lPack D2 = pk at HPK
              go_wp2_with (first | (go_at_call 15; refine (HPK.out _ _ _ (hS.out (by (repeat (first | exact Out.here | apply Out.there))))).mono ?_; clear hS; rintro e w' ⟨rfl, hS⟩) | (first | ((with_reducible refine g_load ?_); refine k_read rfl (h := ?_)) | ((with_reducible refine g_len ?_); refine k_len rfl (h := ?_)) | ((with_reducible refine g_index ?_); refine k_idx rfl (h := ?_)) | ((with_reducible refine g_field ?_); refine k_fld rfl (h := ?_)) | ((with_reducible refine g_store ?_); refine wl_of rfl ?_; first | (refine k_sta hS rfl rfl rfl (h := ?_); clear hS; intro w' hS; simp only [List.take, List.drop, List.cons_append, List.nil_append, List.length_cons, List.length_nil] at hS) | (first | ((first | (refine k_st1 (v := .int _ _) hS rfl rfl rfl (h := ?_)) | (refine k_st1 (v := .bool _) hS rfl rfl rfl (h := ?_)) | (refine k_st1 (v := .string _) hS rfl rfl rfl (h := ?_)) | (refine k_st1 (v := .slice none 0 0) hS rfl rfl rfl (h := ?_))); clear hS; intro w' hS; simp only [List.set_cons_zero, List.set_cons_succ] at hS) | ((refine k_st1  hS rfl rfl rfl (h := ?_)); clear hS; intro w' hS; simp only [List.set_cons_zero, List.set_cons_succ] at hS; simp only [Act.eval, Array.getD_eq_getD_getElem?, List.getElem?_toArray, List.getElem?_cons_succ, List.getElem?_cons_zero, Option.getD_some] at hS)) | (first | (refine k_ste (v := .int _ _) hS rfl rfl rfl (h := ?_); clear hS; intro w' hS) | (refine k_ste (v := .bool _) hS rfl rfl rfl (h := ?_); clear hS; intro w' hS) | (refine k_ste (v := .string _) hS rfl rfl rfl (h := ?_); clear hS; intro w' hS))) | ((with_reducible refine g_alloc ?_); refine wl_of rfl ?_; refine wp_alloc hS rfl rfl rfl rfl ?_; clear hS; intro gb w1 hS) | ((with_reducible refine g_box ?_); refine wl_of rfl ?_; refine wp_box hS rfl rfl rfl ?_; clear hS; intro gb w1 hS) | ((with_reducible refine g_bs ?_); refine wl_of rfl ?_; (first | refine a_build1 (v := .int _ _) hS rfl rfl rfl rfl (by rfl) (by simp) ?_ | refine a_build1 (v := .string _) hS rfl rfl rfl rfl (by rfl) (by simp) ?_ | refine a_build1 (v := .bool _) hS rfl rfl rfl rfl (by rfl) (by simp) ?_ | refine a_build1 (v := .agg _) hS rfl rfl rfl rfl (by rfl) (by simp) ?_ | refine a_build1  hS rfl rfl rfl rfl (by rfl) (by simp) ?_); clear hS; intro v1 w' hS; simp only [List.length_cons, List.length_nil, Nat.zero_add] at hS; try simp only [Nat.reduceAdd] at hS) | ((with_reducible refine g_cut ?_); refine k_str rfl (h := ?_)) | ((with_reducible refine g_indexV ?_); refine k_six rfl (h := ?_)) | ((with_reducible refine g_bin ?_); refine k_cat rfl (h := ?_)) | ((with_reducible refine g_conv ?_); refine k_tos rfl (h := ?_)) | ((with_reducible refine wl_guard ?_); refine stop_mem rfl rfl ?_)))
              go_ret
              exact ⟨by first | rfl | simp, hS.nil⟩
    · rw [f1] at HPT
      clear f1 HALL HEA hD1 hlen1
      (go_enter Try.func3, Try.ntmps3)
      go_wp2_with (first | (go_at_call 10; refine (awake7 _).mono ?_; rintro e w' ⟨rfl, h⟩; replace hS := hS.call h; clear h) | fail)
      refine (HPL.out _ _ hS).mono ?_
      clear hS
      rintro e w' ⟨g1, rfl, hS⟩
      go_wp2_with (fail)
      refine (HPL.out _ _ hS).mono ?_
      clear hS
      rintro e w' ⟨g2, rfl, hS⟩
      go_wp2_with (first | ((with_reducible refine g_min ?_); first | refine wl_run rfl (x_min (m := (m1 : Int)) rfl rfl rfl HM1I.out) ?_ | refine wl_run rfl (x_min (m := (m2 : Int)) rfl rfl rfl HM2I.out) ?_) | ((with_reducible refine g_cut ?_); refine wl_run rfl (x_cutHi (ti := Try.t47) rfl (hS.old0 hX) rfl rfl rfl rfl rfl (by omega) (by omega)) ?_) | ((with_reducible refine g_cut ?_); refine wl_run rfl (x_cutHi (ti := Try.t45) rfl (hS.old0 hT) rfl rfl rfl rfl rfl (by omega) (by omega)) ?_) | (go_at_call 12; refine (HPA.out _ _ (hS.old0 hM1)).mono ?_; rintro e w' ⟨rfl, h⟩; replace hS := hS.call h; clear h; simp only [List.nil_append] at hS) | (go_at_call 13; refine (HPT.out _ _ (hS.old0 hM2)).mono ?_; rintro e w' ⟨rfl, h⟩; replace hS := hS.call h; clear h; simp only [List.nil_append] at hS) | (first | ((with_reducible refine g_load ?_); refine k_read rfl (h := ?_)) | ((with_reducible refine g_len ?_); refine k_len rfl (h := ?_)) | ((with_reducible refine g_index ?_); refine k_idx rfl (h := ?_)) | ((with_reducible refine g_field ?_); refine k_fld rfl (h := ?_)) | ((with_reducible refine g_store ?_); refine wl_of rfl ?_; first | (refine k_sta hS rfl rfl rfl (h := ?_); clear hS; intro w' hS; simp only [List.take, List.drop, List.cons_append, List.nil_append, List.length_cons, List.length_nil] at hS) | (first | ((first | (refine k_st1 (v := .int _ _) hS rfl rfl rfl (h := ?_)) | (refine k_st1 (v := .bool _) hS rfl rfl rfl (h := ?_)) | (refine k_st1 (v := .string _) hS rfl rfl rfl (h := ?_)) | (refine k_st1 (v := .slice none 0 0) hS rfl rfl rfl (h := ?_))); clear hS; intro w' hS; simp only [List.set_cons_zero, List.set_cons_succ] at hS) | ((refine k_st1  hS rfl rfl rfl (h := ?_)); clear hS; intro w' hS; simp only [List.set_cons_zero, List.set_cons_succ] at hS; simp only [Act.eval, Array.getD_eq_getD_getElem?, List.getElem?_toArray, List.getElem?_cons_succ, List.getElem?_cons_zero, Option.getD_some] at hS)) | (first | (refine k_ste (v := .int _ _) hS rfl rfl rfl (h := ?_); clear hS; intro w' hS) | (refine k_ste (v := .bool _) hS rfl rfl rfl (h := ?_); clear hS; intro w' hS) | (refine k_ste (v := .string _) hS rfl rfl rfl (h := ?_); clear hS; intro w' hS))) | ((with_reducible refine g_alloc ?_); refine wl_of rfl ?_; refine wp_alloc hS rfl rfl rfl rfl ?_; clear hS; intro gb w1 hS) | ((with_reducible refine g_box ?_); refine wl_of rfl ?_; refine wp_box hS rfl rfl rfl ?_; clear hS; intro gb w1 hS) | ((with_reducible refine g_bs ?_); refine wl_of rfl ?_; (first | refine a_build1 (v := .int _ _) hS rfl rfl rfl rfl (by rfl) (by simp) ?_ | refine a_build1 (v := .string _) hS rfl rfl rfl rfl (by rfl) (by simp) ?_ | refine a_build1 (v := .bool _) hS rfl rfl rfl rfl (by rfl) (by simp) ?_ | refine a_build1 (v := .agg _) hS rfl rfl rfl rfl (by rfl) (by simp) ?_ | refine a_build1  hS rfl rfl rfl rfl (by rfl) (by simp) ?_); clear hS; intro v1 w' hS; simp only [List.length_cons, List.length_nil, Nat.zero_add] at hS; try simp only [Nat.reduceAdd] at hS) | ((with_reducible refine g_cut ?_); refine k_str rfl (h := ?_)) | ((with_reducible refine g_indexV ?_); refine k_six rfl (h := ?_)) | ((with_reducible refine g_bin ?_); refine k_cat rfl (h := ?_)) | ((with_reducible refine g_conv ?_); refine k_tos rfl (h := ?_)) | ((with_reducible refine wl_guard ?_); refine stop_mem rfl rfl ?_)))
      go_ret
      exact ⟨rfl, hS.nil⟩
  · rw [e1] at HPA
    obtain ⟨q, hq⟩ : ∃ q, putS byTra zs = q := ⟨_, rfl⟩
    rw [hq] at HPT
    clear hq e1
    obtain ⟨q1, q2⟩ := q
    simp only at HPT
    (go_enter Try.func3, Try.ntmps3)
    go_wp2_with (first | (go_at_call 10; refine (awake7 _).mono ?_; rintro e w' ⟨rfl, h⟩; replace hS := hS.call h; clear h) | fail)
    refine (HPL.out _ _ hS).mono ?_
    clear hS
    rintro e w' ⟨g1, rfl, hS⟩
    go_wp2_with (fail)
    refine (HPL.out _ _ hS).mono ?_
    clear hS
    rintro e w' ⟨g2, rfl, hS⟩
    go_wp2_with (first | ((with_reducible refine g_min ?_); first | refine wl_run rfl (x_min (m := (m1 : Int)) rfl rfl rfl HM1I.out) ?_ | refine wl_run rfl (x_min (m := (m2 : Int)) rfl rfl rfl HM2I.out) ?_) | ((with_reducible refine g_cut ?_); refine wl_run rfl (x_cutHi (ti := Try.t47) rfl (hS.old0 hX) rfl rfl rfl rfl rfl (by omega) (by omega)) ?_) | ((with_reducible refine g_cut ?_); refine wl_run rfl (x_cutHi (ti := Try.t45) rfl (hS.old0 hT) rfl rfl rfl rfl rfl (by omega) (by omega)) ?_) | (go_at_call 12; refine (HPA.out _ _ (hS.old0 hM1)).mono ?_; rintro e w' ⟨rfl, h⟩; replace hS := hS.call h; clear h; simp only [List.nil_append] at hS) | (go_at_call 13; refine (HPT.out _ _ (hS.old0 hM2)).mono ?_; rintro e w' ⟨rfl, h⟩; replace hS := hS.call h; clear h; simp only [List.nil_append] at hS) | (first | ((with_reducible refine g_load ?_); refine k_read rfl (h := ?_)) | ((with_reducible refine g_len ?_); refine k_len rfl (h := ?_)) | ((with_reducible refine g_index ?_); refine k_idx rfl (h := ?_)) | ((with_reducible refine g_field ?_); refine k_fld rfl (h := ?_)) | ((with_reducible refine g_store ?_); refine wl_of rfl ?_; first | (refine k_sta hS rfl rfl rfl (h := ?_); clear hS; intro w' hS; simp only [List.take, List.drop, List.cons_append, List.nil_append, List.length_cons, List.length_nil] at hS) | (first | ((first | (refine k_st1 (v := .int _ _) hS rfl rfl rfl (h := ?_)) | (refine k_st1 (v := .bool _) hS rfl rfl rfl (h := ?_)) | (refine k_st1 (v := .string _) hS rfl rfl rfl (h := ?_)) | (refine k_st1 (v := .slice none 0 0) hS rfl rfl rfl (h := ?_))); clear hS; intro w' hS; simp only [List.set_cons_zero, List.set_cons_succ] at hS) | ((refine k_st1  hS rfl rfl rfl (h := ?_)); clear hS; intro w' hS; simp only [List.set_cons_zero, List.set_cons_succ] at hS; simp only [Act.eval, Array.getD_eq_getD_getElem?, List.getElem?_toArray, List.getElem?_cons_succ, List.getElem?_cons_zero, Option.getD_some] at hS)) | (first | (refine k_ste (v := .int _ _) hS rfl rfl rfl (h := ?_); clear hS; intro w' hS) | (refine k_ste (v := .bool _) hS rfl rfl rfl (h := ?_); clear hS; intro w' hS) | (refine k_ste (v := .string _) hS rfl rfl rfl (h := ?_); clear hS; intro w' hS))) | ((with_reducible refine g_alloc ?_); refine wl_of rfl ?_; refine wp_alloc hS rfl rfl rfl rfl ?_; clear hS; intro gb w1 hS) | ((with_reducible refine g_box ?_); refine wl_of rfl ?_; refine wp_box hS rfl rfl rfl ?_; clear hS; intro gb w1 hS) | ((with_reducible refine g_bs ?_); refine wl_of rfl ?_; (first | refine a_build1 (v := .int _ _) hS rfl rfl rfl rfl (by rfl) (by simp) ?_ | refine a_build1 (v := .string _) hS rfl rfl rfl rfl (by rfl) (by simp) ?_ | refine a_build1 (v := .bool _) hS rfl rfl rfl rfl (by rfl) (by simp) ?_ | refine a_build1 (v := .agg _) hS rfl rfl rfl rfl (by rfl) (by simp) ?_ | refine a_build1  hS rfl rfl rfl rfl (by rfl) (by simp) ?_); clear hS; intro v1 w' hS; simp only [List.length_cons, List.length_nil, Nat.zero_add] at hS; try simp only [Nat.reduceAdd] at hS) | ((with_reducible refine g_cut ?_); refine k_str rfl (h := ?_)) | ((with_reducible refine g_indexV ?_); refine k_six rfl (h := ?_)) | ((with_reducible refine g_bin ?_); refine k_cat rfl (h := ?_)) | ((with_reducible refine g_conv ?_); refine k_tos rfl (h := ?_)) | ((with_reducible refine wl_guard ?_); refine stop_mem rfl rfl ?_)))
    go_ret
    exact ⟨rfl, hS.nil⟩
end Go.Proofs.Ytggngdjncokanaa
