/-
  The document's ledger: an operation.
  The document's ledger: the bytes.
-/
import Derived.Test.YtjjiibcnknljfaaGreatLedD
set_option linter.unusedSimpArgs false
set_option linter.unusedVariables false
set_option linter.unusedSectionVars false
set_option maxRecDepth 100000
namespace Go.Proofs.YtjjiibcnknljfaaGreat
open Go.RowKit Go.Cmp

section
variable {S : List Nat} {w0 w : World} {M : List Ent} {g : Nat} {D : Led}

set_option maxRecDepth 100000 in
set_option maxHeartbeats 4000000 in
theorem rledg_find (hS : St S w0 w (rledg g D :: M)) (hD : D.Ok) (op : Int) (id : Nat) :
    Calls Tryz.prog 44 #[.pointer (some ⟨g, 0, none⟩), .int .i64 op, .int .u64 id] w fun e w' => e = .returned (.string ⟨(if op = 4 then D.find4 id else D.find5 id).toArray⟩) ∧ St S w0 w' (rledg g D :: M) := by
  have HB0 := Lib.hid (fun w => byte7_any 0 (by omega) (by omega) w)
  have HB1 := Lib.hid (fun w => byte7_any 1 (by omega) (by omega) w)
  by_cases h4 : op = 4
  · subst h4
    rw [if_pos rfl]
    unfold Led.find4
    have HF := Lib.hid (fun (W : World) (M : List Ent) (hS : St S w0 W (rledg g D :: M)) => rledg_account hS (show D.A.length ≤ 1000000 by have := hD.la; omega) id)
    have hr := accAt_range id D.A
    obtain ⟨n, hn⟩ : ∃ n, accAt id D.A = n := ⟨_, rfl⟩
    rw [hn] at HF hr ⊢
    clear hn
    by_cases h : n < 0
    · rw [if_pos h]
      clear hr
      (go_enter Tryz.func44, Tryz.ntmps44)
      go_wp2_with (first | (go_at_call 73; refine (HF.out _ _ (hS.out (by (repeat (first | exact Out.here | apply Out.there))))).mono ?_; clear hS; rintro e w' ⟨rfl, hS⟩) | (go_at_call 38; refine (HB0.out _).mono ?_; rintro e w' ⟨rfl, h⟩; replace hS := hS.call h; clear h) | (first | refine au1 (n := ?_) | (refine au2 (n := ?_); clear hS; intro w' hS) | (refine au3 (n := ?_); clear hS; intro gb w1 hS) | (refine au4 (n := ?_); clear hS; intro v1 w' hS) | ((with_reducible refine wl_guard ?_); refine stop_mem rfl rfl ?_)))
      go_ret
      exact ⟨rfl, hS.pick⟩
    · rw [if_neg h]
      obtain ⟨p, rfl⟩ := Int.eq_ofNat_of_zero_le (show 0 ≤ n by omega)
      rw [Int.toNat_natCast]
      have hpl : p < D.A.length := by have := hr.2; omega
      have hx := hD.acc _ (nth_mem hpl)
      have hget := get_lt (L := D.A) hpl
      obtain ⟨x, hX⟩ : ∃ x, nth D.A p = x := ⟨_, rfl⟩
      rw [hX] at hx hget ⊢
      have HP := Lib.hid (fun w => refPutWhole_any x hx w)
      have hz := putW_len x
      clear hX hx hr
      obtain ⟨b, hb⟩ : ∃ b, (putW x).2 = b := ⟨_, rfl⟩
      rw [hb] at HP
      generalize (putW x).1 = s at HP hz ⊢
      clear hb
      obtain ⟨A, T⟩ := D
      obtain ⟨x1, x2, x3, x4⟩ := x
      simp only [Acc.cells] at HP
      simp only at hget hpl
      (go_enter Tryz.func44, Tryz.ntmps44)
      go_wp2_with (first | (go_at_call 73; refine (HF.out _ _ (hS.out (by (repeat (first | exact Out.here | apply Out.there))))).mono ?_; clear hS; rintro e w' ⟨rfl, hS⟩; (have hU := St.unpack hS; clear hS; obtain ⟨⟨xa, xt⟩, _, hS⟩ := hU; simp only [List.cons_append, List.nil_append] at hS)) | (go_at_call 76; refine (HP.out _).mono ?_; rintro e w' ⟨rfl, h⟩; replace hS := hS.call h; clear h) | (go_at_call 38; refine (HB1.out _).mono ?_; rintro e w' ⟨rfl, h⟩; replace hS := hS.call h; clear h) | (first | refine au1 (n := ?_) | (refine au2 (n := ?_); clear hS; intro w' hS) | (refine au3 (n := ?_); clear hS; intro gb w1 hS) | (refine au4 (n := ?_); clear hS; intro v1 w' hS) | ((with_reducible refine wl_guard ?_); refine stop_mem rfl rfl ?_)))
      go_ret
      refine ⟨?_, (St.packs (xa, xt) hS : St S w0 _ (rledg g ⟨A, T⟩ :: _)).pick⟩
      simp
  · rw [if_neg h4]
    unfold Led.find5
    have HF := Lib.hid (fun (W : World) (M : List Ent) (hS : St S w0 W (rledg g D :: M)) => rledg_transfer hS (show D.T.length ≤ 1000000 by have := hD.lt; omega) id)
    have hr := traAt_range id D.T
    obtain ⟨n, hn⟩ : ∃ n, traAt id D.T = n := ⟨_, rfl⟩
    rw [hn] at HF hr ⊢
    clear hn
    by_cases h : n < 0
    · rw [if_pos h]
      clear hr
      (go_enter Tryz.func44, Tryz.ntmps44)
      go_wp2_with (first | (go_at_call 74; refine (HF.out _ _ (hS.out (by (repeat (first | exact Out.here | apply Out.there))))).mono ?_; clear hS; rintro e w' ⟨rfl, hS⟩) | (go_at_call 38; refine (HB0.out _).mono ?_; rintro e w' ⟨rfl, h⟩; replace hS := hS.call h; clear h) | (first | refine au1 (n := ?_) | (refine au2 (n := ?_); clear hS; intro w' hS) | (refine au3 (n := ?_); clear hS; intro gb w1 hS) | (refine au4 (n := ?_); clear hS; intro v1 w' hS) | ((with_reducible refine wl_guard ?_); refine stop_mem rfl rfl ?_)))
      go_ret
      exact ⟨rfl, hS.pick⟩
    · rw [if_neg h]
      obtain ⟨p, rfl⟩ := Int.eq_ofNat_of_zero_le (show 0 ≤ n by omega)
      rw [Int.toNat_natCast]
      have hpl : p < D.T.length := by have := hr.2; omega
      have hp16 : D.T.length ≤ 16 := hD.lt
      have hx := hD.tra _ (nth_mem hpl)
      have hone := fun (v : Value) (w : World) (hR : Rd w 4 v D.T.length (D.T.flatMap Tra.cells)) => Rd.cut1 (f := Tra.cells) (fun _ => rfl) hR hpl
      obtain ⟨x, hX⟩ : ∃ x, nth D.T p = x := ⟨_, rfl⟩
      rw [hX] at hx hone ⊢
      have HP := Lib.hid (fun (v : Value) (w : World) (h : Rd w 4 v 1 ([x].flatMap Tra.cells)) => refPutTransfers_any [x] v 1 w rfl (by intro y hy; simp only [List.mem_singleton] at hy; subst hy; exact hx) h)
      have e : putS byTra [x] = (traB x, 0) := by simp [putS, cat, byTra, traB]
      rw [e] at HP
      have hz := Nat.le_of_eq (traB_len x)
      clear e hX hx hr
      generalize traB x = s at HP hz ⊢
      have HO := Lib.hid hone
      obtain ⟨A, T⟩ := D
      simp only at HO hpl hp16
      (go_enter Tryz.func44, Tryz.ntmps44)
      go_wp2_with (first | (go_at_call 74; refine (HF.out _ _ (hS.out (by (repeat (first | exact Out.here | apply Out.there))))).mono ?_; clear hS; rintro e w' ⟨rfl, hS⟩; (have hU := St.unpack hS; clear hS; obtain ⟨⟨xa, xt⟩, _, hS⟩ := hU; simp only [List.cons_append, List.nil_append] at hS)) | ((with_reducible refine g_cut ?_); refine wl_run rfl (x_cut (ti := Tryz.t91) rfl (hS.rdx (by (repeat (first | exact Ix.here | apply Ix.there)))) rfl rfl rfl rfl rfl rfl (by omega) (by omega) (by omega)) ?_) | (go_at_call 77; refine (HP.out _ _ (HO.out _ _ (hS.rdx (by (repeat (first | exact Ix.here | apply Ix.there)))))).mono ?_; rintro e w' ⟨rfl, h⟩; replace hS := hS.call h; clear h) | (go_at_call 38; refine (HB1.out _).mono ?_; rintro e w' ⟨rfl, h⟩; replace hS := hS.call h; clear h) | (first | refine au1 (n := ?_) | (refine au2 (n := ?_); clear hS; intro w' hS) | (refine au3 (n := ?_); clear hS; intro gb w1 hS) | (refine au4 (n := ?_); clear hS; intro v1 w' hS) | ((with_reducible refine wl_guard ?_); refine stop_mem rfl rfl ?_)))
      go_ret
      refine ⟨?_, (St.packs (xa, xt) hS : St S w0 _ (rledg g ⟨A, T⟩ :: _)).pick⟩
      simp

def Led.findOp (D : Led) (op : Int) (id : Nat) : List UInt8 := if op = 4 then D.find4 id else D.find5 id
theorem findOp_len (D : Led) (op : Int) (id : Nat) : (D.findOp op id).length ≤ 33 := by
  unfold Led.findOp
  split
  · have := find4_len D id; omega
  · have := find5_len D id; omega

set_option maxRecDepth 100000 in
set_option maxHeartbeats 8000000 in
theorem rledg_do (hS : St S w0 w (rledg g D :: M)) (hD : D.Ok) (op : Int) (body : List UInt8) (hl : body.length ≤ 1000) :
    Calls Tryz.prog 15 #[.pointer (some ⟨g, 0, none⟩), .int .i64 op, .string ⟨body.toArray⟩] w fun e w' => e = .returned (.string ⟨(D.doIt op body).1.toArray⟩) ∧ St S w0 w' (rledg g (D.doIt op body).2 :: M) := by
  have HD := Lib.hid hD
  clear hD
  have HB0 := Lib.hid (fun w => byte7_any 0 (by omega) (by omega) w)
  have HB1 := Lib.hid (fun w => byte7_any 1 (by omega) (by omega) w)
  by_cases h2 : op = 2
  · subst h2
    have HA := Lib.hid (fun w => refAccounts_any body w (by omega))
    have hln := takeS_len gAcc 9 body
    have hok := takeS_all gAcc_ok 9 body
    have e : D.doIt 2 body = if (takeS gAcc 9 body).2 = false then ([1], D) else ([0] ++ (D.opens (takeS gAcc 9 body).1).1, (D.opens (takeS gAcc 9 body).1).2) := by unfold Led.doIt; rw [if_pos rfl]
    rw [e]
    clear e
    obtain ⟨K, hK⟩ : ∃ K, takeS gAcc 9 body = K := ⟨_, rfl⟩
    rw [hK] at HA hln hok ⊢
    obtain ⟨L, ok⟩ := K
    simp only at HA hln hok ⊢
    clear hK
    cases ok
    · rw [if_pos rfl]
      (go_enter Tryz.func15, Tryz.ntmps15)
      go_wp2_with (first | (go_at_call 38; refine (HB0.out _).mono ?_; rintro e w' ⟨rfl, h⟩; replace hS := hS.call h; clear h) | (go_at_call 38; refine (HB1.out _).mono ?_; rintro e w' ⟨rfl, h⟩; replace hS := hS.call h; clear h) | (go_at_call 39; refine (HA.out _).mono ?_; rintro e w' ⟨v1, rfl, h⟩; replace hS := hS.call h; clear h) | (first | refine au1 (n := ?_) | (refine au2 (n := ?_); clear hS; intro w' hS) | (refine au3 (n := ?_); clear hS; intro gb w1 hS) | (refine au4 (n := ?_); clear hS; intro v1 w' hS) | ((with_reducible refine wl_guard ?_); refine stop_mem rfl rfl ?_)))
      go_ret
      exact ⟨rfl, hS.pick⟩
    · rw [if_neg (by simp)]
      have HOK := Lib.hid hok
      clear hok
      (go_enter Tryz.func15, Tryz.ntmps15)
      go_wp2_with (first | (go_at_call 38; refine (HB0.out _).mono ?_; rintro e w' ⟨rfl, h⟩; replace hS := hS.call h; clear h) | (go_at_call 39; refine (HA.out _).mono ?_; rintro e w' ⟨v1, rfl, h⟩; replace hS := hS.call h; clear h; simp only [List.cons_append, List.nil_append] at hS) | (first | refine au1 (n := ?_) | (refine au2 (n := ?_); clear hS; intro w' hS) | (refine au3 (n := ?_); clear hS; intro gb w1 hS) | (refine au4 (n := ?_); clear hS; intro v1 w' hS) | ((with_reducible refine wl_guard ?_); refine stop_mem rfl rfl ?_)))
      clear HB0 HB1 HA
      go_loopw [7, 10] (fun s k wr => ∃ j : Nat, j ≤ L.length ∧ s = .string ⟨([0] ++ (D.opens (L.take j)).1).toArray⟩ ∧ k = .int .i64 j ∧ St S w0 wr (.vec v1 86 4 L.length (L.flatMap Acc.cells) :: rledg g (D.opens (L.take j)).2 :: M)) (fun _ k _ => L.length - (intOf k).toNat)
      case atStart => exact ⟨0, by omega, rfl, rfl, hS⟩
      case round =>
        clear hS
        obtain ⟨j, hj, rfl, rfl, hS⟩ := hrel
        by_cases hlt : j < L.length
        · have hlt1 : (j : Int) < L.length := by omega
          have hget := get_lt (L := L) hlt
          have ha := HOK.out _ (nth_mem hlt)
          have hsn := opens_snoc (L.take j) (nth L j) D
          rw [← take_nth hlt] at hsn
          have hD2 := opens_ok (L.take j) HD.out (fun a h => HOK.out a (List.mem_of_mem_take h))
          have hle := opens_len (L.take j) D
          rw [List.length_take] at hle
          obtain ⟨x, hX⟩ : ∃ x, nth L j = x := ⟨_, rfl⟩
          rw [hX] at hget ha hsn
          obtain ⟨R, hR⟩ : ∃ R, D.opens (L.take j) = R := ⟨_, rfl⟩
          rw [hR] at hS hsn hD2 hle ⊢
          obtain ⟨r, D2⟩ := R
          simp only at hS hsn hD2 hle ⊢
          have HC := Lib.hid (fun (W : World) (M : List Ent) (hS : St S w0 W (rledg g D2 :: M)) => rledg_open hS (by have := hD2.la; omega) x)
          obtain ⟨Y, hY⟩ : ∃ Y, D2.open x = Y := ⟨_, rfl⟩
          rw [hY] at HC hsn
          obtain ⟨y, D3⟩ := Y
          simp only at HC hsn
          have HBY := Lib.hid (fun w => byteU_any y w)
          obtain ⟨s, hs⟩ : ∃ s, [0] ++ r = s := ⟨_, rfl⟩
          have hsl : s.length ≤ 10 := by rw [← hs]; simp only [List.length_append, List.length_singleton]; omega
          have HSN : Hid ([0] ++ (D.opens (L.take (j + 1))).1 = s ++ [y] ∧ (D.opens (L.take (j + 1))).2 = D3) := Lib.hid (by rw [hsn, ← hs]; exact ⟨by simp, rfl⟩)
          rw [hs]
          clear hsn hX hR hY ha hD2 hle hs
          obtain ⟨x1, x2, x3, x4⟩ := x
          simp only [Acc.cells] at HC
          go_wp2_with (first | (go_at_call 40; refine (HC.out _ _ (hS.out (by (repeat (first | exact Out.here | apply Out.there))))).mono ?_; clear hS; rintro e w' ⟨rfl, hS⟩) | (go_at_call 38; refine (HBY.out _).mono ?_; rintro e w' ⟨rfl, h⟩; replace hS := hS.call h; clear h) | (first | refine au1 (n := ?_) | (refine au2 (n := ?_); clear hS; intro w' hS) | (refine au3 (n := ?_); clear hS; intro gb w1 hS) | (refine au4 (n := ?_); clear hS; intro v1 w' hS) | ((with_reducible refine wl_guard ?_); refine stop_mem rfl rfl ?_)))
          refine ⟨⟨j + 1, by omega, by rw [HSN.out.1], by go_num, ?_⟩, by simp [intOf]; omega⟩
          rw [HSN.out.2]
          exact hS.pick
        · obtain rfl : j = L.length := by omega
          rw [List.take_length] at hS ⊢
          go_wp2_with (first | refine au1 (n := ?_) | (refine au2 (n := ?_); clear hS; intro w' hS) | (refine au3 (n := ?_); clear hS; intro gb w1 hS) | (refine au4 (n := ?_); clear hS; intro v1 w' hS) | ((with_reducible refine wl_guard ?_); refine stop_mem rfl rfl ?_))
          go_ret
          exact ⟨rfl, hS.pick⟩
  by_cases h3 : op = 3
  · subst h3
    have HA := Lib.hid (fun w => refTransfers_any body w (by omega))
    have hln := takeS_len gTra 32 body
    have hok := takeS_all gTra_ok 32 body
    have e : D.doIt 3 body = if (takeS gTra 32 body).2 = false then ([1], D) else ([0] ++ (D.moves (takeS gTra 32 body).1).1, (D.moves (takeS gTra 32 body).1).2) := by unfold Led.doIt; rw [if_neg (by omega), if_pos rfl]
    rw [e]
    clear e
    obtain ⟨K, hK⟩ : ∃ K, takeS gTra 32 body = K := ⟨_, rfl⟩
    rw [hK] at HA hln hok ⊢
    obtain ⟨L, ok⟩ := K
    simp only at HA hln hok ⊢
    clear hK
    cases ok
    · rw [if_pos rfl]
      (go_enter Tryz.func15, Tryz.ntmps15)
      go_wp2_with (first | (go_at_call 38; refine (HB0.out _).mono ?_; rintro e w' ⟨rfl, h⟩; replace hS := hS.call h; clear h) | (go_at_call 38; refine (HB1.out _).mono ?_; rintro e w' ⟨rfl, h⟩; replace hS := hS.call h; clear h) | (go_at_call 41; refine (HA.out _).mono ?_; rintro e w' ⟨v1, rfl, h⟩; replace hS := hS.call h; clear h) | (first | refine au1 (n := ?_) | (refine au2 (n := ?_); clear hS; intro w' hS) | (refine au3 (n := ?_); clear hS; intro gb w1 hS) | (refine au4 (n := ?_); clear hS; intro v1 w' hS) | ((with_reducible refine wl_guard ?_); refine stop_mem rfl rfl ?_)))
      go_ret
      exact ⟨rfl, hS.pick⟩
    · rw [if_neg (by simp)]
      have HOK := Lib.hid hok
      clear hok
      (go_enter Tryz.func15, Tryz.ntmps15)
      go_wp2_with (first | (go_at_call 38; refine (HB0.out _).mono ?_; rintro e w' ⟨rfl, h⟩; replace hS := hS.call h; clear h) | (go_at_call 41; refine (HA.out _).mono ?_; rintro e w' ⟨v1, rfl, h⟩; replace hS := hS.call h; clear h; simp only [List.cons_append, List.nil_append] at hS) | (first | refine au1 (n := ?_) | (refine au2 (n := ?_); clear hS; intro w' hS) | (refine au3 (n := ?_); clear hS; intro gb w1 hS) | (refine au4 (n := ?_); clear hS; intro v1 w' hS) | ((with_reducible refine wl_guard ?_); refine stop_mem rfl rfl ?_)))
      clear HB0 HB1 HA
      go_loopw [7, 13] (fun s k wr => ∃ j : Nat, j ≤ L.length ∧ s = .string ⟨([0] ++ (D.moves (L.take j)).1).toArray⟩ ∧ k = .int .i64 j ∧ St S w0 wr (.vec v1 91 4 L.length (L.flatMap Tra.cells) :: rledg g (D.moves (L.take j)).2 :: M)) (fun _ k _ => L.length - (intOf k).toNat)
      case atStart => exact ⟨0, by omega, rfl, rfl, hS⟩
      case round =>
        clear hS
        obtain ⟨j, hj, rfl, rfl, hS⟩ := hrel
        by_cases hlt : j < L.length
        · have hlt1 : (j : Int) < L.length := by omega
          have hget := get_lt (L := L) hlt
          have ha := HOK.out _ (nth_mem hlt)
          have hsn := moves_snoc (L.take j) (nth L j) D
          rw [← take_nth hlt] at hsn
          have hD2 := moves_ok (L.take j) HD.out (fun a h => HOK.out a (List.mem_of_mem_take h))
          have hle := moves_len (L.take j) D
          rw [List.length_take] at hle
          obtain ⟨x, hX⟩ : ∃ x, nth L j = x := ⟨_, rfl⟩
          rw [hX] at hget ha hsn
          obtain ⟨R, hR⟩ : ∃ R, D.moves (L.take j) = R := ⟨_, rfl⟩
          rw [hR] at hS hsn hD2 hle ⊢
          obtain ⟨r, D2⟩ := R
          simp only at hS hsn hD2 hle ⊢
          have HC := Lib.hid (fun (W : World) (M : List Ent) (hS : St S w0 W (rledg g D2 :: M)) => rledg_move hS hD2 x ha)
          obtain ⟨Y, hY⟩ : ∃ Y, D2.move x = Y := ⟨_, rfl⟩
          rw [hY] at HC hsn
          obtain ⟨y, D3⟩ := Y
          simp only at HC hsn
          have HBY := Lib.hid (fun w => byteU_any y w)
          obtain ⟨s, hs⟩ : ∃ s, [0] ++ r = s := ⟨_, rfl⟩
          have hsl : s.length ≤ 10 := by rw [← hs]; simp only [List.length_append, List.length_singleton]; omega
          have HSN : Hid ([0] ++ (D.moves (L.take (j + 1))).1 = s ++ [y] ∧ (D.moves (L.take (j + 1))).2 = D3) := Lib.hid (by rw [hsn, ← hs]; exact ⟨by simp, rfl⟩)
          rw [hs]
          clear hsn hX hR hY ha hD2 hle hs
          obtain ⟨x1, x2, x3, x4⟩ := x
          simp only [Tra.cells] at HC
          go_wp2_with (first | (go_at_call 42; refine (HC.out _ _ (hS.out (by (repeat (first | exact Out.here | apply Out.there))))).mono ?_; clear hS; rintro e w' ⟨rfl, hS⟩) | (go_at_call 38; refine (HBY.out _).mono ?_; rintro e w' ⟨rfl, h⟩; replace hS := hS.call h; clear h) | (first | refine au1 (n := ?_) | (refine au2 (n := ?_); clear hS; intro w' hS) | (refine au3 (n := ?_); clear hS; intro gb w1 hS) | (refine au4 (n := ?_); clear hS; intro v1 w' hS) | ((with_reducible refine wl_guard ?_); refine stop_mem rfl rfl ?_)))
          refine ⟨⟨j + 1, by omega, by rw [HSN.out.1], by go_num, ?_⟩, by simp [intOf]; omega⟩
          rw [HSN.out.2]
          exact hS.pick
        · obtain rfl : j = L.length := by omega
          rw [List.take_length] at hS ⊢
          go_wp2_with (first | refine au1 (n := ?_) | (refine au2 (n := ?_); clear hS; intro w' hS) | (refine au3 (n := ?_); clear hS; intro gb w1 hS) | (refine au4 (n := ?_); clear hS; intro v1 w' hS) | ((with_reducible refine wl_guard ?_); refine stop_mem rfl rfl ?_))
          go_ret
          exact ⟨rfl, hS.pick⟩
  have HA := Lib.hid (fun w => refIDs_any body w (by omega))
  have hln := takeS_len gID 8 body
  have e : D.doIt op body = (if (takeS gID 8 body).2 = false ∨ (op ≠ 4 ∧ op ≠ 5) then [1] else [0] ++ (takeS gID 8 body).1.flatMap (D.findOp op), D) := by
    unfold Led.doIt Led.findOp
    rw [if_neg h2, if_neg h3]
    by_cases h4 : op = 4
    · subst h4
      rw [if_pos rfl]
      cases (takeS gID 8 body).2 <;> simp
    · rw [if_neg h4]
      by_cases h5 : op = 5
      · subst h5
        rw [if_pos rfl]
        cases (takeS gID 8 body).2 <;> simp
      · rw [if_neg h5, if_pos (Or.inr ⟨h4, h5⟩)]
  rw [e]
  clear e
  obtain ⟨K, hK⟩ : ∃ K, takeS gID 8 body = K := ⟨_, rfl⟩
  rw [hK] at HA hln ⊢
  obtain ⟨L, ok⟩ := K
  simp only [U_flatMap] at HA hln ⊢
  clear hK
  by_cases hno : ok = false ∨ (op ≠ 4 ∧ op ≠ 5)
  · rw [if_pos hno]
    have HN := Lib.hid hno
    cases ok
    · clear hno
      (go_enter Tryz.func15, Tryz.ntmps15)
      go_wp2_with (first | (go_at_call 38; refine (HB0.out _).mono ?_; rintro e w' ⟨rfl, h⟩; replace hS := hS.call h; clear h) | (go_at_call 38; refine (HB1.out _).mono ?_; rintro e w' ⟨rfl, h⟩; replace hS := hS.call h; clear h) | (go_at_call 43; refine (HA.out _).mono ?_; rintro e w' ⟨v1, rfl, h⟩; replace hS := hS.call h; clear h) | (first | refine au1 (n := ?_) | (refine au2 (n := ?_); clear hS; intro w' hS) | (refine au3 (n := ?_); clear hS; intro gb w1 hS) | (refine au4 (n := ?_); clear hS; intro v1 w' hS) | ((with_reducible refine wl_guard ?_); refine stop_mem rfl rfl ?_)))
      go_ret
      exact ⟨rfl, hS.pick⟩
    · have h45 : op ≠ 4 ∧ op ≠ 5 := by simpa using hno
      clear hno
      obtain ⟨k4, k5⟩ := h45
      have k4 : (op != 4) = true := by simpa using k4
      have k5 : (op != 5) = true := by simpa using k5
      (go_enter Tryz.func15, Tryz.ntmps15)
      go_wp2_with (first | (go_at_call 38; refine (HB0.out _).mono ?_; rintro e w' ⟨rfl, h⟩; replace hS := hS.call h; clear h) | (go_at_call 38; refine (HB1.out _).mono ?_; rintro e w' ⟨rfl, h⟩; replace hS := hS.call h; clear h) | (go_at_call 43; refine (HA.out _).mono ?_; rintro e w' ⟨v1, rfl, h⟩; replace hS := hS.call h; clear h) | (first | refine au1 (n := ?_) | (refine au2 (n := ?_); clear hS; intro w' hS) | (refine au3 (n := ?_); clear hS; intro gb w1 hS) | (refine au4 (n := ?_); clear hS; intro v1 w' hS) | ((with_reducible refine wl_guard ?_); refine stop_mem rfl rfl ?_)))
      go_ret
      exact ⟨rfl, hS.pick⟩
  · rw [if_neg hno]
    have hok : ok = true := by cases ok <;> simp_all
    subst hok
    have h45 : op = 4 ∨ op = 5 := by simp at hno; omega
    clear hno h2 h3
    have h2 : (op == 2) = false := by rw [beq_eq_false_iff_ne]; omega
    have h3 : (op == 3) = false := by rw [beq_eq_false_iff_ne]; omega
    have h6 : (!(op == 4) && !(op == 5)) = false := by rcases h45 with rfl | rfl <;> rfl
    have HZ := Lib.hid (findOp_len D op)
    have hf := fun (W : World) (M : List Ent) (id : Nat) (hS : St S w0 W (rledg g D :: M)) => rledg_find hS HD.out op id
    obtain ⟨fop, hfop⟩ : ∃ fop : Nat → List UInt8, D.findOp op = fop := ⟨_, rfl⟩
    have e : ∀ x, (if op = 4 then D.find4 x else D.find5 x) = fop x := fun x => congrFun hfop x
    simp only [e] at hf
    have HF := Lib.hid hf
    rw [hfop] at HZ ⊢
    clear hfop e hf
    (go_enter Tryz.func15, Tryz.ntmps15)
    rcases h45 with rfl | rfl
    ·
      go_wp2_with (first | (go_at_call 38; refine (HB0.out _).mono ?_; rintro e w' ⟨rfl, h⟩; replace hS := hS.call h; clear h) | (go_at_call 43; refine (HA.out _).mono ?_; rintro e w' ⟨v1, rfl, h⟩; replace hS := hS.call h; clear h; simp only [List.cons_append, List.nil_append] at hS) | (first | refine au1 (n := ?_) | (refine au2 (n := ?_); clear hS; intro w' hS) | (refine au3 (n := ?_); clear hS; intro gb w1 hS) | (refine au4 (n := ?_); clear hS; intro v1 w' hS) | ((with_reducible refine wl_guard ?_); refine stop_mem rfl rfl ?_)))
      clear HA HB0 HB1
      go_loopw [7, 16] (fun s k wr => ∃ j : Nat, j ≤ L.length ∧ s = .string ⟨([0] ++ (L.take j).flatMap fop).toArray⟩ ∧ k = .int .i64 j ∧ St S w0 wr (.vec v1 32 1 L.length (L.flatMap fun x : Nat => [.int .u64 (x : Int)]) :: rledg g D :: M)) (fun _ k _ => L.length - (intOf k).toNat)
      case atStart => exact ⟨0, by omega, by simp, rfl, hS.pick⟩
      case round =>
        clear hS
        obtain ⟨j, hj, rfl, rfl, hS⟩ := hrel
        by_cases hlt : j < L.length
        · have hlt1 : (j : Int) < L.length := by omega
          have hget := get_lt (L := L) hlt
          have htk := take_nth hlt
          have hlen : ((L.take j).flatMap fop).length ≤ 33 * 4 := by
            have h1 := flat_le HZ.out (L.take j)
            have h2 : (L.take j).length ≤ 4 := by rw [List.length_take]; omega
            omega
          obtain ⟨x, hX⟩ : ∃ x, nth L j = x := ⟨_, rfl⟩
          rw [hX] at hget htk
          have HE : Hid ([0] ++ (L.take (j + 1)).flatMap fop = ([0] ++ (L.take j).flatMap fop) ++ fop x) := Lib.hid (by rw [htk, List.flatMap_append]; simp)
          obtain ⟨s, hs⟩ : ∃ s, [0] ++ (L.take j).flatMap fop = s := ⟨_, rfl⟩
          have hsl : s.length ≤ 140 := by rw [← hs]; simp only [List.length_append, List.length_singleton]; omega
          rw [hs] at HE ⊢
          have hz := HZ.out x
          have HC := Lib.hid (fun (W : World) (M : List Ent) (hS : St S w0 W (rledg g D :: M)) => HF.out W M x hS)
          clear htk hlen hX hs
          generalize fop x = z at HC HE hz
          go_wp2_with (first | (go_at_call 44; refine (HC.out _ _ (hS.out (by (repeat (first | exact Out.here | apply Out.there))))).mono ?_; clear hS; rintro e w' ⟨rfl, hS⟩) | (first | refine au1 (n := ?_) | (refine au2 (n := ?_); clear hS; intro w' hS) | (refine au3 (n := ?_); clear hS; intro gb w1 hS) | (refine au4 (n := ?_); clear hS; intro v1 w' hS) | ((with_reducible refine wl_guard ?_); refine stop_mem rfl rfl ?_)))
          refine ⟨⟨j + 1, by omega, ?_, by go_num, hS.pick⟩, by simp [intOf]; omega⟩
          rw [HE.out]
        · obtain rfl : j = L.length := by omega
          rw [List.take_length]
          go_wp2_with (first | refine au1 (n := ?_) | (refine au2 (n := ?_); clear hS; intro w' hS) | (refine au3 (n := ?_); clear hS; intro gb w1 hS) | (refine au4 (n := ?_); clear hS; intro v1 w' hS) | ((with_reducible refine wl_guard ?_); refine stop_mem rfl rfl ?_))
          go_ret
          exact ⟨rfl, hS.pick⟩
    ·
      go_wp2_with (first | (go_at_call 38; refine (HB0.out _).mono ?_; rintro e w' ⟨rfl, h⟩; replace hS := hS.call h; clear h) | (go_at_call 43; refine (HA.out _).mono ?_; rintro e w' ⟨v1, rfl, h⟩; replace hS := hS.call h; clear h; simp only [List.cons_append, List.nil_append] at hS) | (first | refine au1 (n := ?_) | (refine au2 (n := ?_); clear hS; intro w' hS) | (refine au3 (n := ?_); clear hS; intro gb w1 hS) | (refine au4 (n := ?_); clear hS; intro v1 w' hS) | ((with_reducible refine wl_guard ?_); refine stop_mem rfl rfl ?_)))
      clear HA HB0 HB1
      go_loopw [7, 16] (fun s k wr => ∃ j : Nat, j ≤ L.length ∧ s = .string ⟨([0] ++ (L.take j).flatMap fop).toArray⟩ ∧ k = .int .i64 j ∧ St S w0 wr (.vec v1 32 1 L.length (L.flatMap fun x : Nat => [.int .u64 (x : Int)]) :: rledg g D :: M)) (fun _ k _ => L.length - (intOf k).toNat)
      case atStart => exact ⟨0, by omega, by simp, rfl, hS.pick⟩
      case round =>
        clear hS
        obtain ⟨j, hj, rfl, rfl, hS⟩ := hrel
        by_cases hlt : j < L.length
        · have hlt1 : (j : Int) < L.length := by omega
          have hget := get_lt (L := L) hlt
          have htk := take_nth hlt
          have hlen : ((L.take j).flatMap fop).length ≤ 33 * 4 := by
            have h1 := flat_le HZ.out (L.take j)
            have h2 : (L.take j).length ≤ 4 := by rw [List.length_take]; omega
            omega
          obtain ⟨x, hX⟩ : ∃ x, nth L j = x := ⟨_, rfl⟩
          rw [hX] at hget htk
          have HE : Hid ([0] ++ (L.take (j + 1)).flatMap fop = ([0] ++ (L.take j).flatMap fop) ++ fop x) := Lib.hid (by rw [htk, List.flatMap_append]; simp)
          obtain ⟨s, hs⟩ : ∃ s, [0] ++ (L.take j).flatMap fop = s := ⟨_, rfl⟩
          have hsl : s.length ≤ 140 := by rw [← hs]; simp only [List.length_append, List.length_singleton]; omega
          rw [hs] at HE ⊢
          have hz := HZ.out x
          have HC := Lib.hid (fun (W : World) (M : List Ent) (hS : St S w0 W (rledg g D :: M)) => HF.out W M x hS)
          clear htk hlen hX hs
          generalize fop x = z at HC HE hz
          go_wp2_with (first | (go_at_call 44; refine (HC.out _ _ (hS.out (by (repeat (first | exact Out.here | apply Out.there))))).mono ?_; clear hS; rintro e w' ⟨rfl, hS⟩) | (first | refine au1 (n := ?_) | (refine au2 (n := ?_); clear hS; intro w' hS) | (refine au3 (n := ?_); clear hS; intro gb w1 hS) | (refine au4 (n := ?_); clear hS; intro v1 w' hS) | ((with_reducible refine wl_guard ?_); refine stop_mem rfl rfl ?_)))
          refine ⟨⟨j + 1, by omega, ?_, by go_num, hS.pick⟩, by simp [intOf]; omega⟩
          rw [HE.out]
        · obtain rfl : j = L.length := by omega
          rw [List.take_length]
          go_wp2_with (first | refine au1 (n := ?_) | (refine au2 (n := ?_); clear hS; intro w' hS) | (refine au3 (n := ?_); clear hS; intro gb w1 hS) | (refine au4 (n := ?_); clear hS; intro v1 w' hS) | ((with_reducible refine wl_guard ?_); refine stop_mem rfl rfl ?_))
          go_ret
          exact ⟨rfl, hS.pick⟩
end
end Go.Proofs.YtjjiibcnknljfaaGreat
namespace Go.Proofs.YtjjiibcnknljfaaGreat
open Go.RowKit Go.Cmp

section
variable {S : List Nat} {w0 w : World} {M : List Ent} {g : Nat} {D : Led}

theorem byteN_any (n : Nat) (h : n < 256) (w : World) : Calls Tryz.prog 38 #[.int .i64 (n : Int)] w fun e w' => e = .returned (.string ⟨[UInt8.ofNat n].toArray⟩) ∧ St [] w w' [] := by
  have h := byte7_any (n : Int) (by omega) (by omega) w
  rw [Int.toNat_natCast] at h
  exact h

set_option maxRecDepth 100000 in
set_option maxHeartbeats 8000000 in
theorem rledg_packO {xa xt : Value} {A : List Acc} {T : List Tra} (hS : St S w0 w (.row g [xa, xt] 50 (0, 0) :: .vec xa 86 4 A.length (A.flatMap Acc.cells) :: .vec xt 91 4 T.length (T.flatMap Tra.cells) :: M)) (hD : Led.Ok ⟨A, T⟩) :
    Calls Tryz.prog 60 #[.pointer (some ⟨g, 0, none⟩)] w fun e w' => e = .returned (.string ⟨(lPack ⟨A, T⟩).toArray⟩) ∧ St S w0 w' (.row g [xa, xt] 50 (0, 0) :: .vec xa 86 4 A.length (A.flatMap Acc.cells) :: .vec xt 91 4 T.length (T.flatMap Tra.cells) :: M) := by
  obtain ⟨hDa, hDt, hDl, hDm⟩ := hD
  simp only at hDa hDt hDl hDm
  have HA := Lib.hid hDa
  have HT := Lib.hid hDt
  have e0 : lPack ⟨A, T⟩ = ([UInt8.ofNat A.length] ++ aBytes A ++ [UInt8.ofNat T.length]) ++ T.flatMap traB := rfl
  have HE0 := Lib.hid e0
  have HBA := Lib.hid (fun w => byteN_any A.length (by omega) w)
  have HBT := Lib.hid (fun w => byteN_any T.length (by omega) w)
  clear e0 hDa hDt
  (go_enter Tryz.func60, Tryz.ntmps60)
  go_wp2_with (first | (go_at_call 38; refine (HBA.out _).mono ?_; rintro e w' ⟨rfl, h⟩; replace hS := hS.call h; clear h) | (first | refine au1 (n := ?_) | (refine au2 (n := ?_); clear hS; intro w' hS) | (refine au3 (n := ?_); clear hS; intro gb w1 hS) | (refine au4 (n := ?_); clear hS; intro v1 w' hS) | ((with_reducible refine wl_guard ?_); refine stop_mem rfl rfl ?_)))
  clear HBA
  replace hS : St S w0 _ (.row g [xa, xt] 50 (0, 0) :: .vec xa 86 4 A.length (A.flatMap Acc.cells) :: .vec xt 91 4 T.length (T.flatMap Tra.cells) :: M) := hS.pick
  go_loopw [3, 4] (fun s k wr => ∃ j : Nat, j ≤ A.length ∧ s = .string ⟨([UInt8.ofNat A.length] ++ aBytes (A.take j)).toArray⟩ ∧ k = .int .i64 j ∧ St S w0 wr (.row g [xa, xt] 50 (0, 0) :: .vec xa 86 4 A.length (A.flatMap Acc.cells) :: .vec xt 91 4 T.length (T.flatMap Tra.cells) :: M)) (fun _ k _ => A.length - (intOf k).toNat)
  case atStart => exact ⟨0, by omega, by simp [aBytes], rfl, hS⟩
  case round =>
    clear hS
    obtain ⟨j, hj, rfl, rfl, hS⟩ := hrel
    by_cases hlt : j < A.length
    · have hlt1 : (j : Int) < A.length := by omega
      have hget := get_lt (L := A) hlt
      have hx := HA.out _ (nth_mem hlt)
      have htk := take_nth hlt
      have hlen : (aBytes (A.take j)).length ≤ 25 * 8 := by
        have h1 := flat_le (fun x => putW_len x) (A.take j)
        have h2 : (A.take j).length ≤ 8 := by rw [List.length_take]; omega
        unfold aBytes
        omega
      obtain ⟨x, hX⟩ : ∃ x, nth A j = x := ⟨_, rfl⟩
      rw [hX] at hget htk hx
      have HE : Hid ([UInt8.ofNat A.length] ++ aBytes (A.take (j + 1)) = ([UInt8.ofNat A.length] ++ aBytes (A.take j)) ++ (putW x).1) := Lib.hid (by rw [htk]; unfold aBytes; rw [List.flatMap_append]; simp)
      obtain ⟨s, hs⟩ : ∃ s, [UInt8.ofNat A.length] ++ aBytes (A.take j) = s := ⟨_, rfl⟩
      have hsl : s.length ≤ 201 := by rw [← hs]; simp only [List.length_append, List.length_singleton]; omega
      have hz := putW_len x
      have HP := Lib.hid (fun w => refPutWhole_any x hx w)
      rw [hs] at HE ⊢
      clear hX hs hlen htk hx
      generalize (putW x).1 = z at HP HE hz
      generalize (putW x).2 = z2 at HP
      obtain ⟨x1, x2, x3, x4⟩ := x
      simp only [Acc.cells] at HP
      go_wp2_with (first | (go_at_call 76; refine (HP.out _).mono ?_; rintro e w' ⟨rfl, h⟩; replace hS := hS.call h; clear h) | (first | refine au1 (n := ?_) | (refine au2 (n := ?_); clear hS; intro w' hS) | (refine au3 (n := ?_); clear hS; intro gb w1 hS) | (refine au4 (n := ?_); clear hS; intro v1 w' hS) | ((with_reducible refine wl_guard ?_); refine stop_mem rfl rfl ?_)))
      refine ⟨⟨j + 1, by omega, ?_, by go_num, hS.pick⟩, by simp [intOf]; omega⟩
      rw [HE.out]
    · obtain rfl : j = A.length := by omega
      rw [List.take_length]
      obtain ⟨s, hs⟩ : ∃ s, [UInt8.ofNat A.length] ++ aBytes A = s := ⟨_, rfl⟩
      have hsl : s.length ≤ 201 := by
        have h1 := flat_le (fun x => putW_len x) A
        rw [← hs]
        unfold aBytes
        simp only [List.length_append, List.length_singleton]
        omega
      rw [hs] at HE0 ⊢
      clear hs
      go_wp2_with (first | (go_at_call 38; refine (HBT.out _).mono ?_; rintro e w' ⟨rfl, h⟩; replace hS := hS.call h; clear h) | (first | refine au1 (n := ?_) | (refine au2 (n := ?_); clear hS; intro w' hS) | (refine au3 (n := ?_); clear hS; intro gb w1 hS) | (refine au4 (n := ?_); clear hS; intro v1 w' hS) | ((with_reducible refine wl_guard ?_); refine stop_mem rfl rfl ?_)))
      obtain ⟨s2, hs2⟩ : ∃ s2, s ++ [UInt8.ofNat T.length] = s2 := ⟨_, rfl⟩
      have hsl2 : s2.length ≤ 202 := by rw [← hs2]; simp only [List.length_append, List.length_singleton]; omega
      rw [hs2] at HE0
      try rw [hs2]
      clear hs2 HBT
      replace hS : St S w0 _ (.vec xt 91 4 T.length (T.flatMap Tra.cells) :: .row g [xa, xt] 50 (0, 0) :: .vec xa 86 4 A.length (A.flatMap Acc.cells) :: M) := hS.pick
      go_loopw [3, 7] (fun s k wr => ∃ j : Nat, j ≤ T.length ∧ s = .string ⟨(s2 ++ (T.take j).flatMap traB).toArray⟩ ∧ k = .int .i64 j ∧ St S w0 wr (.vec xt 91 4 T.length (T.flatMap Tra.cells) :: .row g [xa, xt] 50 (0, 0) :: .vec xa 86 4 A.length (A.flatMap Acc.cells) :: M)) (fun _ k _ => T.length - (intOf k).toNat)
      case atStart => exact ⟨0, by omega, by simp, rfl, hS⟩
      case round =>
        clear hS
        obtain ⟨j, hj, rfl, rfl, hS⟩ := hrel
        by_cases hlt : j < T.length
        · have hlt1 : (j : Int) < T.length := by omega
          have hx := HT.out _ (nth_mem hlt)
          have htk := take_nth hlt
          have hone := fun (v : Value) (w : World) (hR : Rd w 4 v T.length (T.flatMap Tra.cells)) => Rd.cut1 (f := Tra.cells) (fun _ => rfl) hR hlt
          have hlen : ((T.take j).flatMap traB).length ≤ 32 * 16 := by
            have h1 := flat_le (fun x => Nat.le_of_eq (traB_len x)) (T.take j)
            have h2 : (T.take j).length ≤ 16 := by rw [List.length_take]; omega
            omega
          obtain ⟨x, hX⟩ : ∃ x, nth T j = x := ⟨_, rfl⟩
          rw [hX] at htk hx hone
          have HE : Hid (s2 ++ (T.take (j + 1)).flatMap traB = (s2 ++ (T.take j).flatMap traB) ++ traB x) := Lib.hid (by rw [htk, List.flatMap_append]; simp)
          obtain ⟨s, hs⟩ : ∃ s, s2 ++ (T.take j).flatMap traB = s := ⟨_, rfl⟩
          have hsl3 : s.length ≤ 714 := by rw [← hs]; simp only [List.length_append]; omega
          have hz := traB_len x
          have HP := Lib.hid (fun (v : Value) (w : World) (h : Rd w 4 v 1 ([x].flatMap Tra.cells)) => refPutTransfers_any [x] v 1 w rfl (by intro y hy; simp only [List.mem_singleton] at hy; subst hy; exact hx) h)
          have e : putS byTra [x] = (traB x, 0) := by simp [putS, cat, byTra, traB]
          rw [e] at HP
          have HO := Lib.hid hone
          rw [hs] at HE ⊢
          clear hX hs hlen htk hx e hone
          generalize traB x = z at HP HE hz
          go_wp2_with (first | ((with_reducible refine g_cut ?_); refine wl_run rfl (x_cut (ti := Tryz.t91) rfl (hS.rdx (by (repeat (first | exact Ix.here | apply Ix.there)))) rfl rfl rfl rfl rfl rfl (by omega) (by omega) (by omega)) ?_) | (go_at_call 77; refine (HP.out _ _ (HO.out _ _ (hS.rdx Ix.here))).mono ?_; rintro e w' ⟨rfl, h⟩; replace hS := hS.call h; clear h) | (first | refine au1 (n := ?_) | (refine au2 (n := ?_); clear hS; intro w' hS) | (refine au3 (n := ?_); clear hS; intro gb w1 hS) | (refine au4 (n := ?_); clear hS; intro v1 w' hS) | ((with_reducible refine wl_guard ?_); refine stop_mem rfl rfl ?_)))
          refine ⟨⟨j + 1, by omega, ?_, by go_num, hS.pick⟩, by simp [intOf]; omega⟩
          rw [HE.out]
        · obtain rfl : j = T.length := by omega
          rw [List.take_length]
          go_wp2_with (first | refine au1 (n := ?_) | (refine au2 (n := ?_); clear hS; intro w' hS) | (refine au3 (n := ?_); clear hS; intro gb w1 hS) | (refine au4 (n := ?_); clear hS; intro v1 w' hS) | ((with_reducible refine wl_guard ?_); refine stop_mem rfl rfl ?_))
          go_ret
          rw [HE0.out]
          exact ⟨rfl, hS.pick⟩
theorem rledg_pack (hS : St S w0 w (rledg g D :: M)) (hD : D.Ok) :
    Calls Tryz.prog 60 #[.pointer (some ⟨g, 0, none⟩)] w fun e w' => e = .returned (.string ⟨(lPack D).toArray⟩) ∧ St S w0 w' (rledg g D :: M) := by
  (have hU := St.unpack hS; clear hS; obtain ⟨⟨xa, xt⟩, _, hS⟩ := hU; simp only [List.cons_append, List.nil_append] at hS)
  refine (rledg_packO hS hD).mono ?_
  rintro e w' ⟨rfl, hS⟩
  exact ⟨rfl, St.packs (xa, xt) hS⟩
end
end Go.Proofs.YtjjiibcnknljfaaGreat
