/-
  The document's ledger, of which the slices are known: questions.
-/
import Derived.Test.YtjjiibcnknljfaaGreatLedE
set_option linter.unusedSimpArgs false
set_option linter.unusedVariables false
set_option linter.unusedSectionVars false
set_option maxRecDepth 100000
namespace Go.Proofs.YtjjiibcnknljfaaGreat
open Go.RowKit Go.Cmp

/-- The document's ledger, with what is known of its slices. -/
def rledgP (p : Value × Value → Prop) (g : Nat) (D : Led) : Ent := pack p fun x =>
  [.row g [x.1, x.2] 50 (0, 0), .vec x.1 86 4 D.A.length (D.A.flatMap Acc.cells), .vec x.2 91 4 D.T.length (D.T.flatMap Tra.cells)]
theorem packsP' {S : List Nat} {w0 : World} {α : Type} {p : α → Prop} {l : α → List Ent} {w : World} {N M : List Ent} (x : α) (hp : p x) (h : St S w0 w N) (s : Sel N (l x ++ M) := by (repeat (first | exact Sel.refl | exact Sel.nil | refine Sel.cons (by (repeat (first | exact Out.here | apply Out.there))) ?_ | refine Sel.drop ?_))) : St S w0 w (Cmp.pack p l :: M) := St.pack x hp (h.sel s)

section
variable {S : List Nat} {w0 w : World} {M : List Ent} {g : Nat} {D : Led} {pq : Value × Value → Prop}

set_option maxHeartbeats 2000000 in
theorem rledgP_account (hS : St S w0 w (rledgP pq g D :: M)) (hl : D.A.length ≤ 1000000) (c : Nat) : Calls Tryz.prog 73 #[.pointer (some ⟨g, 0, none⟩), .int .u64 c] w fun e w' => e = .returned (.int .i64 (accAt c D.A)) ∧ St S w0 w' (rledgP pq g D :: M) := by
  (have hU := St.unpack hS; clear hS; obtain ⟨⟨xa, xt⟩, hpx, hS⟩ := hU; simp only [List.cons_append, List.nil_append] at hS)
  (go_enter Tryz.func73, Tryz.ntmps73)
  go_wp2_with (first | refine au1 (n := ?_) | (refine au2 (n := ?_); clear hS; intro w' hS) | (refine au3 (n := ?_); clear hS; intro gb w1 hS) | (refine au4 (n := ?_); clear hS; intro v1 w' hS) | ((with_reducible refine wl_guard ?_); refine stop_mem rfl rfl ?_))
  go_loopw [5] (fun k wr => ∃ j : Nat, j ≤ D.A.length ∧ k = .int .i64 j ∧ Hid (∀ i, i < j → (decide ((nth D.A i).id = c)) = false) ∧ St S w0 wr (.row g [xa, xt] 50 (0, 0) :: .vec xa 86 4 D.A.length (D.A.flatMap Acc.cells) :: .vec xt 91 4 D.T.length (D.T.flatMap Tra.cells) :: M)) (fun k _ => D.A.length - (intOf k).toNat)
  case atStart => exact ⟨0, by omega, rfl, Lib.hid (fun i hi => by omega), hS⟩
  case round =>
    clear hS
    obtain ⟨j, hj, rfl, HJ, hS⟩ := hrel
    by_cases hlt : j < D.A.length
    · have hlt1 : (j : Int) < D.A.length := by omega
      have hget := get_lt (L := D.A) hlt
      by_cases hx : (nth D.A j).id = c
      · have hd : decide ((nth D.A j).id = c) = true := by simpa using hx
        have HP := Lib.hid (show accAt c D.A = j from idx_first hlt hd HJ.out)
        have hx1 : ((nth D.A j).id : Int) = c := by omega
        clear hd hx
        go_wp2_with (first | refine au1 (n := ?_) | (refine au2 (n := ?_); clear hS; intro w' hS) | (refine au3 (n := ?_); clear hS; intro gb w1 hS) | (refine au4 (n := ?_); clear hS; intro v1 w' hS) | ((with_reducible refine wl_guard ?_); refine stop_mem rfl rfl ?_))
        go_ret
        rw [HP.out]
        exact ⟨rfl, packsP' (xa, xt) hpx hS⟩
      · have hd : decide ((nth D.A j).id = c) = false := by simpa using hx
        have HJ2 : Hid (∀ i, i < j + 1 → (decide ((nth D.A i).id = c)) = false) := Lib.hid (fun i hi => by
          by_cases h : i = j
          · rw [h]; exact hd
          · exact HJ.out i (by omega))
        have hx1 : ¬ ((nth D.A j).id : Int) = c := by omega
        clear hd hx
        go_wp2_with (first | refine au1 (n := ?_) | (refine au2 (n := ?_); clear hS; intro w' hS) | (refine au3 (n := ?_); clear hS; intro gb w1 hS) | (refine au4 (n := ?_); clear hS; intro v1 w' hS) | ((with_reducible refine wl_guard ?_); refine stop_mem rfl rfl ?_))
        refine ⟨⟨j + 1, by omega, by go_num, HJ2, hS⟩, by simp [intOf]; omega⟩
    · obtain rfl : j = D.A.length := by omega
      have HP := Lib.hid (show accAt c D.A = -1 from idx_none (fun x hx => by obtain ⟨i, h1, h2⟩ := mem_nth' hx; have := HJ.out i h1; rw [h2] at this; exact this))
      go_wp2_with (first | refine au1 (n := ?_) | (refine au2 (n := ?_); clear hS; intro w' hS) | (refine au3 (n := ?_); clear hS; intro gb w1 hS) | (refine au4 (n := ?_); clear hS; intro v1 w' hS) | ((with_reducible refine wl_guard ?_); refine stop_mem rfl rfl ?_))
      go_ret
      rw [HP.out]
      exact ⟨rfl, packsP' (xa, xt) hpx hS⟩

set_option maxHeartbeats 2000000 in
theorem rledgP_transfer (hS : St S w0 w (rledgP pq g D :: M)) (hl : D.T.length ≤ 1000000) (c : Nat) : Calls Tryz.prog 74 #[.pointer (some ⟨g, 0, none⟩), .int .u64 c] w fun e w' => e = .returned (.int .i64 (traAt c D.T)) ∧ St S w0 w' (rledgP pq g D :: M) := by
  (have hU := St.unpack hS; clear hS; obtain ⟨⟨xa, xt⟩, hpx, hS⟩ := hU; simp only [List.cons_append, List.nil_append] at hS)
  (go_enter Tryz.func74, Tryz.ntmps74)
  go_wp2_with (first | refine au1 (n := ?_) | (refine au2 (n := ?_); clear hS; intro w' hS) | (refine au3 (n := ?_); clear hS; intro gb w1 hS) | (refine au4 (n := ?_); clear hS; intro v1 w' hS) | ((with_reducible refine wl_guard ?_); refine stop_mem rfl rfl ?_))
  go_loopw [5] (fun k wr => ∃ j : Nat, j ≤ D.T.length ∧ k = .int .i64 j ∧ Hid (∀ i, i < j → (decide ((nth D.T i).id = c)) = false) ∧ St S w0 wr (.row g [xa, xt] 50 (0, 0) :: .vec xa 86 4 D.A.length (D.A.flatMap Acc.cells) :: .vec xt 91 4 D.T.length (D.T.flatMap Tra.cells) :: M)) (fun k _ => D.T.length - (intOf k).toNat)
  case atStart => exact ⟨0, by omega, rfl, Lib.hid (fun i hi => by omega), hS⟩
  case round =>
    clear hS
    obtain ⟨j, hj, rfl, HJ, hS⟩ := hrel
    by_cases hlt : j < D.T.length
    · have hlt1 : (j : Int) < D.T.length := by omega
      have hget := get_lt (L := D.T) hlt
      by_cases hx : (nth D.T j).id = c
      · have hd : decide ((nth D.T j).id = c) = true := by simpa using hx
        have HP := Lib.hid (show traAt c D.T = j from idx_first hlt hd HJ.out)
        have hx1 : ((nth D.T j).id : Int) = c := by omega
        clear hd hx
        go_wp2_with (first | refine au1 (n := ?_) | (refine au2 (n := ?_); clear hS; intro w' hS) | (refine au3 (n := ?_); clear hS; intro gb w1 hS) | (refine au4 (n := ?_); clear hS; intro v1 w' hS) | ((with_reducible refine wl_guard ?_); refine stop_mem rfl rfl ?_))
        go_ret
        rw [HP.out]
        exact ⟨rfl, packsP' (xa, xt) hpx hS⟩
      · have hd : decide ((nth D.T j).id = c) = false := by simpa using hx
        have HJ2 : Hid (∀ i, i < j + 1 → (decide ((nth D.T i).id = c)) = false) := Lib.hid (fun i hi => by
          by_cases h : i = j
          · rw [h]; exact hd
          · exact HJ.out i (by omega))
        have hx1 : ¬ ((nth D.T j).id : Int) = c := by omega
        clear hd hx
        go_wp2_with (first | refine au1 (n := ?_) | (refine au2 (n := ?_); clear hS; intro w' hS) | (refine au3 (n := ?_); clear hS; intro gb w1 hS) | (refine au4 (n := ?_); clear hS; intro v1 w' hS) | ((with_reducible refine wl_guard ?_); refine stop_mem rfl rfl ?_))
        refine ⟨⟨j + 1, by omega, by go_num, HJ2, hS⟩, by simp [intOf]; omega⟩
    · obtain rfl : j = D.T.length := by omega
      have HP := Lib.hid (show traAt c D.T = -1 from idx_none (fun x hx => by obtain ⟨i, h1, h2⟩ := mem_nth' hx; have := HJ.out i h1; rw [h2] at this; exact this))
      go_wp2_with (first | refine au1 (n := ?_) | (refine au2 (n := ?_); clear hS; intro w' hS) | (refine au3 (n := ?_); clear hS; intro gb w1 hS) | (refine au4 (n := ?_); clear hS; intro v1 w' hS) | ((with_reducible refine wl_guard ?_); refine stop_mem rfl rfl ?_))
      go_ret
      rw [HP.out]
      exact ⟨rfl, packsP' (xa, xt) hpx hS⟩

set_option maxRecDepth 100000 in
set_option maxHeartbeats 4000000 in
theorem rledgP_find (hS : St S w0 w (rledgP pq g D :: M)) (hD : D.Ok) (op : Int) (id : Nat) :
    Calls Tryz.prog 44 #[.pointer (some ⟨g, 0, none⟩), .int .i64 op, .int .u64 id] w fun e w' => e = .returned (.string ⟨(if op = 4 then D.find4 id else D.find5 id).toArray⟩) ∧ St S w0 w' (rledgP pq g D :: M) := by
  have HB0 := Lib.hid (fun w => byte7_any 0 (by omega) (by omega) w)
  have HB1 := Lib.hid (fun w => byte7_any 1 (by omega) (by omega) w)
  by_cases h4 : op = 4
  · subst h4
    rw [if_pos rfl]
    unfold Led.find4
    have HF := Lib.hid (fun (W : World) (M : List Ent) (hS : St S w0 W (rledgP pq g D :: M)) => rledgP_account hS (show D.A.length ≤ 1000000 by have := hD.la; omega) id)
    have hr := accAt_range id D.A
    obtain ⟨n, hn⟩ : ∃ n, accAt id D.A = n := ⟨_, rfl⟩
    rw [hn] at HF hr ⊢
    clear hn
    by_cases h : n < 0
    · rw [if_pos h]
      clear hr
      (go_enter Tryz.func44, Tryz.ntmps44)
      go_wp2_with (first | (go_at_call 73; refine (HF.out _ _ (hS.out (by (repeat (first | exact Out.here | apply Out.there))))).mono ?_; clear hS; rintro e w' ⟨rfl, hS⟩) | (go_at_call 38; refine (HB0.out _).mono ?_; rintro e w' ⟨rfl, h⟩; replace hS := hS.call h; clear h) | (first | refine au1 (n := ?_) | (refine au2 (n := ?_); clear hS; intro w' hS) | (refine au3 (n := ?_); clear hS; intro gb w1 hS) | (refine au4 (n := ?_); clear hS; intro v1 w' hS) | ((with_reducible refine wl_guard ?_); refine stop_mem rfl rfl ?_)))
      go_ret
      exact ⟨rfl, hS.pick⟩
    · rw [if_neg h]
      obtain ⟨p, rfl⟩ := Int.eq_ofNat_of_zero_le (show 0 ≤ n by omega)
      rw [Int.toNat_natCast]
      have hpl : p < D.A.length := by have := hr.2; omega
      have hx := hD.acc _ (nth_mem hpl)
      have hget := get_lt (L := D.A) hpl
      obtain ⟨x, hX⟩ : ∃ x, nth D.A p = x := ⟨_, rfl⟩
      rw [hX] at hx hget ⊢
      have HP := Lib.hid (fun w => refPutWhole_any x hx w)
      have hz := putW_len x
      clear hX hx hr
      obtain ⟨b, hb⟩ : ∃ b, (putW x).2 = b := ⟨_, rfl⟩
      rw [hb] at HP
      generalize (putW x).1 = s at HP hz ⊢
      clear hb
      obtain ⟨A, T⟩ := D
      obtain ⟨x1, x2, x3, x4⟩ := x
      simp only [Acc.cells] at HP
      simp only at hget hpl
      (go_enter Tryz.func44, Tryz.ntmps44)
      go_wp2_with (first | (go_at_call 73; refine (HF.out _ _ (hS.out (by (repeat (first | exact Out.here | apply Out.there))))).mono ?_; clear hS; rintro e w' ⟨rfl, hS⟩; (have hU := St.unpack hS; clear hS; obtain ⟨⟨xa, xt⟩, hpx, hS⟩ := hU; simp only [List.cons_append, List.nil_append] at hS)) | (go_at_call 76; refine (HP.out _).mono ?_; rintro e w' ⟨rfl, h⟩; replace hS := hS.call h; clear h) | (go_at_call 38; refine (HB1.out _).mono ?_; rintro e w' ⟨rfl, h⟩; replace hS := hS.call h; clear h) | (first | refine au1 (n := ?_) | (refine au2 (n := ?_); clear hS; intro w' hS) | (refine au3 (n := ?_); clear hS; intro gb w1 hS) | (refine au4 (n := ?_); clear hS; intro v1 w' hS) | ((with_reducible refine wl_guard ?_); refine stop_mem rfl rfl ?_)))
      go_ret
      refine ⟨?_, (packsP' (xa, xt) hpx hS : St S w0 _ (rledgP pq g ⟨A, T⟩ :: _)).pick⟩
      simp
  · rw [if_neg h4]
    unfold Led.find5
    have HF := Lib.hid (fun (W : World) (M : List Ent) (hS : St S w0 W (rledgP pq g D :: M)) => rledgP_transfer hS (show D.T.length ≤ 1000000 by have := hD.lt; omega) id)
    have hr := traAt_range id D.T
    obtain ⟨n, hn⟩ : ∃ n, traAt id D.T = n := ⟨_, rfl⟩
    rw [hn] at HF hr ⊢
    clear hn
    by_cases h : n < 0
    · rw [if_pos h]
      clear hr
      (go_enter Tryz.func44, Tryz.ntmps44)
      go_wp2_with (first | (go_at_call 74; refine (HF.out _ _ (hS.out (by (repeat (first | exact Out.here | apply Out.there))))).mono ?_; clear hS; rintro e w' ⟨rfl, hS⟩) | (go_at_call 38; refine (HB0.out _).mono ?_; rintro e w' ⟨rfl, h⟩; replace hS := hS.call h; clear h) | (first | refine au1 (n := ?_) | (refine au2 (n := ?_); clear hS; intro w' hS) | (refine au3 (n := ?_); clear hS; intro gb w1 hS) | (refine au4 (n := ?_); clear hS; intro v1 w' hS) | ((with_reducible refine wl_guard ?_); refine stop_mem rfl rfl ?_)))
      go_ret
      exact ⟨rfl, hS.pick⟩
    · rw [if_neg h]
      obtain ⟨p, rfl⟩ := Int.eq_ofNat_of_zero_le (show 0 ≤ n by omega)
      rw [Int.toNat_natCast]
      have hpl : p < D.T.length := by have := hr.2; omega
      have hp16 : D.T.length ≤ 16 := hD.lt
      have hx := hD.tra _ (nth_mem hpl)
      have hone := fun (v : Value) (w : World) (hR : Rd w 4 v D.T.length (D.T.flatMap Tra.cells)) => Rd.cut1 (f := Tra.cells) (fun _ => rfl) hR hpl
      obtain ⟨x, hX⟩ : ∃ x, nth D.T p = x := ⟨_, rfl⟩
      rw [hX] at hx hone ⊢
      have HP := Lib.hid (fun (v : Value) (w : World) (h : Rd w 4 v 1 ([x].flatMap Tra.cells)) => refPutTransfers_any [x] v 1 w rfl (by intro y hy; simp only [List.mem_singleton] at hy; subst hy; exact hx) h)
      have e : putS byTra [x] = (traB x, 0) := by simp [putS, cat, byTra, traB]
      rw [e] at HP
      have hz := Nat.le_of_eq (traB_len x)
      clear e hX hx hr
      generalize traB x = s at HP hz ⊢
      have HO := Lib.hid hone
      obtain ⟨A, T⟩ := D
      simp only at HO hpl hp16
      (go_enter Tryz.func44, Tryz.ntmps44)
      go_wp2_with (first | (go_at_call 74; refine (HF.out _ _ (hS.out (by (repeat (first | exact Out.here | apply Out.there))))).mono ?_; clear hS; rintro e w' ⟨rfl, hS⟩; (have hU := St.unpack hS; clear hS; obtain ⟨⟨xa, xt⟩, hpx, hS⟩ := hU; simp only [List.cons_append, List.nil_append] at hS)) | ((with_reducible refine g_cut ?_); refine wl_run rfl (x_cut (ti := Tryz.t91) rfl (hS.rdx (by (repeat (first | exact Ix.here | apply Ix.there)))) rfl rfl rfl rfl rfl rfl (by omega) (by omega) (by omega)) ?_) | (go_at_call 77; refine (HP.out _ _ (HO.out _ _ (hS.rdx (by (repeat (first | exact Ix.here | apply Ix.there)))))).mono ?_; rintro e w' ⟨rfl, h⟩; replace hS := hS.call h; clear h) | (go_at_call 38; refine (HB1.out _).mono ?_; rintro e w' ⟨rfl, h⟩; replace hS := hS.call h; clear h) | (first | refine au1 (n := ?_) | (refine au2 (n := ?_); clear hS; intro w' hS) | (refine au3 (n := ?_); clear hS; intro gb w1 hS) | (refine au4 (n := ?_); clear hS; intro v1 w' hS) | ((with_reducible refine wl_guard ?_); refine stop_mem rfl rfl ?_)))
      go_ret
      refine ⟨?_, (packsP' (xa, xt) hpx hS : St S w0 _ (rledgP pq g ⟨A, T⟩ :: _)).pick⟩
      simp


set_option maxHeartbeats 8000000 in
theorem rledgP_do (hS : St S w0 w (rledgP pq g D :: M)) (hD : D.Ok) (op : Int) (h45 : op = 4 ∨ op = 5) (body : List UInt8) (hl : body.length ≤ 1000) :
    Calls Tryz.prog 15 #[.pointer (some ⟨g, 0, none⟩), .int .i64 op, .string ⟨body.toArray⟩] w fun e w' => e = .returned (.string ⟨(D.doIt op body).1.toArray⟩) ∧ St S w0 w' (rledgP pq g D :: M) := by
  have HD := Lib.hid hD
  clear hD
  have HB0 := Lib.hid (fun w => byte7_any 0 (by omega) (by omega) w)
  have HB1 := Lib.hid (fun w => byte7_any 1 (by omega) (by omega) w)
  have h2 : op ≠ 2 := by omega
  have h3 : op ≠ 3 := by omega
  have HA := Lib.hid (fun w => refIDs_any body w (by omega))
  have hln := takeS_len gID 8 body
  have e : D.doIt op body = (if (takeS gID 8 body).2 = false ∨ (op ≠ 4 ∧ op ≠ 5) then [1] else [0] ++ (takeS gID 8 body).1.flatMap (D.findOp op), D) := by
    unfold Led.doIt Led.findOp
    rw [if_neg h2, if_neg h3]
    by_cases h4 : op = 4
    · subst h4
      rw [if_pos rfl]
      cases (takeS gID 8 body).2 <;> simp
    · rw [if_neg h4]
      by_cases h5 : op = 5
      · subst h5
        rw [if_pos rfl]
        cases (takeS gID 8 body).2 <;> simp
      · rw [if_neg h5, if_pos (Or.inr ⟨h4, h5⟩)]
  rw [e]
  clear e
  obtain ⟨K, hK⟩ : ∃ K, takeS gID 8 body = K := ⟨_, rfl⟩
  rw [hK] at HA hln ⊢
  obtain ⟨L, ok⟩ := K
  simp only [U_flatMap] at HA hln ⊢
  clear hK
  by_cases hno : ok = false ∨ (op ≠ 4 ∧ op ≠ 5)
  · rw [if_pos hno]
    have HN := Lib.hid hno
    cases ok
    · clear hno
      (go_enter Tryz.func15, Tryz.ntmps15)
      go_wp2_with (first | (go_at_call 38; refine (HB0.out _).mono ?_; rintro e w' ⟨rfl, h⟩; replace hS := hS.call h; clear h) | (go_at_call 38; refine (HB1.out _).mono ?_; rintro e w' ⟨rfl, h⟩; replace hS := hS.call h; clear h) | (go_at_call 43; refine (HA.out _).mono ?_; rintro e w' ⟨v1, rfl, h⟩; replace hS := hS.call h; clear h) | (first | refine au1 (n := ?_) | (refine au2 (n := ?_); clear hS; intro w' hS) | (refine au3 (n := ?_); clear hS; intro gb w1 hS) | (refine au4 (n := ?_); clear hS; intro v1 w' hS) | ((with_reducible refine wl_guard ?_); refine stop_mem rfl rfl ?_)))
      go_ret
      exact ⟨rfl, hS.pick⟩
    · have h46 : op ≠ 4 ∧ op ≠ 5 := by simpa using hno
      omega
  · rw [if_neg hno]
    have hok : ok = true := by cases ok <;> simp_all
    subst hok
    clear hno h2 h3
    have h2 : (op == 2) = false := by rw [beq_eq_false_iff_ne]; omega
    have h3 : (op == 3) = false := by rw [beq_eq_false_iff_ne]; omega
    have h6 : (!(op == 4) && !(op == 5)) = false := by rcases h45 with rfl | rfl <;> rfl
    have HZ := Lib.hid (findOp_len D op)
    have hf := fun (W : World) (M : List Ent) (id : Nat) (hS : St S w0 W (rledgP pq g D :: M)) => rledgP_find hS HD.out op id
    obtain ⟨fop, hfop⟩ : ∃ fop : Nat → List UInt8, D.findOp op = fop := ⟨_, rfl⟩
    have e : ∀ x, (if op = 4 then D.find4 x else D.find5 x) = fop x := fun x => congrFun hfop x
    simp only [e] at hf
    have HF := Lib.hid hf
    rw [hfop] at HZ ⊢
    clear hfop e hf
    (go_enter Tryz.func15, Tryz.ntmps15)
    rcases h45 with rfl | rfl
    ·
      go_wp2_with (first | (go_at_call 38; refine (HB0.out _).mono ?_; rintro e w' ⟨rfl, h⟩; replace hS := hS.call h; clear h) | (go_at_call 43; refine (HA.out _).mono ?_; rintro e w' ⟨v1, rfl, h⟩; replace hS := hS.call h; clear h; simp only [List.cons_append, List.nil_append] at hS) | (first | refine au1 (n := ?_) | (refine au2 (n := ?_); clear hS; intro w' hS) | (refine au3 (n := ?_); clear hS; intro gb w1 hS) | (refine au4 (n := ?_); clear hS; intro v1 w' hS) | ((with_reducible refine wl_guard ?_); refine stop_mem rfl rfl ?_)))
      clear HA HB0 HB1
      go_loopw [7, 16] (fun s k wr => ∃ j : Nat, j ≤ L.length ∧ s = .string ⟨([0] ++ (L.take j).flatMap fop).toArray⟩ ∧ k = .int .i64 j ∧ St S w0 wr (.vec v1 32 1 L.length (L.flatMap fun x : Nat => [.int .u64 (x : Int)]) :: rledgP pq g D :: M)) (fun _ k _ => L.length - (intOf k).toNat)
      case atStart => exact ⟨0, by omega, by simp, rfl, hS.pick⟩
      case round =>
        clear hS
        obtain ⟨j, hj, rfl, rfl, hS⟩ := hrel
        by_cases hlt : j < L.length
        · have hlt1 : (j : Int) < L.length := by omega
          have hget := get_lt (L := L) hlt
          have htk := take_nth hlt
          have hlen : ((L.take j).flatMap fop).length ≤ 33 * 4 := by
            have h1 := flat_le HZ.out (L.take j)
            have h2 : (L.take j).length ≤ 4 := by rw [List.length_take]; omega
            omega
          obtain ⟨x, hX⟩ : ∃ x, nth L j = x := ⟨_, rfl⟩
          rw [hX] at hget htk
          have HE : Hid ([0] ++ (L.take (j + 1)).flatMap fop = ([0] ++ (L.take j).flatMap fop) ++ fop x) := Lib.hid (by rw [htk, List.flatMap_append]; simp)
          obtain ⟨s, hs⟩ : ∃ s, [0] ++ (L.take j).flatMap fop = s := ⟨_, rfl⟩
          have hsl : s.length ≤ 140 := by rw [← hs]; simp only [List.length_append, List.length_singleton]; omega
          rw [hs] at HE ⊢
          have hz := HZ.out x
          have HC := Lib.hid (fun (W : World) (M : List Ent) (hS : St S w0 W (rledgP pq g D :: M)) => HF.out W M x hS)
          clear htk hlen hX hs
          generalize fop x = z at HC HE hz
          go_wp2_with (first | (go_at_call 44; refine (HC.out _ _ (hS.out (by (repeat (first | exact Out.here | apply Out.there))))).mono ?_; clear hS; rintro e w' ⟨rfl, hS⟩) | (first | refine au1 (n := ?_) | (refine au2 (n := ?_); clear hS; intro w' hS) | (refine au3 (n := ?_); clear hS; intro gb w1 hS) | (refine au4 (n := ?_); clear hS; intro v1 w' hS) | ((with_reducible refine wl_guard ?_); refine stop_mem rfl rfl ?_)))
          refine ⟨⟨j + 1, by omega, ?_, by go_num, hS.pick⟩, by simp [intOf]; omega⟩
          rw [HE.out]
        · obtain rfl : j = L.length := by omega
          rw [List.take_length]
          go_wp2_with (first | refine au1 (n := ?_) | (refine au2 (n := ?_); clear hS; intro w' hS) | (refine au3 (n := ?_); clear hS; intro gb w1 hS) | (refine au4 (n := ?_); clear hS; intro v1 w' hS) | ((with_reducible refine wl_guard ?_); refine stop_mem rfl rfl ?_))
          go_ret
          exact ⟨rfl, hS.pick⟩
    ·
      go_wp2_with (first | (go_at_call 38; refine (HB0.out _).mono ?_; rintro e w' ⟨rfl, h⟩; replace hS := hS.call h; clear h) | (go_at_call 43; refine (HA.out _).mono ?_; rintro e w' ⟨v1, rfl, h⟩; replace hS := hS.call h; clear h; simp only [List.cons_append, List.nil_append] at hS) | (first | refine au1 (n := ?_) | (refine au2 (n := ?_); clear hS; intro w' hS) | (refine au3 (n := ?_); clear hS; intro gb w1 hS) | (refine au4 (n := ?_); clear hS; intro v1 w' hS) | ((with_reducible refine wl_guard ?_); refine stop_mem rfl rfl ?_)))
      clear HA HB0 HB1
      go_loopw [7, 16] (fun s k wr => ∃ j : Nat, j ≤ L.length ∧ s = .string ⟨([0] ++ (L.take j).flatMap fop).toArray⟩ ∧ k = .int .i64 j ∧ St S w0 wr (.vec v1 32 1 L.length (L.flatMap fun x : Nat => [.int .u64 (x : Int)]) :: rledgP pq g D :: M)) (fun _ k _ => L.length - (intOf k).toNat)
      case atStart => exact ⟨0, by omega, by simp, rfl, hS.pick⟩
      case round =>
        clear hS
        obtain ⟨j, hj, rfl, rfl, hS⟩ := hrel
        by_cases hlt : j < L.length
        · have hlt1 : (j : Int) < L.length := by omega
          have hget := get_lt (L := L) hlt
          have htk := take_nth hlt
          have hlen : ((L.take j).flatMap fop).length ≤ 33 * 4 := by
            have h1 := flat_le HZ.out (L.take j)
            have h2 : (L.take j).length ≤ 4 := by rw [List.length_take]; omega
            omega
          obtain ⟨x, hX⟩ : ∃ x, nth L j = x := ⟨_, rfl⟩
          rw [hX] at hget htk
          have HE : Hid ([0] ++ (L.take (j + 1)).flatMap fop = ([0] ++ (L.take j).flatMap fop) ++ fop x) := Lib.hid (by rw [htk, List.flatMap_append]; simp)
          obtain ⟨s, hs⟩ : ∃ s, [0] ++ (L.take j).flatMap fop = s := ⟨_, rfl⟩
          have hsl : s.length ≤ 140 := by rw [← hs]; simp only [List.length_append, List.length_singleton]; omega
          rw [hs] at HE ⊢
          have hz := HZ.out x
          have HC := Lib.hid (fun (W : World) (M : List Ent) (hS : St S w0 W (rledgP pq g D :: M)) => HF.out W M x hS)
          clear htk hlen hX hs
          generalize fop x = z at HC HE hz
          go_wp2_with (first | (go_at_call 44; refine (HC.out _ _ (hS.out (by (repeat (first | exact Out.here | apply Out.there))))).mono ?_; clear hS; rintro e w' ⟨rfl, hS⟩) | (first | refine au1 (n := ?_) | (refine au2 (n := ?_); clear hS; intro w' hS) | (refine au3 (n := ?_); clear hS; intro gb w1 hS) | (refine au4 (n := ?_); clear hS; intro v1 w' hS) | ((with_reducible refine wl_guard ?_); refine stop_mem rfl rfl ?_)))
          refine ⟨⟨j + 1, by omega, ?_, by go_num, hS.pick⟩, by simp [intOf]; omega⟩
          rw [HE.out]
        · obtain rfl : j = L.length := by omega
          rw [List.take_length]
          go_wp2_with (first | refine au1 (n := ?_) | (refine au2 (n := ?_); clear hS; intro w' hS) | (refine au3 (n := ?_); clear hS; intro gb w1 hS) | (refine au4 (n := ?_); clear hS; intro v1 w' hS) | ((with_reducible refine wl_guard ?_); refine stop_mem rfl rfl ?_))
          go_ret
          exact ⟨rfl, hS.pick⟩
end
end Go.Proofs.YtjjiibcnknljfaaGreat
