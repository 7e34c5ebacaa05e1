/-
  The program's reading of one session of bytes in which it was laid.
  The program's Unpack of the bytes in which sessions were laid.
-/
import Derived.Test.YtjjiibcnknljfaaSesP
import Derived.Test.YtjjiibcnknljfaaCodec
set_option linter.unusedSimpArgs false
set_option linter.unusedVariables false
set_option linter.unusedSectionVars false
set_option maxRecDepth 100000
namespace Go.Proofs.Ytjjiibcnknljfaa
open Go.RowKit Go.Cmp

section
variable {S : List Nat} {w0 w : World} {M : List Ent}

set_option maxRecDepth 100000 in
set_option maxHeartbeats 8000000 in
theorem one_back (hS : St S w0 w M) {v : Value} {l : List UInt8} (hR : Reads S w0 M 1 v l.length (l.flatMap byt)) (hl : l.length ≤ 100000000) (pre post : List UInt8) (x : Ses) (hx : x.Fits) (e : l = pre ++ sBytes x ++ post) :
    Calls Try.prog 55 #[v, .int .i64 pre.length] w fun e w' => e = .returned (.tuple #[.agg x.cells.toArray, .int .i64 ((pre.length : Int) + (sBytes x).length), .bool true]) ∧ St S w0 w' M := by
  obtain ⟨f1, f2, f3, f4, f5⟩ := hx
  obtain ⟨ca, cb, cc, cd, ce⟩ := x
  simp only at f1 f2 f3 f4 f5
  have hlen : pre.length + 34 + ce.length ≤ l.length := by
    rw [e]; simp only [List.length_append, sBytes_length]; omega
  have hpl : pre.length ≤ 100000000 := by omega
  have HT := Lib.hid (fun (i : Nat) (W : World) (N : List Ent) (hS : St S w0 W N) (hr : Rd W 1 v l.length (l.flatMap byt)) => num_take hS i 8 (by omega) (by omega) (show l.length ≤ 140737488355328 by omega) hr)
  have HX := Lib.hid (fun (W : World) (N : List Ent) (hS : St S w0 W N) (hr : Reads S w0 N 1 v l.length (l.flatMap byt)) => num_takeText hS (pre.length + 8 * 4) 200 (show l.length ≤ 140737488355328 by omega) (by omega) hr)
  have p8 : ∀ {n : Int}, Fit n → n.toNat < 256 ^ 8 := by intro n h; have := h.1; have := h.2; omega
  have e8 : ∀ {n : Int}, Fit n → ((n.toNat : Nat) : Int) = n := fun h => Int.toNat_of_nonneg h.1
  have T1 : takeN l (pre.length + 8 * 0) 8 = (ca.toNat, 0) := by
    have := takeN_at pre (leB 8 cb.toNat ++ leB 8 cc.toNat ++ leB 8 cd.toNat ++ txt ce ++ post) 8 ca.toNat (p8 f1)
    rw [e]; simp only [sBytes, sFour, List.append_assoc, Nat.mul_zero, Nat.add_zero] at this ⊢; exact this
  have T2 : takeN l (pre.length + 8 * 1) 8 = (cb.toNat, 0) := by
    have := takeN_at (pre ++ leB 8 ca.toNat) (leB 8 cc.toNat ++ leB 8 cd.toNat ++ txt ce ++ post) 8 cb.toNat (p8 f2)
    rw [List.length_append, leB_length] at this
    rw [e]; simp only [sBytes, sFour, List.append_assoc] at this ⊢; exact this
  have T3 : takeN l (pre.length + 8 * 2) 8 = (cc.toNat, 0) := by
    have := takeN_at (pre ++ leB 8 ca.toNat ++ leB 8 cb.toNat) (leB 8 cd.toNat ++ txt ce ++ post) 8 cc.toNat (p8 f3)
    rw [List.length_append, List.length_append, leB_length, leB_length, Nat.add_assoc] at this
    rw [e]; simp only [sBytes, sFour, List.append_assoc] at this ⊢; exact this
  have T4 : takeN l (pre.length + 8 * 3) 8 = (cd.toNat, 0) := by
    have := takeN_at (pre ++ leB 8 ca.toNat ++ leB 8 cb.toNat ++ leB 8 cc.toNat) (txt ce ++ post) 8 cd.toNat (p8 f4)
    rw [List.length_append, List.length_append, List.length_append, leB_length, leB_length, leB_length, Nat.add_assoc, Nat.add_assoc] at this
    rw [e]; simp only [sBytes, sFour, List.append_assoc] at this ⊢; exact this
  have T5 : takeT l (pre.length + 8 * 4) 200 = (ce, (pre.length : Int) + 34 + ce.length, 0) := by
    have := takeT_at (pre ++ sFour ⟨ca, cb, cc, cd, ce⟩) post ce 200 (by omega) (by omega)
    rw [List.length_append, sFour_length] at this
    rw [e]; simp only [sBytes, List.append_assoc] at this ⊢; rw [this]
    refine Prod.ext rfl (Prod.ext ?_ rfl)
    show ((pre.length + 32 : Nat) : Int) + 2 + ce.length = (pre.length : Int) + 34 + ce.length
    omega
  have h1 := HT.out (pre.length + 8 * 0)
  have h2 := HT.out (pre.length + 8 * 1)
  have h3 := HT.out (pre.length + 8 * 2)
  have h4 := HT.out (pre.length + 8 * 3)
  have h5 := HX.out
  simp only [T1, T2, T3, T4, e8 f1, e8 f2, e8 f3, e8 f4] at h1 h2 h3 h4
  simp only [T5] at h5
  have H1 := Lib.hid h1
  have H2 := Lib.hid h2
  have H3 := Lib.hid h3
  have H4 := Lib.hid h4
  have H5 := Lib.hid h5
  have HE : Hid ((sBytes ⟨ca, cb, cc, cd, ce⟩).length = 34 + ce.length) := Lib.hid (sBytes_length _)
  clear h1 h2 h3 h4 h5 T1 T2 T3 T4 T5 HT HX e e8 p8
  obtain ⟨a1, a2⟩ := f1
  obtain ⟨b1, b2⟩ := f2
  obtain ⟨c1, c2⟩ := f3
  obtain ⟨d1, d2⟩ := f4
  (go_enter Try.func55, Try.ntmps55)
  go_wp2_with (first | (go_at_call 52; refine (ses_numbers hS _).mono ?_; clear hS; rintro e w' ⟨rfl, hS⟩) | (first | refine au1 (n := ?_) | (refine au2 (n := ?_); clear hS; intro w' hS) | (refine au3 (n := ?_); clear hS; intro gb w1 hS) | (refine au4 (n := ?_); clear hS; intro v1 w' hS) | ((with_reducible refine wl_guard ?_); refine stop_mem rfl rfl ?_)))
  obtain ⟨gs, rfl⟩ : ∃ gs, gs = gb := ⟨_, rfl⟩
  obtain ⟨R, hReq, hS⟩ := hS.gen
  obtain ⟨cs, hcs⟩ : ∃ cs : Nat → List Value, cs = fun i => ([Value.int .i64 ca, .int .i64 cb, .int .i64 cc, .int .i64 cd].take i ++ [Value.int .i64 0, .int .i64 0, .int .i64 0, .int .i64 0].drop i) ++ [.string ⟨#[]⟩] := ⟨_, rfl⟩
  have q0 : [Value.int .i64 0, .int .i64 0, .int .i64 0, .int .i64 0, .string ⟨#[]⟩] = cs 0 := by rw [hcs]; rfl
  have q1 : cs 1 = [Value.int .i64 ca, .int .i64 0, .int .i64 0, .int .i64 0, .string ⟨#[]⟩] := by rw [hcs]; rfl
  have q2 : cs 2 = [Value.int .i64 ca, .int .i64 cb, .int .i64 0, .int .i64 0, .string ⟨#[]⟩] := by rw [hcs]; rfl
  have q3 : cs 3 = [Value.int .i64 ca, .int .i64 cb, .int .i64 cc, .int .i64 0, .string ⟨#[]⟩] := by rw [hcs]; rfl
  have q4 : cs 4 = [Value.int .i64 ca, .int .i64 cb, .int .i64 cc, .int .i64 cd, .string ⟨#[]⟩] := by rw [hcs]; rfl
  have Q0 := Lib.hid q0.symm
  have Q1 := Lib.hid q1
  have Q2 := Lib.hid q2
  have Q3 := Lib.hid q3
  have Q4 := Lib.hid q4
  rw [q0] at hS
  clear hcs q0 q1 q2 q3 q4
  have RR : Hid (Reads S w0 R 1 v l.length (l.flatMap byt)) := Lib.hid (fun W hW => hR W (by rw [← hReq] at hW; exact hW.tail))
  have HRQ := Lib.hid hReq
  clear hReq
  go_loopw [1, 16] (fun p k wr => ∃ i : Nat, i ≤ 4 ∧ p = .int .i64 ((pre.length + 8 * i : Nat) : Int) ∧ k = .int .i64 i ∧ St S w0 wr (.row gs (cs i) 38 (0, 0) :: R)) (fun _ k _ => 4 - (intOf k).toNat)
  case atStart => exact ⟨0, by omega, rfl, rfl, hS⟩
  case round =>
    clear hS
    obtain ⟨i, hi, rfl, rfl, hS⟩ := hrel
    by_cases hi4 : i < 4
    · have hi41 : (i : Int) < 4 := by omega
      rcases (show i = 0 ∨ i = 1 ∨ i = 2 ∨ i = 3 by omega) with rfl | rfl | rfl | rfl
      · rw [Q0.out] at hS
        have H := H1
        obtain ⟨p, hp⟩ : ∃ p, pre.length + 8 * 0 = p := ⟨_, rfl⟩
        rw [hp] at H ⊢
        have hpb : (p : Int) ≤ 100000100 := by omega
        have hpn : pre.length + 8 * 1 = p + 8 := by omega
        clear hp
        go_wp2_with (first | (go_at_call 36; refine (H.out _ _ hS (RR.out _ hS.tail)).mono ?_; clear hS; rintro e w' ⟨rfl, hS⟩) | ((with_reducible refine g_indexV ?_); refine wl_run rfl (x_indexA rfl rfl rfl rfl rfl rfl rfl rfl (by omega) (by omega) (by rfl)) ?_) | (first | refine au1 (n := ?_) | (refine au2 (n := ?_); clear hS; intro w' hS) | (refine au3 (n := ?_); clear hS; intro gb w1 hS) | (refine au4 (n := ?_); clear hS; intro v1 w' hS) | ((with_reducible refine wl_guard ?_); refine stop_mem rfl rfl ?_)))
        refine ⟨⟨1, by omega, by rw [hpn]; first | go_num | (push_cast; rfl), by go_num, by rw [Q1.out]; exact hS⟩, by simp [intOf]⟩
      · rw [Q1.out] at hS
        have H := H2
        obtain ⟨p, hp⟩ : ∃ p, pre.length + 8 * 1 = p := ⟨_, rfl⟩
        rw [hp] at H ⊢
        have hpb : (p : Int) ≤ 100000100 := by omega
        have hpn : pre.length + 8 * 2 = p + 8 := by omega
        clear hp
        go_wp2_with (first | (go_at_call 36; refine (H.out _ _ hS (RR.out _ hS.tail)).mono ?_; clear hS; rintro e w' ⟨rfl, hS⟩) | ((with_reducible refine g_indexV ?_); refine wl_run rfl (x_indexA rfl rfl rfl rfl rfl rfl rfl rfl (by omega) (by omega) (by rfl)) ?_) | (first | refine au1 (n := ?_) | (refine au2 (n := ?_); clear hS; intro w' hS) | (refine au3 (n := ?_); clear hS; intro gb w1 hS) | (refine au4 (n := ?_); clear hS; intro v1 w' hS) | ((with_reducible refine wl_guard ?_); refine stop_mem rfl rfl ?_)))
        refine ⟨⟨2, by omega, by rw [hpn]; first | go_num | (push_cast; rfl), by go_num, by rw [Q2.out]; exact hS⟩, by simp [intOf]⟩
      · rw [Q2.out] at hS
        have H := H3
        obtain ⟨p, hp⟩ : ∃ p, pre.length + 8 * 2 = p := ⟨_, rfl⟩
        rw [hp] at H ⊢
        have hpb : (p : Int) ≤ 100000100 := by omega
        have hpn : pre.length + 8 * 3 = p + 8 := by omega
        clear hp
        go_wp2_with (first | (go_at_call 36; refine (H.out _ _ hS (RR.out _ hS.tail)).mono ?_; clear hS; rintro e w' ⟨rfl, hS⟩) | ((with_reducible refine g_indexV ?_); refine wl_run rfl (x_indexA rfl rfl rfl rfl rfl rfl rfl rfl (by omega) (by omega) (by rfl)) ?_) | (first | refine au1 (n := ?_) | (refine au2 (n := ?_); clear hS; intro w' hS) | (refine au3 (n := ?_); clear hS; intro gb w1 hS) | (refine au4 (n := ?_); clear hS; intro v1 w' hS) | ((with_reducible refine wl_guard ?_); refine stop_mem rfl rfl ?_)))
        refine ⟨⟨3, by omega, by rw [hpn]; first | go_num | (push_cast; rfl), by go_num, by rw [Q3.out]; exact hS⟩, by simp [intOf]⟩
      · rw [Q3.out] at hS
        have H := H4
        obtain ⟨p, hp⟩ : ∃ p, pre.length + 8 * 3 = p := ⟨_, rfl⟩
        rw [hp] at H ⊢
        have hpb : (p : Int) ≤ 100000100 := by omega
        have hpn : pre.length + 8 * 4 = p + 8 := by omega
        clear hp
        go_wp2_with (first | (go_at_call 36; refine (H.out _ _ hS (RR.out _ hS.tail)).mono ?_; clear hS; rintro e w' ⟨rfl, hS⟩) | ((with_reducible refine g_indexV ?_); refine wl_run rfl (x_indexA rfl rfl rfl rfl rfl rfl rfl rfl (by omega) (by omega) (by rfl)) ?_) | (first | refine au1 (n := ?_) | (refine au2 (n := ?_); clear hS; intro w' hS) | (refine au3 (n := ?_); clear hS; intro gb w1 hS) | (refine au4 (n := ?_); clear hS; intro v1 w' hS) | ((with_reducible refine wl_guard ?_); refine stop_mem rfl rfl ?_)))
        refine ⟨⟨4, by omega, by rw [hpn]; first | go_num | (push_cast; rfl), by go_num, by rw [Q4.out]; exact hS⟩, by simp [intOf]⟩
    · obtain rfl : i = 4 := by omega
      rw [Q4.out] at hS
      have H := H5
      obtain ⟨p, hp⟩ : ∃ p, pre.length + 8 * 4 = p := ⟨_, rfl⟩
      rw [hp] at H ⊢
      clear hp
      go_wp2_with (first | (go_at_call 37; refine (H.out _ _ hS (fun W hW => RR.out _ hW.tail)).mono ?_; clear hS; rintro e w' ⟨rfl, hS⟩; rw [← HRQ.out] at hS) | (first | refine au1 (n := ?_) | (refine au2 (n := ?_); clear hS; intro w' hS) | (refine au3 (n := ?_); clear hS; intro gb w1 hS) | (refine au4 (n := ?_); clear hS; intro v1 w' hS) | ((with_reducible refine wl_guard ?_); refine stop_mem rfl rfl ?_)))
      refine end_cell3 hS rfl rfl rfl rfl rfl rfl rfl (h := ⟨?_, hS.tail.tail⟩)
      rw [HE.out]
      simp [Ses.cells]
      try omega
end
end Go.Proofs.Ytjjiibcnknljfaa
namespace Go.Proofs.Ytjjiibcnknljfaa
open Go.RowKit Go.Cmp

section
variable {S : List Nat} {w0 w : World} {M : List Ent}

set_option maxRecDepth 100000 in
set_option maxHeartbeats 8000000 in
theorem ses_unpack (hS : St S w0 w M) (T : List Ses) (hl : T.length ≤ 3) (hf : SFit T) :
    Calls Try.prog 38 #[.string ⟨(sPack T).toArray⟩] w fun e w' => ∃ g, e = .returned (.tuple #[.pointer (some ⟨g, 0, none⟩), .int .i64 0]) ∧ St S w0 w' (ses g T :: M) := by
  have hlen : (sPack T).length = 1 + (T.flatMap sBytes).length := by simp [sPack]; omega
  have hbig : (sPack T).length ≤ 1000 := by
    have := sBytes_le hf T.length (Nat.le_refl _)
    rw [List.take_length] at this
    omega
  have hget : (sPack T)[0]? = some (UInt8.ofNat T.length) := rfl
  have hbyt : (byt (UInt8.ofNat T.length))[0]? = some (.int .u8 (T.length : Int)) := by simp [byt]; omega
  have d1 : decide ((3 : Int) < (T.length : Int)) = false := by simp; omega
  obtain ⟨l, hL⟩ : ∃ l, sPack T = l := ⟨_, rfl⟩
  rw [hL] at hlen hbig hget ⊢
  have hpos : ¬ l.length = 0 := by omega
  have hpos1 : (0 : Int) < l.length := by omega
  have hpos2 : ((l.length : Int) == 0) = false := by rw [beq_eq_false_iff_ne]; omega
  obtain ⟨P, hP⟩ : ∃ P : Nat → List UInt8, P = fun j => [UInt8.ofNat T.length] ++ (T.take j).flatMap sBytes := ⟨_, rfl⟩
  have HP0 : Hid (((P 0).length : Int) = 1) := Lib.hid (by rw [hP]; simp)
  have HPT : Hid (P T.length = l) := Lib.hid (by rw [hP, ← hL]; simp [sPack])
  have HPS : Hid (∀ j, j < T.length → P (j + 1) = P j ++ sBytes (nth T j)) := Lib.hid (by
    intro j hj
    rw [hP]
    simp only
    rw [take_nth hj, List.flatMap_append]
    simp)
  have HPL : Hid (∀ j, j < T.length → ∃ post, l = P j ++ sBytes (nth T j) ++ post) := Lib.hid (by
    intro j hj
    refine ⟨(T.drop (j + 1)).flatMap sBytes, ?_⟩
    rw [hP, ← hL]
    simp only [sPack]
    have h1 : T = T.take j ++ [nth T j] ++ T.drop (j + 1) := by rw [← take_nth hj, List.take_append_drop]
    have h2 : T.flatMap sBytes = (T.take j).flatMap sBytes ++ (sBytes (nth T j) ++ (T.drop (j + 1)).flatMap sBytes) := by
      conv => lhs; rw [h1]
      simp only [List.flatMap_append, List.flatMap_cons, List.flatMap_nil, List.append_nil, List.append_assoc]
    rw [h2]
    simp only [List.append_assoc])
  have hlm : l.length ≤ maxLen := by unfold maxLen; omega
  have HF := Lib.hid hf
  have HLen := Lib.hid hlen
  clear hP hf hL hlen
  (go_enter Try.func38, Try.ntmps38)
  go_wp2_with (first | ((with_reducible refine g_conv ?_); refine wl_of rfl ?_; refine a_toBytes hS rfl rfl rfl rfl rfl hlm ?_; clear hS; intro v1 w1 hS) | ((with_reducible refine g_load ?_); refine wl_run rfl (a_loadE (y := UInt8.ofNat T.length) (u := .int .u8 (T.length : Int)) rfl (by (first | exact St.rdx hS (by (repeat (first | exact Ix.here | apply Ix.there))) | exact Reads.at (by assumption) hS (by (repeat (first | exact List.Sublist.refl _ | apply List.Sublist.cons))) | exact St.old0 hS (by assumption))) rfl rfl rfl (by intro _; rfl) hget hbyt) ?_) | (go_at_call 21; refine (ses_new hS).mono ?_; clear hS; rintro e w' ⟨g, rfl, hS⟩) | (first | refine au1 (n := ?_) | (refine au2 (n := ?_); clear hS; intro w' hS) | (refine au3 (n := ?_); clear hS; intro gb w1 hS) | (refine au4 (n := ?_); clear hS; intro v1 w' hS) | ((with_reducible refine wl_guard ?_); refine stop_mem rfl rfl ?_)))
  have hS2 : St S w0 _ (ses g (T.take 0) :: .vec v1 5 1 l.length (l.flatMap byt) :: M) := hS.pick
  clear hS
  have HV := Lib.hid (fun (p post : List UInt8) (x : Ses) (hx : x.Fits) (e : l = p ++ sBytes x ++ post) (W : World) (N : List Ent) (hS : St S w0 W N) (hr : Reads S w0 N 1 v1 l.length (l.flatMap byt)) => one_back hS hr (by omega) p post x hx e)
  go_loopw [6, 25] (fun p k wr => ∃ j : Nat, j ≤ T.length ∧ p = .int .i64 ((P j).length : Int) ∧ k = .int .u8 (j : Int) ∧ St S w0 wr (ses g (T.take j) :: .vec v1 5 1 l.length (l.flatMap byt) :: M)) (fun _ k _ => T.length - (intOf k).toNat)
  case atStart => exact ⟨0, by omega, by rw [HP0.out], rfl, hS2⟩
  case round =>
    clear hS2
    obtain ⟨j, hj, rfl, rfl, hS⟩ := hrel
    by_cases hlt : j < T.length
    · have hlt1 : (j : Int) < T.length := by omega
      have hx := HF.out _ (nth_mem hlt)
      have hps := HPS.out j hlt
      obtain ⟨post, hpost⟩ := HPL.out j hlt
      have htk := take_nth hlt
      obtain ⟨x, hX⟩ : ∃ X, nth T j = X := ⟨_, rfl⟩
      rw [hX] at hx hps hpost htk
      clear hX
      obtain ⟨p, hp⟩ : ∃ p, P j = p := ⟨_, rfl⟩
      rw [hp] at hps hpost ⊢
      have hpl : p.length ≤ 1000 := by
        have := congrArg List.length hpost
        simp only [List.length_append] at this
        omega
      have hpl2 : (sBytes x).length ≤ 1000 := by
        have := congrArg List.length hpost
        simp only [List.length_append] at this
        omega
      have HC := Lib.hid (HV.out p post x hx hpost)
      have HX := Lib.hid hps
      obtain ⟨A, hA⟩ : ∃ A, T.take j = A := ⟨_, rfl⟩
      rw [hA] at hS htk
      have hAl : A.length ≤ 3 := by rw [← hA, List.length_take]; omega
      have HT := Lib.hid htk
      obtain ⟨z, hz⟩ : ∃ z, (sBytes x).length = z := ⟨_, rfl⟩
      rw [hz] at HC hpl2
      have HZ := Lib.hid hz
      clear hz hA hp hps hpost htk hx
      have hu8 : IntKind.u8.wrap ((j : Int) + 1) = (j : Int) + 1 := by simp only [IntKind.wrap, IntKind.bits, IntKind.signed]; simp; omega
      obtain ⟨ca, cb, cc, cd, ce⟩ := x
      simp only [Ses.cells] at HC
      (have hU := St.unpack hS; clear hS; obtain ⟨vs, _, hS⟩ := hU; simp only [List.cons_append, List.nil_append] at hS)
      go_wp2_with (first | (go_at_call 55; refine (HC.out _ _ hS (fun W hW => hW.rdx (by (repeat (first | exact Ix.here | apply Ix.there))))).mono ?_; clear hS; rintro e w' ⟨rfl, hS⟩) | (first | refine au1 (n := ?_) | (refine au2 (n := ?_); clear hS; intro w' hS) | (refine au3 (n := ?_); clear hS; intro gb w1 hS) | (refine au4 (n := ?_); clear hS; intro v1 w' hS) | ((with_reducible refine wl_guard ?_); refine stop_mem rfl rfl ?_)))
      refine region_end 10 [.vec vs 38 5 A.length (A.flatMap Ses.cells)] (.row g [vs] 90 (0, 0) :: .row gb [.int .i64 ca, .int .i64 cb, .int .i64 cc, .int .i64 cd, .string ⟨ce.toArray⟩] 38 (0, 0) :: .vec v1 5 1 l.length (l.flatMap byt) :: M) hS.pick (by kernel_rfl) ?_
      clear hS
      intro F wx hR hB hS
      (refine we_take 0 rfl rfl (by kernel_rfl) (by kernel_rfl) (by kernel_rfl) (fun _ _ _ h => h) (by kernel_rfl) rfl (fun W hW => (by (go_simp; try with_reducible rfl))) hS.base ?_; simp only [Act.put, List.setIfInBounds_toArray, List.set_cons_zero, List.set_cons_succ])
      (refine we_take 1 rfl rfl (by kernel_rfl) (by kernel_rfl) (by kernel_rfl) (fun _ _ _ h => h) (by kernel_rfl) rfl (fun W hW => (by (go_simp; try with_reducible rfl))) hS.base ?_; simp only [Act.put, List.setIfInBounds_toArray, List.set_cons_zero, List.set_cons_succ])
      (refine we_take 2 rfl rfl (by kernel_rfl) (by kernel_rfl) (by kernel_rfl) (fun _ _ _ h => h) (by kernel_rfl) rfl (fun W hW => (by (go_simp; try with_reducible rfl))) hS.base ?_; simp only [Act.put, List.setIfInBounds_toArray, List.set_cons_zero, List.set_cons_succ])
      (refine we_take 3 rfl rfl (by kernel_rfl) (by kernel_rfl) (by kernel_rfl) (fun _ _ _ h => h) (by kernel_rfl) rfl (fun W hW => (by (go_simp; try with_reducible rfl))) hS.base ?_; simp only [Act.put, List.setIfInBounds_toArray, List.set_cons_zero, List.set_cons_succ])
      (refine we_take 4 rfl rfl (by kernel_rfl) (by kernel_rfl) (by kernel_rfl) (fun _ _ _ h => h) (by kernel_rfl) rfl (fun W hW => rdR) hS.base ?_; simp only [Act.put, List.setIfInBounds_toArray, List.set_cons_zero, List.set_cons_succ])
      (refine we_take 5 rfl rfl (by kernel_rfl) (by kernel_rfl) (by kernel_rfl) (fun _ _ _ h => h) (by kernel_rfl) rfl (fun W hW => rdR) hS.base ?_; simp only [Act.put, List.setIfInBounds_toArray, List.set_cons_zero, List.set_cons_succ])
      (refine we_all (rs := [6]) (by kernel_rfl) (by simp) ?_; intro i hi; have hi := List.mem_singleton.1 hi; subst hi)
      (refine wod_of rfl rfl rfl (a_build1 (v := .agg _) hS rfl rfl rfl rfl (by rfl) (by simp) ?_); clear hS; intro v1 w4 hS; simp only [List.length_cons, List.length_nil, Nat.zero_add] at hS; try simp only [Nat.reduceAdd] at hS; (refine ⟨fun _ => hS.base, ?_⟩; simp only [Act.put, List.setIfInBounds_toArray, List.set_cons_zero, List.set_cons_succ]))
      (refine we_all (rs := [7]) (by kernel_rfl) (by simp) ?_; intro i hi; have hi := List.mem_singleton.1 hi; subst hi)
      (refine wod_of rfl rfl rfl (k_app (z := (⟨ca, cb, cc, cd, ce⟩ : Ses)) hS rfl rfl rfl rfl (h1 := by simp [Ses.cells, Value.oneCell']) (h := ?_)); clear hS; intro va w5 hS hv2; (refine ⟨fun _ => hS.base, ?_⟩; simp only [Act.put, List.setIfInBounds_toArray, List.set_cons_zero, List.set_cons_succ]))
      ((refine we_all (rs := [8]) (by kernel_rfl) (by simp) ?_; intro i hi; have hi := List.mem_singleton.1 hi; subst hi); refine wod_of rfl rfl rfl (wp_run (by (go_simp; first | done | exact ⟨rfl, rfl⟩ | with_reducible rfl)) ?_); (refine ⟨fun _ => hS.base, ?_⟩; simp only [Act.put, List.setIfInBounds_toArray, List.set_cons_zero, List.set_cons_succ]))
      ((refine we_all (rs := [9]) (by kernel_rfl) (by simp) ?_; intro i hi; have hi := List.mem_singleton.1 hi; subst hi); refine wod_of rfl rfl rfl (wp_run (by (go_simp; first | done | exact ⟨rfl, rfl⟩ | with_reducible rfl)) ?_); (refine ⟨fun _ => hS.base, ?_⟩; simp only [Act.put, List.setIfInBounds_toArray, List.set_cons_zero, List.set_cons_succ]))
      (refine we_all (rs := [10]) (by kernel_rfl) (by simp) ?_; intro i hi; have hi := List.mem_singleton.1 hi; subst hi)
      (replace hS := hB _ _ hS; simp only [List.cons_append, List.nil_append] at hS; refine won_of rfl rfl rfl (k_st1 hS rfl rfl rfl (h := ?_)); clear hS; intro w6 hS; simp only [List.set_cons_zero, List.set_cons_succ] at hS; simp only [Act.eval, Array.getD_eq_getD_getElem?, List.getElem?_toArray, List.getElem?_cons_succ, List.getElem?_cons_zero, Option.getD_some] at hS; (refine ⟨fun h => absurd rfl h, ?_⟩; refine we_done (by kernel_rfl) ?_ _))
      go_wp2_with (first | refine au1 (n := ?_) | (refine au2 (n := ?_); clear hS; intro w' hS) | (refine au3 (n := ?_); clear hS; intro gb w1 hS) | (refine au4 (n := ?_); clear hS; intro v1 w' hS) | ((with_reducible refine wl_guard ?_); refine stop_mem rfl rfl ?_))
      refine ⟨⟨j + 1, by omega, ?_, by go_num, ?_⟩, by simp [intOf]; omega⟩
      · rw [HX.out, List.length_append, HZ.out]
        first | rfl | (push_cast; rfl)
      · rw [HT.out]
        exact (St.packs va hS : St S w0 _ (ses g _ :: _)).pick
    · obtain rfl : j = T.length := by omega
      rw [HPT.out]
      rw [List.take_length] at hS
      go_wp2_with (first | refine au1 (n := ?_) | (refine au2 (n := ?_); clear hS; intro w' hS) | (refine au3 (n := ?_); clear hS; intro gb w1 hS) | (refine au4 (n := ?_); clear hS; intro v1 w' hS) | ((with_reducible refine wl_guard ?_); refine stop_mem rfl rfl ?_))
      go_ret2
      exact ⟨g, rfl, hS.pick⟩
end
end Go.Proofs.Ytjjiibcnknljfaa
