/-
  The program's machine: what it has, its bytes; a machine that is not there.
-/
import Derived.Test.YtjjiibcnknljfaaGreatMac1
import Derived.Test.YtjjiibcnknljfaaGreatLedC
set_option linter.unusedSimpArgs false
set_option linter.unusedVariables false
set_option linter.unusedSectionVars false
set_option maxRecDepth 100000
namespace Go.Proofs.YtjjiibcnknljfaaGreat
open Go.RowKit Go.Cmp

theorem lPack_le {D : Led} (hD : D.Ok) : (lPack D).length ≤ 714 := by
  have h1 := flat_le (f := fun a : Acc => (putW a).1) putW_len D.A
  have h2 := flat_le (f := traB) (k := 32) (fun t => Nat.le_of_eq (traB_len t)) D.T
  have := hD.la
  have := hD.lt
  unfold lPack
  simp only [List.length_append, List.length_singleton]
  omega
theorem sPack_le {T : List Ses} (hl : T.length ≤ 3) (hf : SFit T) : (sPack T).length ≤ 703 := by
  have h := sBytes_le hf T.length (Nat.le_refl _)
  rw [List.take_length] at h
  unfold sPack
  simp only [List.length_append, List.length_singleton]
  omega

theorem mPack_le {m : Mac} (hm : m.Ok) : (mPack m).length ≤ 1500 := by
  have h1 := sPack_le hm.good.ok.len hm.fit
  have h2 := lPack_le hm.led
  unfold mPack
  simp only [List.length_append, leB_length, txt_length]
  omega

section
variable {S : List Nat} {w0 w : World} {M : List Ent} {g : Nat} {m : Mac}

theorem mach_mark (hS0 : St S w0 w (mach g m :: M)) :
    Calls Tryz.prog 10 #[.pointer (some ⟨g, 0, none⟩)] w fun e w' => e = .returned (.agg m.mark.cells.toArray) ∧ St [] w w' [] := by
  obtain ⟨⟨mo, mv, ms⟩, T, D⟩ := m
  simp only [Mk.cells]
  have hU := St.unpack hS0
  clear hS0
  obtain ⟨⟨gs, gl⟩, _, hS0⟩ := hU
  simp only [List.cons_append, List.nil_append] at hS0
  have hS := St.init w
  (go_enter Tryz.func10, Tryz.ntmps10)
  go_wp2_with (first | ((with_reducible refine g_load ?_); refine wl_run rfl (a_loadA (vs := [_, _, _]) (hS0.call hS) rfl rfl rfl rfl (by (repeat (first | exact Ix.here | apply Ix.there))) 3 (by rfl) (by rfl) (by rfl)) ?_) | (first | refine au1 (n := ?_) | (refine au2 (n := ?_); clear hS; intro w' hS) | (refine au3 (n := ?_); clear hS; intro gb w1 hS) | (refine au4 (n := ?_); clear hS; intro v1 w' hS) | ((with_reducible refine wl_guard ?_); refine stop_mem rfl rfl ?_)))
  exact end_cell1 hS rfl rfl rfl rfl rfl (h := ⟨rfl, hS.nil⟩)

theorem mach_sessions (hS : St S w0 w (mach g m :: M)) (hl : m.T.length ≤ 3) :
    Calls Tryz.prog 9 #[.pointer (some ⟨g, 0, none⟩)] w fun e w' => ∃ u, e = .returned u ∧ St S w0 w' (.vec u 41 5 m.T.length (m.T.flatMap Ses.cells) :: mach g m :: M) := by
  (have hU := St.unpack hS; clear hS; obtain ⟨⟨gs, gl⟩, _, hS⟩ := hU; simp only [List.cons_append, List.nil_append] at hS)
  (go_enter Tryz.func9, Tryz.ntmps9)
  go_wp2_with (first | (go_at_call 33; refine (ses_list (T := m.T) (hS.out (by (repeat (first | exact Out.here | apply Out.there)))) (by omega)).mono ?_; clear hS; rintro e w' ⟨u, rfl, hS⟩) | (first | refine au1 (n := ?_) | (refine au2 (n := ?_); clear hS; intro w' hS) | (refine au3 (n := ?_); clear hS; intro gb w1 hS) | (refine au4 (n := ?_); clear hS; intro v1 w' hS) | ((with_reducible refine wl_guard ?_); refine stop_mem rfl rfl ?_)))
  go_ret
  exact ⟨u, rfl, (St.packs (l := fun x : Nat × Nat => [.row g [.int .i64 m.mark.op, .int .i64 m.mark.view, .int .u64 m.mark.sum, .pointer (some ⟨x.1, 0, none⟩), .pointer (some ⟨x.2, 0, none⟩)] 74 (0, 0), ses x.1 m.T, ledg x.2 m.D]) (M := .vec u 41 5 m.T.length (m.T.flatMap Ses.cells) :: M) (gs, gl) hS).pick⟩
theorem mach_accounts (hS : St S w0 w (mach g m :: M)) (hl : m.D.Ok) :
    Calls Tryz.prog 13 #[.pointer (some ⟨g, 0, none⟩)] w fun e w' => ∃ u, e = .returned u ∧ St S w0 w' (.vec u 86 4 m.D.A.length (m.D.A.flatMap Acc.cells) :: mach g m :: M) := by
  have hl8 := hl.la
  (have hU := St.unpack hS; clear hS; obtain ⟨⟨gs, gl⟩, _, hS⟩ := hU; simp only [List.cons_append, List.nil_append] at hS)
  (go_enter Tryz.func13, Tryz.ntmps13)
  go_wp2_with (first | (go_at_call 36; refine (ledg_accounts (D := m.D) (hS.out (by (repeat (first | exact Out.here | apply Out.there)))) (by omega)).mono ?_; clear hS; rintro e w' ⟨u, rfl, hS⟩) | (first | refine au1 (n := ?_) | (refine au2 (n := ?_); clear hS; intro w' hS) | (refine au3 (n := ?_); clear hS; intro gb w1 hS) | (refine au4 (n := ?_); clear hS; intro v1 w' hS) | ((with_reducible refine wl_guard ?_); refine stop_mem rfl rfl ?_)))
  go_ret
  exact ⟨u, rfl, (St.packs (l := fun x : Nat × Nat => [.row g [.int .i64 m.mark.op, .int .i64 m.mark.view, .int .u64 m.mark.sum, .pointer (some ⟨x.1, 0, none⟩), .pointer (some ⟨x.2, 0, none⟩)] 74 (0, 0), ses x.1 m.T, ledg x.2 m.D]) (M := .vec u 86 4 m.D.A.length (m.D.A.flatMap Acc.cells) :: M) (gs, gl) hS).pick⟩
theorem mach_transfers (hS : St S w0 w (mach g m :: M)) (hl : m.D.Ok) :
    Calls Tryz.prog 14 #[.pointer (some ⟨g, 0, none⟩)] w fun e w' => ∃ u, e = .returned u ∧ St S w0 w' (.vec u 91 4 m.D.T.length (m.D.T.flatMap Tra.cells) :: mach g m :: M) := by
  have hl8 := hl.lt
  (have hU := St.unpack hS; clear hS; obtain ⟨⟨gs, gl⟩, _, hS⟩ := hU; simp only [List.cons_append, List.nil_append] at hS)
  (go_enter Tryz.func14, Tryz.ntmps14)
  go_wp2_with (first | (go_at_call 37; refine (ledg_transfers (D := m.D) (hS.out (by (repeat (first | exact Out.here | apply Out.there)))) (by omega)).mono ?_; clear hS; rintro e w' ⟨u, rfl, hS⟩) | (first | refine au1 (n := ?_) | (refine au2 (n := ?_); clear hS; intro w' hS) | (refine au3 (n := ?_); clear hS; intro gb w1 hS) | (refine au4 (n := ?_); clear hS; intro v1 w' hS) | ((with_reducible refine wl_guard ?_); refine stop_mem rfl rfl ?_)))
  go_ret
  exact ⟨u, rfl, (St.packs (l := fun x : Nat × Nat => [.row g [.int .i64 m.mark.op, .int .i64 m.mark.view, .int .u64 m.mark.sum, .pointer (some ⟨x.1, 0, none⟩), .pointer (some ⟨x.2, 0, none⟩)] 74 (0, 0), ses x.1 m.T, ledg x.2 m.D]) (M := .vec u 91 4 m.D.T.length (m.D.T.flatMap Tra.cells) :: M) (gs, gl) hS).pick⟩

set_option maxHeartbeats 8000000 in
theorem mach_pack (hS : St S w0 w (mach g m :: M)) (hm : m.Ok) :
    Calls Tryz.prog 25 #[.pointer (some ⟨g, 0, none⟩)] w fun e w' => e = .returned (.string ⟨(mPack m).toArray⟩) ∧ St S w0 w' (mach g m :: M) := by
  obtain ⟨⟨mo, mv, ms⟩, T, D⟩ := m
  obtain ⟨o1, o2⟩ := hm.op
  obtain ⟨v1, v2⟩ := hm.view
  have s2 := hm.sum
  simp only at o1 o2 v1 v2 s2
  have HPS := Lib.hid (fun (S : List Nat) (w0 w : World) (M : List Ent) (gs : Nat) (hS : St S w0 w (ses gs T :: M)) => ses_pack hS hm.good.ok.len hm.fit)
  have HPL := Lib.hid (fun (S : List Nat) (w0 w : World) (M : List Ent) (gl : Nat) (hS : St S w0 w (ledg gl D :: M)) => ledg_pack hS hm.led)
  have hps := sPack_le hm.good.ok.len hm.fit
  have hpl := lPack_le hm.led
  clear hm
  simp only at hps hpl
  unfold mPack
  simp only
  generalize sPack T = ps at HPS hps ⊢
  generalize lPack D = pl at HPL hpl ⊢
  obtain ⟨A1, hA1⟩ : ∃ A, leB 8 mo.toNat = A := ⟨_, rfl⟩
  obtain ⟨A2, hA2⟩ : ∃ A, A1 ++ leB 8 mv.toNat = A := ⟨_, rfl⟩
  obtain ⟨A3, hA3⟩ : ∃ A, A2 ++ leB 8 ms = A := ⟨_, rfl⟩
  obtain ⟨A4, hA4⟩ : ∃ A, A3 ++ txt ps = A := ⟨_, rfl⟩
  obtain ⟨A5, hA5⟩ : ∃ A, A4 ++ txt pl = A := ⟨_, rfl⟩
  have l1 : A1.length = 8 := by rw [← hA1, leB_length]
  have l2 : A2.length = 16 := by rw [← hA2, List.length_append, leB_length]; omega
  have l3 : A3.length = 24 := by rw [← hA3, List.length_append, leB_length]; omega
  have l4 : A4.length ≤ 2000 := by rw [← hA4, List.length_append, txt_length]; omega
  rw [hA1, hA2, hA3, hA4, hA5]
  have P1 := Lib.hid (fun (S : List Nat) (w0 w : World) (M : List Ent) (hS : St S w0 w M) => num_put (v := .slice none 0 0) (l := []) hS mo 8 (by omega) (by omega) o1 (by omega) (by simp) (Rd.nil w 1))
  have P2 := Lib.hid (fun (S : List Nat) (w0 w : World) (M : List Ent) (v : Value) (hS : St S w0 w (.vec v 5 1 A1.length (A1.flatMap byt) :: M)) => num_put (v := v) (l := A1) hS mv 8 (by omega) (by omega) v1 (by omega) (by omega) (hS.rdx Ix.here))
  have P3 := Lib.hid (fun (S : List Nat) (w0 w : World) (M : List Ent) (v : Value) (hS : St S w0 w (.vec v 5 1 A2.length (A2.flatMap byt) :: M)) => num_put (v := v) (l := A2) hS ms 8 (by omega) (by omega) (by omega) (by omega) (by omega) (hS.rdx Ix.here))
  have P4 := Lib.hid (fun (S : List Nat) (w0 w : World) (M : List Ent) (v : Value) (hS : St S w0 w (.vec v 5 1 A3.length (A3.flatMap byt) :: M)) => num_putText (v := v) (l := A3) hS ps (by omega) (by omega) (fun W hW => hW.rdx Ix.here))
  have P5 := Lib.hid (fun (S : List Nat) (w0 w : World) (M : List Ent) (v : Value) (hS : St S w0 w (.vec v 5 1 A4.length (A4.flatMap byt) :: M)) => num_putText (v := v) (l := A4) hS pl (by omega) (by omega) (fun W hW => hW.rdx Ix.here))
  simp only [List.nil_append, Int.toNat_natCast, hA1, hA2, hA3, hA4, hA5] at P1 P2 P3 P4 P5
  clear hA1 hA2 hA3 hA4 hA5 hps hpl
  (have hU := St.unpack hS; clear hS; obtain ⟨⟨gs, gl⟩, _, hS⟩ := hU; simp only [List.cons_append, List.nil_append] at hS)
  (go_enter Tryz.func25, Tryz.ntmps25)
  go_wp2_with (first | refine au1 (n := ?_) | (refine au2 (n := ?_); clear hS; intro w' hS) | (refine au3 (n := ?_); clear hS; intro gb w1 hS) | (refine au4 (n := ?_); clear hS; intro v1 w' hS) | ((with_reducible refine wl_guard ?_); refine stop_mem rfl rfl ?_))
  refine (P1.out _ _ _ _ hS).mono ?_
  clear hS
  rintro e w5 ⟨b1, rfl, hS⟩
  go_wp2_with (first | refine au1 (n := ?_) | (refine au2 (n := ?_); clear hS; intro w' hS) | (refine au3 (n := ?_); clear hS; intro gb w1 hS) | (refine au4 (n := ?_); clear hS; intro v1 w' hS) | ((with_reducible refine wl_guard ?_); refine stop_mem rfl rfl ?_))
  refine (P2.out _ _ _ _ _ hS).mono ?_
  clear hS
  rintro e w5 ⟨b2, rfl, hS⟩
  go_wp2_with (first | refine au1 (n := ?_) | (refine au2 (n := ?_); clear hS; intro w' hS) | (refine au3 (n := ?_); clear hS; intro gb w1 hS) | (refine au4 (n := ?_); clear hS; intro v1 w' hS) | ((with_reducible refine wl_guard ?_); refine stop_mem rfl rfl ?_))
  refine (P3.out _ _ _ _ _ hS).mono ?_
  clear hS
  rintro e w5 ⟨b3, rfl, hS⟩
  go_wp2_with (first | refine au1 (n := ?_) | (refine au2 (n := ?_); clear hS; intro w' hS) | (refine au3 (n := ?_); clear hS; intro gb w1 hS) | (refine au4 (n := ?_); clear hS; intro v1 w' hS) | ((with_reducible refine wl_guard ?_); refine stop_mem rfl rfl ?_))
  refine (HPS.out _ _ _ _ gs (hS.out (by (repeat (first | exact Out.here | apply Out.there))))).mono ?_
  clear hS
  rintro e w5 ⟨rfl, hS⟩
  go_wp2_with (first | refine au1 (n := ?_) | (refine au2 (n := ?_); clear hS; intro w' hS) | (refine au3 (n := ?_); clear hS; intro gb w1 hS) | (refine au4 (n := ?_); clear hS; intro v1 w' hS) | ((with_reducible refine wl_guard ?_); refine stop_mem rfl rfl ?_))
  refine (P4.out _ _ _ _ b3 (hS.out (by (repeat (first | exact Out.here | apply Out.there))))).mono ?_
  clear hS
  rintro e w5 ⟨b4, rfl, hS⟩
  go_wp2_with (first | refine au1 (n := ?_) | (refine au2 (n := ?_); clear hS; intro w' hS) | (refine au3 (n := ?_); clear hS; intro gb w1 hS) | (refine au4 (n := ?_); clear hS; intro v1 w' hS) | ((with_reducible refine wl_guard ?_); refine stop_mem rfl rfl ?_))
  refine (HPL.out _ _ _ _ gl (hS.out (by (repeat (first | exact Out.here | apply Out.there))))).mono ?_
  clear hS
  rintro e w5 ⟨rfl, hS⟩
  go_wp2_with (first | refine au1 (n := ?_) | (refine au2 (n := ?_); clear hS; intro w' hS) | (refine au3 (n := ?_); clear hS; intro gb w1 hS) | (refine au4 (n := ?_); clear hS; intro v1 w' hS) | ((with_reducible refine wl_guard ?_); refine stop_mem rfl rfl ?_))
  refine (P5.out _ _ _ _ b4 (hS.out (by (repeat (first | exact Out.here | apply Out.there))))).mono ?_
  clear hS
  rintro e w5 ⟨b5, rfl, hS⟩
  go_wp2_with (first | refine au1 (n := ?_) | (refine au2 (n := ?_); clear hS; intro w' hS) | (refine au3 (n := ?_); clear hS; intro gb w1 hS) | (refine au4 (n := ?_); clear hS; intro v1 w' hS) | ((with_reducible refine wl_guard ?_); refine stop_mem rfl rfl ?_))
  go_ret
  exact ⟨rfl, St.packs (gs, gl) hS⟩
end
end Go.Proofs.YtjjiibcnknljfaaGreat
