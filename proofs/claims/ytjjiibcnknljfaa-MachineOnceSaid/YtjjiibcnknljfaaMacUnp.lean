/-
  The program's machine out of the bytes in which it was packed.
-/
import Derived.Test.YtjjiibcnknljfaaMac5
import Derived.Test.YtjjiibcnknljfaaSesU
import Derived.Test.YtjjiibcnknljfaaLedUnp3
import Derived.Test.YtjjiibcnknljfaaLedC
set_option linter.unusedSimpArgs false
set_option linter.unusedVariables false
set_option linter.unusedSectionVars false
set_option maxRecDepth 100000
namespace Go.Proofs.Ytjjiibcnknljfaa
open Go.RowKit Go.Cmp

theorem flags_of {D : Led} (hD : D.Good) : ∀ a ∈ D.A, 0 ≤ a.flags ∧ a.flags ≤ 255 := by
  intro a ha
  obtain ⟨i, hi, rfl⟩ := mem_nth' ha
  have := hD.acc i hi
  omega

section
variable {S : List Nat} {w0 w : World} {M : List Ent} {g : Nat} {m : Mac}

set_option maxHeartbeats 8000000 in
theorem mach_unpack (hS : St S w0 w M) (hm : m.Ok) (hg : m.D.Good) :
    Calls Try.prog 18 #[.string ⟨(mPack m).toArray⟩] w fun e w' => ∃ g, e = .returned (.tuple #[.pointer (some ⟨g, 0, none⟩), .int .i64 0]) ∧ St S w0 w' (mach g m :: M) := by
  obtain ⟨⟨mo, mv, ms⟩, T, D⟩ := m
  obtain ⟨o1, o2⟩ := hm.op
  obtain ⟨v1, v2⟩ := hm.view
  have s2 := hm.sum
  have hps := sPack_le hm.good.ok.len hm.fit
  have hpl := lPack_le hm.led
  simp only at o1 o2 v1 v2 s2 hps hpl
  have HUS := Lib.hid (fun (S : List Nat) (w0 w : World) (M : List Ent) (hS : St S w0 w M) => ses_unpack hS T hm.good.ok.len hm.fit)
  have hul := ledUnp_any (lPack D) (by omega)
  have hu2 := unp_pack hm.led (flags_of hg)
  simp only at hu2
  rw [hu2] at hul
  have HUL := Lib.hid hul
  clear hul hu2 hm hg
  unfold mPack
  simp only
  generalize sPack T = ps at HUS hps ⊢
  generalize lPack D = pl at HUL hpl ⊢
  have hot : ((mo.toNat : Nat) : Int) = mo := Int.toNat_of_nonneg o1
  have hvt : ((mv.toNat : Nat) : Int) = mv := Int.toNat_of_nonneg v1
  obtain ⟨l, hl⟩ : ∃ l, leB 8 mo.toNat ++ leB 8 mv.toNat ++ leB 8 ms ++ txt ps ++ txt pl = l := ⟨_, rfl⟩
  have hll : l.length = 28 + ps.length + pl.length := by rw [← hl]; simp only [List.length_append, leB_length, txt_length]; omega
  have t0 : takeN l 0 8 = (mo.toNat, 0) := by
    have h := takeN_at [] (leB 8 mv.toNat ++ leB 8 ms ++ txt ps ++ txt pl) 8 mo.toNat (by omega)
    rw [← hl]
    simpa [List.append_assoc] using h
  have t1 : takeN l 8 8 = (mv.toNat, 0) := by
    have h := takeN_at (leB 8 mo.toNat) (leB 8 ms ++ txt ps ++ txt pl) 8 mv.toNat (by omega)
    rw [leB_length] at h
    rw [← hl]
    simpa [List.append_assoc] using h
  have t2 : takeN l 16 8 = (ms, 0) := by
    have h := takeN_at (leB 8 mo.toNat ++ leB 8 mv.toNat) (txt ps ++ txt pl) 8 ms (by omega)
    rw [List.length_append, leB_length, leB_length] at h
    rw [← hl]
    simpa [List.append_assoc] using h
  have t3 : takeT l 24 l.length = (ps, 26 + (ps.length : Int), 0) := by
    have h := takeT_at (leB 8 mo.toNat ++ leB 8 mv.toNat ++ leB 8 ms) (txt pl) ps (l.length : Int) (by omega) (by omega)
    rw [List.length_append, List.length_append, leB_length, leB_length, leB_length, hl] at h
    rw [h]
    simp
    try omega
  have t4 : takeT l (26 + ps.length) l.length = (pl, 28 + (ps.length : Int) + pl.length, 0) := by
    have h := takeT_at (leB 8 mo.toNat ++ leB 8 mv.toNat ++ leB 8 ms ++ txt ps) [] pl (l.length : Int) (by omega) (by omega)
    rw [List.length_append, List.length_append, List.length_append, leB_length, leB_length, leB_length, txt_length, List.append_nil, hl, show 8 + 8 + 8 + (ps.length + 2) = 26 + ps.length by omega] at h
    rw [h]
    simp
    try omega
  have K0 := Lib.hid (fun (S : List Nat) (w0 w : World) (M : List Ent) (v : Value) (hS : St S w0 w (.vec v 5 1 l.length (l.flatMap byt) :: M)) => num_take hS (v := v) (l := l) 0 8 (by omega) (by omega) (by omega) (hS.rdx Ix.here))
  have K1 := Lib.hid (fun (S : List Nat) (w0 w : World) (M : List Ent) (v : Value) (hS : St S w0 w (.vec v 5 1 l.length (l.flatMap byt) :: M)) => num_take hS (v := v) (l := l) 8 8 (by omega) (by omega) (by omega) (hS.rdx Ix.here))
  have K2 := Lib.hid (fun (S : List Nat) (w0 w : World) (M : List Ent) (v : Value) (hS : St S w0 w (.vec v 5 1 l.length (l.flatMap byt) :: M)) => num_take hS (v := v) (l := l) 16 8 (by omega) (by omega) (by omega) (hS.rdx Ix.here))
  have K3 := Lib.hid (fun (S : List Nat) (w0 w : World) (M : List Ent) (v : Value) (hS : St S w0 w (.vec v 5 1 l.length (l.flatMap byt) :: M)) => num_takeText hS (v := v) (l := l) 24 l.length (by omega) (by omega) (fun W hW => hW.rdx Ix.here))
  have K4 := Lib.hid (fun (S : List Nat) (w0 w : World) (M : List Ent) (v : Value) (hS : St S w0 w (.vec v 5 1 l.length (l.flatMap byt) :: M)) => num_takeText hS (v := v) (l := l) (26 + ps.length) l.length (by omega) (by omega) (fun W hW => hW.rdx Ix.here))
  simp only [t0, t1, t2, t3, t4, hot, hvt, Int.natCast_add, Int.cast_ofNat_Int] at K0 K1 K2 K3 K4
  rw [hl]
  have hw1 : wrap64 mo = mo := by unfold wrap64; omega
  have hw2 : wrap64 mv = mv := by unfold wrap64; omega
  have he : (l.length : Int) = 28 + (ps.length : Int) + pl.length := by omega
  have HE := Lib.hid he
  have hm64 : l.length ≤ maxLen := by unfold maxLen; omega
  clear t0 t1 t2 t3 t4 hot hvt hl hll he
  (go_enter Try.func18, Try.ntmps18)
  go_wp2_with (first | ((with_reducible refine g_conv ?_); refine wl_of rfl ?_; refine a_toBytes hS rfl rfl rfl rfl rfl hm64 ?_; clear hS; intro v1 w1 hS) | (first | refine au1 (n := ?_) | (refine au2 (n := ?_); clear hS; intro w' hS) | (refine au3 (n := ?_); clear hS; intro gb w1 hS) | (refine au4 (n := ?_); clear hS; intro v1 w' hS) | ((with_reducible refine wl_guard ?_); refine stop_mem rfl rfl ?_)))
  have hne : ((28 + (ps.length : Int) + pl.length) != (l.length : Int)) = false := by rw [bne_eq_false_iff_eq]; exact HE.out.symm
  refine (K0.out _ _ _ _ v1 hS).mono ?_
  clear hS
  rintro e w5 ⟨rfl, hS⟩
  go_wp2_with (fail)
  refine (K1.out _ _ _ _ v1 hS).mono ?_
  clear hS
  rintro e w5 ⟨rfl, hS⟩
  go_wp2_with (fail)
  refine (K2.out _ _ _ _ v1 hS).mono ?_
  clear hS
  rintro e w5 ⟨rfl, hS⟩
  go_wp2_with (first | refine au1 (n := ?_) | (refine au2 (n := ?_); clear hS; intro w' hS) | (refine au3 (n := ?_); clear hS; intro gb w1 hS) | (refine au4 (n := ?_); clear hS; intro v1 w' hS) | ((with_reducible refine wl_guard ?_); refine stop_mem rfl rfl ?_))
  refine (K3.out _ _ _ _ v1 hS).mono ?_
  clear hS
  rintro e w5 ⟨rfl, hS⟩
  go_wp2_with (first | refine au1 (n := ?_) | (refine au2 (n := ?_); clear hS; intro w' hS) | (refine au3 (n := ?_); clear hS; intro gb w1 hS) | (refine au4 (n := ?_); clear hS; intro v1 w' hS) | ((with_reducible refine wl_guard ?_); refine stop_mem rfl rfl ?_))
  refine (K4.out _ _ _ _ v1 hS).mono ?_
  clear hS
  rintro e w5 ⟨rfl, hS⟩
  go_wp2_with (fail)
  refine (HUS.out _ _ _ _ hS).mono ?_
  clear hS
  rintro e w5 ⟨gs, rfl, hS⟩
  go_wp2_with (fail)
  refine (HUL.out _).mono ?_
  rintro e w6 ⟨gl, rfl, h⟩
  replace hS := hS.call h
  clear h
  simp only [List.cons_append, List.nil_append] at hS
  go_wp2_with (first | refine au1 (n := ?_) | (refine au2 (n := ?_); clear hS; intro w' hS) | (refine au3 (n := ?_); clear hS; intro gb w1 hS) | (refine au4 (n := ?_); clear hS; intro v1 w' hS) | ((with_reducible refine wl_guard ?_); refine stop_mem rfl rfl ?_))
  go_ret2
  exact ⟨gb, rfl, St.packs (gs, gl) hS⟩
end
end Go.Proofs.Ytjjiibcnknljfaa
