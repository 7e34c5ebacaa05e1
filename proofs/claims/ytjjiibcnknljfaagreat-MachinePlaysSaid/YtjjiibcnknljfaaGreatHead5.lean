/-
  Headers: the document's Pack.
-/
import Derived.Test.YtjjiibcnknljfaaGreatHead4
set_option linter.unusedSimpArgs false
set_option linter.unusedVariables false
set_option linter.unusedSectionVars false
set_option maxRecDepth 100000
namespace Go.Proofs.YtjjiibcnknljfaaGreat
open Go.RowKit Go.Cmp
set_option maxRecDepth 100000

section
variable {S : List Nat} {w0 w : World} {M : List Ent}
set_option maxHeartbeats 4000000 in
theorem r5_put {v : Value} {l : List UInt8} (hS : St S w0 w (.vec v 5 1 l.length (l.flatMap byt) :: M)) (x : Int) (k : Nat) (hk1 : 1 ≤ k) (hk : k ≤ 8) (h0 : 0 ≤ x) (hx : x < 256 ^ k) (hl : l.length ≤ 100000000) :
    Calls Tryz.prog 138 #[v, .int .u64 x, .int .i64 k] w fun e w' => ∃ v', e = .returned v' ∧ St S w0 w' (.vec v' 5 1 (l ++ leB k x.toNat).length ((l ++ leB k x.toNat).flatMap byt) :: M) := by
  have HP := Lib.hid (fun (W : World) (M : List Ent) (h : St S w0 W (.vec v 5 1 l.length (l.flatMap byt) :: M)) => ref_put (v := v) (l := l) h x k hk1 hk h0 hx (by omega) (fun W hW => hW.rdx (by (repeat (first | exact Ix.here | apply Ix.there)))))
  clear hk1 hk h0 hx
  (go_enter Tryz.func138, Tryz.ntmps138)
  go_wp2_with (first | (go_at_call 88; refine (HP.out _ _ hS).mono ?_; clear hS; rintro e w' ⟨vn, rfl, hS⟩) | (first | refine au1 (n := ?_) | (refine au2 (n := ?_); clear hS; intro w' hS) | (refine au3 (n := ?_); clear hS; intro gb w1 hS) | (refine au4 (n := ?_); clear hS; intro v1 w' hS) | ((with_reducible refine wl_guard ?_); refine stop_mem rfl rfl ?_)))
  go_ret
  exact ⟨_, rfl, hS.pick⟩
set_option maxHeartbeats 16000000 in
theorem refPack_any (h : Hd) (hp : h.parent < 18446744073709551616) (body : List UInt8) (hb : body.length ≤ 1000000) (w : World) :
    Calls Tryz.prog 132 #[.agg h.cells.toArray, .string ⟨body.toArray⟩] w fun e w' => e = .returned (.tuple #[.string ⟨(packH h body).1.toArray⟩, .int .i64 (packH h body).2]) ∧ St [] w w' [] := by
  have hS := St.init w
  have HR := Lib.hid (fun w => refRight_any h w)
  by_cases hr : h.right = false
  · have e : packH h body = ([], 4) := by unfold packH; rw [if_pos hr]
    rw [e]
    rw [hr] at HR
    clear hr e hp
    obtain ⟨k1, k2, k3, n1, n2, n3, n4, n5, n6, n7, n8, par⟩ := h
    simp only [Hd.cells] at HR ⊢
    (go_enter Tryz.func132, Tryz.ntmps132)
    go_wp2_with (first | (go_at_call 137; refine (HR.out _).mono ?_; rintro e w' ⟨rfl, h⟩; replace hS := hS.call h; clear h) | (first | refine au1 (n := ?_) | (refine au2 (n := ?_); clear hS; intro w' hS) | (refine au3 (n := ?_); clear hS; intro gb w1 hS) | (refine au4 (n := ?_); clear hS; intro v1 w' hS) | ((with_reducible refine wl_guard ?_); refine stop_mem rfl rfl ?_)))
    go_ret2
    exact ⟨rfl, hS.nil⟩
  have hr : h.right = true := by simpa using hr
  rw [hr] at HR
  by_cases hlong : 3968 < body.length
  · have e : packH h body = ([], 5) := by unfold packH; rw [if_neg (by simp [hr]), if_pos hlong]
    rw [e]
    clear hr e hp
    have hlong1 : (3968 : Int) < body.length := by omega
    obtain ⟨k1, k2, k3, n1, n2, n3, n4, n5, n6, n7, n8, par⟩ := h
    simp only [Hd.cells] at HR ⊢
    (go_enter Tryz.func132, Tryz.ntmps132)
    go_wp2_with (first | (go_at_call 137; refine (HR.out _).mono ?_; rintro e w' ⟨rfl, h⟩; replace hS := hS.call h; clear h) | (first | refine au1 (n := ?_) | (refine au2 (n := ?_); clear hS; intro w' hS) | (refine au3 (n := ?_); clear hS; intro gb w1 hS) | (refine au4 (n := ?_); clear hS; intro v1 w' hS) | ((with_reducible refine wl_guard ?_); refine stop_mem rfl rfl ?_)))
    go_ret2
    exact ⟨rfl, hS.nil⟩
  have e : packH h body = (leB 4 (sumOf (headB h body)) ++ headB h body ++ body, 0) := by unfold packH; rw [if_neg (by simp [hr]), if_neg hlong]
  rw [e]
  clear e
  have hlong1 : ¬ (3968 : Int) < body.length := by omega
  obtain ⟨hsm, hnu⟩ := right_split hr
  clear hr
  have hHB : headB h body = leB 4 (sumOf body) ++ [UInt8.ofNat h.kind.toNat, UInt8.ofNat h.frm.toNat, UInt8.ofNat h.oper.toNat, 0] ++ leB 4 body.length ++ leB 8 h.parent ++ (leB 8 h.view.toNat ++ leB 8 h.op.toNat ++ leB 8 h.commit.toNat ++ leB 8 h.client.toNat ++ leB 8 h.session.toNat ++ leB 8 h.request.toNat ++ leB 8 h.a.toNat ++ leB 8 h.b.toNat) ++ List.replicate 40 0 := by simp [headB, Hd.nums]
  have hHL := headB_len h body
  obtain ⟨HB, hHBn⟩ : ∃ B, headB h body = B := ⟨_, rfl⟩
  rw [hHBn] at hHB hHL ⊢
  clear hHBn
  have hsl := sumOf_lt body
  have hsl2 := sumOf_lt HB
  have HS1 := Lib.hid (fun w => refSum_any body (by omega) w)
  have HS2 := Lib.hid (fun w => refSum_any HB (by omega) w)
  obtain ⟨s1, hs1⟩ : ∃ s, sumOf body = s := ⟨_, rfl⟩
  obtain ⟨s2, hs2⟩ : ∃ s, sumOf HB = s := ⟨_, rfl⟩
  rw [hs1] at hHB HS1 hsl
  rw [hs2] at HS2 hsl2 ⊢
  clear hs1 hs2
  obtain ⟨k1, k2, k3, n1, n2, n3, n4, n5, n6, n7, n8, par⟩ := h
  simp only [Hd.cells] at HR ⊢
  have a1 : 0 ≤ k1 ∧ k1 ≤ 255 := hsm 0 (by omega)
  have a2 : 0 ≤ k2 ∧ k2 ≤ 255 := hsm 1 (by omega)
  have a3 : 0 ≤ k3 ∧ k3 ≤ 255 := hsm 2 (by omega)
  have b1 : 0 ≤ n1 ∧ n1 ≤ 72057594037927935 := hnu 0 (by omega)
  have b2 : 0 ≤ n2 ∧ n2 ≤ 72057594037927935 := hnu 1 (by omega)
  have b3 : 0 ≤ n3 ∧ n3 ≤ 72057594037927935 := hnu 2 (by omega)
  have b4 : 0 ≤ n4 ∧ n4 ≤ 72057594037927935 := hnu 3 (by omega)
  have b5 : 0 ≤ n5 ∧ n5 ≤ 72057594037927935 := hnu 4 (by omega)
  have b6 : 0 ≤ n6 ∧ n6 ≤ 72057594037927935 := hnu 5 (by omega)
  have b7 : 0 ≤ n7 ∧ n7 ≤ 72057594037927935 := hnu 6 (by omega)
  have b8 : 0 ≤ n8 ∧ n8 ≤ 72057594037927935 := hnu 7 (by omega)
  clear hsm hnu
  have hp : par < 18446744073709551616 := hp
  simp only at hHB
  have HHB := Lib.hid hHB
  clear hHB
  have hl0 : ([] : List UInt8).length ≤ 0 := by simp
  obtain ⟨L1, hL1⟩ : ∃ L, [] ++ leB 4 ((s1 : Int)).toNat = L := ⟨_, rfl⟩
  have hl1 : L1.length ≤ 4 := by rw [← hL1, List.length_append, leB_length]; omega
  have HL1 := Lib.hid hL1
  clear hL1
  obtain ⟨L2, hL2⟩ : ∃ L, L1 ++ leB 1 (k1).toNat = L := ⟨_, rfl⟩
  have hl2 : L2.length ≤ 5 := by rw [← hL2, List.length_append, leB_length]; omega
  have HL2 := Lib.hid hL2
  clear hL2
  obtain ⟨L3, hL3⟩ : ∃ L, L2 ++ leB 1 (k2).toNat = L := ⟨_, rfl⟩
  have hl3 : L3.length ≤ 6 := by rw [← hL3, List.length_append, leB_length]; omega
  have HL3 := Lib.hid hL3
  clear hL3
  obtain ⟨L4, hL4⟩ : ∃ L, L3 ++ leB 1 (k3).toNat = L := ⟨_, rfl⟩
  have hl4 : L4.length ≤ 7 := by rw [← hL4, List.length_append, leB_length]; omega
  have HL4 := Lib.hid hL4
  clear hL4
  obtain ⟨L5, hL5⟩ : ∃ L, L4 ++ leB 1 ((0 : Int)).toNat = L := ⟨_, rfl⟩
  have hl5 : L5.length ≤ 8 := by rw [← hL5, List.length_append, leB_length]; omega
  have HL5 := Lib.hid hL5
  clear hL5
  obtain ⟨L6, hL6⟩ : ∃ L, L5 ++ leB 4 ((body.length : Int)).toNat = L := ⟨_, rfl⟩
  have hl6 : L6.length ≤ 12 := by rw [← hL6, List.length_append, leB_length]; omega
  have HL6 := Lib.hid hL6
  clear hL6
  obtain ⟨L7, hL7⟩ : ∃ L, L6 ++ leB 8 ((par : Int)).toNat = L := ⟨_, rfl⟩
  have hl7 : L7.length ≤ 20 := by rw [← hL7, List.length_append, leB_length]; omega
  have HL7 := Lib.hid hL7
  clear hL7
  obtain ⟨L8, hL8⟩ : ∃ L, L7 ++ leB 8 (n1).toNat = L := ⟨_, rfl⟩
  have hl8 : L8.length ≤ 28 := by rw [← hL8, List.length_append, leB_length]; omega
  have HL8 := Lib.hid hL8
  clear hL8
  obtain ⟨L9, hL9⟩ : ∃ L, L8 ++ leB 8 (n2).toNat = L := ⟨_, rfl⟩
  have hl9 : L9.length ≤ 36 := by rw [← hL9, List.length_append, leB_length]; omega
  have HL9 := Lib.hid hL9
  clear hL9
  obtain ⟨L10, hL10⟩ : ∃ L, L9 ++ leB 8 (n3).toNat = L := ⟨_, rfl⟩
  have hl10 : L10.length ≤ 44 := by rw [← hL10, List.length_append, leB_length]; omega
  have HL10 := Lib.hid hL10
  clear hL10
  obtain ⟨L11, hL11⟩ : ∃ L, L10 ++ leB 8 (n4).toNat = L := ⟨_, rfl⟩
  have hl11 : L11.length ≤ 52 := by rw [← hL11, List.length_append, leB_length]; omega
  have HL11 := Lib.hid hL11
  clear hL11
  obtain ⟨L12, hL12⟩ : ∃ L, L11 ++ leB 8 (n5).toNat = L := ⟨_, rfl⟩
  have hl12 : L12.length ≤ 60 := by rw [← hL12, List.length_append, leB_length]; omega
  have HL12 := Lib.hid hL12
  clear hL12
  obtain ⟨L13, hL13⟩ : ∃ L, L12 ++ leB 8 (n6).toNat = L := ⟨_, rfl⟩
  have hl13 : L13.length ≤ 68 := by rw [← hL13, List.length_append, leB_length]; omega
  have HL13 := Lib.hid hL13
  clear hL13
  obtain ⟨L14, hL14⟩ : ∃ L, L13 ++ leB 8 (n7).toNat = L := ⟨_, rfl⟩
  have hl14 : L14.length ≤ 76 := by rw [← hL14, List.length_append, leB_length]; omega
  have HL14 := Lib.hid hL14
  clear hL14
  obtain ⟨L15, hL15⟩ : ∃ L, L14 ++ leB 8 (n8).toNat = L := ⟨_, rfl⟩
  have hl15 : L15.length ≤ 84 := by rw [← hL15, List.length_append, leB_length]; omega
  have HL15 := Lib.hid hL15
  clear hL15
  have m1 : k1.toNat % 256 = k1.toNat := by omega
  have m2 : k2.toNat % 256 = k2.toNat := by omega
  have m3 : k3.toNat % 256 = k3.toNat := by omega
  have HLN : Hid (L15 ++ List.replicate 40 0 = HB) := Lib.hid (by rw [HHB.out, ← HL15.out, ← HL14.out, ← HL13.out, ← HL12.out, ← HL11.out, ← HL10.out, ← HL9.out, ← HL8.out, ← HL7.out, ← HL6.out, ← HL5.out, ← HL4.out, ← HL3.out, ← HL2.out, ← HL1.out]; simp [leB, m1, m2, m3])
  have hlen : Hid (L15.length = 84) := Lib.hid (by have := congrArg List.length HLN.out; rw [List.length_append, List.length_replicate] at this; omega)
  clear HHB m1 m2 m3
  (go_enter Tryz.func132, Tryz.ntmps132)
  go_wp2_with (first | (go_at_call 139; refine (HS1.out _).mono ?_; rintro e w' ⟨rfl, rfl⟩) | (go_at_call 137; refine (HR.out _).mono ?_; rintro e w' ⟨rfl, h⟩; replace hS := hS.call h; clear h) | ((with_reducible refine g_bs ?_); refine wl_of rfl ?_; refine a_build0 (k := 1) hS rfl rfl (by rfl) ?_; clear hS; intro v1 w' hS) | (first | refine au1 (n := ?_) | (refine au2 (n := ?_); clear hS; intro w' hS) | (refine au3 (n := ?_); clear hS; intro gb w1 hS) | (refine au4 (n := ?_); clear hS; intro v1 w' hS) | ((with_reducible refine wl_guard ?_); refine stop_mem rfl rfl ?_)))
  replace hS : St [] w _ [.vec v1 5 1 ([] : List UInt8).length (([] : List UInt8).flatMap byt), .row gb [.int .i64 k1, .int .i64 k2, .int .i64 k3, .int .i64 n1, .int .i64 n2, .int .i64 n3, .int .i64 n4, .int .i64 n5, .int .i64 n6, .int .i64 n7, .int .i64 n8, .int .u64 par] 79 (0, 0)] := hS.pick
  refine (r5_put (l := []) (hS.out (by (repeat (first | exact Out.here | apply Out.there)))) (s1 : Int) 4 (by omega) (by omega) (by omega) (by omega) (by omega)).mono ?_
  clear hS
  rintro e w' ⟨va1, rfl, hS⟩
  rw [HL1.out] at hS
  go_wp2_with (first | refine au1 (n := ?_) | (refine au2 (n := ?_); clear hS; intro w' hS) | (refine au3 (n := ?_); clear hS; intro gb w1 hS) | (refine au4 (n := ?_); clear hS; intro v1 w' hS) | ((with_reducible refine wl_guard ?_); refine stop_mem rfl rfl ?_))
  refine (r5_put (l := L1) (hS.out (by (repeat (first | exact Out.here | apply Out.there)))) k1 1 (by omega) (by omega) (by omega) (by omega) (by omega)).mono ?_
  clear hS
  rintro e w' ⟨va2, rfl, hS⟩
  rw [HL2.out] at hS
  go_wp2_with (first | refine au1 (n := ?_) | (refine au2 (n := ?_); clear hS; intro w' hS) | (refine au3 (n := ?_); clear hS; intro gb w1 hS) | (refine au4 (n := ?_); clear hS; intro v1 w' hS) | ((with_reducible refine wl_guard ?_); refine stop_mem rfl rfl ?_))
  refine (r5_put (l := L2) (hS.out (by (repeat (first | exact Out.here | apply Out.there)))) k2 1 (by omega) (by omega) (by omega) (by omega) (by omega)).mono ?_
  clear hS
  rintro e w' ⟨va3, rfl, hS⟩
  rw [HL3.out] at hS
  go_wp2_with (first | refine au1 (n := ?_) | (refine au2 (n := ?_); clear hS; intro w' hS) | (refine au3 (n := ?_); clear hS; intro gb w1 hS) | (refine au4 (n := ?_); clear hS; intro v1 w' hS) | ((with_reducible refine wl_guard ?_); refine stop_mem rfl rfl ?_))
  refine (r5_put (l := L3) (hS.out (by (repeat (first | exact Out.here | apply Out.there)))) k3 1 (by omega) (by omega) (by omega) (by omega) (by omega)).mono ?_
  clear hS
  rintro e w' ⟨va4, rfl, hS⟩
  rw [HL4.out] at hS
  go_wp2_with (first | refine au1 (n := ?_) | (refine au2 (n := ?_); clear hS; intro w' hS) | (refine au3 (n := ?_); clear hS; intro gb w1 hS) | (refine au4 (n := ?_); clear hS; intro v1 w' hS) | ((with_reducible refine wl_guard ?_); refine stop_mem rfl rfl ?_))
  refine (r5_put (l := L4) (hS.out (by (repeat (first | exact Out.here | apply Out.there)))) (0 : Int) 1 (by omega) (by omega) (by omega) (by omega) (by omega)).mono ?_
  clear hS
  rintro e w' ⟨va5, rfl, hS⟩
  rw [HL5.out] at hS
  go_wp2_with (first | refine au1 (n := ?_) | (refine au2 (n := ?_); clear hS; intro w' hS) | (refine au3 (n := ?_); clear hS; intro gb w1 hS) | (refine au4 (n := ?_); clear hS; intro v1 w' hS) | ((with_reducible refine wl_guard ?_); refine stop_mem rfl rfl ?_))
  refine (r5_put (l := L5) (hS.out (by (repeat (first | exact Out.here | apply Out.there)))) (body.length : Int) 4 (by omega) (by omega) (by omega) (by omega) (by omega)).mono ?_
  clear hS
  rintro e w' ⟨va6, rfl, hS⟩
  rw [HL6.out] at hS
  go_wp2_with (first | refine au1 (n := ?_) | (refine au2 (n := ?_); clear hS; intro w' hS) | (refine au3 (n := ?_); clear hS; intro gb w1 hS) | (refine au4 (n := ?_); clear hS; intro v1 w' hS) | ((with_reducible refine wl_guard ?_); refine stop_mem rfl rfl ?_))
  refine (r5_put (l := L6) (hS.out (by (repeat (first | exact Out.here | apply Out.there)))) (par : Int) 8 (by omega) (by omega) (by omega) (by omega) (by omega)).mono ?_
  clear hS
  rintro e w' ⟨va7, rfl, hS⟩
  rw [HL7.out] at hS
  go_wp2_with (first | refine au1 (n := ?_) | (refine au2 (n := ?_); clear hS; intro w' hS) | (refine au3 (n := ?_); clear hS; intro gb w1 hS) | (refine au4 (n := ?_); clear hS; intro v1 w' hS) | ((with_reducible refine wl_guard ?_); refine stop_mem rfl rfl ?_))
  refine (r5_put (l := L7) (hS.out (by (repeat (first | exact Out.here | apply Out.there)))) n1 8 (by omega) (by omega) (by omega) (by omega) (by omega)).mono ?_
  clear hS
  rintro e w' ⟨va8, rfl, hS⟩
  rw [HL8.out] at hS
  go_wp2_with (first | refine au1 (n := ?_) | (refine au2 (n := ?_); clear hS; intro w' hS) | (refine au3 (n := ?_); clear hS; intro gb w1 hS) | (refine au4 (n := ?_); clear hS; intro v1 w' hS) | ((with_reducible refine wl_guard ?_); refine stop_mem rfl rfl ?_))
  refine (r5_put (l := L8) (hS.out (by (repeat (first | exact Out.here | apply Out.there)))) n2 8 (by omega) (by omega) (by omega) (by omega) (by omega)).mono ?_
  clear hS
  rintro e w' ⟨va9, rfl, hS⟩
  rw [HL9.out] at hS
  go_wp2_with (first | refine au1 (n := ?_) | (refine au2 (n := ?_); clear hS; intro w' hS) | (refine au3 (n := ?_); clear hS; intro gb w1 hS) | (refine au4 (n := ?_); clear hS; intro v1 w' hS) | ((with_reducible refine wl_guard ?_); refine stop_mem rfl rfl ?_))
  refine (r5_put (l := L9) (hS.out (by (repeat (first | exact Out.here | apply Out.there)))) n3 8 (by omega) (by omega) (by omega) (by omega) (by omega)).mono ?_
  clear hS
  rintro e w' ⟨va10, rfl, hS⟩
  rw [HL10.out] at hS
  go_wp2_with (first | refine au1 (n := ?_) | (refine au2 (n := ?_); clear hS; intro w' hS) | (refine au3 (n := ?_); clear hS; intro gb w1 hS) | (refine au4 (n := ?_); clear hS; intro v1 w' hS) | ((with_reducible refine wl_guard ?_); refine stop_mem rfl rfl ?_))
  refine (r5_put (l := L10) (hS.out (by (repeat (first | exact Out.here | apply Out.there)))) n4 8 (by omega) (by omega) (by omega) (by omega) (by omega)).mono ?_
  clear hS
  rintro e w' ⟨va11, rfl, hS⟩
  rw [HL11.out] at hS
  go_wp2_with (first | refine au1 (n := ?_) | (refine au2 (n := ?_); clear hS; intro w' hS) | (refine au3 (n := ?_); clear hS; intro gb w1 hS) | (refine au4 (n := ?_); clear hS; intro v1 w' hS) | ((with_reducible refine wl_guard ?_); refine stop_mem rfl rfl ?_))
  refine (r5_put (l := L11) (hS.out (by (repeat (first | exact Out.here | apply Out.there)))) n5 8 (by omega) (by omega) (by omega) (by omega) (by omega)).mono ?_
  clear hS
  rintro e w' ⟨va12, rfl, hS⟩
  rw [HL12.out] at hS
  go_wp2_with (first | refine au1 (n := ?_) | (refine au2 (n := ?_); clear hS; intro w' hS) | (refine au3 (n := ?_); clear hS; intro gb w1 hS) | (refine au4 (n := ?_); clear hS; intro v1 w' hS) | ((with_reducible refine wl_guard ?_); refine stop_mem rfl rfl ?_))
  refine (r5_put (l := L12) (hS.out (by (repeat (first | exact Out.here | apply Out.there)))) n6 8 (by omega) (by omega) (by omega) (by omega) (by omega)).mono ?_
  clear hS
  rintro e w' ⟨va13, rfl, hS⟩
  rw [HL13.out] at hS
  go_wp2_with (first | refine au1 (n := ?_) | (refine au2 (n := ?_); clear hS; intro w' hS) | (refine au3 (n := ?_); clear hS; intro gb w1 hS) | (refine au4 (n := ?_); clear hS; intro v1 w' hS) | ((with_reducible refine wl_guard ?_); refine stop_mem rfl rfl ?_))
  refine (r5_put (l := L13) (hS.out (by (repeat (first | exact Out.here | apply Out.there)))) n7 8 (by omega) (by omega) (by omega) (by omega) (by omega)).mono ?_
  clear hS
  rintro e w' ⟨va14, rfl, hS⟩
  rw [HL14.out] at hS
  go_wp2_with (first | refine au1 (n := ?_) | (refine au2 (n := ?_); clear hS; intro w' hS) | (refine au3 (n := ?_); clear hS; intro gb w1 hS) | (refine au4 (n := ?_); clear hS; intro v1 w' hS) | ((with_reducible refine wl_guard ?_); refine stop_mem rfl rfl ?_))
  refine (r5_put (l := L14) (hS.out (by (repeat (first | exact Out.here | apply Out.there)))) n8 8 (by omega) (by omega) (by omega) (by omega) (by omega)).mono ?_
  clear hS
  rintro e w' ⟨va15, rfl, hS⟩
  rw [HL15.out] at hS
  go_wp2_with (fail)
  replace hS := hS.pick (N := [.vec va15 5 1 L15.length (L15.flatMap byt)])
  obtain ⟨z, hz⟩ : ∃ z, z = 40 := ⟨_, rfl⟩
  have HZ : Hid (L15 ++ List.replicate z 0 = HB) := Lib.hid (by rw [hz]; exact HLN.out)
  have HK : Hid (z = 40) := Lib.hid hz
  clear hz HLN
  go_loopw [6] (fun b wr => ∃ j : Nat, j ≤ z ∧ St [] w wr [.vec b 5 1 (L15 ++ List.replicate j 0).length ((L15 ++ List.replicate j (0 : UInt8)).flatMap byt)]) (fun b _ => 124 - lenV b)
  case atStart => exact ⟨0, by omega, by simpa using hS⟩
  case round =>
    clear hS
    obtain ⟨j, hj, hS⟩ := hrel
    have hln : (L15 ++ List.replicate j (0 : UInt8)).length = 84 + j := by rw [List.length_append, List.length_replicate, hlen.out]
    have hlv := hS.lenV
    have hsn : L15 ++ List.replicate (j + 1) (0 : UInt8) = (L15 ++ List.replicate j 0) ++ [0] := by rw [List.replicate_succ', List.append_assoc]
    obtain ⟨LX, hLX⟩ : ∃ L, L15 ++ List.replicate j (0 : UInt8) = L := ⟨_, rfl⟩
    rw [hLX] at hS hln hlv hsn
    by_cases hlt : j < z
    · have hlt1 : (LX.length : Int) < 124 := by have := HK.out; omega
      have hl4 : LX.length < 124 := by omega
      have HSN := Lib.hid hsn
      have HLV := Lib.hid hlv
      clear hsn hlv hLX hln
      go_wp2_with (first | ((with_reducible refine g_append ?_); refine wl_of rfl ?_; refine k_app (z := (0 : UInt8)) hS rfl rfl rfl rfl (h1 := by simp [byt, Value.oneCell']) (h := ?_); clear hS; intro v2 w' hS hv2) | (first | refine au1 (n := ?_) | (refine au2 (n := ?_); clear hS; intro w' hS) | (refine au3 (n := ?_); clear hS; intro gb w1 hS) | (refine au4 (n := ?_); clear hS; intro v1 w' hS) | ((with_reducible refine wl_guard ?_); refine stop_mem rfl rfl ?_)))
      have hlv2 := hS.lenV
      refine ⟨⟨j + 1, by omega, by rw [HSN.out]; exact hS.one⟩, ?_⟩
      show 124 - lenV v2 < 124 - lenV u6
      rw [hlv2, HLV.out, List.length_append]
      simp only [List.length_singleton]
      omega
    · obtain rfl : j = z := by omega
      rw [HZ.out] at hLX
      subst hLX
      have hl1 : ¬ (HB.length : Int) < 124 := by omega
      have hl2 : HB.length ≤ 124 := by omega
      clear hsn hlv hln hHL
      go_wp2_with (first | (go_at_call 139; refine (HS2.out _).mono ?_; rintro e w' ⟨rfl, rfl⟩) | ((with_reducible refine g_bs ?_); refine wl_of rfl ?_; refine a_build0 (k := 1) hS rfl rfl (by rfl) ?_; clear hS; intro v1 w' hS) | (first | refine au1 (n := ?_) | (refine au2 (n := ?_); clear hS; intro w' hS) | (refine au3 (n := ?_); clear hS; intro gb w1 hS) | (refine au4 (n := ?_); clear hS; intro v1 w' hS) | ((with_reducible refine wl_guard ?_); refine stop_mem rfl rfl ?_)))
      replace hS : St [] w _ [.vec v1 5 1 ([] : List UInt8).length (([] : List UInt8).flatMap byt), .vec u6 5 1 HB.length (HB.flatMap byt)] := hS
      refine (r5_put (l := []) hS (s2 : Int) 4 (by omega) (by omega) (by omega) (by omega) (by omega)).mono ?_
      clear hS
      rintro e w' ⟨vd1, rfl, hS⟩
      obtain ⟨L5, hL5⟩ : ∃ L, [] ++ leB 4 (s2 : Int).toNat = L := ⟨_, rfl⟩
      have hl5 : L5.length ≤ 4 := by rw [← hL5, List.nil_append, leB_length]; omega
      rw [hL5] at hS
      have HL5 : Hid (leB 4 s2 = L5) := Lib.hid (by rw [← hL5, Int.toNat_natCast, List.nil_append])
      clear hL5
      go_wp2_with (first | refine au1 (n := ?_) | (refine au2 (n := ?_); clear hS; intro w' hS) | (refine au3 (n := ?_); clear hS; intro gb w1 hS) | (refine au4 (n := ?_); clear hS; intro v1 w' hS) | ((with_reducible refine wl_guard ?_); refine stop_mem rfl rfl ?_))
      go_ret2
      exact ⟨by rw [HL5.out, List.append_assoc]; rfl, hS.nil⟩
end
end Go.Proofs.YtjjiibcnknljfaaGreat
