/-
  A header's bytes: the program's.
-/
import Derived.Test.YtnjboimjlbgdiaaHeadA
import Derived.Test.YtnjboimjlbgdiaaCodec
set_option linter.unusedSimpArgs false
set_option linter.unusedVariables false
set_option linter.unusedSectionVars false
set_option maxRecDepth 100000
namespace Go.Proofs.Ytnjboimjlbgdiaa
open Go.RowKit Go.Cmp
set_option maxRecDepth 100000

section
variable {S : List Nat} {w0 w : World} {M : List Ent}
/-- 'num.Put' behind nothing. -/
theorem put_nil (hS : St S w0 w M) (x : Int) (k : Nat) (hk1 : 1 ≤ k) (hk : k ≤ 8) (h0 : 0 ≤ x) (hx : x < 256 ^ k) :
    Calls Try.prog 71 #[.slice none 0 0, .int .u64 x, .int .i64 k] w fun e w' => ∃ v', e = .returned (.tuple #[v', .int .i64 0]) ∧ St S w0 w' (.vec v' 5 1 (leB k x.toNat).length ((leB k x.toNat).flatMap byt) :: M) := by
  have h := num_put (l := []) hS x k hk1 hk h0 hx (by simp) (Rd.nil _ _)
  simpa using h
/-- 'num.Put' behind bytes of one's own. -/
theorem put_on {v : Value} {l : List UInt8} (hS : St S w0 w (.vec v 5 1 l.length (l.flatMap byt) :: M)) (x : Int) (k : Nat) (hk1 : 1 ≤ k) (hk : k ≤ 8) (h0 : 0 ≤ x) (hx : x < 256 ^ k) (hl : l.length ≤ 100000000) :
    Calls Try.prog 71 #[v, .int .u64 x, .int .i64 k] w fun e w' => ∃ v', e = .returned (.tuple #[v', .int .i64 0]) ∧ St S w0 w' (.vec v' 5 1 (l ++ leB k x.toNat).length ((l ++ leB k x.toNat).flatMap byt) :: M) := by
  have h := num_put (v := v) (l := l) hS x k hk1 hk h0 hx (by omega) (hS.rdx (by (repeat (first | exact Ix.here | apply Ix.there))))
  refine h.mono ?_
  rintro e w' ⟨v', rfl, hS⟩
  exact ⟨v', rfl, hS.pick⟩
theorem numsB_len (L : List Int) : (L.flatMap (fun n => leB 8 n.toNat)).length = 8 * L.length := by
  induction L with
  | nil => rfl
  | cons x L ih => simp only [List.flatMap_cons, List.length_append, leB_length, ih, List.length_cons]; omega
theorem right_split {h : Hd} (hr : h.right = true) : (∀ i, i < 3 → small (nth h.smalls i)) ∧ ∀ i, i < 8 → fits (nth h.nums i) := by
  unfold Hd.right at hr
  simp only [Bool.and_eq_true, List.all_eq_true, decide_eq_true_eq] at hr
  exact ⟨fun i hi => hr.1 _ (nth_mem (by simpa [Hd.smalls] using hi)), fun i hi => hr.2 _ (nth_mem (by simpa [Hd.nums] using hi))⟩
set_option maxHeartbeats 8000000 in
theorem headPack_any (h : Hd) (hp : h.parent < 18446744073709551616) (body : List UInt8) (hb : body.length ≤ 1000000) (w : World) :
    Calls Try.prog 72 #[.agg h.cells.toArray, .string ⟨body.toArray⟩] w fun e w' => e = .returned (.tuple #[.string ⟨(packH h body).1.toArray⟩, .int .i64 (packH h body).2]) ∧ St [] w w' [] := by
  have hS := St.init w
  have HR := Lib.hid (fun w => headRight_any h w)
  by_cases hr : h.right = false
  · have e : packH h body = ([], 4) := by unfold packH; rw [if_pos hr]
    rw [e]
    rw [hr] at HR
    clear hr e hp
    obtain ⟨k1, k2, k3, n1, n2, n3, n4, n5, n6, n7, n8, par⟩ := h
    simp only [Hd.cells] at HR ⊢
    (go_enter Try.func72, Try.ntmps72)
    go_wp2_with (first | (go_at_call 42; refine (HR.out _).mono ?_; rintro e w' ⟨rfl, h⟩; replace hS := hS.call h; clear h) | (first | refine au1 (n := ?_) | (refine au2 (n := ?_); clear hS; intro w' hS) | (refine au3 (n := ?_); clear hS; intro gb w1 hS) | (refine au4 (n := ?_); clear hS; intro v1 w' hS) | ((with_reducible refine wl_guard ?_); refine stop_mem rfl rfl ?_)))
    go_ret2
    exact ⟨rfl, hS.nil⟩
  have hr : h.right = true := by simpa using hr
  rw [hr] at HR
  by_cases hlong : 3968 < body.length
  · have e : packH h body = ([], 5) := by unfold packH; rw [if_neg (by simp [hr]), if_pos hlong]
    rw [e]
    clear hr e hp
    have hlong1 : (3968 : Int) < body.length := by omega
    obtain ⟨k1, k2, k3, n1, n2, n3, n4, n5, n6, n7, n8, par⟩ := h
    simp only [Hd.cells] at HR ⊢
    (go_enter Try.func72, Try.ntmps72)
    go_wp2_with (first | (go_at_call 42; refine (HR.out _).mono ?_; rintro e w' ⟨rfl, h⟩; replace hS := hS.call h; clear h) | (first | refine au1 (n := ?_) | (refine au2 (n := ?_); clear hS; intro w' hS) | (refine au3 (n := ?_); clear hS; intro gb w1 hS) | (refine au4 (n := ?_); clear hS; intro v1 w' hS) | ((with_reducible refine wl_guard ?_); refine stop_mem rfl rfl ?_)))
    go_ret2
    exact ⟨rfl, hS.nil⟩
  have e : packH h body = (leB 4 (sumOf (headB h body)) ++ headB h body ++ body, 0) := by unfold packH; rw [if_neg (by simp [hr]), if_neg hlong]
  rw [e]
  clear e
  have hlong1 : ¬ (3968 : Int) < body.length := by omega
  obtain ⟨hsm, hnu⟩ := right_split hr
  clear hr
  obtain ⟨a1, a2⟩ := hsm 0 (by omega)
  obtain ⟨b1, b2⟩ := hsm 1 (by omega)
  obtain ⟨c1, c2⟩ := hsm 2 (by omega)
  have HFIT := Lib.hid hnu
  clear hsm hnu
  have HNU := Lib.hid (fun gb k => nu_at h gb k)
  obtain ⟨nums, hnums⟩ : ∃ N, h.nums = N := ⟨_, rfl⟩
  have hnl : nums.length = 8 := by rw [← hnums]; rfl
  have hHB : headB h body = leB 4 (sumOf body) ++ [UInt8.ofNat h.kind.toNat, UInt8.ofNat h.frm.toNat, UInt8.ofNat h.oper.toNat, 0] ++ leB 4 body.length ++ leB 8 h.parent ++ nums.flatMap (fun n => leB 8 n.toNat) ++ List.replicate 40 0 := by rw [← hnums]; rfl
  have hHL := headB_len h body
  rw [hnums] at HNU HFIT
  obtain ⟨HB, hHBn⟩ : ∃ B, headB h body = B := ⟨_, rfl⟩
  rw [hHBn] at hHB hHL ⊢
  clear hHBn hnums
  have hsl := sumOf_lt body
  have hsl2 := sumOf_lt HB
  have HS1 := Lib.hid (fun w => crcSum_any body (by omega) w)
  have HS2 := Lib.hid (fun w => crcSum_any HB (by omega) w)
  obtain ⟨s1, hs1⟩ : ∃ s, sumOf body = s := ⟨_, rfl⟩
  obtain ⟨s2, hs2⟩ : ∃ s, sumOf HB = s := ⟨_, rfl⟩
  rw [hs1] at hHB HS1 hsl
  rw [hs2] at HS2 hsl2 ⊢
  clear hs1 hs2
  obtain ⟨k1, k2, k3, n1, n2, n3, n4, n5, n6, n7, n8, par⟩ := h
  simp only [Hd.cells] at HR HNU ⊢
  have a1 : 0 ≤ k1 := a1
  have a2 : k1 ≤ 255 := a2
  have b1 : 0 ≤ k2 := b1
  have b2 : k2 ≤ 255 := b2
  have c1 : 0 ≤ k3 := c1
  have c2 : k3 ≤ 255 := c2
  have hp : par < 18446744073709551616 := hp
  simp only at hHB
  have HB4 : Hid ([Value.int .u8 k1, .int .u8 k2, .int .u8 k3, .int .u8 0] = ([UInt8.ofNat k1.toNat, UInt8.ofNat k2.toNat, UInt8.ofNat k3.toNat, 0] : List UInt8).flatMap byt) := Lib.hid (by simp [byt]; omega)
  have HHB := Lib.hid hHB
  clear hHB
  have hl1 : (leB 4 (s1 : Int).toNat ++ [UInt8.ofNat k1.toNat, UInt8.ofNat k2.toNat, UInt8.ofNat k3.toNat, 0]).length = 8 := by rw [List.length_append, leB_length]; rfl
  have hl0 : (leB 4 (s1 : Int).toNat).length = 4 := leB_length _ _
  obtain ⟨L0, hL0⟩ : ∃ L, leB 4 (s1 : Int).toNat = L := ⟨_, rfl⟩
  rw [hL0] at hl0 hl1
  have HL0 := Lib.hid hL0
  clear hL0
  obtain ⟨L1, hL1⟩ : ∃ L, L0 ++ [UInt8.ofNat k1.toNat, UInt8.ofNat k2.toNat, UInt8.ofNat k3.toNat, 0] = L := ⟨_, rfl⟩
  rw [hL1] at hl1
  have HL1 : Hid (L0.flatMap byt ++ [Value.int .u8 k1, .int .u8 k2, .int .u8 k3, .int .u8 0] = L1.flatMap byt ∧ L0.length + 4 = L1.length) := Lib.hid ⟨by rw [HB4.out, ← List.flatMap_append, hL1], by rw [← hL1]; simp⟩
  have hl0' : L0.length ≤ 4 := by omega
  have hl1' : L1.length ≤ 8 := by omega
  clear hl0 hl1
  have HQ1 := Lib.hid hL1
  clear hL1
  obtain ⟨L2, hL2⟩ : ∃ L, L1 ++ leB 4 (body.length : Int).toNat = L := ⟨_, rfl⟩
  have hl2' : L2.length ≤ 12 := by rw [← hL2, List.length_append, leB_length]; omega
  obtain ⟨L3, hL3⟩ : ∃ L, L2 ++ leB 8 (par : Int).toNat = L := ⟨_, rfl⟩
  have hl3' : L3.length ≤ 20 := by rw [← hL3, List.length_append, leB_length]; omega
  have HL2 := Lib.hid hL2
  have HL3 := Lib.hid hL3
  clear hL2 hL3
  (go_enter Try.func72, Try.ntmps72)
  go_wp2_with (first | (go_at_call 42; refine (HR.out _).mono ?_; rintro e w' ⟨rfl, h⟩; replace hS := hS.call h; clear h) | (go_at_call 68; refine (HS1.out _).mono ?_; rintro e w' ⟨rfl, h⟩; replace hS := hS.call h; clear h) | (first | refine au1 (n := ?_) | (refine au2 (n := ?_); clear hS; intro w' hS) | (refine au3 (n := ?_); clear hS; intro gb w1 hS) | (refine au4 (n := ?_); clear hS; intro v1 w' hS) | ((with_reducible refine wl_guard ?_); refine stop_mem rfl rfl ?_)))
  refine (put_nil hS (s1 : Int) 4 (by omega) (by omega) (by omega) (by omega)).mono ?_
  clear hS
  rintro e w' ⟨va1, rfl, hS⟩
  rw [HL0.out] at hS
  go_wp2_with (first | ((with_reducible refine g_bs ?_); refine wl_of rfl ?_; refine wp_buildSlice1 (vs := [.int .u8 k1, .int .u8 k2, .int .u8 k3, .int .u8 0]) hS rfl rfl rfl rfl rfl rfl (by decide) ⟨rfl, by simp [Value.cells]⟩ ?_; clear hS; intro vb4 w4 hS) | ((with_reducible refine g_append ?_); refine wl_of rfl ?_; refine a_append (k := 1) (n := L0.length) (m := 4) hS rfl rfl rfl rfl (by (repeat (first | exact Out.here | apply Out.there))) (by (first | exact St.rdx hS (by (repeat (first | exact Ix.here | apply Ix.there))) | exact Reads.at (by assumption) hS (by (repeat (first | exact List.Sublist.refl _ | apply List.Sublist.cons))) | exact St.old0 hS (by assumption))) rfl rfl (by omega) (by simp [Value.oneCell']) ?_; clear hS; intro va2 w5 hS _; rw [HL1.out.1, HL1.out.2] at hS) | (first | refine au1 (n := ?_) | (refine au2 (n := ?_); clear hS; intro w' hS) | (refine au3 (n := ?_); clear hS; intro gb w1 hS) | (refine au4 (n := ?_); clear hS; intro v1 w' hS) | ((with_reducible refine wl_guard ?_); refine stop_mem rfl rfl ?_)))
  refine (put_on (l := L1) (hS.out (by (repeat (first | exact Out.here | apply Out.there)))) (body.length : Int) 4 (by omega) (by omega) (by omega) (by omega) (by omega)).mono ?_
  clear hS
  rintro e w' ⟨va3, rfl, hS⟩
  rw [HL2.out] at hS
  go_wp2_with (first | refine au1 (n := ?_) | (refine au2 (n := ?_); clear hS; intro w' hS) | (refine au3 (n := ?_); clear hS; intro gb w1 hS) | (refine au4 (n := ?_); clear hS; intro v1 w' hS) | ((with_reducible refine wl_guard ?_); refine stop_mem rfl rfl ?_))
  refine (put_on (l := L2) (hS.out (by (repeat (first | exact Out.here | apply Out.there)))) (par : Int) 8 (by omega) (by omega) (by omega) (by omega) (by omega)).mono ?_
  clear hS
  rintro e w' ⟨va4, rfl, hS⟩
  rw [HL3.out] at hS
  go_wp2_with (first | (go_at_call 62; refine (headNumbers_any (g := gb) hS).mono ?_; clear hS; rintro e w' ⟨rfl, hS⟩) | (first | refine au1 (n := ?_) | (refine au2 (n := ?_); clear hS; intro w' hS) | (refine au3 (n := ?_); clear hS; intro gb w1 hS) | (refine au4 (n := ?_); clear hS; intro v1 w' hS) | ((with_reducible refine wl_guard ?_); refine stop_mem rfl rfl ?_)))
  replace hS := hS.pick (N := [.vec va4 5 1 L3.length (L3.flatMap byt), .row gb [.int .i64 k1, .int .i64 k2, .int .i64 k3, .int .i64 n1, .int .i64 n2, .int .i64 n3, .int .i64 n4, .int .i64 n5, .int .i64 n6, .int .i64 n7, .int .i64 n8, .int .u64 par] 83 (0, 0)])
  go_loopw [6, 55] (fun b k wz => ∃ i : Nat, i ≤ 8 ∧ k = .int .i64 i ∧ St [] w wz [.vec b 5 1 (L3 ++ (nums.take i).flatMap (fun n => leB 8 n.toNat)).length ((L3 ++ (nums.take i).flatMap (fun n => leB 8 n.toNat)).flatMap byt), .row gb [.int .i64 k1, .int .i64 k2, .int .i64 k3, .int .i64 n1, .int .i64 n2, .int .i64 n3, .int .i64 n4, .int .i64 n5, .int .i64 n6, .int .i64 n7, .int .i64 n8, .int .u64 par] 83 (0, 0)]) (fun _ k _ => 8 - (intOf k).toNat)
  case atStart => exact ⟨0, by omega, rfl, by simpa using hS⟩
  case round =>
    clear hS
    obtain ⟨i, hi, rfl, hS⟩ := hrel
    by_cases hi8 : i < 8
    · have hi81 : (i : Int) < 8 := by omega
      obtain ⟨e1, e2⟩ := HNU.out gb i hi8
      have hx := HFIT.out i hi8
      have hn := take_nth (show i < nums.length by omega)
      have HE1 := Lib.hid e1
      have HE2 := Lib.hid e2
      obtain ⟨x, hxx⟩ : ∃ x, nth nums i = x := ⟨_, rfl⟩
      rw [hxx] at HE1 hx hn
      have hal : (L3 ++ (nums.take i).flatMap (fun n => leB 8 n.toNat)).length ≤ 10000 := by
        rw [List.length_append]
        rw [numsB_len, List.length_take]
        omega
      obtain ⟨A, hA⟩ : ∃ A, L3 ++ (nums.take i).flatMap (fun n => leB 8 n.toNat) = A := ⟨_, rfl⟩
      have HN : Hid (L3 ++ (nums.take (i + 1)).flatMap (fun n => leB 8 n.toNat) = A ++ leB 8 x.toNat) := Lib.hid (by rw [hn, List.flatMap_append, ← hA]; simp)
      rw [hA] at hS hal
      obtain ⟨x0, x1⟩ := hx
      clear e1 e2 hn hxx hA
      go_wp2_with (first | ((with_reducible refine g_indexV ?_); refine wl_run rfl (a_idxA rfl rfl rfl rfl rfl rfl (by omega) (by omega) (by simpa using HE2.out)) ?_) | ((with_reducible refine g_load ?_); refine wl_run rfl (a_load1 hS rfl rfl rfl rfl (Ix.there Ix.here) HE1.out) ?_) | (first | refine au1 (n := ?_) | (refine au2 (n := ?_); clear hS; intro w' hS) | (refine au3 (n := ?_); clear hS; intro gb w1 hS) | (refine au4 (n := ?_); clear hS; intro v1 w' hS) | ((with_reducible refine wl_guard ?_); refine stop_mem rfl rfl ?_)))
      refine (put_on (l := A) (hS.out (by (repeat (first | exact Out.here | apply Out.there)))) x 8 (by omega) (by omega) (by omega) (by omega) (by omega)).mono ?_
      clear hS
      rintro e w' ⟨va5, rfl, hS⟩
      go_wp2_with (fail)
      refine ⟨⟨i + 1, by omega, by simp, by rw [HN.out]; exact hS.pick⟩, by simp [intOf]; omega⟩
    · obtain rfl : i = 8 := by omega
      rw [List.take_of_length_le (by omega)] at hS
      have hl4 : (L3 ++ nums.flatMap (fun n => leB 8 n.toNat)).length = 84 := by
        have := congrArg List.length HHB.out
        rw [List.length_append, List.length_replicate] at this
        rw [← HQ1.out, ← HL0.out] at HL1
        rw [← HL3.out, ← HL2.out, ← HQ1.out, ← HL0.out]
        simp only [Int.toNat_natCast]
        omega
      obtain ⟨z, hz⟩ : ∃ z, z = 40 := ⟨_, rfl⟩
      have HZ : Hid (L3 ++ nums.flatMap (fun n => leB 8 n.toNat) ++ List.replicate z 0 = HB) := Lib.hid (by rw [hz, HHB.out, ← HL3.out, ← HL2.out, ← HQ1.out, ← HL0.out]; simp only [Int.toNat_natCast])
      obtain ⟨L4, hL4⟩ : ∃ L, L3 ++ nums.flatMap (fun n => leB 8 n.toNat) = L := ⟨_, rfl⟩
      rw [hL4] at hS hl4 HZ
      have hk : (124 : Int) - L4.length = (z : Int) := by omega
      have hz2 : z ≤ 40 := by omega
      have hl4' : L4.length ≤ 84 := by omega
      have hHL' : HB.length ≤ 124 := by omega
      clear hl4 hz hL4 hHL HHB HNU HFIT
      go_wp2_with (first | ((with_reducible refine g_append ?_); refine wl_of rfl ?_; refine k_appZ (L := L4) (k := z) hS rfl rfl rfl rfl rfl (h := ?_); clear hS; intro vc w' hS; rw [HZ.out] at hS) | (go_at_call 68; refine (HS2.out _).mono ?_; rintro e w' ⟨rfl, h⟩; replace hS := hS.call h; clear h) | (first | refine au1 (n := ?_) | (refine au2 (n := ?_); clear hS; intro w' hS) | (refine au3 (n := ?_); clear hS; intro gb w1 hS) | (refine au4 (n := ?_); clear hS; intro v1 w' hS) | ((with_reducible refine wl_guard ?_); refine stop_mem rfl rfl ?_)))
      refine (put_nil hS (s2 : Int) 4 (by omega) (by omega) (by omega) (by omega)).mono ?_
      clear hS
      rintro e w' ⟨vd1, rfl, hS⟩
      obtain ⟨L5, hL5⟩ : ∃ L, leB 4 (s2 : Int).toNat = L := ⟨_, rfl⟩
      have hl5 : L5.length ≤ 4 := by rw [← hL5, leB_length]; omega
      rw [hL5] at hS
      have HL5 : Hid (leB 4 s2 = L5) := Lib.hid (by rw [← hL5, Int.toNat_natCast])
      clear hL5
      go_wp2_with (first | refine au1 (n := ?_) | (refine au2 (n := ?_); clear hS; intro w' hS) | (refine au3 (n := ?_); clear hS; intro gb w1 hS) | (refine au4 (n := ?_); clear hS; intro v1 w' hS) | ((with_reducible refine wl_guard ?_); refine stop_mem rfl rfl ?_))
      go_ret2
      exact ⟨by rw [HL5.out, List.append_assoc]; rfl, hS.nil⟩
end
end Go.Proofs.Ytnjboimjlbgdiaa
