/-
  The program's ledger: the lists; the bytes.
  The statements on the ledger: the example; a ledger behind operations.
  The ledger in plain lists: nothing is made of nothing.
-/
import Derived.Test.YtjjiibcnknljfaaGreatLedB
import Derived.Test.YtjjiibcnknljfaaGreatGen
set_option linter.unusedSimpArgs false
set_option linter.unusedVariables false
set_option linter.unusedSectionVars false
set_option maxRecDepth 100000
namespace Go.Proofs.YtjjiibcnknljfaaGreat
open Go.RowKit Go.Cmp
set_option maxRecDepth 100000

section
variable {S : List Nat} {w0 w : World} {M : List Ent} {g : Nat} {D : Led}

theorem clone_acc (v : Value) (L : List Acc) (hS : St S w0 w M) (hV : Reads S w0 M 4 v L.length (L.flatMap Acc.cells)) (hl : L.length ≤ 1000) (hn : v = .slice none 0 0 ∨ ∃ g n cap, v = .slice (some ⟨g, 0, none⟩) n cap) :
    Calls Tryz.prog 69 #[v] w fun e w' => ∃ u, e = .returned u ∧ St S w0 w' (.vec u 86 4 L.length (L.flatMap Acc.cells) :: M) := by
  rcases hn with rfl | ⟨g, n, cap, rfl⟩
  · have h0 : L = [] := by
      obtain ⟨h1, p, c, h2, h3, _⟩ := hV w hS
      simp only [Value.slice.injEq] at h2
      exact List.eq_nil_of_length_eq_zero (by omega)
    subst h0
    (go_enter Tryz.func69, Tryz.ntmps69)
    go_wp2_with (first | ((with_reducible refine g_eql ?_); refine wl_run rfl (x_eqnil rfl rfl rfl rfl) ?_) | (first | refine au1 (n := ?_) | (refine au2 (n := ?_); clear hS; intro w' hS) | (refine au3 (n := ?_); clear hS; intro gb w1 hS) | (refine au4 (n := ?_); clear hS; intro v1 w' hS) | ((with_reducible refine wl_guard ?_); refine stop_mem rfl rfl ?_)))
    go_ret
    exact ⟨_, rfl, hS.addNil _ _⟩
  · have H1 : Hid (∀ u ∈ L.flatMap Acc.cells, u.oneCell' = true) := Lib.hid (by
      intro u hu
      obtain ⟨x, _, hx⟩ := List.mem_flatMap.1 hu
      exact Acc.ones x u hx)
    (go_enter Tryz.func69, Tryz.ntmps69)
    go_wp2_with (first | ((with_reducible refine g_eql ?_); refine wl_run rfl (x_eqnil rfl rfl rfl rfl) ?_) | ((with_reducible refine g_bs ?_); refine wl_of rfl ?_; refine a_build0 (k := 4) hS rfl rfl (by rfl) ?_; clear hS; intro v1 w' hS) | ((with_reducible refine g_append ?_); refine wl_of rfl ?_; refine a_append hS rfl rfl rfl rfl (by (repeat (first | exact Out.here | apply Out.there))) (by (first | exact St.rdx hS (by (repeat (first | exact Ix.here | apply Ix.there))) | exact Reads.at (by assumption) hS (by (repeat (first | exact List.Sublist.refl _ | apply List.Sublist.cons))) | exact St.old0 hS (by assumption))) (by rfl) (by rfl) (by omega) H1.out ?_; clear hS; intro v9 w9 hS hv9) | (first | refine au1 (n := ?_) | (refine au2 (n := ?_); clear hS; intro w' hS) | (refine au3 (n := ?_); clear hS; intro gb w1 hS) | (refine au4 (n := ?_); clear hS; intro v1 w' hS) | ((with_reducible refine wl_guard ?_); refine stop_mem rfl rfl ?_)))
    go_ret
    refine ⟨_, rfl, ?_⟩
    rw [Nat.zero_add, List.nil_append] at hS
    exact hS

theorem clone_tra (v : Value) (L : List Tra) (hS : St S w0 w M) (hV : Reads S w0 M 4 v L.length (L.flatMap Tra.cells)) (hl : L.length ≤ 1000) (hn : v = .slice none 0 0 ∨ ∃ g n cap, v = .slice (some ⟨g, 0, none⟩) n cap) :
    Calls Tryz.prog 70 #[v] w fun e w' => ∃ u, e = .returned u ∧ St S w0 w' (.vec u 91 4 L.length (L.flatMap Tra.cells) :: M) := by
  rcases hn with rfl | ⟨g, n, cap, rfl⟩
  · have h0 : L = [] := by
      obtain ⟨h1, p, c, h2, h3, _⟩ := hV w hS
      simp only [Value.slice.injEq] at h2
      exact List.eq_nil_of_length_eq_zero (by omega)
    subst h0
    (go_enter Tryz.func70, Tryz.ntmps70)
    go_wp2_with (first | ((with_reducible refine g_eql ?_); refine wl_run rfl (x_eqnil rfl rfl rfl rfl) ?_) | (first | refine au1 (n := ?_) | (refine au2 (n := ?_); clear hS; intro w' hS) | (refine au3 (n := ?_); clear hS; intro gb w1 hS) | (refine au4 (n := ?_); clear hS; intro v1 w' hS) | ((with_reducible refine wl_guard ?_); refine stop_mem rfl rfl ?_)))
    go_ret
    exact ⟨_, rfl, hS.addNil _ _⟩
  · have H1 : Hid (∀ u ∈ L.flatMap Tra.cells, u.oneCell' = true) := Lib.hid (by
      intro u hu
      obtain ⟨x, _, hx⟩ := List.mem_flatMap.1 hu
      exact Tra.ones x u hx)
    (go_enter Tryz.func70, Tryz.ntmps70)
    go_wp2_with (first | ((with_reducible refine g_eql ?_); refine wl_run rfl (x_eqnil rfl rfl rfl rfl) ?_) | ((with_reducible refine g_bs ?_); refine wl_of rfl ?_; refine a_build0 (k := 4) hS rfl rfl (by rfl) ?_; clear hS; intro v1 w' hS) | ((with_reducible refine g_append ?_); refine wl_of rfl ?_; refine a_append hS rfl rfl rfl rfl (by (repeat (first | exact Out.here | apply Out.there))) (by (first | exact St.rdx hS (by (repeat (first | exact Ix.here | apply Ix.there))) | exact Reads.at (by assumption) hS (by (repeat (first | exact List.Sublist.refl _ | apply List.Sublist.cons))) | exact St.old0 hS (by assumption))) (by rfl) (by rfl) (by omega) H1.out ?_; clear hS; intro v9 w9 hS hv9) | (first | refine au1 (n := ?_) | (refine au2 (n := ?_); clear hS; intro w' hS) | (refine au3 (n := ?_); clear hS; intro gb w1 hS) | (refine au4 (n := ?_); clear hS; intro v1 w' hS) | ((with_reducible refine wl_guard ?_); refine stop_mem rfl rfl ?_)))
    go_ret
    refine ⟨_, rfl, ?_⟩
    rw [Nat.zero_add, List.nil_append] at hS
    exact hS

theorem ledg_accounts (hS : St S w0 w (ledg g D :: M)) (hl : D.A.length ≤ 1000) : Calls Tryz.prog 36 #[.pointer (some ⟨g, 0, none⟩)] w fun e w' => ∃ u, e = .returned u ∧ St S w0 w' (.vec u 86 4 D.A.length (D.A.flatMap Acc.cells) :: ledg g D :: M) := by
  (have hU := St.unpack hS; clear hS; obtain ⟨⟨xa, xt⟩, _, hS⟩ := hU; simp only [List.cons_append, List.nil_append] at hS)
  have hn : xa = .slice none 0 0 ∨ ∃ g n cap, xa = .slice (some ⟨g, 0, none⟩) n cap := by
    rcases (hS.vec (i := 1) rfl).2 with ⟨h, _⟩ | ⟨g, cap, _, _, h, _⟩
    · exact .inl h
    · exact .inr ⟨g, _, cap, h⟩
  have HN := Lib.hid hn
  clear hn
  (go_enter Tryz.func36, Tryz.ntmps36)
  go_wp2_with (first | (go_at_call 69; refine (clone_acc xa D.A hS (fun W hW => hW.rdx (by (repeat (first | exact Ix.here | apply Ix.there)))) hl HN.out).mono ?_; clear hS; rintro e w' ⟨u, rfl, hS⟩) | (first | refine au1 (n := ?_) | (refine au2 (n := ?_); clear hS; intro w' hS) | (refine au3 (n := ?_); clear hS; intro gb w1 hS) | (refine au4 (n := ?_); clear hS; intro v1 w' hS) | ((with_reducible refine wl_guard ?_); refine stop_mem rfl rfl ?_)))
  go_ret
  refine ⟨u, rfl, ?_⟩
  have hS := (St.packs (xa, xt) hS : St S w0 _ (ledg g D :: .vec u 86 4 D.A.length (D.A.flatMap Acc.cells) :: M))
  exact hS.pick
theorem ledg_transfers (hS : St S w0 w (ledg g D :: M)) (hl : D.T.length ≤ 1000) : Calls Tryz.prog 37 #[.pointer (some ⟨g, 0, none⟩)] w fun e w' => ∃ u, e = .returned u ∧ St S w0 w' (.vec u 91 4 D.T.length (D.T.flatMap Tra.cells) :: ledg g D :: M) := by
  (have hU := St.unpack hS; clear hS; obtain ⟨⟨xa, xt⟩, _, hS⟩ := hU; simp only [List.cons_append, List.nil_append] at hS)
  have hn : xt = .slice none 0 0 ∨ ∃ g n cap, xt = .slice (some ⟨g, 0, none⟩) n cap := by
    rcases (hS.vec (i := 2) rfl).2 with ⟨h, _⟩ | ⟨g, cap, _, _, h, _⟩
    · exact .inl h
    · exact .inr ⟨g, _, cap, h⟩
  have HN := Lib.hid hn
  clear hn
  (go_enter Tryz.func37, Tryz.ntmps37)
  go_wp2_with (first | (go_at_call 70; refine (clone_tra xt D.T hS (fun W hW => hW.rdx (by (repeat (first | exact Ix.here | apply Ix.there)))) hl HN.out).mono ?_; clear hS; rintro e w' ⟨u, rfl, hS⟩) | (first | refine au1 (n := ?_) | (refine au2 (n := ?_); clear hS; intro w' hS) | (refine au3 (n := ?_); clear hS; intro gb w1 hS) | (refine au4 (n := ?_); clear hS; intro v1 w' hS) | ((with_reducible refine wl_guard ?_); refine stop_mem rfl rfl ?_)))
  go_ret
  refine ⟨u, rfl, ?_⟩
  have hS := (St.packs (xa, xt) hS : St S w0 _ (ledg g D :: .vec u 91 4 D.T.length (D.T.flatMap Tra.cells) :: M))
  exact hS.pick

def aBytes (l : List Acc) : List UInt8 := l.flatMap fun a => (putW a).1
theorem u8_of (n : Nat) (h : n < 256) : IntKind.u8.wrap (n : Int) = (n : Int) := by
  simp only [IntKind.wrap, IntKind.bits, IntKind.signed]
  simp
  omega

set_option maxRecDepth 100000 in
set_option maxHeartbeats 8000000 in
theorem ledg_pack (hS : St S w0 w (ledg g D :: M)) (hD : D.Ok) :
    Calls Tryz.prog 56 #[.pointer (some ⟨g, 0, none⟩)] w fun e w' => e = .returned (.string ⟨(lPack D).toArray⟩) ∧ St S w0 w' (ledg g D :: M) := by
  obtain ⟨A, T⟩ := D
  obtain ⟨hDa, hDt, hDl, hDm⟩ := hD
  simp only at hDa hDt hDl hDm
  have HA := Lib.hid hDa
  have HT := Lib.hid hDt
  have e0 : lPack ⟨A, T⟩ = ([UInt8.ofNat A.length] ++ aBytes A ++ [UInt8.ofNat T.length]) ++ T.flatMap traB := rfl
  have HE0 := Lib.hid e0
  have hw1 := u8_of A.length (by omega)
  have hw2 := u8_of T.length (by omega)
  have b1 : [Value.int .u8 (A.length : Int)] = [UInt8.ofNat A.length].flatMap byt := by simp [byt]; omega
  have b2 : [Value.int .u8 (T.length : Int)] = [UInt8.ofNat T.length].flatMap byt := by simp [byt]; omega
  have B1 := Lib.hid b1
  have B2 := Lib.hid b2
  clear e0 b1 b2 hDa hDt
  (have hU := St.unpack hS; clear hS; obtain ⟨⟨xa, xt⟩, _, hS⟩ := hU; simp only [List.cons_append, List.nil_append] at hS)
  (go_enter Tryz.func56, Tryz.ntmps56)
  go_wp2_with (first | ((with_reducible refine g_conv ?_); rw [B1.out] at hS; refine wl_run rfl (a_toString2 (l := [UInt8.ofNat A.length]) rfl rfl rfl rfl rfl (by exact St.rdx hS Ix.here)) ?_) | (first | refine au1 (n := ?_) | (refine au2 (n := ?_); clear hS; intro w' hS) | (refine au3 (n := ?_); clear hS; intro gb w1 hS) | (refine au4 (n := ?_); clear hS; intro v1 w' hS) | ((with_reducible refine wl_guard ?_); refine stop_mem rfl rfl ?_)))
  replace hS := hS.tail
  go_loopw [3, 26] (fun s k wr => ∃ j : Nat, j ≤ A.length ∧ s = .string ⟨([UInt8.ofNat A.length] ++ aBytes (A.take j)).toArray⟩ ∧ k = .int .i64 j ∧ St S w0 wr (.row g [xa, xt] 110 (0, 0) :: .vec xa 86 4 A.length (A.flatMap Acc.cells) :: .vec xt 91 4 T.length (T.flatMap Tra.cells) :: M)) (fun _ k _ => A.length - (intOf k).toNat)
  case atStart => exact ⟨0, by omega, by simp [aBytes], rfl, hS⟩
  case round =>
    clear hS
    obtain ⟨j, hj, rfl, rfl, hS⟩ := hrel
    by_cases hlt : j < A.length
    · have hlt1 : (j : Int) < A.length := by omega
      have hget := get_lt (L := A) hlt
      have hx := HA.out _ (nth_mem hlt)
      have htk := take_nth hlt
      have hlen : (aBytes (A.take j)).length ≤ 25 * 8 := by
        have h1 := flat_le (fun x => putW_len x) (A.take j)
        have h2 : (A.take j).length ≤ 8 := by rw [List.length_take]; omega
        unfold aBytes
        omega
      obtain ⟨x, hX⟩ : ∃ x, nth A j = x := ⟨_, rfl⟩
      rw [hX] at hget htk hx
      have HE : Hid ([UInt8.ofNat A.length] ++ aBytes (A.take (j + 1)) = ([UInt8.ofNat A.length] ++ aBytes (A.take j)) ++ (putW x).1) := Lib.hid (by rw [htk]; unfold aBytes; rw [List.flatMap_append]; simp)
      obtain ⟨s, hs⟩ : ∃ s, [UInt8.ofNat A.length] ++ aBytes (A.take j) = s := ⟨_, rfl⟩
      have hsl : s.length ≤ 201 := by rw [← hs]; simp only [List.length_append, List.length_singleton]; omega
      have hz := putW_len x
      have HP := Lib.hid (fun w => putWhole_any x hx w)
      rw [hs] at HE ⊢
      clear hX hs hlen htk hx
      generalize (putW x).1 = z at HP HE hz
      generalize (putW x).2 = z2 at HP
      obtain ⟨x1, x2, x3, x4⟩ := x
      simp only [Acc.cells] at HP
      go_wp2_with (first | (go_at_call 86; refine (HP.out _).mono ?_; rintro e w' ⟨rfl, h⟩; replace hS := hS.call h; clear h) | (first | refine au1 (n := ?_) | (refine au2 (n := ?_); clear hS; intro w' hS) | (refine au3 (n := ?_); clear hS; intro gb w1 hS) | (refine au4 (n := ?_); clear hS; intro v1 w' hS) | ((with_reducible refine wl_guard ?_); refine stop_mem rfl rfl ?_)))
      refine ⟨⟨j + 1, by omega, ?_, by go_num, hS.pick⟩, by simp [intOf]; omega⟩
      rw [HE.out]
    · obtain rfl : j = A.length := by omega
      rw [List.take_length]
      obtain ⟨s, hs⟩ : ∃ s, [UInt8.ofNat A.length] ++ aBytes A = s := ⟨_, rfl⟩
      have hsl : s.length ≤ 201 := by
        have h1 := flat_le (fun x => putW_len x) A
        rw [← hs]
        unfold aBytes
        simp only [List.length_append, List.length_singleton]
        omega
      rw [hs] at HE0 ⊢
      clear hs
      go_wp2_with (first | ((with_reducible refine g_conv ?_); rw [B2.out] at hS; refine wl_run rfl (a_toString2 (l := [UInt8.ofNat T.length]) rfl rfl rfl rfl rfl (by exact St.rdx hS Ix.here)) ?_) | (first | refine au1 (n := ?_) | (refine au2 (n := ?_); clear hS; intro w' hS) | (refine au3 (n := ?_); clear hS; intro gb w1 hS) | (refine au4 (n := ?_); clear hS; intro v1 w' hS) | ((with_reducible refine wl_guard ?_); refine stop_mem rfl rfl ?_)))
      replace hS := hS.tail
      obtain ⟨s2, hs2⟩ : ∃ s2, s ++ [UInt8.ofNat T.length] = s2 := ⟨_, rfl⟩
      have hsl2 : s2.length ≤ 202 := by rw [← hs2]; simp only [List.length_append, List.length_singleton]; omega
      rw [hs2] at HE0
      try rw [hs2]
      clear hs2
      replace hS : St S w0 _ (.vec xt 91 4 T.length (T.flatMap Tra.cells) :: .row g [xa, xt] 110 (0, 0) :: .vec xa 86 4 A.length (A.flatMap Acc.cells) :: M) := hS.pick
      go_loopw [3, 54] (fun s k wr => ∃ j : Nat, j ≤ T.length ∧ s = .string ⟨(s2 ++ (T.take j).flatMap traB).toArray⟩ ∧ k = .int .i64 j ∧ St S w0 wr (.vec xt 91 4 T.length (T.flatMap Tra.cells) :: .row g [xa, xt] 110 (0, 0) :: .vec xa 86 4 A.length (A.flatMap Acc.cells) :: M)) (fun _ k _ => T.length - (intOf k).toNat)
      case atStart => exact ⟨0, by omega, by simp, rfl, hS⟩
      case round =>
        clear hS
        obtain ⟨j, hj, rfl, rfl, hS⟩ := hrel
        by_cases hlt : j < T.length
        · have hlt1 : (j : Int) < T.length := by omega
          have hx := HT.out _ (nth_mem hlt)
          have htk := take_nth hlt
          have hone := fun (v : Value) (w : World) (hR : Rd w 4 v T.length (T.flatMap Tra.cells)) => Rd.cut1 (f := Tra.cells) (fun _ => rfl) hR hlt
          have hlen : ((T.take j).flatMap traB).length ≤ 32 * 16 := by
            have h1 := flat_le (fun x => Nat.le_of_eq (traB_len x)) (T.take j)
            have h2 : (T.take j).length ≤ 16 := by rw [List.length_take]; omega
            omega
          obtain ⟨x, hX⟩ : ∃ x, nth T j = x := ⟨_, rfl⟩
          rw [hX] at htk hx hone
          have HE : Hid (s2 ++ (T.take (j + 1)).flatMap traB = (s2 ++ (T.take j).flatMap traB) ++ traB x) := Lib.hid (by rw [htk, List.flatMap_append]; simp)
          obtain ⟨s, hs⟩ : ∃ s, s2 ++ (T.take j).flatMap traB = s := ⟨_, rfl⟩
          have hsl3 : s.length ≤ 714 := by rw [← hs]; simp only [List.length_append]; omega
          have hz := traB_len x
          have HP := Lib.hid (fun (v : Value) (w : World) (h : Rd w 4 v 1 ([x].flatMap Tra.cells)) => putTransfers_any [x] v 1 w rfl (by intro y hy; simp only [List.mem_singleton] at hy; subst hy; exact hx) h)
          have e : putS byTra [x] = (traB x, 0) := by simp [putS, cat, byTra, traB]
          rw [e] at HP
          have HO := Lib.hid hone
          rw [hs] at HE ⊢
          clear hX hs hlen htk hx e hone
          generalize traB x = z at HP HE hz
          go_wp2_with (first | ((with_reducible refine g_cut ?_); refine wl_run rfl (x_cut (ti := Tryz.t91) rfl (hS.rdx (by (repeat (first | exact Ix.here | apply Ix.there)))) rfl rfl rfl rfl rfl rfl (by omega) (by omega) (by omega)) ?_) | (go_at_call 87; refine (HP.out _ _ (HO.out _ _ (hS.rdx Ix.here))).mono ?_; rintro e w' ⟨rfl, h⟩; replace hS := hS.call h; clear h) | (first | refine au1 (n := ?_) | (refine au2 (n := ?_); clear hS; intro w' hS) | (refine au3 (n := ?_); clear hS; intro gb w1 hS) | (refine au4 (n := ?_); clear hS; intro v1 w' hS) | ((with_reducible refine wl_guard ?_); refine stop_mem rfl rfl ?_)))
          refine ⟨⟨j + 1, by omega, ?_, by go_num, hS.pick⟩, by simp [intOf]; omega⟩
          rw [HE.out]
        · obtain rfl : j = T.length := by omega
          rw [List.take_length]
          go_wp2_with (first | refine au1 (n := ?_) | (refine au2 (n := ?_); clear hS; intro w' hS) | (refine au3 (n := ?_); clear hS; intro gb w1 hS) | (refine au4 (n := ?_); clear hS; intro v1 w' hS) | ((with_reducible refine wl_guard ?_); refine stop_mem rfl rfl ?_))
          go_ret
          rw [HE0.out]
          exact ⟨rfl, (St.packs (xa, xt) hS : St S w0 _ (ledg g ⟨A, T⟩ :: _)).pick⟩
end
end Go.Proofs.YtjjiibcnknljfaaGreat
namespace Go.Proofs.YtjjiibcnknljfaaGreat
open Go.RowKit Go.Cmp

/-- An operation that comes in. -/
structure Act7 where
  op : Int
  body : List UInt8
deriving Inhabited
def Act7.cells (x : Act7) : List Value := [.int .i64 x.op, .string ⟨x.body.toArray⟩]
def step7 (D : Led) (x : Act7) : Led := if x.body.length ≤ 400 then (D.doIt x.op x.body).2 else D
def playedS (L : List Act7) : Led := (L.take 60).foldl step7 ⟨[], []⟩
theorem step7_ok {D : Led} (h : D.Ok) (x : Act7) : (step7 D x).Ok := by
  unfold step7
  split
  · exact doIt_ok h _ _
  · exact h
theorem fold7_ok : ∀ (L : List Act7) {D : Led}, D.Ok → (L.foldl step7 D).Ok
  | [], _, h => h
  | x :: L, _, h => fold7_ok L (step7_ok h x)
theorem playedS_ok (L : List Act7) : (playedS L).Ok := fold7_ok _ newLed_ok

end Go.Proofs.YtjjiibcnknljfaaGreat
namespace Go.Proofs.YtjjiibcnknljfaaGreat
open Go.RowKit Go.Cmp

def sumD (id : Nat) : List Tra → Nat
  | [] => 0
  | t :: T => (if t.deb = id then t.amt else 0) + sumD id T
def sumC (id : Nat) : List Tra → Nat
  | [] => 0
  | t :: T => (if t.cred = id then t.amt else 0) + sumC id T
theorem sumD_app (id : Nat) (T : List Tra) : ∀ T1 : List Tra, sumD id (T1 ++ T) = sumD id T1 + sumD id T
  | [] => by simp [sumD]
  | t :: T1 => by simp only [List.cons_append, sumD, sumD_app id T T1]; omega
theorem sumC_app (id : Nat) (T : List Tra) : ∀ T1 : List Tra, sumC id (T1 ++ T) = sumC id T1 + sumC id T
  | [] => by simp [sumC]
  | t :: T1 => by simp only [List.cons_append, sumC, sumC_app id T T1]; omega
theorem sumD_snoc (id : Nat) (T : List Tra) (t : Tra) : sumD id (T ++ [t]) = sumD id T + (if t.deb = id then t.amt else 0) := by rw [sumD_app]; simp [sumD]
theorem sumC_snoc (id : Nat) (T : List Tra) (t : Tra) : sumC id (T ++ [t]) = sumC id T + (if t.cred = id then t.amt else 0) := by rw [sumC_app]; simp [sumC]
theorem sumD_take (id : Nat) (T : List Tra) (j : Nat) : sumD id (T.take j) ≤ sumD id T := by
  have := sumD_app id (T.drop j) (T.take j)
  rw [List.take_append_drop] at this
  omega
theorem sumC_take (id : Nat) (T : List Tra) (j : Nat) : sumC id (T.take j) ≤ sumC id T := by
  have := sumC_app id (T.drop j) (T.take j)
  rw [List.take_append_drop] at this
  omega
theorem sumD_none {id : Nat} : ∀ {T : List Tra}, (∀ t ∈ T, t.deb ≠ id) → sumD id T = 0
  | [], _ => rfl
  | t :: T, h => by simp only [sumD]; rw [if_neg (h t (by simp)), sumD_none (fun x hx => h x (by simp [hx]))]
theorem sumC_none {id : Nat} : ∀ {T : List Tra}, (∀ t ∈ T, t.cred ≠ id) → sumC id T = 0
  | [], _ => rfl
  | t :: T, h => by simp only [sumC]; rw [if_neg (h t (by simp)), sumC_none (fun x hx => h x (by simp [hx]))]
def HasA (c : Nat) (A : List Acc) : Prop := ∃ p, p < A.length ∧ (nth A p).id = c
theorem has_of_at {c : Nat} {A : List Acc} (h : 0 ≤ accAt c A) : HasA c A := ⟨(accAt c A).toNat, by have := (accAt_range c A).2; omega, accAt_hit h⟩
theorem at_none {c : Nat} {A : List Acc} (h : accAt c A < 0) : ∀ i, i < A.length → (nth A i).id ≠ c := by
  intro i hi
  have := idx_neg (p := fun a : Acc => decide (a.id = c)) h _ (nth_mem hi)
  simpa using this
theorem tra_none {c : Nat} {T : List Tra} (h : traAt c T < 0) : ∀ i, i < T.length → (nth T i).id ≠ c := by
  intro i hi
  have := idx_neg (p := fun a : Tra => decide (a.id = c)) h _ (nth_mem hi)
  simpa using this
section
variable {α : Type} [Inhabited α]
theorem nth_app_lt {l : List α} {x : α} {i : Nat} (h : i < l.length) : nth (l ++ [x]) i = nth l i :=
  nth_eq (by rw [List.getElem?_append_left h, get_lt h])
theorem nth_app_eq {l : List α} {x : α} : nth (l ++ [x]) l.length = x :=
  nth_eq (by rw [List.getElem?_append_right (Nat.le_refl _)]; simp)
theorem nth_set_eq {l : List α} {x : α} {i : Nat} (h : i < l.length) : nth (l.set i x) i = x := nth_eq (by simp [h])
theorem nth_set_ne {l : List α} {x : α} {i j : Nat} (h : i < l.length) (hne : j ≠ i) : nth (l.set j x) i = nth l i :=
  nth_eq (by rw [List.getElem?_set_ne hne, get_lt h])
end
theorem moved_nth {A : List Acc} {p q n i : Nat} (hpq : p ≠ q) (hp : p < A.length) (hq : q < A.length) (hi : i < A.length) :
    nth (moved A p q n) i = ⟨(nth A i).id, (nth A i).flags, (nth A i).deb + (if i = p then n else 0), (nth A i).cred + (if i = q then n else 0)⟩ := by
  unfold moved
  by_cases h1 : i = q
  · subst h1
    rw [nth_set_eq (by rw [List.length_set]; exact hi), if_neg (Ne.symm hpq), if_pos rfl, Nat.add_zero]
  · rw [nth_set_ne (by rw [List.length_set]; exact hi) (Ne.symm h1), if_neg h1]
    by_cases h2 : i = p
    · subst h2
      rw [nth_set_eq hi, if_pos rfl, Nat.add_zero]
    · rw [nth_set_ne hi (Ne.symm h2), if_neg h2, Nat.add_zero, Nat.add_zero]

structure Led.Good (D : Led) : Prop where
  ok : D.Ok
  acc : ∀ i, i < D.A.length → (nth D.A i).id ≠ 0 ∧ 0 ≤ (nth D.A i).flags ∧ (nth D.A i).flags ≤ 1 ∧ (nth D.A i).deb = sumD (nth D.A i).id D.T ∧ (nth D.A i).cred = sumC (nth D.A i).id D.T ∧ ((nth D.A i).flags = 1 → (nth D.A i).deb ≤ (nth D.A i).cred)
  uniq : ∀ i j, i < j → j < D.A.length → (nth D.A i).id ≠ (nth D.A j).id
  tra : ∀ i, i < D.T.length → (nth D.T i).id ≠ 0 ∧ HasA (nth D.T i).deb D.A ∧ HasA (nth D.T i).cred D.A
  tuniq : ∀ i j, i < j → j < D.T.length → (nth D.T i).id ≠ (nth D.T j).id
theorem newLed_good : Led.Good ⟨[], []⟩ := ⟨newLed_ok, by simp, by simp, by simp, by simp⟩
theorem has_app {c : Nat} {A : List Acc} {x : Acc} (h : HasA c A) : HasA c (A ++ [x]) := by
  obtain ⟨p, h1, h2⟩ := h
  exact ⟨p, by rw [List.length_append]; simp; omega, by rw [nth_app_lt h1]; exact h2⟩
theorem open_gd {D : Led} (hD : D.Good) {a : Acc} (ha : a.Ok) (hf : 0 ≤ a.flags) : (D.open a).2.Good := by
  have hok := open_ok hD.ok ha
  revert hok
  unfold Led.open
  split
  · exact fun _ => hD
  split
  · exact fun _ => hD
  split
  · exact fun _ => hD
  split
  · exact fun _ => hD
  rename_i h0 h1 h2 h3
  intro hok
  have hn := at_none (show accAt a.id D.A < 0 by omega)
  have hno : ∀ t ∈ D.T, t.deb ≠ a.id ∧ t.cred ≠ a.id := by
    intro t ht
    obtain ⟨i, hi, rfl⟩ := mem_nth' ht
    obtain ⟨_, ⟨p, hp, e1⟩, ⟨q, hq, e2⟩⟩ := hD.tra i hi
    exact ⟨fun h => hn p hp (e1.trans h), fun h => hn q hq (e2.trans h)⟩
  refine ⟨hok, fun i hi => ?_, fun i j hij hj => ?_, fun i hi => ?_, hD.tuniq⟩
  · simp only [List.length_append, List.length_singleton] at hi
    by_cases h : i < D.A.length
    · simp only [nth_app_lt h]; exact hD.acc i h
    · obtain rfl : i = D.A.length := by omega
      simp only [nth_app_eq]
      exact ⟨h0, hf, by omega, (sumD_none fun t ht => (hno t ht).1).symm, (sumC_none fun t ht => (hno t ht).2).symm, fun _ => Nat.le_refl _⟩
  · simp only [List.length_append, List.length_singleton] at hj
    by_cases h : j < D.A.length
    · simp only [nth_app_lt h, nth_app_lt (show i < D.A.length by omega)]; exact hD.uniq i j hij h
    · obtain rfl : j = D.A.length := by omega
      simp only [nth_app_eq, nth_app_lt hij]
      exact hn i hij
  · obtain ⟨t1, t2, t3⟩ := hD.tra i hi
    exact ⟨t1, has_app t2, has_app t3⟩
theorem same_at {D : Led} (hD : D.Good) {i j : Nat} (hi : i < D.A.length) (hj : j < D.A.length) (h : (nth D.A i).id = (nth D.A j).id) : i = j := by
  rcases Nat.lt_trichotomy i j with h1 | h1 | h1
  · exact absurd h (hD.uniq i j h1 hj)
  · exact h1
  · exact absurd h.symm (hD.uniq j i h1 hi)
theorem move_gd {D : Led} (hD : D.Good) {t : Tra} (ht : t.Ok) : (D.move t).2.Good := by
  have hok := move_ok hD.ok ht
  revert hok
  unfold Led.move
  split
  · exact fun _ => hD
  split
  · exact fun _ => hD
  split
  · exact fun _ => hD
  split
  · exact fun _ => hD
  split
  · exact fun _ => hD
  split
  · exact fun _ => hD
  split
  · exact fun _ => hD
  split
  · exact fun _ => hD
  split
  · exact fun _ => hD
  rename_i h1 h2 h3 h4 h5 h6 h7 h8 h9
  intro hok
  have hp := (accAt_range t.deb D.A).2
  have hq := (accAt_range t.cred D.A).2
  have kp := accAt_hit (show 0 ≤ accAt t.deb D.A by omega)
  have kq := accAt_hit (show 0 ≤ accAt t.cred D.A by omega)
  obtain ⟨p, hpe⟩ : ∃ p, (accAt t.deb D.A).toNat = p := ⟨_, rfl⟩
  obtain ⟨q, hqe⟩ : ∃ q, (accAt t.cred D.A).toNat = q := ⟨_, rfl⟩
  have hpl : p < D.A.length := by omega
  have hql : q < D.A.length := by omega
  rw [hpe] at kp h8 h7 hok ⊢
  rw [hqe] at kq h7 hok ⊢
  have hpq : p ≠ q := by intro e; rw [e, kq] at kp; exact h3 kp.symm
  have hn := tra_none (show traAt t.id D.T < 0 by omega)
  have hlen := moved_len D.A p q t.amt
  have hnth : ∀ i, i < D.A.length → nth (moved D.A p q t.amt) i = ⟨(nth D.A i).id, (nth D.A i).flags, (nth D.A i).deb + (if i = p then t.amt else 0), (nth D.A i).cred + (if i = q then t.amt else 0)⟩ := fun i hi => moved_nth hpq hpl hql hi
  have hhas : ∀ c, HasA c D.A → HasA c (moved D.A p q t.amt) := by
    rintro c ⟨i, hi, e⟩
    exact ⟨i, by rw [hlen]; exact hi, by rw [hnth i hi]; exact e⟩
  refine ⟨hok, fun i hi => ?_, fun i j hij hj => ?_, fun i hi => ?_, fun i j hij hj => ?_⟩
  · simp only at hi
    rw [hlen] at hi
    obtain ⟨a1, a2, a3, a4, a5, a6⟩ := hD.acc i hi
    simp only [hnth i hi, sumD_snoc, sumC_snoc]
    have e1 : (t.deb = (nth D.A i).id) ↔ i = p := by
      constructor
      · intro h; exact same_at hD hi hpl (by rw [kp]; exact h.symm)
      · rintro rfl; exact kp.symm
    have e2 : (t.cred = (nth D.A i).id) ↔ i = q := by
      constructor
      · intro h; exact same_at hD hi hql (by rw [kq]; exact h.symm)
      · rintro rfl; exact kq.symm
    refine ⟨a1, a2, a3, by simp only [e1]; omega, by simp only [e2]; omega, fun hf => ?_⟩
    have a6 := a6 hf
    by_cases hip : i = p
    · subst hip
      rw [if_pos rfl, if_neg hpq]
      have : ¬ (nth D.A i).cred < (nth D.A i).deb + t.amt := fun hlt => h8 ⟨hf, hlt⟩
      omega
    · rw [if_neg hip]
      omega
  · simp only at hj ⊢
    rw [hlen] at hj
    rw [hnth i (by omega), hnth j hj]
    exact hD.uniq i j hij hj
  · simp only [List.length_append, List.length_singleton] at hi ⊢
    by_cases h : i < D.T.length
    · rw [nth_app_lt h]
      obtain ⟨t1, t2, t3⟩ := hD.tra i h
      exact ⟨t1, hhas _ t2, hhas _ t3⟩
    · obtain rfl : i = D.T.length := by omega
      rw [nth_app_eq]
      exact ⟨h1, hhas _ ⟨p, hpl, kp⟩, hhas _ ⟨q, hql, kq⟩⟩
  · simp only [List.length_append, List.length_singleton] at hj ⊢
    by_cases h : j < D.T.length
    · rw [nth_app_lt h, nth_app_lt (show i < D.T.length by omega)]; exact hD.tuniq i j hij h
    · obtain rfl : j = D.T.length := by omega
      rw [nth_app_eq, nth_app_lt hij]
      exact hn i hij
theorem opens_gd : ∀ (l : List Acc) {D : Led}, D.Good → (∀ a ∈ l, a.Ok ∧ 0 ≤ a.flags) → (D.opens l).2.Good
  | [], _, h, _ => h
  | a :: l, _, h, hl => opens_gd l (open_gd h (hl a (by simp)).1 (hl a (by simp)).2) (fun x hx => hl x (by simp [hx]))
theorem moves_gd : ∀ (l : List Tra) {D : Led}, D.Good → (∀ a ∈ l, a.Ok) → (D.moves l).2.Good
  | [], _, h, _ => h
  | a :: l, _, h, hl => moves_gd l (move_gd h (hl a (by simp))) (fun x hx => hl x (by simp [hx]))
theorem doIt_gd {D : Led} (hD : D.Good) (op : Int) (body : List UInt8) : (D.doIt op body).2.Good := by
  unfold Led.doIt
  split
  · split
    · exact hD
    · exact opens_gd _ hD (takeS_all (P := fun a : Acc => a.Ok ∧ 0 ≤ a.flags) (fun c => ⟨gAcc_ok c, by show 0 ≤ (((c.getD 8 0).toNat : Int)); omega⟩) 9 body)
  split
  · split
    · exact hD
    · exact moves_gd _ hD (takeS_all gTra_ok 32 body)
  split
  · split <;> exact hD
  split
  · split <;> exact hD
  · exact hD
theorem fold7_gd : ∀ (L : List Act7) {D : Led}, D.Good → (L.foldl step7 D).Good
  | [], _, h => h
  | x :: L, _, h => fold7_gd L (by unfold step7; split; exact doIt_gd h _ _; exact h)
theorem playedS_gd (L : List Act7) : (playedS L).Good := fold7_gd _ newLed_good
end Go.Proofs.YtjjiibcnknljfaaGreat
