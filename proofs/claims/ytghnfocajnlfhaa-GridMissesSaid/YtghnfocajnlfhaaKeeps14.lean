/-
  What was written into an area is loaded by its sums, whatever is written into the other one: GridKeeps returns true.
-/
import Derived.Test.YtghnfocajnlfhaaGridAw
set_option linter.unusedSimpArgs false
set_option linter.unusedVariables false
set_option linter.unusedSectionVars false
set_option maxRecDepth 100000
namespace Go.Cmp
open Go.RowKit
theorem and_small14 (x : Int) (m : Nat) (hm : m ≤ 1000) : 0 ≤ bits .and .i64 x (m : Int) ∧ bits .and .i64 x (m : Int) ≤ m := by
  have h : ((BitVec.ofInt 64 x &&& BitVec.ofInt 64 (m : Int)).toNat) ≤ m := by
    rw [BitVec.toNat_and]
    refine Nat.le_trans Nat.and_le_right ?_
    simp
    omega
  have e : bits .and .i64 x (m : Int) = IntKind.i64.wrap ((BitVec.ofInt 64 x &&& BitVec.ofInt 64 (m : Int)).toNat : Int) := rfl
  rw [e, IntWalk.i64_in _ (by omega)]
  omega
theorem bit_one (x : Int) : ∃ a : Nat, a < 2 ∧ bits .and .i64 x 1 = (a : Int) := by
  have h := and_small14 x 1 (by omega)
  rw [show ((1 : Nat) : Int) = 1 from rfl] at h
  exact ⟨(bits .and .i64 x 1).toNat, by omega, by omega⟩
theorem six_any {C : List Value} (h : C.length = 6) : ∃ a b c d e f, C = [a, b, c, d, e, f] := by
  match C, h with
  | [a0, a1, a2, a3, a4, a5], _ => exact ⟨a0, a1, a2, a3, a4, a5, rfl⟩
/-- A text is written over whatever is there, the disk on. -/
structure Kept14 (D : Dsk) (a : Nat) (s : List UInt8) : Prop where
  ok : D.Ok
  holds : HoldsG D a s
theorem kept14 {D : Dsk} {a b : Nat} {s : List UInt8} (h : HoldsG D a s) (ok : D.Ok) (hst : D.steps + 10 ≤ 1000000000) (ha : a < 2) (hb : b < 2) (hab : b ≠ a) (hs : s.length ≤ 1920) (fz : Int) (hfz : fz ≤ 9223372036854775807) (t : List UInt8) (P : List Int) :
    ∃ E e F, D.setFuse fz = (0, E) ∧ E.Ok ∧ E.way = [] ∧ E.steps = D.steps ∧ gWrite E b t = (e, F) ∧ F.Ok ∧ ((F.off = false ∧ Kept14 F a s) ∨ (F.off = true ∧ ∃ G, F.start P = (0, G) ∧ Kept14 G a s)) := by
  have e1 : D.setFuse fz = (0, { D with fuse := max 0 fz }) := by unfold Dsk.setFuse; rw [if_neg (by rw [h.off]; simp)]
  have h1 : HoldsG { D with fuse := max 0 fz } a s := ⟨h.off, h.way, h.len, h.has⟩
  have n := Dsk.fuse_next ok fz hfz
  rw [e1] at n
  have n2 := gWrite_ok n.ok (by show D.way.length + 10 ≤ _; rw [h.way]; decide) (by show D.steps + 10 ≤ _; omega) b t
  have q := other_holds (t := t) h1 ha hb hab hs (by show 0 ≤ max 0 fz; omega) P
  obtain ⟨E, hE⟩ : ∃ E, ({ D with fuse := max 0 fz } : Dsk) = E := ⟨_, rfl⟩
  have w1 : E.way = [] := by rw [← hE]; exact h.way
  have w2 : E.steps = D.steps := by rw [← hE]
  rw [hE] at e1 n n2 q
  obtain ⟨e, F, hF⟩ : ∃ e F, gWrite E b t = (e, F) := ⟨_, _, rfl⟩
  rw [hF] at n2 q
  refine ⟨E, e, F, e1, n.ok, w1, w2, hF, n2.1, ?_⟩
  rcases q with q | q
  · exact .inl ⟨q.1, n2.1, q.2⟩
  · have hst : F.start P = (0, (F.start P).2) := by unfold Dsk.start; rw [if_neg (by rw [q.1]; simp)]
    exact .inr ⟨q.1, _, hst, (Dsk.start_next n2.1 P).ok, q.2⟩
end Go.Cmp
namespace Go.Proofs.Ytghnfocajnlfhaa
open Go.RowKit Go.Cmp

section
set_option maxHeartbeats 16000000 in
theorem law_keeps14 (s t : List UInt8) (ar fz : Int) (hf1 : -9223372036854775808 ≤ fz) (hf2 : fz ≤ 9223372036854775807) (vp : Value) (picks : List Int) (w : World)
    (hP : Rd w 1 vp picks.length (picks.flatMap num)) (hpk : ∀ p ∈ picks, p ≤ 9223372036854775807) :
    Calls Try.prog 4 #[.string ⟨s.toArray⟩, .string ⟨t.toArray⟩, .int .i64 ar, .int .i64 fz, vp] w fun e w' => e = .returned (.bool true) ∧ St [] w w' [] := by
  have hS := St.init w
  have HPP := Lib.hid hP
  clear hP
  have HAW := Lib.hid (fun w => awake14 w)
  obtain ⟨D0, h0⟩ : ∃ D0, newDsk 32 = D0 := ⟨_, rfl⟩
  have HNW := Lib.hid (fun (w0 w : World) (M : List Ent) (hS : St [] w0 w M) => disk_new 32 (by omega) (by omega) hS)
  rw [h0] at HNW
  by_cases hb : 2500 < s.length ∨ 2500 < t.length
  · clear h0
    by_cases hb1 : (2500 : Int) < s.length
    · (go_enter Try.func4, Try.ntmps4)
      go_wp2_with (first | go_skip | (go_at_call 6; refine (HAW.out _).mono ?_; rintro e w' ⟨rfl, h⟩; replace hS := hS.call h; clear h) | (go_at_call 7; refine (HNW.out _ _ _ hS).mono ?_; clear hS; rintro e w' ⟨gd, rfl, hS⟩) | fail)
      go_ret
      exact ⟨rfl, hS.nil⟩
    · have hb2 : (2500 : Int) < t.length := by omega
      (go_enter Try.func4, Try.ntmps4)
      go_wp2_with (first | go_skip | (go_at_call 6; refine (HAW.out _).mono ?_; rintro e w' ⟨rfl, h⟩; replace hS := hS.call h; clear h) | (go_at_call 7; refine (HNW.out _ _ _ hS).mono ?_; clear hS; rintro e w' ⟨gd, rfl, hS⟩) | fail)
      go_ret
      exact ⟨rfl, hS.nil⟩
  have hs1 : ¬ (2500 : Int) < s.length := by omega
  have ht1 : ¬ (2500 : Int) < t.length := by omega
  have ok0 : D0.Ok := by rw [← h0]; exact newDsk_ok 32 (by omega)
  obtain ⟨n1, n2, n3, n4, n5⟩ := newDsk_is 32
  rw [h0] at n1 n2 n3 n4 n5
  obtain ⟨a, ha, hea⟩ := bit_one ar
  have HEA := Lib.hid hea
  have HW := Lib.hid (fun (w0 w : World) (M : List Ent) (g : Nat) (hS : St [] w0 w (disk g D0 :: M)) => gridWrite_any hS ok0 (by rw [n2]; decide) (by rw [n4]; decide) a ha s (by omega))
  have HSU := Lib.hid (fun w => gridSums_any s (by omega) w)
  by_cases hl : 1920 < s.length
  · have hl1 : (1920 : Int) < s.length := by omega
    have e1 : gSums s = (zero6, 5) := by unfold gSums; rw [if_pos hl]
    have e2 : gWrite D0 a s = (5, D0) := by unfold gWrite; rw [if_pos hl]
    rw [e1] at HSU
    rw [e2] at HW
    clear hb hl n1 n2 n3 n4 n5 ok0 h0 ha hea e1 e2
    (go_enter Try.func4, Try.ntmps4)
    go_upto_region 9 with (first | (go_at_call 6; refine (HAW.out _).mono ?_; rintro e w' ⟨rfl, h⟩; replace hS := hS.call h; clear h) | (go_at_call 7; refine (HNW.out _ _ _ hS).mono ?_; clear hS; rintro e w' ⟨gd, rfl, hS⟩) | fail)
    rw [HEA.out]
    go_wp2_with (first | go_skip | go_skip | ((with_reducible refine g_load ?_); refine wl_run rfl (by first | exact a_load1 hS rfl rfl rfl rfl (by (repeat (first | exact Ix.here | apply Ix.there))) (by rfl) | exact a_loadR hS rfl rfl rfl rfl (by (repeat (first | exact Ix.here | apply Ix.there))) (by rfl) | fail) ?_) | ((with_reducible refine g_alloc ?_); refine wl_of rfl ?_; refine wp_alloc hS rfl rfl rfl rfl ?_; clear hS; intro ga w1 hS) | ((with_reducible refine g_store ?_); refine wl_of rfl ?_; refine a_storeA (vs := zero6) (cs' := zero6) hS rfl rfl rfl (by rfl) (by decide) (by (repeat (first | exact Sw.here | apply Sw.there))) (by exact Nat.le_refl 6) (by rfl) ?_; clear hS; intro w' hS) | (go_at_call 8; refine (HSU.out _).mono ?_; rintro e w' ⟨rfl, h⟩; replace hS := hS.call h; clear h) | (go_at_call 9; (refine (HW.out _ _ _ _ (hS.out (by first | ((repeat (first | exact Out.here | apply Out.there)); done) | fail))).mono ?_; clear hS; rintro e w' ⟨rfl, hS⟩)) | fail)
    go_ret
    exact ⟨rfl, hS.nil⟩
  have hl1 : ¬ (1920 : Int) < s.length := by omega
  obtain ⟨h1, h2, h3, h4⟩ := (write_holds n1 n5 n2 ha (s := s) (by omega) (by rw [n3]; decide)).resolve_right (fun q => q.2.1 n3)
  have ok1 := gWrite_ok ok0 (by rw [n2]; decide) (by rw [n4]; decide) a s
  obtain ⟨D1, hd1⟩ : ∃ D1, (gWrite D0 a s).2 = D1 := ⟨_, rfl⟩
  rw [h1, hd1] at HW
  rw [hd1] at h2 h4 ok1
  rw [n4] at h4
  have h6 : cntG s.length ≤ 6 := by unfold cntG; omega
  obtain ⟨E, e, F, f1, f2, f3, f4, f5, f6, f7⟩ := kept14 (b := 1 - a) (t := t) h2 ok1.1 (by omega) ha (by omega) (by omega) (by omega) fz hf2 picks
  have HFU := Lib.hid (fun (w0 w : World) (M : List Ent) (g : Nat) (hS : St [] w0 w (disk g D1 :: M)) => disk_fuse hS fz hf1 hf2)
  rw [f1] at HFU
  have HW2 := Lib.hid (fun (w0 w : World) (M : List Ent) (g : Nat) (hS : St [] w0 w (disk g E :: M)) => gridWrite_any hS f2 (by rw [f3]; decide) (by rw [f4]; omega) (1 - a) (by omega) t (by omega))
  rw [f5, show ((1 - a : Nat) : Int) = 1 - (a : Int) from by omega] at HW2
  have HLD := Lib.hid (fun (G : Dsk) (hG : Kept14 G a s) (w0 w : World) (M : List Ent) (g : Nat) (hS : St [] w0 w (disk g G :: M)) => by
    have h := gridLoad_any hS hG.ok hG.holds.off hG.holds.len a ha s.length (by omega) (sumsN s) (by simp [sumsN]) (sumsV s) (sumsV_N s)
    rw [load_holds hG.holds ha (by omega)] at h
    exact h)
  rw [gSums_ok (by omega)] at HSU
  have ho1 := sums_one s
  have hvl := sumsV_len s
  generalize sumsV s = C at HSU HLD hvl ho1
  obtain ⟨a0, a1, a2, a3, a4, a5, rfl⟩ := six_any hvl
  have HO1 := Lib.hid ho1
  have HF7 := Lib.hid f7
  have HF6 := Lib.hid f6
  clear hb hl n1 n2 n3 n4 n5 ok0 h0 hea f1 f2 f3 f4 f5 f6 f7 h1 h2 h3 h4 ok1 hd1 h6 hvl ho1
  (go_enter Try.func4, Try.ntmps4)
  go_upto_region 9 with (first | (go_at_call 6; refine (HAW.out _).mono ?_; rintro e w' ⟨rfl, h⟩; replace hS := hS.call h; clear h) | (go_at_call 7; refine (HNW.out _ _ _ hS).mono ?_; clear hS; rintro e w' ⟨gd, rfl, hS⟩) | fail)
  rw [HEA.out]
  go_upto_region 14 with (first | go_skip | ((with_reducible refine g_load ?_); refine wl_run rfl (by first | exact a_load1 hS rfl rfl rfl rfl (by (repeat (first | exact Ix.here | apply Ix.there))) (by rfl) | exact a_loadR hS rfl rfl rfl rfl (by (repeat (first | exact Ix.here | apply Ix.there))) (by rfl) | fail) ?_) | ((with_reducible refine g_alloc ?_); refine wl_of rfl ?_; refine wp_alloc hS rfl rfl rfl rfl ?_; clear hS; intro ga w1 hS) | ((with_reducible refine g_store ?_); refine wl_of rfl ?_; refine a_storeA (vs := [a0, a1, a2, a3, a4, a5]) (cs' := [a0, a1, a2, a3, a4, a5]) hS rfl rfl rfl (by rfl) HO1.out (by (repeat (first | exact Sw.here | apply Sw.there))) (by exact Nat.le_refl 6) (by rfl) ?_; clear hS; intro w' hS) | (go_at_call 8; refine (HSU.out _).mono ?_; rintro e w' ⟨rfl, h⟩; replace hS := hS.call h; clear h) | (go_at_call 9; (refine (HW.out _ _ _ _ (hS.out (by first | ((repeat (first | exact Out.here | apply Out.there)); done) | fail))).mono ?_; clear hS; rintro e w' ⟨rfl, hS⟩)) | fail)
  clear HW HSU HNW HAW
  go_wp2_with (fail)
  replace hS : St [] w _ [disk gd D1, .row ga [a0, a1, a2, a3, a4, a5] 29 (0, 0)] := hS
  refine (HFU.out _ _ _ _ hS).mono ?_
  clear hS
  rintro _ w' ⟨rfl, hS⟩
  go_wp2_with (fail)
  replace hS : St [] w _ [disk gd E, .row ga [a0, a1, a2, a3, a4, a5] 29 (0, 0)] := hS
  refine (HW2.out _ _ _ _ hS).mono ?_
  clear hS
  rintro _ w' ⟨rfl, hS⟩
  replace hS : St [] w _ [disk gd F, .row ga [a0, a1, a2, a3, a4, a5] 29 (0, 0)] := hS
  rcases HF7.out with ⟨hof, hk⟩ | ⟨hof, G, hst, hk⟩
  · have HK := Lib.hid hk
    clear hk
    go_wp2_with (fail)
    refine (disk_on hS).mono ?_
    rintro e w' ⟨rfl, rfl⟩
    go_wp2_with (first | go_skip | go_skip | ((with_reducible refine g_load ?_); refine wl_run rfl (by first | exact a_load1 hS rfl rfl rfl rfl (by (repeat (first | exact Ix.here | apply Ix.there))) (by rfl) | exact a_loadR hS rfl rfl rfl rfl (by (repeat (first | exact Ix.here | apply Ix.there))) (by rfl) | fail) ?_) | fail)
    refine (HLD.out F HK.out _ _ _ _ hS).mono ?_
    clear hS
    rintro e w' ⟨v, rfl, hS⟩
    go_wp2_with (first | go_skip | go_skip | ((with_reducible refine g_load ?_); refine wl_run rfl (by first | exact a_load1 hS rfl rfl rfl rfl (by (repeat (first | exact Ix.here | apply Ix.there))) (by rfl) | exact a_loadR hS rfl rfl rfl rfl (by (repeat (first | exact Ix.here | apply Ix.there))) (by rfl) | fail) ?_) | (refine au1 (n := ?_)) | fail)
    go_ret
    exact ⟨rfl, hS.nil⟩
  · have HK := Lib.hid hk
    clear hk
    have HST := Lib.hid (fun (W : World) (M : List Ent) (hS : St [] w W (disk gd F :: M)) => disk_start hS HF6.out vp picks (Reads.old HPP.out) hpk)
    rw [hst] at HST
    go_wp2_with (fail)
    refine (disk_on hS).mono ?_
    rintro e w' ⟨rfl, rfl⟩
    go_wp2_with (fail)
    refine (HST.out _ _ hS).mono ?_
    clear hS
    rintro _ w' ⟨rfl, hS⟩
    replace hS : St [] w _ [disk gd G, .row ga [a0, a1, a2, a3, a4, a5] 29 (0, 0)] := hS
    go_wp2_with (first | go_skip | go_skip | ((with_reducible refine g_load ?_); refine wl_run rfl (by first | exact a_load1 hS rfl rfl rfl rfl (by (repeat (first | exact Ix.here | apply Ix.there))) (by rfl) | exact a_loadR hS rfl rfl rfl rfl (by (repeat (first | exact Ix.here | apply Ix.there))) (by rfl) | fail) ?_) | fail)
    refine (HLD.out G HK.out _ _ _ _ hS).mono ?_
    clear hS
    rintro e w' ⟨v, rfl, hS⟩
    go_wp2_with (first | go_skip | go_skip | ((with_reducible refine g_load ?_); refine wl_run rfl (by first | exact a_load1 hS rfl rfl rfl rfl (by (repeat (first | exact Ix.here | apply Ix.there))) (by rfl) | exact a_loadR hS rfl rfl rfl rfl (by (repeat (first | exact Ix.here | apply Ix.there))) (by rfl) | fail) ?_) | (refine au1 (n := ?_)) | fail)
    go_ret
    exact ⟨rfl, hS.nil⟩
end
end Go.Proofs.Ytghnfocajnlfhaa
