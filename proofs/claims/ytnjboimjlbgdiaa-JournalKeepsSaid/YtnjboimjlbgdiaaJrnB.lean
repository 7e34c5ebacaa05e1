/-
  A journal: an operation is not kept any more.
  A journal: another checkpoint.
  A journal: an operation's entry is read.
  A journal's disk is laid void.
  A disk's journal is opened.
-/
import Derived.Test.YtnjboimjlbgdiaaJrn5
import Derived.Test.YtnjboimjlbgdiaaJrnP
import Derived.Deep.DeepCutAuto
import Derived.Deep.CutBlock
set_option linter.unusedSimpArgs false
set_option linter.unusedVariables false
set_option linter.unusedSectionVars false
set_option maxRecDepth 100000
namespace Go.Proofs.Ytnjboimjlbgdiaa
open Go.RowKit Go.Cmp

section
variable {S : List Nat} {w0 w : World} {M : List Ent} {g gj : Nat} {D : Dsk} {J : Jrn}
theorem zeroI_cells : zeroI.cells = [.int .i64 0, .int .i64 0, .int .i64 0, .int .i64 0, .int .u64 0, .int .u64 0, .int .i64 0, .int .i64 0, .int .i64 0, .int .u64 0, .int .i64 0, .int .i64 0, .int .i64 0, .int .i64 0, .string ⟨#[]⟩] := rfl
set_option maxHeartbeats 32000000 in
theorem jrnVoid_any (hS : St S w0 w (disk g D :: .row gj (jcells g J) 68 (0, 0) :: M)) (hD : D.Ok) (hw : D.way.length + 3 < 1000000) (hs : D.steps + 8 < 1000000000) (hJl : J.items.length = 8) (hJc : J.check ≤ 72057594037927935) (n : Int) (hn : n ≤ 9223372036854775807) :
    Calls Try.prog 10 #[.pointer (some ⟨gj, 0, none⟩), .int .i64 n] w fun x w' => x = .returned (.int .i64 (voidJ D J n).1) ∧ St S w0 w' (disk g (voidJ D J n).2.2 :: .row gj (jcells g (voidJ D J n).2.1) 68 (0, 0) :: M) := by
  have HI := Lib.hid (fun (W : World) (M : List Ent) (hS : St S w0 W (.row gj (jcells g J) 68 (0, 0) :: M)) => jrnIn_any hS n hn)
  cases hh : J.has n
  · have hv : voidJ D J n = (1, J, D) := by unfold voidJ; rw [if_pos hh]
    rw [hv]
    rw [hh] at HI
    clear hv hh
    (go_enter Try.func10, Try.ntmps10)
    go_wp2_with (first | go_skip | (go_at_call 28; refine (HI.out _ _ (hS.out (by first | ((repeat (first | exact Out.here | apply Out.there)); done) | fail))).mono ?_; rintro e9 w' ⟨rfl, rfl⟩) | fail)
    go_ret
    exact ⟨rfl, hS.pick⟩
  rw [hh] at HI
  obtain ⟨h0, hs8, _⟩ := J.opAt_of hh
  obtain ⟨m, hm⟩ := Int.eq_ofNat_of_zero_le (Int.le_of_lt h0)
  have hv0 : voidJ D J n = if (J.item n).kind = 0 then (0, J, D) else if (voidDo D J n).1 ≠ 0 then ((voidDo D J n).1, J, (voidDo D J n).2) else (0, J.put n zeroI, (voidDo D J n).2) := by
    unfold voidJ
    rw [if_neg (by rw [hh]; simp)]
  have hd0 : voidDo D J n = if (J.item n).kind = 3 then thenD (layV D (prepN n)) (fun D => layV D (hdrN n)) else thenD (layV D (hdrN n)) (fun D => layV D (prepN n)) := rfl
  obtain ⟨s, hms⟩ : ∃ s, m % 8 = s := ⟨_, rfl⟩
  have hs8 : s < 8 := by omega
  have hx := J.item_at hms
  rw [← hm] at hx
  have hset : J.put n zeroI = { J with items := J.items.set s zeroI } := by
    unfold Jrn.put
    rw [show (n % 8).toNat = s from by omega]
  rw [hset] at hv0
  have hmn : m ≤ 1000000000000000000 := by
    unfold Jrn.has at hh
    simp only [Bool.and_eq_true, decide_eq_true_eq] at hh
    omega
  have HP := Lib.hid (fun (W : World) (M : List Ent) (hS : St S w0 W (.row gj (jcells g J) 68 (0, 0) :: M)) => jrnItemP_any hS m s hms)
  have HHD := Lib.hid (fun w => jrnHdr_any m hmn w)
  have HPR := Lib.hid (fun w => jrnPrep_any m hmn w)
  rw [← hm] at HP HHD HPR
  have HCS := Lib.hid (jc_set (gd := g) hJl hs8 zeroI)
  have HK := Lib.hid (jc_kind (gd := g) hJl hs8)
  have HJL := Lib.hid (jc_len (gd := g) hJl)
  have HLV := Lib.hid (fun (E : Dsk) (hE : E.Ok) (hw : E.way.length < 1000000) (hs : E.steps < 1000000000) (i : Int) (S : List Nat) (w0 W : World) (M : List Ent) (hS : St S w0 W (disk g E :: M)) => jrnLayV hS hE hw hs i)
  rw [hx] at hv0 hd0
  generalize nth J.items s = x at HK hv0 hd0
  obtain ⟨kd, hkd⟩ : ∃ kd, x.kind = kd := ⟨_, rfl⟩
  rw [hkd] at HK hv0 hd0
  generalize hdrN n = kh at HHD hd0
  generalize prepN n = kp at HPR hd0
  have HV := Lib.hid hv0
  have HD0 := Lib.hid hd0
  clear hv0 hd0 hm hms hx hset hh h0 hkd
  by_cases k0 : kd = 0
  · subst k0
    have hv : voidJ D J n = (0, J, D) := by rw [HV.out, if_pos rfl]
    rw [hv]
    (go_enter Try.func10, Try.ntmps10)
    go_wp2_with (first | go_skip | (go_at_call 28; refine (HI.out _ _ (hS.out (by first | ((repeat (first | exact Out.here | apply Out.there)); done) | fail))).mono ?_; rintro e9 w' ⟨rfl, rfl⟩) | (go_at_call 29; refine (HP.out _ _ (hS.out (by first | ((repeat (first | exact Out.here | apply Out.there)); done) | fail))).mono ?_; rintro e9 w' ⟨rfl, rfl⟩) | (go_at_call 33; refine (HHD.out _).mono ?_; rintro e9 w' ⟨rfl, rfl⟩) | (go_at_call 30; refine (HPR.out _).mono ?_; rintro e9 w' ⟨rfl, rfl⟩) | ((with_reducible refine g_load ?_); refine wl_run rfl (by first | exact a_load1 hS (off := 0) rfl rfl rfl rfl (by (repeat (first | exact Ix.here | apply Ix.there))) (by rfl) | exact a_load1 hS (off := 2 + s * 15) rfl rfl rfl rfl (by (repeat (first | exact Ix.here | apply Ix.there))) HK.out) ?_) | fail)
    go_ret
    exact ⟨rfl, hS.pick⟩
  have b0 : (kd == 0) = false := by rw [beq_eq_false_iff_ne]; exact k0
  by_cases k3 : kd = 3
  · subst k3
    have ok1 := layD_ok hD (by omega) (by omega) kp voidS
    have hl1 : layV D kp = layD D kp voidS := rfl
    rw [← hl1] at ok1
    have HL1 := Lib.hid (HLV.out D hD (by omega) (by omega) kp)
    obtain ⟨L1, h1⟩ : ∃ L, layV D kp = L := ⟨_, rfl⟩
    rw [h1] at HL1 ok1
    obtain ⟨er1, D1⟩ := L1
    simp only at HL1 ok1
    have H1 := Lib.hid h1
    clear h1 hl1
    have HL2 := Lib.hid (HLV.out D1 ok1.1 (by omega) (by omega) kh)
    obtain ⟨L2, h2⟩ : ∃ L, layV D1 kh = L := ⟨_, rfl⟩
    rw [h2] at HL2
    obtain ⟨er2, D2⟩ := L2
    simp only at HL2
    have H2 := Lib.hid h2
    clear h2 HLV ok1
    (go_enter Try.func10, Try.ntmps10)
    go_wp2_with (first | go_skip | (go_at_call 28; refine (HI.out _ _ (hS.out (by first | ((repeat (first | exact Out.here | apply Out.there)); done) | fail))).mono ?_; rintro e9 w' ⟨rfl, rfl⟩) | (go_at_call 29; refine (HP.out _ _ (hS.out (by first | ((repeat (first | exact Out.here | apply Out.there)); done) | fail))).mono ?_; rintro e9 w' ⟨rfl, rfl⟩) | (go_at_call 33; refine (HHD.out _).mono ?_; rintro e9 w' ⟨rfl, rfl⟩) | (go_at_call 30; refine (HPR.out _).mono ?_; rintro e9 w' ⟨rfl, rfl⟩) | ((with_reducible refine g_load ?_); refine wl_run rfl (by first | exact a_load1 hS (off := 0) rfl rfl rfl rfl (by (repeat (first | exact Ix.here | apply Ix.there))) (by rfl) | exact a_load1 hS (off := 2 + s * 15) rfl rfl rfl rfl (by (repeat (first | exact Ix.here | apply Ix.there))) HK.out) ?_) | fail)
    refine (HL1.out _ _ _ _ (hS.pick : St S w0 _ (disk g D :: .row gj (jcells g J) 68 (0, 0) :: M))).mono ?_
    clear hS
    rintro _ w' ⟨rfl, hS⟩
    by_cases he1 : er1 = 0
    · subst he1
      go_wp2_with (first | go_skip | ((with_reducible refine g_load ?_); refine wl_run rfl (by first | exact a_load1 hS (off := 0) rfl rfl rfl rfl (by (repeat (first | exact Ix.here | apply Ix.there))) (by rfl) | exact a_load1 hS (off := 2 + s * 15) rfl rfl rfl rfl (by (repeat (first | exact Ix.here | apply Ix.there))) HK.out) ?_) | fail)
      refine (HL2.out _ _ _ _ hS).mono ?_
      clear hS
      rintro _ w' ⟨rfl, hS⟩
      by_cases he2 : er2 = 0
      · subst he2
        go_wp2_with (first | go_skip | ((with_reducible refine g_store ?_); refine wl_of rfl ?_; refine a_storeA (vs := zeroI.cells) (off := 2 + s * 15) hS rfl rfl rfl (by rfl) (it_one _) (by (repeat (first | exact Sw.here | apply Sw.there))) (by rw [HJL.out]; show 2 + s * 15 + 15 ≤ 122; omega) HCS.out ?_; clear hS; intro w' hS) | fail)
        go_ret
        have hv : voidJ D J n = (0, { J with items := J.items.set s zeroI }, D2) := by rw [HV.out, HD0.out]; simp [thenD, H1.out, H2.out]
        rw [hv]
        exact ⟨rfl, hS.pick⟩
      · have he21 : (er2 != 0) = true := by simpa using he2
        go_wp2_with (fail)
        go_ret
        have hv : voidJ D J n = (er2, J, D2) := by rw [HV.out, HD0.out]; simp [thenD, H1.out, H2.out, he2]
        rw [hv]
        exact ⟨rfl, hS.pick⟩
    · have he11 : (er1 != 0) = true := by simpa using he1
      go_wp2_with (fail)
      go_ret
      have hv : voidJ D J n = (er1, J, D1) := by rw [HV.out, HD0.out]; simp [thenD, H1.out, he1]
      rw [hv]
      exact ⟨rfl, hS.pick⟩
  · have b3 : (kd == 3) = false := by rw [beq_eq_false_iff_ne]; exact k3
    have ok1 := layD_ok hD (by omega) (by omega) kh voidS
    have hl1 : layV D kh = layD D kh voidS := rfl
    rw [← hl1] at ok1
    have HL1 := Lib.hid (HLV.out D hD (by omega) (by omega) kh)
    obtain ⟨L1, h1⟩ : ∃ L, layV D kh = L := ⟨_, rfl⟩
    rw [h1] at HL1 ok1
    obtain ⟨er1, D1⟩ := L1
    simp only at HL1 ok1
    have H1 := Lib.hid h1
    clear h1 hl1
    have HL2 := Lib.hid (HLV.out D1 ok1.1 (by omega) (by omega) kp)
    obtain ⟨L2, h2⟩ : ∃ L, layV D1 kp = L := ⟨_, rfl⟩
    rw [h2] at HL2
    obtain ⟨er2, D2⟩ := L2
    simp only at HL2
    have H2 := Lib.hid h2
    clear h2 HLV ok1
    (go_enter Try.func10, Try.ntmps10)
    go_wp2_with (first | go_skip | (go_at_call 28; refine (HI.out _ _ (hS.out (by first | ((repeat (first | exact Out.here | apply Out.there)); done) | fail))).mono ?_; rintro e9 w' ⟨rfl, rfl⟩) | (go_at_call 29; refine (HP.out _ _ (hS.out (by first | ((repeat (first | exact Out.here | apply Out.there)); done) | fail))).mono ?_; rintro e9 w' ⟨rfl, rfl⟩) | (go_at_call 33; refine (HHD.out _).mono ?_; rintro e9 w' ⟨rfl, rfl⟩) | (go_at_call 30; refine (HPR.out _).mono ?_; rintro e9 w' ⟨rfl, rfl⟩) | ((with_reducible refine g_load ?_); refine wl_run rfl (by first | exact a_load1 hS (off := 0) rfl rfl rfl rfl (by (repeat (first | exact Ix.here | apply Ix.there))) (by rfl) | exact a_load1 hS (off := 2 + s * 15) rfl rfl rfl rfl (by (repeat (first | exact Ix.here | apply Ix.there))) HK.out) ?_) | fail)
    refine (HL1.out _ _ _ _ (hS.pick : St S w0 _ (disk g D :: .row gj (jcells g J) 68 (0, 0) :: M))).mono ?_
    clear hS
    rintro _ w' ⟨rfl, hS⟩
    by_cases he1 : er1 = 0
    · subst he1
      go_wp2_with (first | go_skip | ((with_reducible refine g_load ?_); refine wl_run rfl (by first | exact a_load1 hS (off := 0) rfl rfl rfl rfl (by (repeat (first | exact Ix.here | apply Ix.there))) (by rfl) | exact a_load1 hS (off := 2 + s * 15) rfl rfl rfl rfl (by (repeat (first | exact Ix.here | apply Ix.there))) HK.out) ?_) | fail)
      refine (HL2.out _ _ _ _ hS).mono ?_
      clear hS
      rintro _ w' ⟨rfl, hS⟩
      by_cases he2 : er2 = 0
      · subst he2
        go_wp2_with (first | go_skip | ((with_reducible refine g_store ?_); refine wl_of rfl ?_; refine a_storeA (vs := zeroI.cells) (off := 2 + s * 15) hS rfl rfl rfl (by rfl) (it_one _) (by (repeat (first | exact Sw.here | apply Sw.there))) (by rw [HJL.out]; show 2 + s * 15 + 15 ≤ 122; omega) HCS.out ?_; clear hS; intro w' hS) | fail)
        go_ret
        have hv : voidJ D J n = (0, { J with items := J.items.set s zeroI }, D2) := by rw [HV.out, HD0.out]; simp [k0, k3, thenD, H1.out, H2.out]
        rw [hv]
        exact ⟨rfl, hS.pick⟩
      · have he21 : (er2 != 0) = true := by simpa using he2
        go_wp2_with (fail)
        go_ret
        have hv : voidJ D J n = (er2, J, D2) := by rw [HV.out, HD0.out]; simp [k0, k3, thenD, H1.out, H2.out, he2]
        rw [hv]
        exact ⟨rfl, hS.pick⟩
    · have he11 : (er1 != 0) = true := by simpa using he1
      go_wp2_with (fail)
      go_ret
      have hv : voidJ D J n = (er1, J, D1) := by rw [HV.out, HD0.out]; simp [k0, k3, thenD, H1.out, he1]
      rw [hv]
      exact ⟨rfl, hS.pick⟩
end
end Go.Proofs.Ytnjboimjlbgdiaa
namespace Go.Cmp
open Go.RowKit
theorem shiftTo_len (J : Jrn) (c : Int) (k : Nat) : (shiftTo J c k).length = 8 := by simp [shiftTo]
theorem shiftTo_zero (J : Jrn) (c : Int) (h : J.items.length = 8) : shiftTo J c 0 = J.items := by
  apply List.ext_getElem?
  intro i
  unfold shiftTo
  rw [List.getElem?_map]
  rcases Nat.lt_or_ge i 8 with hi | hi
  · rw [List.getElem?_range hi]
    simp only [Option.map_some]
    rw [if_neg (by omega)]
    exact (get_lt (by omega)).symm
  · rw [List.getElem?_eq_none (by simpa using hi), List.getElem?_eq_none (by omega)]
    rfl
theorem shiftTo_step (J : Jrn) (c : Int) {k : Nat} (hk : k < 8) : shiftTo J c (k + 1) = if (J.opAt k : Int) ≤ c then (shiftTo J c k).set k zeroI else shiftTo J c k := by
  apply List.ext_getElem?
  intro i
  have e : ∀ j, (shiftTo J c j)[i]? = if i < 8 then some (if i < j ∧ (J.opAt i : Int) ≤ c then zeroI else nth J.items i) else none := by
    intro j
    unfold shiftTo
    rw [List.getElem?_map]
    rcases Nat.lt_or_ge i 8 with hi | hi
    · rw [List.getElem?_range hi, if_pos hi]; rfl
    · rw [List.getElem?_eq_none (by simpa using hi), if_neg (by omega)]; rfl
  by_cases hc : (J.opAt k : Int) ≤ c
  · rw [if_pos hc, e]
    by_cases hik : i = k
    · subst hik
      rw [List.getElem?_set_self (by rw [shiftTo_len]; exact hk), if_pos hk, if_pos ⟨by omega, hc⟩]
    · rw [List.getElem?_set_ne (fun h => hik h.symm), e]
      by_cases hi : i < 8
      · rw [if_pos hi, if_pos hi]
        by_cases hl : i < k
        · have : i < k + 1 := by omega
          simp [hl, this]
        · have : ¬ i < k + 1 := by omega
          simp [hl, this]
      · rw [if_neg hi, if_neg hi]
  · rw [if_neg hc, e, e]
    by_cases hi : i < 8
    · rw [if_pos hi, if_pos hi]
      by_cases hl : i < k
      · have : i < k + 1 := by omega
        simp [hl, this]
      · by_cases hik : i = k
        · subst hik
          simp [hc]
        · have : ¬ i < k + 1 := by omega
          simp [hl, this]
    · rw [if_neg hi, if_neg hi]
end Go.Cmp
namespace Go.Proofs.Ytnjboimjlbgdiaa
open Go.RowKit Go.Cmp

section
variable {S : List Nat} {w0 w : World} {M : List Ent} {g gj : Nat} {D : Dsk} {J : Jrn}
def mayB (c : Int) : Bool := decide (0 ≤ c) && decide (c ≤ 72057594037927927)
set_option maxHeartbeats 4000000 in
theorem jrnMay_any (c : Int) (w : World) : Calls Try.prog 37 #[.int .i64 c] w fun e w' => e = .returned (.bool (mayB c)) ∧ w' = w := by
  by_cases h1 : 0 ≤ c
  · have e : mayB c = decide (c ≤ 72057594037927927) := by unfold mayB; simp [h1]
    rw [e]
    clear e
    (go_enter Try.func37, Try.ntmps37)
    go_wp2_with (first | go_skip | fail)
    go_ret
    exact ⟨rfl, rfl⟩
  · have e : mayB c = false := by unfold mayB; simp [h1]
    rw [e]
    clear e
    (go_enter Try.func37, Try.ntmps37)
    go_wp2_with (first | go_skip | fail)
    go_ret
    exact ⟨rfl, rfl⟩
set_option maxHeartbeats 16000000 in
theorem jrnShift_any (hS : St S w0 w (.row gj (jcells g J) 68 (0, 0) :: M)) (hJl : J.items.length = 8) (hJc : J.check ≤ 72057594037927935) (c : Int) :
    Calls Try.prog 11 #[.pointer (some ⟨gj, 0, none⟩), .int .i64 c] w fun x w' => x = .returned (.int .i64 (shiftJ J c).1) ∧ St S w0 w' (.row gj (jcells g (shiftJ J c).2) 68 (0, 0) :: M) := by
  have HMA := Lib.hid (fun w => jrnMay_any c w)
  by_cases h1 : c < J.check
  · have hv : shiftJ J c = (1, J) := by unfold shiftJ; rw [if_pos (.inl h1)]
    rw [hv]
    clear hv
    (go_enter Try.func11, Try.ntmps11)
    go_wp2_with (first | go_skip | ((with_reducible refine g_load ?_); refine wl_run rfl (by first | exact a_load1 hS rfl rfl rfl rfl (by (repeat (first | exact Ix.here | apply Ix.there))) (by rfl) | exact a_loadR hS rfl rfl rfl rfl (by (repeat (first | exact Ix.here | apply Ix.there))) (by rfl) | fail) ?_) | fail)
    go_ret
    exact ⟨rfl, hS⟩
  by_cases h2 : 72057594037927927 < c
  · have hv : shiftJ J c = (1, J) := by unfold shiftJ; rw [if_pos (.inr h2)]
    have hm : mayB c = false := by unfold mayB; simp; omega
    rw [hv]
    rw [hm] at HMA
    clear hv hm
    (go_enter Try.func11, Try.ntmps11)
    go_wp2_with (first | go_skip | ((with_reducible refine g_load ?_); refine wl_run rfl (by first | exact a_load1 hS rfl rfl rfl rfl (by (repeat (first | exact Ix.here | apply Ix.there))) (by rfl) | exact a_loadR hS rfl rfl rfl rfl (by (repeat (first | exact Ix.here | apply Ix.there))) (by rfl) | fail) ?_) | (go_at_call 37; refine (HMA.out _).mono ?_; rintro e w' ⟨rfl, rfl⟩) | fail)
    go_ret
    exact ⟨rfl, hS⟩
  have hv : shiftJ J c = (0, ⟨c.toNat, shiftTo J c 8⟩) := by unfold shiftJ; rw [if_neg (by omega)]
  have hm : mayB c = true := by unfold mayB; simp; omega
  rw [hv]
  rw [hm] at HMA
  obtain ⟨m, rfl⟩ := Int.eq_ofNat_of_zero_le (show 0 ≤ c by omega)
  rw [Int.toNat_natCast]
  have HSH := Lib.hid (fun k (hk : k < 8) => shiftTo_step J (m : Int) hk)
  have HSL := Lib.hid (shiftTo_len J (m : Int))
  have h0 := shiftTo_zero J (m : Int) hJl
  have HOP := Lib.hid (fun (L : List It) (s : Nat) (hs : s < 8) (W : World) (M : List Ent) (hS : St S w0 W (.row gj (jcells g ⟨J.check, L⟩) 68 (0, 0) :: M)) => jrnOp_any (J := ⟨J.check, L⟩) hS hJc s hs)
  have HOE : Hid (∀ (L : List It) (s : Nat), Jrn.opAt ⟨J.check, L⟩ s = J.opAt s) := Lib.hid (fun _ _ => rfl)
  have hJe : J = ⟨J.check, shiftTo J (m : Int) 0⟩ := by rw [h0]
  clear hv hm h0
  replace hS : St S w0 w (.row gj (jcells g ⟨J.check, shiftTo J (m : Int) 0⟩) 68 (0, 0) :: M) := by rw [← hJe]; exact hS
  clear hJe hJl
  generalize hso : shiftTo J (m : Int) = sh at hS HSH HSL ⊢
  generalize hop : J.opAt = opf at HSH HOE
  generalize hck : J.check = ck at hS HOP HOE h1 ⊢ hJc
  clear hso hop hck
  (go_enter Try.func11, Try.ntmps11)
  go_wp2_with (first | go_skip | ((with_reducible refine g_load ?_); refine wl_run rfl (by first | exact a_load1 hS rfl rfl rfl rfl (by (repeat (first | exact Ix.here | apply Ix.there))) (by rfl) | exact a_loadR hS rfl rfl rfl rfl (by (repeat (first | exact Ix.here | apply Ix.there))) (by rfl) | fail) ?_) | (go_at_call 37; refine (HMA.out _).mono ?_; rintro e w' ⟨rfl, rfl⟩) | fail)
  go_loopw [21] (fun v wz => ∃ k : Nat, k ≤ 8 ∧ v = .int .i64 (k : Int) ∧ St S w0 wz (.row gj (jcells g ⟨ck, sh k⟩) 68 (0, 0) :: M)) (fun v _ => 8 - (intOf v).toNat)
  case atStart => exact ⟨0, by omega, rfl, hS⟩
  case round =>
    clear hS
    obtain ⟨k, hk, rfl, hS⟩ := hrel
    by_cases hk8 : k < 8
    · have hk81 : (k : Int) < 8 := by omega
      have HO := Lib.hid (HOP.out (sh k) k hk8)
      rw [HOE.out] at HO
      have hst := HSH.out k hk8
      by_cases hc : (opf k : Int) ≤ (m : Int)
      · have HN : Hid (sh (k + 1) = (sh k).set k zeroI) := Lib.hid (by rw [hst, if_pos hc])
        have HCS := Lib.hid (jc_set (gd := g) (J := ⟨ck, sh k⟩) (HSL.out k) hk8 zeroI)
        have HJL := Lib.hid (jc_len (gd := g) (J := ⟨ck, sh k⟩) (HSL.out k))
        clear hst
        go_wp2_with (first | go_skip | (go_at_call 38; (refine (HO.out _ _ hS).mono ?_; clear hS; rintro e w' ⟨rfl, hS⟩)) | ((with_reducible refine g_store ?_); refine wl_of rfl ?_; refine a_storeA (vs := zeroI.cells) (off := 2 + k * 15) hS rfl rfl rfl (by rfl) (it_one _) (by (repeat (first | exact Sw.here | apply Sw.there))) (by rw [HJL.out]; show 2 + k * 15 + 15 ≤ 122; omega) HCS.out ?_; clear hS; intro w' hS) | fail)
        exact ⟨⟨k + 1, by omega, by simp, by rw [HN.out]; exact hS⟩, by simp [intOf]; omega⟩
      · have HN : Hid (sh (k + 1) = sh k) := Lib.hid (by rw [hst, if_neg hc])
        clear hst
        go_wp2_with (first | go_skip | (go_at_call 38; (refine (HO.out _ _ hS).mono ?_; clear hS; rintro e w' ⟨rfl, hS⟩)) | fail)
        exact ⟨⟨k + 1, by omega, by simp, by rw [HN.out]; exact hS⟩, by simp [intOf]; omega⟩
    · obtain rfl : k = 8 := by omega
      go_wp2_with (first | go_skip | ((with_reducible refine g_store ?_); refine wl_of rfl ?_; refine a_store1 (v := .int .i64 (m : Int)) (cs' := jcells g ⟨m, sh 8⟩) hS rfl rfl rfl rfl rfl rfl (by (repeat (first | exact Sw.here | apply Sw.there))) (by rw [jc_len (HSL.out 8)]; decide) (by rfl) ?_; clear hS; intro w' hS) | fail)
      go_ret
      exact ⟨rfl, hS⟩
end
end Go.Proofs.Ytnjboimjlbgdiaa
namespace Go.Proofs.Ytnjboimjlbgdiaa
open Go.RowKit Go.Cmp

section
variable {S : List Nat} {w0 w : World} {M : List Ent} {g gj : Nat} {D : Dsk} {J : Jrn}
set_option maxHeartbeats 32000000 in
theorem jrnRead_any (hS : St S w0 w (disk g D :: .row gj (jcells g J) 68 (0, 0) :: M)) (hD : D.Ok) (hJl : J.items.length = 8) (hJc : J.check ≤ 72057594037927935) (n : Int) (hn : n ≤ 9223372036854775807) (hr1 : (D.read (prepN n)).2 = 0) :
    Calls Try.prog 8 #[.pointer (some ⟨gj, 0, none⟩), .int .i64 n] w fun x w' => x = .returned (.tuple #[.agg (readJ D J n).1.cells.toArray, .int .i64 (readJ D J n).2.1]) ∧ St S w0 w' (disk g D :: .row gj (jcells g (readJ D J n).2.2) 68 (0, 0) :: M) := by
  have HI := Lib.hid (fun (W : World) (M : List Ent) (hS : St S w0 W (.row gj (jcells g J) 68 (0, 0) :: M)) => jrnIn_any hS n hn)
  cases hh : J.has n
  · have hv : readJ D J n = (zeroE, 1, J) := by unfold readJ; rw [if_pos hh]
    rw [hv]
    rw [hh] at HI
    clear hv hh
    (go_enter Try.func8, Try.ntmps8)
    go_wp2_with (first | go_skip | ((with_reducible refine g_alloc ?_); refine wl_of rfl ?_; refine wp_alloc hS rfl rfl rfl rfl ?_; clear hS; intro ga w1 hS) | (go_at_call 28; refine (HI.out _ _ (hS.out (by first | ((repeat (first | exact Out.here | apply Out.there)); done) | fail))).mono ?_; rintro e9 w' ⟨rfl, rfl⟩) | (go_at_call 29; refine (HP.out _ _ (hS.out (by first | ((repeat (first | exact Out.here | apply Out.there)); done) | fail))).mono ?_; rintro e9 w' ⟨rfl, rfl⟩) | ((with_reducible refine g_load ?_); refine wl_run rfl (by exact a_load1 hS (off := 2 + s * 15) rfl rfl rfl rfl (by (repeat (first | exact Ix.here | apply Ix.there))) HK.out) ?_) | ((with_reducible refine g_store ?_); refine wl_of rfl ?_; refine a_storeA (vs := zeroE.cells) (cs' := zeroE.cells) hS rfl rfl rfl (by rfl) (en_one _) (by (repeat (first | exact Sw.here | apply Sw.there))) (by exact Nat.le_refl 9) (by rfl) ?_; clear hS; intro w' hS) | fail)
    exact end_cell2 hS rfl rfl rfl rfl rfl rfl (h := ⟨rfl, hS.pick⟩)
  rw [hh] at HI
  obtain ⟨h0, hs8, _⟩ := J.opAt_of hh
  obtain ⟨m, hm⟩ := Int.eq_ofNat_of_zero_le (Int.le_of_lt h0)
  have hv0 : readJ D J n = if (J.item n).kind = 0 then (zeroE, 8, J) else if (J.item n).kind = 2 ∨ (J.item n).kind = 3 then (zeroE, 11, J) else if (D.read (prepN n)).2 ≠ 0 then (zeroE, (D.read (prepN n)).2, J) else if (entP (D.read (prepN n)).1).2.1 = false ∨ stubE (entP (D.read (prepN n)).1).1 ≠ (J.item n).stub then (zeroE, 11, J.put n ⟨2, (J.item n).stub, zeroE⟩) else ((entP (D.read (prepN n)).1).1, 0, J) := by
    unfold readJ
    rw [if_neg (by rw [hh]; simp)]
  obtain ⟨s, hms⟩ : ∃ s, m % 8 = s := ⟨_, rfl⟩
  have hs8 : s < 8 := by omega
  have hx := J.item_at hms
  rw [← hm] at hx
  have hset : ∀ y, J.put n y = { J with items := J.items.set s y } := by
    intro y
    unfold Jrn.put
    rw [show (n % 8).toNat = s from by omega]
  rw [hset, hx] at hv0
  have hmn : m ≤ 1000000000000000000 := by
    unfold Jrn.has at hh
    simp only [Bool.and_eq_true, decide_eq_true_eq] at hh
    omega
  have HP := Lib.hid (fun (W : World) (M : List Ent) (hS : St S w0 W (.row gj (jcells g J) 68 (0, 0) :: M)) => jrnItemP_any hS m s hms)
  have HPR := Lib.hid (fun w => jrnPrep_any m hmn w)
  rw [← hm] at HP HPR
  have HCS := Lib.hid (fun y => jc_set (gd := g) hJl hs8 y)
  have HK := Lib.hid (jc_kind (gd := g) hJl hs8)
  have HSB := Lib.hid (jc_stub (gd := g) hJl hs8)
  have HJL := Lib.hid (jc_len (gd := g) hJl)
  have HR1 := Lib.hid (fun (S : List Nat) (w0 W : World) (M : List Ent) (hS : St S w0 W (disk g D :: M)) => disk_read hS hD (prepN n))
  have hrl := Dsk.read_lenJ hD (prepN n)
  generalize nth J.items s = x at HK HSB hv0
  obtain ⟨kd, hkd⟩ : ∃ kd, x.kind = kd := ⟨_, rfl⟩
  rw [hkd] at HK hv0
  generalize prepN n = kp at HPR hv0 HR1 hrl hr1
  obtain ⟨Q, hQ⟩ : ∃ Q, D.read kp = Q := ⟨_, rfl⟩
  rw [hQ] at HR1 hr1 hrl hv0
  obtain ⟨p, er⟩ := Q
  simp only at hr1 hrl HR1 hv0
  subst hr1
  have HV := Lib.hid hv0
  clear hv0 hm hms hx hset hh h0 hkd hQ
  by_cases k0 : kd = 0
  · subst k0
    have hv : readJ D J n = (zeroE, 8, J) := by rw [HV.out, if_pos rfl]
    rw [hv]
    (go_enter Try.func8, Try.ntmps8)
    go_wp2_with (first | go_skip | ((with_reducible refine g_alloc ?_); refine wl_of rfl ?_; refine wp_alloc hS rfl rfl rfl rfl ?_; clear hS; intro ga w1 hS) | (go_at_call 28; refine (HI.out _ _ (hS.out (by first | ((repeat (first | exact Out.here | apply Out.there)); done) | fail))).mono ?_; rintro e9 w' ⟨rfl, rfl⟩) | (go_at_call 29; refine (HP.out _ _ (hS.out (by first | ((repeat (first | exact Out.here | apply Out.there)); done) | fail))).mono ?_; rintro e9 w' ⟨rfl, rfl⟩) | ((with_reducible refine g_load ?_); refine wl_run rfl (by exact a_load1 hS (off := 2 + s * 15) rfl rfl rfl rfl (by (repeat (first | exact Ix.here | apply Ix.there))) HK.out) ?_) | ((with_reducible refine g_store ?_); refine wl_of rfl ?_; refine a_storeA (vs := zeroE.cells) (cs' := zeroE.cells) hS rfl rfl rfl (by rfl) (en_one _) (by (repeat (first | exact Sw.here | apply Sw.there))) (by exact Nat.le_refl 9) (by rfl) ?_; clear hS; intro w' hS) | fail)
    exact end_cell2 hS rfl rfl rfl rfl rfl rfl (h := ⟨rfl, hS.pick⟩)
  have b0 : (kd == 0) = false := by rw [beq_eq_false_iff_ne]; exact k0
  by_cases k2 : kd = 2
  · subst k2
    have hv : readJ D J n = (zeroE, 11, J) := by rw [HV.out, if_neg (by decide), if_pos (.inl rfl)]
    rw [hv]
    (go_enter Try.func8, Try.ntmps8)
    go_wp2_with (first | go_skip | ((with_reducible refine g_alloc ?_); refine wl_of rfl ?_; refine wp_alloc hS rfl rfl rfl rfl ?_; clear hS; intro ga w1 hS) | (go_at_call 28; refine (HI.out _ _ (hS.out (by first | ((repeat (first | exact Out.here | apply Out.there)); done) | fail))).mono ?_; rintro e9 w' ⟨rfl, rfl⟩) | (go_at_call 29; refine (HP.out _ _ (hS.out (by first | ((repeat (first | exact Out.here | apply Out.there)); done) | fail))).mono ?_; rintro e9 w' ⟨rfl, rfl⟩) | ((with_reducible refine g_load ?_); refine wl_run rfl (by exact a_load1 hS (off := 2 + s * 15) rfl rfl rfl rfl (by (repeat (first | exact Ix.here | apply Ix.there))) HK.out) ?_) | ((with_reducible refine g_store ?_); refine wl_of rfl ?_; refine a_storeA (vs := zeroE.cells) (cs' := zeroE.cells) hS rfl rfl rfl (by rfl) (en_one _) (by (repeat (first | exact Sw.here | apply Sw.there))) (by exact Nat.le_refl 9) (by rfl) ?_; clear hS; intro w' hS) | fail)
    exact end_cell2 hS rfl rfl rfl rfl rfl rfl (h := ⟨rfl, hS.pick⟩)
  have b2 : (kd == 2) = false := by rw [beq_eq_false_iff_ne]; exact k2
  by_cases k3 : kd = 3
  · subst k3
    have hv : readJ D J n = (zeroE, 11, J) := by rw [HV.out, if_neg (by decide), if_pos (.inr rfl)]
    rw [hv]
    (go_enter Try.func8, Try.ntmps8)
    go_wp2_with (first | go_skip | ((with_reducible refine g_alloc ?_); refine wl_of rfl ?_; refine wp_alloc hS rfl rfl rfl rfl ?_; clear hS; intro ga w1 hS) | (go_at_call 28; refine (HI.out _ _ (hS.out (by first | ((repeat (first | exact Out.here | apply Out.there)); done) | fail))).mono ?_; rintro e9 w' ⟨rfl, rfl⟩) | (go_at_call 29; refine (HP.out _ _ (hS.out (by first | ((repeat (first | exact Out.here | apply Out.there)); done) | fail))).mono ?_; rintro e9 w' ⟨rfl, rfl⟩) | ((with_reducible refine g_load ?_); refine wl_run rfl (by exact a_load1 hS (off := 2 + s * 15) rfl rfl rfl rfl (by (repeat (first | exact Ix.here | apply Ix.there))) HK.out) ?_) | ((with_reducible refine g_store ?_); refine wl_of rfl ?_; refine a_storeA (vs := zeroE.cells) (cs' := zeroE.cells) hS rfl rfl rfl (by rfl) (en_one _) (by (repeat (first | exact Sw.here | apply Sw.there))) (by exact Nat.le_refl 9) (by rfl) ?_; clear hS; intro w' hS) | fail)
    exact end_cell2 hS rfl rfl rfl rfl rfl rfl (h := ⟨rfl, hS.pick⟩)
  have b3 : (kd == 3) = false := by rw [beq_eq_false_iff_ne]; exact k3
  have hv1 : readJ D J n = if (entP p).2.1 = false ∨ stubE (entP p).1 ≠ x.stub then (zeroE, 11, { J with items := J.items.set s ⟨2, x.stub, zeroE⟩ }) else ((entP p).1, 0, J) := by
    rw [HV.out, if_neg k0, if_neg (fun h => h.elim k2 k3), if_neg (by simp)]
  have HEN := Lib.hid (fun w => slotEntry_any p (by omega) w)
  obtain ⟨_, ef1, ef2, _⟩ := entP_facts p
  have HSO := Lib.hid (fun w => slotStubOf_any (entP p).1 ef1 (by omega) w)
  have hq := eqStb (stubE (entP p).1) x.stub
  generalize entP p = E at HEN HSO hq hv1
  obtain ⟨y, is, rd⟩ := E
  simp only at HEN HSO hq hv1
  clear HV k0 k2 k3 ef1 ef2 hrl
  have HV := Lib.hid hv1
  clear hv1
  (go_enter Try.func8, Try.ntmps8)
  go_wp2_with (first | go_skip | ((with_reducible refine g_alloc ?_); refine wl_of rfl ?_; refine wp_alloc hS rfl rfl rfl rfl ?_; clear hS; intro ga w1 hS) | (go_at_call 28; refine (HI.out _ _ (hS.out (by first | ((repeat (first | exact Out.here | apply Out.there)); done) | fail))).mono ?_; rintro e9 w' ⟨rfl, rfl⟩) | (go_at_call 29; refine (HP.out _ _ (hS.out (by first | ((repeat (first | exact Out.here | apply Out.there)); done) | fail))).mono ?_; rintro e9 w' ⟨rfl, rfl⟩) | ((with_reducible refine g_load ?_); refine wl_run rfl (by exact a_load1 hS (off := 2 + s * 15) rfl rfl rfl rfl (by (repeat (first | exact Ix.here | apply Ix.there))) HK.out) ?_) | ((with_reducible refine g_store ?_); refine wl_of rfl ?_; refine a_storeA (vs := zeroE.cells) (cs' := zeroE.cells) hS rfl rfl rfl (by rfl) (en_one _) (by (repeat (first | exact Sw.here | apply Sw.there))) (by exact Nat.le_refl 9) (by rfl) ?_; clear hS; intro w' hS) | fail)
  refine St.named hS fun wq hwq => ?_
  subst hwq
  replace hS : St S w0 wq ([disk g D] ++ (.row gj (jcells g J) 68 (0, 0) :: .row ga zeroE.cells 24 (0, 0) :: M)) := hS.pick
  obtain ⟨F, hA, hR, hB⟩ := St.split (A := [disk g D]) hS
  clear hS
  have hS := hA.drew
  clear hA
  refine wp_region_held (S := fun W => Cmp.Mod F wq W) (by kernel_rfl) ?_
  change wpAnyH _ _ _ _ _ _ _ _ (wq).drew
  generalize (wq).drew = w2 at hS ⊢
  (refine whd_take 0 rfl rfl (by kernel_rfl) (by kernel_rfl) (by kernel_rfl) (fun _ _ _ h => h) rfl (fun W hW => by (go_simp; try with_reducible rfl)) hS.base ?_; simp only [Act.put, List.setIfInBounds_toArray, List.set_cons_zero, List.set_cons_succ])
  (refine whd_take 1 rfl rfl (by kernel_rfl) (by kernel_rfl) (by kernel_rfl) (fun _ _ _ h => h) rfl (fun W hW => by (go_simp; try with_reducible rfl)) hS.base ?_; simp only [Act.put, List.setIfInBounds_toArray, List.set_cons_zero, List.set_cons_succ])
  (refine whd_take 2 rfl rfl (by kernel_rfl) (by kernel_rfl) (by kernel_rfl) (fun _ _ _ h => h) rfl (fun W hW => by (go_simp; try with_reducible rfl)) hS.base ?_; simp only [Act.put, List.setIfInBounds_toArray, List.set_cons_zero, List.set_cons_succ])
  (refine whd_take 3 rfl rfl (by kernel_rfl) (by kernel_rfl) (by kernel_rfl) (fun _ _ _ h => h) rfl (fun W hW => (by exact a_load1 (hR W hW) rfl rfl rfl rfl (by (repeat (first | exact Ix.here | apply Ix.there))) (by rfl))) hS.base ?_; simp only [Act.put, List.setIfInBounds_toArray, List.set_cons_zero, List.set_cons_succ])
  (refine whd_take 4 rfl rfl (by kernel_rfl) (by kernel_rfl) (by kernel_rfl) (fun _ _ _ h => h) rfl (fun W hW => by (go_simp; try with_reducible rfl)) hS.base ?_; simp only [Act.put, List.setIfInBounds_toArray, List.set_cons_zero, List.set_cons_succ])
  (refine wpAnyH_all (rs := [5]) (by kernel_rfl) (by simp) ?_; intro i hi; have hi := List.mem_singleton.1 hi; subst hi)
  refine wod_of rfl rfl rfl (wp_call (by go_simp) (HPR.out w2) ?_)
  rintro e w5 ⟨rfl, rfl⟩
  refine ⟨_, rfl, hS.base, ?_⟩
  simp only [Act.put, List.setIfInBounds_toArray, List.set_cons_zero, List.set_cons_succ]
  (refine wpAnyH_all (rs := [6]) (by kernel_rfl) (by simp) ?_; intro i hi; have hi := List.mem_singleton.1 hi; subst hi)
  refine wod_of rfl rfl rfl (wp_call (by go_simp) (HR1.out F wq _ [] hS) ?_)
  clear hS
  rintro e w4 ⟨rfl, hS⟩
  refine ⟨_, rfl, hS.base, ?_⟩
  simp only [Act.put, List.setIfInBounds_toArray, List.set_cons_zero, List.set_cons_succ]
  (refine whd_take 7 rfl rfl (by kernel_rfl) (by kernel_rfl) (by kernel_rfl) (fun _ _ _ h => h) rfl (fun W hW => by (go_simp; try with_reducible rfl)) hS.base ?_; simp only [Act.put, List.setIfInBounds_toArray, List.set_cons_zero, List.set_cons_succ])
  (refine whd_take 8 rfl rfl (by kernel_rfl) (by kernel_rfl) (by kernel_rfl) (fun _ _ _ h => h) rfl (fun W hW => by (go_simp; try with_reducible rfl)) hS.base ?_; simp only [Act.put, List.setIfInBounds_toArray, List.set_cons_zero, List.set_cons_succ])
  (refine whd_take 9 rfl rfl (by kernel_rfl) (by kernel_rfl) (by kernel_rfl) (fun _ _ _ h => h) rfl (fun W hW => by (go_simp; try with_reducible rfl)) hS.base ?_; simp only [Act.put, List.setIfInBounds_toArray, List.set_cons_zero, List.set_cons_succ])
  (refine whd_take 10 rfl rfl (by kernel_rfl) (by kernel_rfl) (by kernel_rfl) (fun _ _ _ h => h) rfl (fun W hW => by (go_simp; try with_reducible rfl)) hS.base ?_; simp only [Act.put, List.setIfInBounds_toArray, List.set_cons_zero, List.set_cons_succ])
  (refine whd_take 11 rfl rfl (by kernel_rfl) (by kernel_rfl) (by kernel_rfl) (fun _ _ _ h => h) rfl (fun W hW => by (go_simp; try with_reducible rfl)) hS.base ?_; simp only [Act.put, List.setIfInBounds_toArray, List.set_cons_zero, List.set_cons_succ])
  (refine wpAnyH_done (by kernel_rfl) ?_ _)
  replace hS := hB _ _ hS
  simp only [List.cons_append, List.nil_append] at hS
  clear hR hB
  go_wp2_with (first | go_skip | ((with_reducible refine g_alloc ?_); refine wl_of rfl ?_; refine wp_alloc hS rfl rfl rfl rfl ?_; clear hS; intro gb w1 hS) | (go_at_call 31; refine (HEN.out _).mono ?_; rintro e w' ⟨rfl, h⟩; replace hS := hS.call h; clear h) | ((with_reducible refine g_store ?_); refine wl_of rfl ?_; refine a_storeA (vs := y.cells) (cs' := y.cells) hS rfl rfl rfl (by rfl) (en_one _) (by (repeat (first | exact Sw.here | apply Sw.there))) (by exact Nat.le_refl 9) (by rfl) ?_; clear hS; intro w' hS) | fail)
  cases is
  · have HV2 : Hid (readJ D J n = (zeroE, 11, { J with items := J.items.set s ⟨2, x.stub, zeroE⟩ })) := Lib.hid (by rw [HV.out, if_pos (.inl rfl)])
    refine region_calm (by kernel_rfl) (by kernel_rfl) hS ?_
    iterate 3 (refine Calm.pure rfl (h := ?_); simp only [Act.put, List.setIfInBounds_toArray, List.set_cons_zero, List.set_cons_succ])
    iterate 7 (refine Calm.skip rfl ?_; simp only [Act.put, List.setIfInBounds_toArray, List.set_cons_zero, List.set_cons_succ])
    (refine Calm.pure rfl (h := ?_); simp only [Act.put, List.setIfInBounds_toArray, List.set_cons_zero, List.set_cons_succ])
    (refine Calm.nil ?_; clear hS; intro w8 hS)
    go_wp2_with (first | go_skip | ((with_reducible refine g_load ?_); refine wl_run rfl (by exact a_loadA (vs := x.stub.cells) (off := 2 + s * 15 + 1) hS rfl rfl rfl rfl (by (repeat (first | exact Ix.here | apply Ix.there))) 5 (by rfl) HSB.out (by rfl)) ?_) | ((with_reducible refine g_build ?_); refine wl_run rfl (x_build rfl rfl (built_item2 2 x.stub)) ?_) | ((with_reducible refine g_store ?_); refine wl_of rfl ?_; refine a_storeA (vs := (⟨2, x.stub, zeroE⟩ : It).cells) (off := 2 + s * 15) hS rfl rfl rfl (by rfl) (it_one _) (by (repeat (first | exact Sw.here | apply Sw.there))) (by rw [HJL.out]; show 2 + s * 15 + 15 ≤ 122; omega) (HCS.out _) ?_; clear hS; intro w' hS) | ((with_reducible refine g_store ?_); refine wl_of rfl ?_; refine a_storeA (vs := zeroE.cells) (cs' := zeroE.cells) hS rfl rfl rfl (by rfl) (en_one _) (by (repeat (first | exact Sw.here | apply Sw.there))) (by exact Nat.le_refl 9) (by rfl) ?_; clear hS; intro w' hS) | fail)
    exact end_cell2 hS rfl rfl rfl rfl rfl rfl (h := ⟨by rw [HV2.out]; rfl, by rw [HV2.out]; exact hS.pick⟩)
  · by_cases q : stubE y = x.stub
    · rw [decide_eq_true q] at hq
      have HV2 : Hid (readJ D J n = (y, 0, J)) := Lib.hid (by rw [HV.out, if_neg (by simp [q])])
      clear q
      refine region_calm (by kernel_rfl) (by kernel_rfl) hS ?_
      iterate 3 (refine Calm.pure rfl (h := ?_); simp only [Act.put, List.setIfInBounds_toArray, List.set_cons_zero, List.set_cons_succ])
      (refine Calm.run rfl (fun W hW => by first | exact a_load1 hW rfl rfl rfl rfl (by (repeat (first | exact Ix.here | apply Ix.there))) (by rfl) | exact a_loadR hW rfl rfl rfl rfl (by (repeat (first | exact Ix.here | apply Ix.there))) (by rfl)) ?_; simp only [Act.put, List.setIfInBounds_toArray, List.set_cons_zero, List.set_cons_succ])
      (refine Calm.call (calm_makes HSO.out) rfl (h := ?_); simp only [Act.put, List.setIfInBounds_toArray, List.set_cons_zero, List.set_cons_succ])
      iterate 3 (refine Calm.pure rfl (h := ?_); simp only [Act.put, List.setIfInBounds_toArray, List.set_cons_zero, List.set_cons_succ])
      (refine Calm.run rfl (fun W hW => by exact a_loadA (vs := x.stub.cells) (off := 2 + s * 15 + 1) hW rfl rfl rfl rfl (by (repeat (first | exact Ix.here | apply Ix.there))) 5 (by rfl) HSB.out (by rfl)) ?_; simp only [Act.put, List.setIfInBounds_toArray, List.set_cons_zero, List.set_cons_succ])
      ((with_reducible refine c_neqS (t := 35) ?_); refine Calm.run rfl (fun W hW => by exact x_structNe rfl rfl rfl stbGuard hq) ?_; simp only [Act.put, List.setIfInBounds_toArray, List.set_cons_zero, List.set_cons_succ])
      (refine Calm.pure rfl (h := ?_); simp only [Act.put, List.setIfInBounds_toArray, List.set_cons_zero, List.set_cons_succ])
      (refine Calm.nil ?_; clear hS; intro w8 hS)
      go_wp2_with (first | go_skip | ((with_reducible refine g_load ?_); refine wl_run rfl (by exact a_loadR hS rfl rfl rfl rfl (by (repeat (first | exact Ix.here | apply Ix.there))) (by rfl)) ?_) | ((with_reducible refine g_store ?_); refine wl_of rfl ?_; refine a_storeA (vs := y.cells) (cs' := y.cells) hS rfl rfl rfl (by rfl) (en_one _) (by (repeat (first | exact Sw.here | apply Sw.there))) (by exact Nat.le_refl 9) (by rfl) ?_; clear hS; intro w' hS) | fail)
      exact end_cell2 hS rfl rfl rfl rfl rfl rfl (h := ⟨by rw [HV2.out]; rfl, by rw [HV2.out]; exact hS.pick⟩)
    · rw [decide_eq_false q] at hq
      have HV2 : Hid (readJ D J n = (zeroE, 11, { J with items := J.items.set s ⟨2, x.stub, zeroE⟩ })) := Lib.hid (by rw [HV.out, if_pos (.inr q)])
      clear q
      refine region_calm (by kernel_rfl) (by kernel_rfl) hS ?_
      iterate 3 (refine Calm.pure rfl (h := ?_); simp only [Act.put, List.setIfInBounds_toArray, List.set_cons_zero, List.set_cons_succ])
      (refine Calm.run rfl (fun W hW => by first | exact a_load1 hW rfl rfl rfl rfl (by (repeat (first | exact Ix.here | apply Ix.there))) (by rfl) | exact a_loadR hW rfl rfl rfl rfl (by (repeat (first | exact Ix.here | apply Ix.there))) (by rfl)) ?_; simp only [Act.put, List.setIfInBounds_toArray, List.set_cons_zero, List.set_cons_succ])
      (refine Calm.call (calm_makes HSO.out) rfl (h := ?_); simp only [Act.put, List.setIfInBounds_toArray, List.set_cons_zero, List.set_cons_succ])
      iterate 3 (refine Calm.pure rfl (h := ?_); simp only [Act.put, List.setIfInBounds_toArray, List.set_cons_zero, List.set_cons_succ])
      (refine Calm.run rfl (fun W hW => by exact a_loadA (vs := x.stub.cells) (off := 2 + s * 15 + 1) hW rfl rfl rfl rfl (by (repeat (first | exact Ix.here | apply Ix.there))) 5 (by rfl) HSB.out (by rfl)) ?_; simp only [Act.put, List.setIfInBounds_toArray, List.set_cons_zero, List.set_cons_succ])
      ((with_reducible refine c_neqS (t := 35) ?_); refine Calm.run rfl (fun W hW => by exact x_structNe rfl rfl rfl stbGuard hq) ?_; simp only [Act.put, List.setIfInBounds_toArray, List.set_cons_zero, List.set_cons_succ])
      (refine Calm.pure rfl (h := ?_); simp only [Act.put, List.setIfInBounds_toArray, List.set_cons_zero, List.set_cons_succ])
      (refine Calm.nil ?_; clear hS; intro w8 hS)
      go_wp2_with (first | go_skip | ((with_reducible refine g_load ?_); refine wl_run rfl (by exact a_loadA (vs := x.stub.cells) (off := 2 + s * 15 + 1) hS rfl rfl rfl rfl (by (repeat (first | exact Ix.here | apply Ix.there))) 5 (by rfl) HSB.out (by rfl)) ?_) | ((with_reducible refine g_build ?_); refine wl_run rfl (x_build rfl rfl (built_item2 2 x.stub)) ?_) | ((with_reducible refine g_store ?_); refine wl_of rfl ?_; refine a_storeA (vs := (⟨2, x.stub, zeroE⟩ : It).cells) (off := 2 + s * 15) hS rfl rfl rfl (by rfl) (it_one _) (by (repeat (first | exact Sw.here | apply Sw.there))) (by rw [HJL.out]; show 2 + s * 15 + 15 ≤ 122; omega) (HCS.out _) ?_; clear hS; intro w' hS) | ((with_reducible refine g_store ?_); refine wl_of rfl ?_; refine a_storeA (vs := zeroE.cells) (cs' := zeroE.cells) hS rfl rfl rfl (by rfl) (en_one _) (by (repeat (first | exact Sw.here | apply Sw.there))) (by exact Nat.le_refl 9) (by rfl) ?_; clear hS; intro w' hS) | fail)
      exact end_cell2 hS rfl rfl rfl rfl rfl rfl (h := ⟨by rw [HV2.out]; rfl, by rw [HV2.out]; exact hS.pick⟩)
end
end Go.Proofs.Ytnjboimjlbgdiaa
namespace Go.Cmp
open Go.RowKit
def fmtL : List Int := (List.range 8).flatMap fun (s : Nat) => [4 + (s : Int), 12 + (s : Int)]
theorem fmtL_drop : ∀ s, s < 8 → fmtL.drop (2 * s) = [4 + (s : Int), 12 + (s : Int)] ++ fmtL.drop (2 * (s + 1)) := by decide
/-- On, no fuse: what is under way is so much. -/
structure FmtI (D : Dsk) (n : Nat) : Prop where
  ok : D.Ok
  off : D.off = false
  fuse : D.fuse = 0
  len : D.lasts.length = 32
  way : D.way.length = n
  steps : D.steps ≤ 1000 + n
theorem fmt_stp {D : Dsk} (h : D.fuse = 0) : D.step = (true, { D with steps := D.steps + 1, fuse := 0 }) := by
  unfold Dsk.step
  rw [if_neg (by rw [h]; decide), h]
  rfl
theorem fmt_step {D : Dsk} {n : Nat} (h : FmtI D n) (hn : n < 100) {i : Int} (h0 : 0 ≤ i) (h1 : i < 32) (l : List Int) :
    (D.read i).2 = 0 ∧ (D.write i (voidS (D.read i).1)).1 = 0 ∧ FmtI (D.write i (voidS (D.read i).1)).2 (n + 1) ∧ fmtFrom (i :: l) D = fmtFrom l (D.write i (voidS (D.read i).1)).2 := by
  have his : D.is i = true := by unfold Dsk.is; rw [h.len]; simp; omega
  have hr : (D.read i).2 = 0 := by
    unfold Dsk.read
    rw [if_neg (by rw [his]; simp), if_neg (by rw [h.off]; simp)]
  have hst := h.steps
  have nw := Dsk.write_next h.ok i (voidS (D.read i).1) (by rw [h.way]; omega) (by omega)
  have hl : (voidS (D.read i).1).length = 384 := by rw [voidS_eq]; exact sealed_len (by simp)
  have hw : D.write i (voidS (D.read i).1) = (0, { D with steps := D.steps + 1, fuse := 0, way := D.way ++ [⟨i, voidS (D.read i).1⟩] }) := by
    unfold Dsk.write
    rw [if_neg (by rw [his, hl]; simp), if_neg (by rw [h.off]; simp), fmt_stp h.fuse]
    rfl
  have e : fmtFrom (i :: l) D = if (D.read i).2 ≠ 0 then ((D.read i).2, D) else if (D.write i (voidS (D.read i).1)).1 ≠ 0 then D.write i (voidS (D.read i).1) else fmtFrom l (D.write i (voidS (D.read i).1)).2 := rfl
  have nok := nw.ok
  refine ⟨hr, by rw [hw], ?_, by rw [e, if_neg (by rw [hr]; simp), if_neg (by rw [hw]; simp)]⟩
  rw [hw] at nok ⊢
  exact ⟨nok, h.off, rfl, h.len, by simp [h.way], by simp only; omega⟩
theorem fmt_flush {D : Dsk} {n : Nat} (h : FmtI D n) (hn : n < 100) : D.flush.1 = 0 ∧ fmtFrom [] D = D.flush ∧ OnJ D.flush.2 ∧ D.flush.2.fuse = 0 ∧ D.flush.2.steps ≤ 1001 + n ∧ D.flush.2.lasts = (D.puts D.way).lasts ∧ D.flush.2.mark = (D.puts D.way).mark := by
  have hst := h.steps
  have nf := Dsk.flush_next h.ok (by omega)
  have nok := nf.ok
  have hlen := nf.len.trans h.len
  have hs := nf.steps
  have hp : ∀ (l : List Wr) (E F : Dsk), E.lasts = F.lasts → E.mark = F.mark → (E.puts l).lasts = (F.puts l).lasts ∧ (E.puts l).mark = (F.puts l).mark ∧ (E.puts l).off = E.off ∧ (E.puts l).fuse = E.fuse := by
    intro l
    induction l with
    | nil => intro E F a b; exact ⟨a, b, rfl, rfl⟩
    | cons x l ih =>
      intro E F a b
      have := ih (E.put x) (F.put x) (by simp [Dsk.put, a]) (by simp [Dsk.put, b])
      exact ⟨this.1, this.2.1, this.2.2.1, this.2.2.2⟩
  have e : D.flush = (0, { ({ D with steps := D.steps + 1, fuse := 0 } : Dsk).puts D.way with way := [] }) := by
    unfold Dsk.flush
    rw [if_neg (by rw [h.off]; simp), fmt_stp h.fuse]
    rfl
  obtain ⟨q1, q2, q3, q4⟩ := hp D.way ({ D with steps := D.steps + 1, fuse := 0 } : Dsk) D rfl rfl
  rw [e] at nok hlen hs ⊢
  exact ⟨rfl, e, ⟨nok, q3.trans h.off, rfl, hlen⟩, q4, by omega, q1, q2⟩
end Go.Cmp
namespace Go.Proofs.Ytnjboimjlbgdiaa
open Go.RowKit Go.Cmp

section
variable {S : List Nat} {w0 w : World} {M : List Ent} {g : Nat} {D : Dsk}
set_option maxHeartbeats 16000000 in
theorem jrnFormat_any (hS : St S w0 w (disk g D :: M)) (hD : FmtI D 0) :
    Calls Try.prog 25 #[.pointer (some ⟨g, 0, none⟩)] w fun x w' => x = .returned (.int .i64 0) ∧ (fmtJ D).1 = 0 ∧ St S w0 w' (disk g (fmtJ D).2 :: M) := by
  obtain ⟨R, hR⟩ : ∃ R, fmtJ D = R := ⟨_, rfl⟩
  rw [hR]
  have hR0 : fmtFrom (fmtL.drop (2 * 0)) D = R := hR
  clear hR
  (go_enter Try.func25, Try.ntmps25)
  go_wp2_with (fail)
  go_loopw [9] (fun v wz => ∃ (s : Nat) (D : Dsk), s ≤ 8 ∧ v = .int .i64 (s : Int) ∧ Hid (FmtI D (2 * s)) ∧ Hid (fmtFrom (fmtL.drop (2 * s)) D = R) ∧ St S w0 wz (disk g D :: M)) (fun v _ => 8 - (intOf v).toNat)
  case atStart => exact ⟨0, D, by omega, rfl, Lib.hid hD, Lib.hid hR0, hS⟩
  case round =>
    clear hS hR0 hD
    obtain ⟨s, D, hs, rfl, HI, HR, hS⟩ := hrel
    by_cases hs8 : s < 8
    · have hs81 : (s : Int) < 8 := by omega
      have hp : prepN ((s : Nat) : Int) = 4 + (s : Int) := by unfold prepN; omega
      have hh : hdrN ((s : Nat) : Int) = 12 + (s : Int) := by unfold hdrN; omega
      have HPR := Lib.hid (fun w => jrnPrep_any s (by omega) w)
      have HHD := Lib.hid (fun w => jrnHdr_any s (by omega) w)
      rw [hp] at HPR
      rw [hh] at HHD
      have hdr := fmtL_drop s hs8
      have HR2 : Hid (fmtFrom ([4 + (s : Int), 12 + (s : Int)] ++ fmtL.drop (2 * (s + 1))) D = R) := Lib.hid (by rw [← hdr]; exact HR.out)
      obtain ⟨Lr, hLr⟩ : ∃ L, fmtL.drop (2 * (s + 1)) = L := ⟨_, rfl⟩
      rw [hLr] at HR2
      have HLR := Lib.hid hLr
      clear hdr hp hh hLr HR
      obtain ⟨r1, w1, i1, e1⟩ := fmt_step HI.out (by omega) (i := 4 + (s : Int)) (by omega) (by omega) ([12 + (s : Int)] ++ Lr)
      obtain ⟨D1, hd1⟩ : ∃ D1, (D.write (4 + (s : Int)) (voidS (D.read (4 + (s : Int))).1)).2 = D1 := ⟨_, rfl⟩
      rw [hd1] at i1 e1
      obtain ⟨r2, w2, i2, e2⟩ := fmt_step i1 (by omega) (i := 12 + (s : Int)) (by omega) (by omega) Lr
      obtain ⟨D2, hd2⟩ : ∃ D2, (D1.write (12 + (s : Int)) (voidS (D1.read (12 + (s : Int))).1)).2 = D2 := ⟨_, rfl⟩
      rw [hd2] at i2 e2
      have HN : Hid (FmtI D2 (2 * (s + 1))) := Lib.hid (by rw [show 2 * (s + 1) = 2 * s + 1 + 1 from by omega]; exact i2)
      have HRN : Hid (fmtFrom (fmtL.drop (2 * (s + 1))) D2 = R) := Lib.hid (by
        have h := HR2.out
        rw [show ([4 + (s : Int), 12 + (s : Int)] ++ Lr) = (4 + (s : Int)) :: ([12 + (s : Int)] ++ Lr) from rfl, e1, show ([12 + (s : Int)] ++ Lr) = (12 + (s : Int)) :: Lr from rfl, e2] at h
        rw [HLR.out]; exact h)
      have HRD1 := Lib.hid (fun (W : World) (M : List Ent) (hS : St S w0 W (disk g D :: M)) => disk_read hS HI.out.ok (4 + (s : Int)))
      have HRD2 := Lib.hid (fun (W : World) (M : List Ent) (hS : St S w0 W (disk g D1 :: M)) => disk_read hS i1.ok (12 + (s : Int)))
      have HVO1 := Lib.hid (fun w => slotVoid_any (D.read (4 + (s : Int))).1 (by have := Dsk.read_lenJ HI.out.ok (4 + (s : Int)); omega) w)
      have HVO2 := Lib.hid (fun w => slotVoid_any (D1.read (12 + (s : Int))).1 (by have := Dsk.read_lenJ i1.ok (12 + (s : Int)); omega) w)
      have HWR1 := Lib.hid (fun (W : World) (M : List Ent) (hS : St S w0 W (disk g D :: M)) => disk_write hS HI.out.ok (4 + (s : Int)) (voidS (D.read (4 + (s : Int))).1))
      have HWR2 := Lib.hid (fun (W : World) (M : List Ent) (hS : St S w0 W (disk g D1 :: M)) => disk_write hS i1.ok (12 + (s : Int)) (voidS (D1.read (12 + (s : Int))).1))
      rw [r1] at HRD1
      rw [r2] at HRD2
      rw [w1, hd1] at HWR1
      rw [w2, hd2] at HWR2
      clear r1 w1 i1 e1 hd1 r2 w2 i2 e2 hd2 HR2 HI HLR
      generalize (D.read (4 + (s : Int))).1 = o1 at HRD1 HVO1 HWR1
      generalize (D1.read (12 + (s : Int))).1 = o2 at HRD2 HVO2 HWR2
      go_wp2_with (first | (go_at_call 30; refine (HPR.out _).mono ?_; rintro e w' ⟨rfl, rfl⟩) | (go_at_call 33; refine (HHD.out _).mono ?_; rintro e w' ⟨rfl, rfl⟩) | ((with_reducible refine g_bs ?_); refine wl_of rfl ?_; refine wp_buildSlice1 (vs := [.int .i64 (4 + (s : Int)), .int .i64 (12 + (s : Int))]) hS rfl rfl rfl rfl rfl rfl (by decide) ⟨rfl, by simp [Value.cells]⟩ ?_; clear hS; intro vq w' hS) | ((with_reducible refine g_len ?_); refine wl_run rfl (by exact a_len rfl rfl rfl (hS.rdx (by (repeat (first | exact Ix.here | apply Ix.there))))) ?_) | ((with_reducible refine g_len ?_); refine wl_run rfl (by exact a_len rfl rfl rfl (hS.rdx (by (repeat (first | exact Ix.here | apply Ix.there))))) ?_) | fail)
      obtain ⟨L2, hL2⟩ : ∃ L : List Int, [4 + (s : Int), 12 + (s : Int)] = L := ⟨_, rfl⟩
      have hg0 : L2[0]? = some (4 + (s : Int)) := by rw [← hL2]; rfl
      have hg1 : L2[1]? = some (12 + (s : Int)) := by rw [← hL2]; rfl
      have hln : L2.length = 2 := by rw [← hL2]; rfl
      refine St.named hS fun wq hwq => ?_
      subst hwq
      replace hS : St S w0 wq (.vec vq 3 1 L2.length (L2.flatMap num) :: disk g D :: M) := by rw [← hL2]; exact hS
      clear hL2
      go_loopw [18] (fun v wz => (v = .int .i64 0 ∧ St S w0 wz (.vec vq 3 1 L2.length (L2.flatMap num) :: disk g D :: M)) ∨ (v = .int .i64 1 ∧ St S w0 wz (.vec vq 3 1 L2.length (L2.flatMap num) :: disk g D1 :: M)) ∨ (v = .int .i64 2 ∧ St S w0 wz (disk g D2 :: M))) (fun v _ => 2 - (intOf v).toNat)
      case atStart => exact .inl ⟨rfl, hS⟩
      case round =>
        clear hS
        rcases hrel with ⟨rfl, hS⟩ | ⟨rfl, hS⟩ | ⟨rfl, hS⟩
        · go_wp2_with (first | ((with_reducible refine g_index ?_); refine wl_run rfl (by exact a_index rfl rfl rfl rfl (hS.rdx (by (repeat (first | exact Ix.here | apply Ix.there)))) (by rfl) (by omega) (by omega)) ?_) | ((with_reducible refine g_load ?_); refine wl_run rfl (by exact a_loadE (L := L2) (f := num) (j := 0) rfl (hS.rdx (by (repeat (first | exact Ix.here | apply Ix.there)))) rfl rfl rfl (by intro _; rfl) hg0 (by rfl)) ?_) | (go_at_call 26; (refine (HRD1.out _ _ (hS.out (by first | ((repeat (first | exact Out.here | apply Out.there)); done) | fail))).mono ?_; clear hS; rintro e w' ⟨rfl, hS⟩)) | (go_at_call 34; refine (HVO1.out _).mono ?_; rintro e w' ⟨rfl, h⟩; replace hS := hS.call h; clear h) | (go_at_call 49; (refine (HWR1.out _ _ (hS.out (by first | ((repeat (first | exact Out.here | apply Out.there)); done) | fail))).mono ?_; clear hS; rintro e w' ⟨rfl, hS⟩)) | fail)
          exact ⟨.inr (.inl ⟨rfl, hS.pick⟩), by simp [intOf]⟩
        · go_wp2_with (first | ((with_reducible refine g_index ?_); refine wl_run rfl (by exact a_index rfl rfl rfl rfl (hS.rdx (by (repeat (first | exact Ix.here | apply Ix.there)))) (by rfl) (by omega) (by omega)) ?_) | ((with_reducible refine g_load ?_); refine wl_run rfl (by exact a_loadE (L := L2) (f := num) (j := 1) rfl (hS.rdx (by (repeat (first | exact Ix.here | apply Ix.there)))) rfl rfl rfl (by intro _; rfl) hg1 (by rfl)) ?_) | (go_at_call 26; (refine (HRD2.out _ _ (hS.out (by first | ((repeat (first | exact Out.here | apply Out.there)); done) | fail))).mono ?_; clear hS; rintro e w' ⟨rfl, hS⟩)) | (go_at_call 34; refine (HVO2.out _).mono ?_; rintro e w' ⟨rfl, h⟩; replace hS := hS.call h; clear h) | (go_at_call 49; (refine (HWR2.out _ _ (hS.out (by first | ((repeat (first | exact Out.here | apply Out.there)); done) | fail))).mono ?_; clear hS; rintro e w' ⟨rfl, hS⟩)) | fail)
          exact ⟨.inr (.inr ⟨rfl, hS.pick⟩), by simp [intOf]⟩
        · go_wp2_with (fail)
          exact ⟨⟨s + 1, D2, by omega, by simp, HN, HRN, hS⟩, by simp [intOf]; omega⟩
    · obtain rfl : s = 8 := by omega
      obtain ⟨f1, f2, _, _, _, _, _⟩ := fmt_flush HI.out (by omega)
      have hr : D.flush = R := by rw [← f2]; exact HR.out
      have HFL := Lib.hid (fun (W : World) (M : List Ent) (hS : St S w0 W (disk g D :: M)) => disk_flush hS HI.out.ok)
      have HF1 := Lib.hid f1
      have HFR := Lib.hid hr
      clear f1 f2 hr HR
      go_wp2_with (first | (go_at_call 50; (refine (HFL.out _ _ hS).mono ?_; clear hS; rintro e w' ⟨rfl, hS⟩)) | fail)
      go_ret
      exact ⟨by first | rfl | (rw [HF1.out]; rfl), by rw [← HFR.out]; exact HF1.out, by rw [← HFR.out]; exact hS⟩
end
end Go.Proofs.Ytnjboimjlbgdiaa
namespace Go.Cmp
open Go.RowKit
theorem openFrom_step (J : Jrn) (k s : Nat) (D : Dsk) : openFrom J (k + 1) s D = if (openDo D (J.opAt s)).1 ≠ 0 then ((openDo D (J.opAt s)).1, J, (openDo D (J.opAt s)).2) else openFrom { J with items := J.items.set s (openAt D (J.opAt s)) } k (s + 1) (openDo D (J.opAt s)).2 := rfl
end Go.Cmp
namespace Go.Proofs.Ytnjboimjlbgdiaa
open Go.RowKit Go.Cmp

section
variable {S : List Nat} {w0 w : World} {M : List Ent} {g : Nat} {D : Dsk}
/-- What Open answers. -/
def OpenPost (S : List Nat) (w0 : World) (g : Nat) (M : List Ent) (R : Int × Jrn × Dsk) (x : Ending) (w' : World) : Prop :=
  (R.1 ≠ 0 ∧ x = .returned (.tuple #[.pointer none, .int .i64 R.1]) ∧ St S w0 w' (disk g R.2.2 :: M)) ∨
  (R.1 = 0 ∧ ∃ gj, x = .returned (.tuple #[.pointer (some ⟨gj, 0, none⟩), .int .i64 0]) ∧ St S w0 w' (disk g R.2.2 :: .row gj (jcells g R.2.1) 68 (0, 0) :: M))
theorem St.rowEq {S : List Nat} {w0 w : World} {M : List Ent} {gj : Nat} {cs cs' : List Value} {e : TypeId} {fr : Nat × Nat} (h : St S w0 w (.row gj cs e fr :: M)) (hc : cs = cs') : St S w0 w (.row gj cs' e fr :: M) := hc ▸ h
set_option maxHeartbeats 32000000 in
theorem jrnOpen_any (hS : St S w0 w (disk g D :: M)) (c : Nat) (hc : c ≤ 72057594037927927)
    (I : Nat → Dsk → Jrn → Prop) (hI0 : I 0 D ⟨c, List.replicate 8 zeroI⟩)
    (hIs : ∀ s D J, I s D J → s < 8 → J.items.length = 8 ∧ OnJ D ∧ D.steps + 8 < 1000000000 ∧ ((openDo D (J.opAt s)).1 = 0 → I (s + 1) (openDo D (J.opAt s)).2 { J with items := J.items.set s (openAt D (J.opAt s)) })) :
    Calls Try.prog 23 #[.pointer (some ⟨g, 0, none⟩), .int .i64 c] w (OpenPost S w0 g M (openJ D c)) := by
  obtain ⟨R, hR⟩ : ∃ R, openJ D c = R := ⟨_, rfl⟩
  rw [hR]
  have hR0 : openFrom ⟨c, List.replicate 8 zeroI⟩ 8 0 D = R := hR
  have hm : mayB c = true := by unfold mayB; simp; omega
  have HMA := Lib.hid (fun w => jrnMay_any c w)
  rw [hm] at HMA
  have HIS := Lib.hid hIs
  clear hIs hR hm
  (go_enter Try.func23, Try.ntmps23)
  go_wp2_with (first | go_skip | ((with_reducible refine g_box ?_); refine wl_of rfl ?_; refine wp_box hS rfl rfl rfl ?_; clear hS; intro gj w1 hS) | (go_at_call 37; refine (HMA.out _).mono ?_; rintro e w' ⟨rfl, rfl⟩) | fail)
  replace hS := St.rowEq (cs' := jcells g ⟨c, List.replicate 8 zeroI⟩) hS (by kernel_rfl)
  go_loopw [23] (fun v wz => ∃ (s : Nat) (D : Dsk) (J : Jrn), s ≤ 8 ∧ v = .int .i64 (s : Int) ∧ Hid (J.check ≤ 72057594037927935) ∧ Hid (I s D J) ∧ Hid (openFrom J (8 - s) s D = R) ∧ St S w0 wz (disk g D :: .row gj (jcells g J) 68 (0, 0) :: M)) (fun v _ => 8 - (intOf v).toNat)
  case atStart => exact ⟨0, D, ⟨c, List.replicate 8 zeroI⟩, by omega, rfl, Lib.hid (by show c ≤ _; omega), Lib.hid hI0, Lib.hid hR0, hS.pick⟩
  case round =>
    clear hS hI0 hR0 hc HMA
    obtain ⟨s, D, J, hs, rfl, HC, HI, HR, hS⟩ := hrel
    by_cases hs8 : s < 8
    · have hs81 : (s : Int) < 8 := by omega
      obtain ⟨hJl, hon, hst, hnx⟩ := HIS.out s D J HI.out hs8
      have hstep := openFrom_step J (7 - s) s D
      rw [show 7 - s + 1 = 8 - s from by omega, HR.out] at hstep
      have HJL := Lib.hid (jc_len (gd := g) hJl)
      have HCS := Lib.hid (fun y => jc_set (gd := g) hJl hs8 y)
      obtain ⟨r1, r2⟩ := slot_reads hon J hs8
      have hop := J.opAt_mod hs8
      have HOP := Lib.hid (fun (W : World) (M : List Ent) (hS : St S w0 W (.row gj (jcells g J) 68 (0, 0) :: M)) => jrnOp_any hS HC.out s hs8)
      have hdo : openDo D (J.opAt s) = if (openAt D (J.opAt s)).kind = 0 then cleanJ D (J.opAt s) (nth D.lasts (4 + s)) (nth D.lasts (12 + s)) else if (openAt D (J.opAt s)).kind = 1 ∧ (stbP (nth D.lasts (12 + s))).2.2 = false then layS (openAt D (J.opAt s)).stub (hdrN (J.opAt s)) D else (0, D) := by
        unfold openDo
        rw [r1, r2]
      have hat : openAt D (J.opAt s) = judgeS (nth D.lasts (4 + s)) (nth D.lasts (12 + s)) (J.opAt s) := by
        unfold openAt
        rw [r1, r2]
      have hnb : J.opAt s ≤ 1000000000000000000 := by have := HC.out; omega
      have hlp : (nth D.lasts (4 + s)).length ≤ 1000000 := by rw [hon.text (by omega)]; omega
      have hlh : (nth D.lasts (12 + s)).length ≤ 1000000 := by rw [hon.text (by omega)]; omega
      have HSE := Lib.hid (fun (W : World) (M : List Ent) (hS : St S w0 W (disk g D :: .row gj (jcells g J) 68 (0, 0) :: M)) => by
        have h := jrnSectors_any hS hon.ok (J.opAt s) hnb (by rw [r1]) (by rw [r2])
        rw [r1, r2] at h
        exact h)
      have HJU := Lib.hid (fun w => slotJudge_any (nth D.lasts (4 + s)) (nth D.lasts (12 + s)) (J.opAt s) hlp hlh w)
      have hfit : (openAt D (J.opAt s)).kind = 1 → (openAt D (J.opAt s)).stub.Fit := fun h => judge_fit (show (judgeS _ _ _).kind = 1 from h)
      rw [← hat] at HJU
      have HCL := Lib.hid (fun (W : World) (M : List Ent) (hS : St S w0 W (disk g D :: .row gj (jcells g J) 68 (0, 0) :: M)) => jrnClean_any hS hon.ok (by rw [hon.way]; decide) (by omega) (J.opAt s) hnb (nth D.lasts (4 + s)) (nth D.lasts (12 + s)) hlp hlh)
      have HLS := Lib.hid (fun (hf : (openAt D (J.opAt s)).stub.Fit) (S : List Nat) (w0 W : World) (M : List Ent) (gq : Nat) (hS : St S w0 W (disk g D :: .row gq (openAt D (J.opAt s)).stub.cells 35 (0, 0) :: M)) => jrnLayS hS hon.ok (by rw [hon.way]; decide) (by omega) hf.parent hf.sum (hdrN (J.opAt s)))
      have HHD := Lib.hid (fun w => jrnHdr_any (J.opAt s) hnb w)
      have HSTB := Lib.hid (fun w => slotStub_any (nth D.lasts (12 + s)) hlh w)
      have HNX := Lib.hid hnx
      generalize hdrN (J.opAt s) = kh at HHD HLS hdo
      generalize openDo D (J.opAt s) = Z at hstep HNX hdo
      generalize openAt D (J.opAt s) = x at HJU HLS hfit hdo hstep HNX
      generalize J.opAt s = n at HOP HSE HCL HHD HJU hdo
      generalize nth D.lasts (4 + s) = p at HSE HCL HJU hdo
      generalize nth D.lasts (12 + s) = h at HSE HCL HJU HSTB hdo
      generalize stbP h = T at HSTB hdo
      obtain ⟨z, told, kn⟩ := T
      simp only at HSTB hdo
      have HDO := Lib.hid hdo
      have HSTEP := Lib.hid hstep
      have HFIT := Lib.hid hfit
      have HCK := Lib.hid (show ({ J with items := J.items.set s x } : Jrn).check ≤ 72057594037927935 from HC.out)
      clear hdo hstep hat r1 r2 hon hst hnx hlp hlh hop hnb HI HR HC hfit hJl
      go_upto_block 2 with (first | go_skip | (go_at_call 38; (refine (HOP.out _ _ (hS.out (by first | ((repeat (first | exact Out.here | apply Out.there)); done) | fail))).mono ?_; clear hS; rintro e w' ⟨rfl, hS⟩)) | (go_at_call 39; (refine (HSE.out _ _ (hS.pick : St S w0 _ (disk g D :: .row gj (jcells g J) 68 (0, 0) :: M))).mono ?_; clear hS; rintro e w' ⟨rfl, hS⟩)) | (go_at_call 27; refine (HJU.out _).mono ?_; rintro e w' ⟨rfl, h⟩; replace hS := hS.call h; clear h) | (go_at_call 40; refine (HSTB.out _).mono ?_; rintro e w' ⟨rfl, h⟩; replace hS := hS.call h; clear h) | (first | (have q9 := ga; clear q9; ((with_reducible refine g_alloc ?_); refine wl_of rfl ?_; refine wp_alloc hS rfl rfl rfl rfl ?_; clear hS; intro gb w1 hS)) | ((with_reducible refine g_alloc ?_); refine wl_of rfl ?_; refine wp_alloc hS rfl rfl rfl rfl ?_; clear hS; intro ga w1 hS)) | ((with_reducible refine g_store ?_); refine wl_of rfl ?_; refine a_storeA (vs := x.cells) (cs' := x.cells) hS rfl rfl rfl (by rfl) (it_one _) (by (repeat (first | exact Sw.here | apply Sw.there))) (by exact Nat.le_refl 15) (by rfl) ?_; clear hS; intro w' hS) | ((with_reducible refine g_store ?_); refine wl_of rfl ?_; refine a_storeA (vs := z.cells) (cs' := z.cells) hS rfl rfl rfl (by rfl) (stb_one _) (by (repeat (first | exact Sw.here | apply Sw.there))) (by exact Nat.le_refl 5) (by rfl) ?_; clear hS; intro w' hS) | ((with_reducible refine g_load ?_); refine wl_run rfl (by first | exact a_load1 hS rfl rfl rfl rfl (by (repeat (first | exact Ix.here | apply Ix.there))) (by rfl) | exact a_loadR hS rfl rfl rfl rfl (by (repeat (first | exact Ix.here | apply Ix.there))) (by rfl) | fail) ?_) | fail)
      replace hS : St S w0 _ (disk g D :: .row gj (jcells g J) 68 (0, 0) :: .row ga x.cells 37 (0, 0) :: M) := hS.pick
      go_cut [11] (fun e wx => ∃ (er : Int) (E : Dsk), e = .int .i64 er ∧ Hid (Z = (er, E)) ∧ St S w0 wx (disk g E :: .row gj (jcells g J) 68 (0, 0) :: .row ga x.cells 37 (0, 0) :: M))
      case first =>
        by_cases k0 : x.kind = 0
        · have HZ0 : Hid (Z = cleanJ D n p h) := Lib.hid (by rw [HDO.out, if_pos k0])
          obtain ⟨C, hC⟩ : ∃ C, cleanJ D n p h = C := ⟨_, rfl⟩
          rw [hC] at HCL HZ0
          obtain ⟨ez, Dz⟩ := C
          simp only at HCL
          clear hC HLS HHD HDO
          go_wp2_with (first | go_skip | ((with_reducible refine g_load ?_); refine wl_run rfl (by first | exact a_load1 hS rfl rfl rfl rfl (by (repeat (first | exact Ix.here | apply Ix.there))) (by rfl) | exact a_loadR hS rfl rfl rfl rfl (by (repeat (first | exact Ix.here | apply Ix.there))) (by rfl) | fail) ?_) | fail)
          refine (HCL.out _ _ (hS.pick : St S w0 _ (disk g D :: .row gj (jcells g J) 68 (0, 0) :: .row ga x.cells 37 (0, 0) :: M))).mono ?_
          clear hS
          rintro _ w' ⟨rfl, hS⟩
          go_wp2_with (fail)
          go_meet
          exact ⟨ez, Dz, rfl, HZ0, hS⟩
        · have b0 : (x.kind == 0) = false := by rw [beq_eq_false_iff_ne]; exact k0
          clear HCL
          by_cases k1 : x.kind = 1
          · cases kn
            · have HZ0 : Hid (Z = layS x.stub kh D) := Lib.hid (by rw [HDO.out, if_neg k0, if_pos ⟨k1, rfl⟩])
              have HF := Lib.hid (HFIT.out k1)
              obtain ⟨C, hC⟩ : ∃ C, layS x.stub kh D = C := ⟨_, rfl⟩
              rw [hC] at HLS HZ0
              obtain ⟨ez, Dz⟩ := C
              simp only at HLS
              clear hC HDO
              go_wp2_with (first | go_skip | ((with_reducible refine g_load ?_); refine wl_run rfl (by first | exact a_load1 hS rfl rfl rfl rfl (by (repeat (first | exact Ix.here | apply Ix.there))) (by rfl) | exact a_loadR hS rfl rfl rfl rfl (by (repeat (first | exact Ix.here | apply Ix.there))) (by rfl) | fail) ?_) | fail)
              refine St.named hS fun wq hwq => ?_
              subst hwq
              replace hS : St S w0 wq ([disk g D] ++ (.row gj (jcells g J) 68 (0, 0) :: .row ga x.cells 37 (0, 0) :: M)) := hS.pick
              obtain ⟨F, hA, hR, hB⟩ := St.split (A := [disk g D]) hS
              clear hS
              have hS := hA.drew
              clear hA
              refine wp_region_held (S := fun W => Cmp.Mod F wq W) (by kernel_rfl) ?_
              change wpAnyH _ _ _ _ _ _ _ _ (wq).drew
              generalize (wq).drew = w2 at hS ⊢
              (refine whd_take 0 rfl rfl (by kernel_rfl) (by kernel_rfl) (by kernel_rfl) (fun _ _ _ h => h) rfl (fun W hW => by (go_simp; try with_reducible rfl)) hS.base ?_; simp only [Act.put, List.setIfInBounds_toArray, List.set_cons_zero, List.set_cons_succ])
              (refine whd_take 1 rfl rfl (by kernel_rfl) (by kernel_rfl) (by kernel_rfl) (fun _ _ _ h => h) rfl (fun W hW => by (go_simp; try with_reducible rfl)) hS.base ?_; simp only [Act.put, List.setIfInBounds_toArray, List.set_cons_zero, List.set_cons_succ])
              (refine whd_take 3 rfl rfl (by kernel_rfl) (by kernel_rfl) (by kernel_rfl) (fun _ _ _ h => h) rfl (fun W hW => by (go_simp; try with_reducible rfl)) hS.base ?_; simp only [Act.put, List.setIfInBounds_toArray, List.set_cons_zero, List.set_cons_succ])
              (refine whd_take 4 rfl rfl (by kernel_rfl) (by kernel_rfl) (by kernel_rfl) (fun _ _ _ h => h) rfl (fun W hW => (by exact a_loadA (vs := x.stub.cells) (off := 1) (hR W hW) rfl rfl rfl rfl (by (repeat (first | exact Ix.here | apply Ix.there))) 5 (by rfl) (by rfl) (by rfl))) hS.base ?_; simp only [Act.put, List.setIfInBounds_toArray, List.set_cons_zero, List.set_cons_succ])
              (refine wpAnyH_all (rs := [2]) (by kernel_rfl) (by simp) ?_; intro i hi; have hi := List.mem_singleton.1 hi; subst hi)
              refine wod_of rfl rfl rfl (wp_call (by go_simp) (HHD.out w2) ?_)
              rintro e w5 ⟨rfl, rfl⟩
              refine ⟨_, rfl, hS.base, ?_⟩
              simp only [Act.put, List.setIfInBounds_toArray, List.set_cons_zero, List.set_cons_succ]
              (refine wpAnyH_all (rs := [5]) (by kernel_rfl) (by simp) ?_; intro i hi; have hi := List.mem_singleton.1 hi; subst hi)
              refine wod_of rfl rfl rfl (wp_call (by go_simp) (jrnSays_any x.stub hS) ?_)
              clear hS
              rintro e8 w4 ⟨gq2, rfl, hS⟩
              refine ⟨_, rfl, hS.base, ?_⟩
              simp only [Act.put, List.setIfInBounds_toArray, List.set_cons_zero, List.set_cons_succ]
              (refine wpAnyH_all (rs := [6]) (by kernel_rfl) (by simp) ?_; intro i hi; have hi := List.mem_singleton.1 hi; subst hi)
              refine wod_of rfl rfl rfl (wp_call (by go_simp) (HLS.out HF.out F wq _ [] gq2 hS.pick) ?_)
              clear hS
              rintro e w4 ⟨rfl, hS⟩
              refine ⟨_, rfl, hS.base, ?_⟩
              simp only [Act.put, List.setIfInBounds_toArray, List.set_cons_zero, List.set_cons_succ]
              (refine whd_take 7 rfl rfl (by kernel_rfl) (by kernel_rfl) (by kernel_rfl) (fun _ _ _ h => h) rfl (fun W hW => by (go_simp; try with_reducible rfl)) hS.base ?_; simp only [Act.put, List.setIfInBounds_toArray, List.set_cons_zero, List.set_cons_succ])
              (refine wpAnyH_done (by kernel_rfl) ?_ _)
              replace hS := hB _ _ hS
              simp only [List.cons_append, List.nil_append] at hS
              clear hR hB
              go_wp2_with (fail)
              go_meet
              exact ⟨ez, Dz, rfl, HZ0, hS.pick⟩
            · have HZ0 : Hid (Z = (0, D)) := Lib.hid (by rw [HDO.out, if_neg k0, if_neg (by simp)])
              clear HDO
              go_wp2_with (first | go_skip | ((with_reducible refine g_load ?_); refine wl_run rfl (by first | exact a_load1 hS rfl rfl rfl rfl (by (repeat (first | exact Ix.here | apply Ix.there))) (by rfl) | exact a_loadR hS rfl rfl rfl rfl (by (repeat (first | exact Ix.here | apply Ix.there))) (by rfl) | fail) ?_) | fail)
              go_meet
              exact ⟨0, D, rfl, HZ0, hS⟩
          · have b1 : (x.kind == 1) = false := by rw [beq_eq_false_iff_ne]; exact k1
            have HZ0 : Hid (Z = (0, D)) := Lib.hid (by rw [HDO.out, if_neg k0, if_neg (fun h => k1 h.1)])
            clear HDO
            go_wp2_with (first | go_skip | ((with_reducible refine g_load ?_); refine wl_run rfl (by first | exact a_load1 hS rfl rfl rfl rfl (by (repeat (first | exact Ix.here | apply Ix.there))) (by rfl) | exact a_loadR hS rfl rfl rfl rfl (by (repeat (first | exact Ix.here | apply Ix.there))) (by rfl) | fail) ?_) | fail)
            go_meet
            exact ⟨0, D, rfl, HZ0, hS⟩
      case rest =>
        clear hS HCL HLS HHD HDO HSE HOP HJU HSTB HFIT
        obtain ⟨er, E, rfl, HZ, hS⟩ := hcut
        by_cases he : er = 0
        · subst he
          go_wp2_with (fail)
          refine wp_region_tail 6 (by kernel_rfl) (by kernel_rfl) hS ?_
          clear hS
          intro w' hS
          simp only [List.take_succ_cons, List.take_zero, List.drop_succ_cons, List.drop_zero]
          still_step
          still_step
          ((with_reducible refine s_load ?_); refine ws_run rfl (by exact a_loadR hS rfl rfl rfl rfl (by (repeat (first | exact Ix.here | apply Ix.there))) (by rfl)) ?_; simp only [Act.put, List.setIfInBounds_toArray, List.set_cons_zero, List.set_cons_succ])
          still_step
          still_step
          still_step
          refine wpStill_nil ?_
          go_wp2_with (first | ((with_reducible refine g_store ?_); refine wl_of rfl ?_; refine a_storeA (vs := x.cells) (off := 2 + s * 15) hS rfl rfl rfl (by rfl) (it_one _) (by (repeat (first | exact Sw.here | apply Sw.there))) (by rw [HJL.out]; show 2 + s * 15 + 15 ≤ 122; omega) (HCS.out _) ?_; clear hS; intro w' hS) | fail)
          have hz : Z = (0, E) := HZ.out
          exact ⟨⟨s + 1, E, { J with items := J.items.set s x }, by omega, by simp, HCK, Lib.hid (by have := HNX.out (by rw [hz]); rw [hz] at this; exact this), Lib.hid (by have := HSTEP.out; rw [hz, if_neg (by simp)] at this; rw [show 8 - (s + 1) = 7 - s from by omega]; exact this.symm), hS.pick⟩, by simp [intOf]; omega⟩
        · have he1 : (er != 0) = true := by simpa using he
          go_wp2_with (fail)
          go_ret2
          have hz : Z = (er, E) := HZ.out
          have hr : R = (er, J, E) := by rw [HSTEP.out, hz, if_pos (by simpa using he)]
          rw [hr]
          exact .inl ⟨he, rfl, hS.pick⟩
    · obtain rfl : s = 8 := by omega
      have hr : (0, J, D) = R := HR.out
      subst hr
      go_wp2_with (fail)
      go_ret2
      exact .inr ⟨rfl, gj, rfl, hS⟩
end
end Go.Proofs.Ytnjboimjlbgdiaa
