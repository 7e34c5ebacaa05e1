/-
  Texts in blocks: one block laid, put, read; a text written.
-/
import Derived.Test.YtghnfocajnlfhaaGrid2
set_option linter.unusedSimpArgs false
set_option linter.unusedVariables false
set_option linter.unusedSectionVars false
set_option maxRecDepth 100000
namespace Go.Proofs.Ytghnfocajnlfhaa
open Go.RowKit Go.Cmp

section
variable {S : List Nat} {w0 w : World} {M : List Ent} {g : Nat} {D : Dsk}
theorem gridLay_any (hS : St S w0 w (disk g D :: M)) (hD : D.Ok) (a i : Nat) (ha : a < 2) (hi : i < 6) (b : List UInt8) (hb : b.length ≤ 1000000) :
    Calls Try.prog 26 #[.pointer (some ⟨g, 0, none⟩), .int .i64 a, .int .i64 i, .string ⟨b.toArray⟩] w fun e w' => e = .returned (.int .i64 (layG D (secG a i) b).1) ∧ St S w0 w' (disk g (layG D (secG a i) b).2 :: M) := by
  have HSE := Lib.hid (fun w => gridSector_any a i ha hi w)
  have HR := Lib.hid (fun (W : World) (M : List Ent) (hS : St S w0 W (disk g D :: M)) => disk_read hS hD (secG a i))
  have hrl := Dsk.read_lenG hD (secG a i)
  have HSL := Lib.hid (fun w => seal_any (D.read (secG a i)).1 b (by omega) hb w)
  have HW := Lib.hid (fun (W : World) (M : List Ent) (hS : St S w0 W (disk g D :: M)) => disk_write hS hD (secG a i) (sealS (D.read (secG a i)).1 b).1)
  have hlay : layG D (secG a i) b = if (D.read (secG a i)).2 ≠ 0 then ((D.read (secG a i)).2, D) else if (sealS (D.read (secG a i)).1 b).2 ≠ 0 then ((sealS (D.read (secG a i)).1 b).2, D) else D.write (secG a i) (sealS (D.read (secG a i)).1 b).1 := rfl
  generalize secG a i = k at HSE HR HSL HW hlay
  generalize layG D k b = R at hlay ⊢
  obtain ⟨Q, hQ⟩ : ∃ Q, D.read k = Q := ⟨_, rfl⟩
  rw [hQ] at HR HSL HW hlay
  obtain ⟨O, er⟩ := Q
  simp only at HR HSL HW hlay
  generalize sealS O b = X at HSL HW hlay
  obtain ⟨x, xe⟩ := X
  simp only at HSL HW hlay
  generalize D.write k x = Y at HW hlay
  obtain ⟨ye, D2⟩ := Y
  simp only at HW
  clear hQ hrl hD
  by_cases he : er = 0
  · subst he
    rw [if_neg (by decide)] at hlay
    by_cases hx : xe = 0
    · subst hx
      rw [if_neg (by decide)] at hlay
      subst hlay
      (go_enter Try.func26, Try.ntmps26)
      go_wp2_with (first | go_skip | (go_at_call 33; refine (HSE.out _).mono ?_; rintro e w' ⟨rfl, rfl⟩) | (go_at_call 32; (refine (HR.out _ _ (hS.out (by (repeat (first | exact Out.here | apply Out.there))))).mono ?_; clear hS; rintro e w' ⟨rfl, hS⟩)) | (go_at_call 37; refine (HSL.out _).mono ?_; rintro e w' ⟨rfl, h⟩; replace hS := hS.call h; clear h) | (go_at_call 38; (refine (HW.out _ _ (hS.out (by (repeat (first | exact Out.here | apply Out.there))))).mono ?_; clear hS; rintro e w' ⟨rfl, hS⟩)) | fail)
      go_ret
      exact ⟨rfl, hS.pick⟩
    · have hx1 : (xe != 0) = true := by simpa using hx
      rw [if_pos (by simpa using hx)] at hlay
      subst hlay
      clear hx
      (go_enter Try.func26, Try.ntmps26)
      go_wp2_with (first | go_skip | (go_at_call 33; refine (HSE.out _).mono ?_; rintro e w' ⟨rfl, rfl⟩) | (go_at_call 32; (refine (HR.out _ _ (hS.out (by (repeat (first | exact Out.here | apply Out.there))))).mono ?_; clear hS; rintro e w' ⟨rfl, hS⟩)) | (go_at_call 37; refine (HSL.out _).mono ?_; rintro e w' ⟨rfl, h⟩; replace hS := hS.call h; clear h) | fail)
      go_ret
      exact ⟨rfl, hS.pick⟩
  · have he1 : (er != 0) = true := by simpa using he
    rw [if_pos (by simpa using he)] at hlay
    subst hlay
    clear he
    (go_enter Try.func26, Try.ntmps26)
    go_wp2_with (first | go_skip | (go_at_call 33; refine (HSE.out _).mono ?_; rintro e w' ⟨rfl, rfl⟩) | (go_at_call 32; (refine (HR.out _ _ (hS.out (by (repeat (first | exact Out.here | apply Out.there))))).mono ?_; clear hS; rintro e w' ⟨rfl, hS⟩)) | fail)
    go_ret
    exact ⟨rfl, hS.pick⟩
theorem gridPut_any (hS : St S w0 w (disk g D :: M)) (hD : D.Ok) (hw : D.way.length < 1000000) (hs : D.steps < 1000000000) (a i : Nat) (ha : a < 2) (hi : i < 6) (b : List UInt8) (hb : b.length ≤ 1000000) :
    Calls Try.prog 14 #[.pointer (some ⟨g, 0, none⟩), .int .i64 a, .int .i64 i, .string ⟨b.toArray⟩] w fun e w' => e = .returned (.int .i64 (gPut D a i b).1) ∧ St S w0 w' (disk g (gPut D a i b).2 :: M) := by
  have HMA := Lib.hid (fun w => gridMay_any a i ha hi w)
  by_cases hl : 320 < b.length
  · have e : gPut D a i b = (5, D) := by unfold gPut; rw [if_pos hl]
    have h1 : (320 : Int) < b.length := by omega
    rw [e]
    clear e hl
    (go_enter Try.func14, Try.ntmps14)
    go_wp2_with (first | go_skip | (go_at_call 25; refine (HMA.out _).mono ?_; rintro e w' ⟨rfl, rfl⟩) | fail)
    go_ret
    exact ⟨rfl, hS⟩
  · have h1 : ¬ (320 : Int) < b.length := by omega
    have HL := Lib.hid (fun (W : World) (M : List Ent) (hS : St S w0 W (disk g D :: M)) => gridLay_any hS hD a i ha hi b hb)
    have hn := layG_next hD (secG a i) b hw hs
    have e : gPut D a i b = if (layG D (secG a i) b).1 ≠ 0 then layG D (secG a i) b else (layG D (secG a i) b).2.flush := by unfold gPut; rw [if_neg hl]
    generalize layG D (secG a i) b = R at HL hn e
    generalize gPut D a i b = P at e ⊢
    obtain ⟨re, D2⟩ := R
    simp only at HL hn e
    have hD2 := hn.ok
    clear hn hl
    by_cases hr : re = 0
    · subst hr
      rw [if_neg (by decide)] at e
      have HF := Lib.hid (fun (W : World) (M : List Ent) (hS : St S w0 W (disk g D2 :: M)) => disk_flush hS hD2)
      rw [← e] at HF
      clear e
      (go_enter Try.func14, Try.ntmps14)
      go_wp2_with (first | go_skip | (go_at_call 25; refine (HMA.out _).mono ?_; rintro e w' ⟨rfl, rfl⟩) | (go_at_call 26; (refine (HL.out _ _ (hS.out (by (repeat (first | exact Out.here | apply Out.there))))).mono ?_; clear hS; rintro e w' ⟨rfl, hS⟩)) | (go_at_call 27; (refine (HF.out _ _ (hS.out (by (repeat (first | exact Out.here | apply Out.there))))).mono ?_; clear hS; rintro e w' ⟨rfl, hS⟩)) | fail)
      go_ret
      exact ⟨rfl, hS.pick⟩
    · have hr1 : (re != 0) = true := by simpa using hr
      rw [if_pos (by simpa using hr)] at e
      subst e
      clear hr
      (go_enter Try.func14, Try.ntmps14)
      go_wp2_with (first | go_skip | (go_at_call 25; refine (HMA.out _).mono ?_; rintro e w' ⟨rfl, rfl⟩) | (go_at_call 26; (refine (HL.out _ _ (hS.out (by (repeat (first | exact Out.here | apply Out.there))))).mono ?_; clear hS; rintro e w' ⟨rfl, hS⟩)) | fail)
      go_ret
      exact ⟨rfl, hS.pick⟩
set_option maxHeartbeats 4000000 in
theorem gridBlock_any (hS : St S w0 w (disk g D :: M)) (hD : D.Ok) (a i : Nat) (ha : a < 2) (hi : i < 6) (sum : Nat) :
    Calls Try.prog 19 #[.pointer (some ⟨g, 0, none⟩), .int .i64 a, .int .i64 i, .int .u64 sum] w fun e w' => e = .returned (.tuple #[.string ⟨(blockG D a i sum).1.toArray⟩, .bool (blockG D a i sum).2.1, .int .i64 (blockG D a i sum).2.2]) ∧ St S w0 w' (disk g D :: M) := by
  have HMA := Lib.hid (fun w => gridMay_any a i ha hi w)
  have HSE := Lib.hid (fun w => gridSector_any a i ha hi w)
  have HR := Lib.hid (fun (W : World) (M : List Ent) (hS : St S w0 W (disk g D :: M)) => disk_read hS hD (secG a i))
  have hrl := Dsk.read_lenG hD (secG a i)
  have HOP := Lib.hid (fun w => open_any (D.read (secG a i)).1 (by omega) w)
  have hol := openS_lenG (p := (D.read (secG a i)).1)
  have HC := Lib.hid (fun w => crcChain_any i (by omega) (openS (D.read (secG a i)).1).1 (by omega) w)
  have hbl : blockG D a i sum = if (D.read (secG a i)).2 ≠ 0 then ([], false, (D.read (secG a i)).2) else if (openS (D.read (secG a i)).1).2 = false ∨ 320 < (openS (D.read (secG a i)).1).1.length ∨ chainOf i (openS (D.read (secG a i)).1).1 ≠ sum then ([], false, 0) else ((openS (D.read (secG a i)).1).1, true, 0) := by
    unfold blockG hasG
    split
    · rfl
    · split <;> rfl
  have hw1 : IntKind.u64.wrap (i : Int) = i := u64_nat (by omega)
  generalize blockG D a i sum = R at hbl ⊢
  generalize secG a i = k at HSE HR HOP HC hbl hol
  obtain ⟨Q, hQ⟩ : ∃ Q, D.read k = Q := ⟨_, rfl⟩
  rw [hQ] at HR HOP HC hbl hol
  obtain ⟨O, er⟩ := Q
  simp only at HR HOP HC hbl hol
  generalize openS O = X at HOP HC hbl hol
  obtain ⟨x, ok⟩ := X
  simp only at HOP HC hbl hol
  generalize chainOf i x = c at HC hbl
  clear hQ hrl hD
  by_cases he : er = 0
  · subst he
    rw [if_neg (by decide)] at hbl
    cases ok
    · rw [if_pos (.inl rfl)] at hbl
      subst hbl
      (go_enter Try.func19, Try.ntmps19)
      go_wp2_with (first | go_skip | (go_at_call 25; refine (HMA.out _).mono ?_; rintro e w' ⟨rfl, rfl⟩) | (go_at_call 33; refine (HSE.out _).mono ?_; rintro e w' ⟨rfl, rfl⟩) | (go_at_call 32; (refine (HR.out _ _ (hS.out (by (repeat (first | exact Out.here | apply Out.there))))).mono ?_; clear hS; rintro e w' ⟨rfl, hS⟩)) | (go_at_call 34; refine (HOP.out _).mono ?_; rintro e w' ⟨rfl, h⟩; replace hS := hS.call h; clear h) | fail)
      go_ret3
      exact ⟨rfl, hS.pick⟩
    · by_cases hl : 320 < x.length
      · have h1 : (320 : Int) < x.length := by omega
        rw [if_pos (.inr (.inl hl))] at hbl
        subst hbl
        clear hl
        (go_enter Try.func19, Try.ntmps19)
        go_wp2_with (first | go_skip | (go_at_call 25; refine (HMA.out _).mono ?_; rintro e w' ⟨rfl, rfl⟩) | (go_at_call 33; refine (HSE.out _).mono ?_; rintro e w' ⟨rfl, rfl⟩) | (go_at_call 32; (refine (HR.out _ _ (hS.out (by (repeat (first | exact Out.here | apply Out.there))))).mono ?_; clear hS; rintro e w' ⟨rfl, hS⟩)) | (go_at_call 34; refine (HOP.out _).mono ?_; rintro e w' ⟨rfl, h⟩; replace hS := hS.call h; clear h) | fail)
        go_ret3
        exact ⟨rfl, hS.pick⟩
      · have h1 : ¬ (320 : Int) < x.length := by omega
        by_cases hc : c = sum
        · rw [if_neg (by simp [hl, hc])] at hbl
          have hc1 : ((c : Int) != (sum : Int)) = false := by rw [hc]; simp
          subst hbl
          clear hl hc
          (go_enter Try.func19, Try.ntmps19)
          go_wp2_with (first | go_skip | (go_at_call 25; refine (HMA.out _).mono ?_; rintro e w' ⟨rfl, rfl⟩) | (go_at_call 33; refine (HSE.out _).mono ?_; rintro e w' ⟨rfl, rfl⟩) | (go_at_call 32; (refine (HR.out _ _ (hS.out (by (repeat (first | exact Out.here | apply Out.there))))).mono ?_; clear hS; rintro e w' ⟨rfl, hS⟩)) | (go_at_call 34; refine (HOP.out _).mono ?_; rintro e w' ⟨rfl, h⟩; replace hS := hS.call h; clear h) | (go_at_call 24; refine (HC.out _).mono ?_; rintro e w' ⟨rfl, rfl⟩) | fail)
          go_ret3
          exact ⟨rfl, hS.pick⟩
        · rw [if_pos (.inr (.inr hc))] at hbl
          have hc1 : ((c : Int) != (sum : Int)) = true := by simp; omega
          subst hbl
          clear hl hc
          (go_enter Try.func19, Try.ntmps19)
          go_wp2_with (first | go_skip | (go_at_call 25; refine (HMA.out _).mono ?_; rintro e w' ⟨rfl, rfl⟩) | (go_at_call 33; refine (HSE.out _).mono ?_; rintro e w' ⟨rfl, rfl⟩) | (go_at_call 32; (refine (HR.out _ _ (hS.out (by (repeat (first | exact Out.here | apply Out.there))))).mono ?_; clear hS; rintro e w' ⟨rfl, hS⟩)) | (go_at_call 34; refine (HOP.out _).mono ?_; rintro e w' ⟨rfl, h⟩; replace hS := hS.call h; clear h) | (go_at_call 24; refine (HC.out _).mono ?_; rintro e w' ⟨rfl, rfl⟩) | fail)
          go_ret3
          exact ⟨rfl, hS.pick⟩
  · have he1 : (er != 0) = true := by simpa using he
    rw [if_pos (by simpa using he)] at hbl
    subst hbl
    clear he
    (go_enter Try.func19, Try.ntmps19)
    go_wp2_with (first | go_skip | (go_at_call 25; refine (HMA.out _).mono ?_; rintro e w' ⟨rfl, rfl⟩) | (go_at_call 33; refine (HSE.out _).mono ?_; rintro e w' ⟨rfl, rfl⟩) | (go_at_call 32; (refine (HR.out _ _ (hS.out (by (repeat (first | exact Out.here | apply Out.there))))).mono ?_; clear hS; rintro e w' ⟨rfl, hS⟩)) | fail)
    go_ret3
    exact ⟨rfl, hS.pick⟩
end
end Go.Proofs.Ytghnfocajnlfhaa
