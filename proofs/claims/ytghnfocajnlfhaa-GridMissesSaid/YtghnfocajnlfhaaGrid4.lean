/-
  Texts in blocks: a text written, by the program.
-/
import Derived.Test.YtghnfocajnlfhaaGrid3
set_option linter.unusedSimpArgs false
set_option linter.unusedVariables false
set_option linter.unusedSectionVars false
set_option maxRecDepth 100000
namespace Go.Cmp
open Go.RowKit
theorem writesG_cons (a i : Nat) (b : List UInt8) (l : List (List UInt8)) (D : Dsk) : writesG a i (b :: l) D = if (layG D (secG a i) b).1 ≠ 0 then layG D (secG a i) b else writesG a (i + 1) l (layG D (secG a i) b).2 := rfl
end Go.Cmp
namespace Go.Proofs.Ytghnfocajnlfhaa
open Go.RowKit Go.Cmp

section
variable {S : List Nat} {w0 w : World} {M : List Ent} {g : Nat} {D : Dsk}
set_option maxHeartbeats 4000000 in
theorem gridWrite_any (hS : St S w0 w (disk g D :: M)) (hD : D.Ok) (hw : D.way.length + 10 ≤ 1000000) (hs : D.steps + 10 ≤ 1000000000) (a : Nat) (ha : a < 2) (s : List UInt8) (hl : s.length ≤ 1000000) :
    Calls Try.prog 9 #[.pointer (some ⟨g, 0, none⟩), .int .i64 a, .string ⟨s.toArray⟩] w fun e w' => e = .returned (.int .i64 (gWrite D a s).1) ∧ St S w0 w' (disk g (gWrite D a s).2 :: M) := by
  have HMA : Hid (∀ w, Calls Try.prog 25 #[.int .i64 a, .int .i64 0] w fun e w' => e = .returned (.bool true) ∧ w' = w) := Lib.hid (fun w => gridMay_any a 0 ha (by omega) w)
  by_cases hlong : 1920 < s.length
  · have e : gWrite D a s = (5, D) := by unfold gWrite; rw [if_pos hlong]
    have h1 : (1920 : Int) < s.length := by omega
    rw [e]
    clear e hlong
    (go_enter Try.func9, Try.ntmps9)
    go_wp2_with (first | go_skip | (go_at_call 25; refine (HMA.out _).mono ?_; rintro e w' ⟨rfl, rfl⟩) | fail)
    go_ret
    exact ⟨rfl, hS⟩
  · have h1 : ¬ (1920 : Int) < s.length := by omega
    have e : gWrite D a s = writesG a 0 (piecesG s) D := by unfold gWrite; rw [if_neg hlong]
    rw [e]
    have hPL : (piecesG s).length = cntG s.length := piecesTo_len s _
    have hc6 : (piecesG s).length ≤ 6 := by rw [hPL]; unfold cntG; omega
    have HB := Lib.hid (fun w => gridBlocks_any s hl w)
    have HPN : Hid (∀ i, i < (piecesG s).length → (nth (piecesG s) i).length ≤ 320) := Lib.hid (fun i hi => by
      have h : nth (piecesG s) i = piece s i := nth_eq (piecesTo_nth (s := s) (by rw [hPL] at hi; exact hi))
      rw [h, piece_len]; omega)
    clear hPL e hlong
    generalize piecesG s = L at HB hc6 HPN ⊢
    obtain ⟨R, hR⟩ : ∃ R, writesG a 0 L D = R := ⟨_, rfl⟩
    rw [hR]
    have HR := Lib.hid hR
    clear hR
    (go_enter Try.func9, Try.ntmps9)
    go_wp2_with (first | go_skip | (go_at_call 25; refine (HMA.out _).mono ?_; rintro e w' ⟨rfl, rfl⟩) | (go_at_call 23; refine (HB.out _).mono ?_; rintro e w' ⟨vb, rfl, h⟩; replace hS := hS.call h; clear h) | ((with_reducible refine g_len ?_); refine wl_run rfl (by exact a_len rfl rfl rfl (hS.rdx (by (repeat (first | exact Ix.here | apply Ix.there))))) ?_) | fail)
    replace hS : St S w0 _ (.vec vb 9 1 L.length (L.flatMap str) :: disk g D :: M) := hS
    go_loopw [21] (fun k wz => ∃ (i : Nat) (D' : Dsk), i ≤ L.length ∧ k = .int .i64 i ∧ D'.Ok ∧ D'.way.length ≤ D.way.length + i ∧ D'.steps ≤ D.steps + i ∧ Hid (R = writesG a i (L.drop i) D') ∧ St S w0 wz (.vec vb 9 1 L.length (L.flatMap str) :: disk g D' :: M)) (fun k _ => L.length - (intOf k).toNat)
    case atStart => exact ⟨0, D, by omega, rfl, hD, by omega, by omega, Lib.hid HR.out.symm, hS⟩
    case round =>
      clear hS hD HR HB HMA
      obtain ⟨i, D', hi, rfl, hD', hwl, hsl, HW, hS⟩ := hrel
      by_cases hil : i < L.length
      · have hil1 : (i : Int) < L.length := by omega
        have hget := get_lt hil
        have hpl := HPN.out i hil
        have hdr : L.drop i = nth L i :: L.drop (i + 1) := by
          rw [List.drop_eq_getElem_cons hil]
          congr 1
          have := List.getElem?_eq_getElem hil
          rw [hget] at this
          exact (Option.some.inj this).symm
        have hw2 := HW.out
        rw [hdr, writesG_cons] at hw2
        have HL := Lib.hid (fun (W : World) (M : List Ent) (hS : St S w0 W (disk g D' :: M)) => gridLay_any hS hD' a i ha (by omega) (nth L i) (by omega))
        have hn := layG_next hD' (secG a i) (nth L i) (by omega) (by omega)
        generalize layG D' (secG a i) (nth L i) = Y at HL hn hw2
        generalize nth L i = x at HL hget
        obtain ⟨re, D2⟩ := Y
        simp only at HL hn hw2
        have hD2 := hn.ok
        have hn1 := hn.way
        have hn2 := hn.steps
        clear hdr HW hpl hn
        by_cases hr : re = 0
        · subst hr
          rw [if_neg (by decide)] at hw2
          have HN := Lib.hid hw2
          clear hw2
          go_wp2_with (first | go_skip | ((with_reducible refine g_index ?_); refine wl_run rfl (by exact a_index rfl rfl rfl rfl (hS.rdx (by (repeat (first | exact Ix.here | apply Ix.there)))) (by rfl) (by omega) (by omega)) ?_) | ((with_reducible refine g_load ?_); refine wl_run rfl (by exact a_loadE (L := L) (f := str) rfl (hS.rdx (by (repeat (first | exact Ix.here | apply Ix.there)))) rfl rfl rfl (by intro _; rfl) hget (by rfl)) ?_) | (go_at_call 26; (refine (HL.out _ _ (hS.out (by (repeat (first | exact Out.here | apply Out.there))))).mono ?_; clear hS; rintro e w' ⟨rfl, hS⟩)) | fail)
          exact ⟨⟨i + 1, D2, by omega, by simp, hD2, by omega, by omega, HN, hS.pick⟩, by simp [intOf]; omega⟩
        · have hr1 : (re != 0) = true := by simpa using hr
          rw [if_pos (by simpa using hr)] at hw2
          have HN := Lib.hid hw2
          clear hw2 hr
          go_wp2_with (first | go_skip | ((with_reducible refine g_index ?_); refine wl_run rfl (by exact a_index rfl rfl rfl rfl (hS.rdx (by (repeat (first | exact Ix.here | apply Ix.there)))) (by rfl) (by omega) (by omega)) ?_) | ((with_reducible refine g_load ?_); refine wl_run rfl (by exact a_loadE (L := L) (f := str) rfl (hS.rdx (by (repeat (first | exact Ix.here | apply Ix.there)))) rfl rfl rfl (by intro _; rfl) hget (by rfl)) ?_) | (go_at_call 26; (refine (HL.out _ _ (hS.out (by (repeat (first | exact Out.here | apply Out.there))))).mono ?_; clear hS; rintro e w' ⟨rfl, hS⟩)) | fail)
          go_ret
          exact ⟨by rw [HN.out]; rfl, by rw [HN.out]; exact hS.pick⟩
      · obtain rfl : i = L.length := by omega
        have HN : Hid (R = D'.flush) := Lib.hid (by rw [HW.out, List.drop_length]; rfl)
        have HF := Lib.hid (fun (W : World) (M : List Ent) (hS : St S w0 W (disk g D' :: M)) => disk_flush hS hD')
        rw [← HN.out] at HF
        clear HW
        go_wp2_with (first | go_skip | (go_at_call 27; (refine (HF.out _ _ (hS.out (by (repeat (first | exact Out.here | apply Out.there))))).mono ?_; clear hS; rintro e w' ⟨rfl, hS⟩)) | fail)
        go_ret
        exact ⟨rfl, hS.pick⟩
end
end Go.Proofs.Ytghnfocajnlfhaa
