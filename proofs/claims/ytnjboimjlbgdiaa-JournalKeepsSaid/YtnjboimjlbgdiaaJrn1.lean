/-
  A journal's sectors: numbers; a sector is made anew by a function.
-/
import Derived.Test.YtnjboimjlbgdiaaJrnSpec
import Derived.Test.YtnjboimjlbgdiaaSlot5
import Derived.Test.YtnjboimjlbgdiaaSlot3
import Derived.Test.YtnjboimjlbgdiaaDiskA
import Derived.Test.YtnjboimjlbgdiaaDiskB
set_option linter.unusedSimpArgs false
set_option linter.unusedVariables false
set_option linter.unusedSectionVars false
set_option maxRecDepth 100000
namespace Go.Cmp
open Go.RowKit
namespace Dsk
theorem under_lenJ (i : Int) : ∀ {l : List Wr}, (∀ x ∈ l, x.text.length = 384) → ∀ s, under i l = some s → s.length = 384
  | [], _, s, h => by simp [under] at h
  | x :: l, hl, s, h => by
    unfold under at h
    split at h
    · rename_i t ht
      simp only [Option.some.injEq] at h
      subst h
      exact under_lenJ i (fun y hy => hl y (by simp [hy])) _ ht
    · split at h
      · simp only [Option.some.injEq] at h
        subst h
        exact hl x (by simp)
      · cases h
theorem read_lenJ {D : Dsk} (h : D.Ok) (i : Int) : (D.read i).1.length ≤ 384 := by
  unfold read
  split
  · exact Nat.zero_le _
  · rename_i hi
    split
    · exact Nat.zero_le _
    · have hi' : D.is i = true := by simpa using hi
      have hi2 := is_lt hi'
      cases hu : under i D.way with
      | none =>
        show (nth D.lasts i.toNat).length ≤ 384
        rw [h.size _ (nth_mem (by omega))]
        exact Nat.le_refl _
      | some s =>
        show s.length ≤ 384
        rw [under_lenJ i (fun x hx => (h.way x hx).2.2) s hu]
        exact Nat.le_refl _
end Dsk
end Go.Cmp
namespace Go.Proofs.Ytnjboimjlbgdiaa
open Go.RowKit Go.Cmp

section
variable {S : List Nat} {w0 w : World} {M : List Ent} {g : Nat} {D : Dsk}
set_option maxHeartbeats 4000000 in
theorem jrnPrep_any (n : Nat) (hn : n ≤ 1000000000000000000) (w : World) : Calls Try.prog 30 #[.int .i64 n] w fun e w' => e = .returned (.int .i64 (prepN n)) ∧ w' = w := by
  have h : Int.tmod (n : Int) 8 = (n : Int) % 8 := Int.tmod_eq_emod_of_nonneg (by omega)
  have h2 : prepN n = 4 + Int.tmod (n : Int) 8 := by rw [h]; rfl
  rw [h2]
  (go_enter Try.func30, Try.ntmps30)
  go_wp2_with (fail)
  go_ret
  exact ⟨rfl, rfl⟩
set_option maxHeartbeats 4000000 in
theorem jrnHdr_any (n : Nat) (hn : n ≤ 1000000000000000000) (w : World) : Calls Try.prog 33 #[.int .i64 n] w fun e w' => e = .returned (.int .i64 (hdrN n)) ∧ w' = w := by
  have h : Int.tmod (n : Int) 8 = (n : Int) % 8 := Int.tmod_eq_emod_of_nonneg (by omega)
  have h2 : hdrN n = 12 + Int.tmod (n : Int) 8 := by rw [h]; rfl
  rw [h2]
  (go_enter Try.func33, Try.ntmps33)
  go_wp2_with (fail)
  go_ret
  exact ⟨rfl, rfl⟩

set_option maxHeartbeats 4000000 in
theorem jrnLayV (hS : St S w0 w (disk g D :: M)) (hD : D.Ok) (hw : D.way.length < 1000000) (hs : D.steps < 1000000000) (i : Int) :
    Calls Try.prog 32 #[.pointer (some ⟨g, 0, none⟩), .int .i64 i, .func (.func 34) #[] #[]] w fun e w' => e = .returned (.int .i64 (layV D i).1) ∧ St S w0 w' (disk g (layV D i).2 :: M) := by
  have HR := Lib.hid (fun (W : World) (M : List Ent) (hS : St S w0 W (disk g D :: M)) => disk_read hS hD i)
  have hrl := Dsk.read_lenJ hD i
  have hrl2 : (D.read i).1.length ≤ 1000000 := by omega
  have HMK := Lib.hid (fun w => slotVoid_any (D.read i).1 hrl2 w)
  have HW := Lib.hid (fun (W : World) (M : List Ent) (hS : St S w0 W (disk g D :: M)) => disk_write hS hD i (voidS (D.read i).1))
  have hok : (D.write i (voidS (D.read i).1)).2.Ok := (Dsk.write_next hD i _ hw hs).ok
  have hlay : layV D i = if (D.read i).2 ≠ 0 then ((D.read i).2, D) else if (D.write i (voidS (D.read i).1)).1 ≠ 0 then D.write i (voidS (D.read i).1) else (D.write i (voidS (D.read i).1)).2.flush := rfl
  obtain ⟨R, hR⟩ : ∃ R, layV D i = R := ⟨_, rfl⟩
  rw [hR] at hlay ⊢
  clear hR
  obtain ⟨T, hT⟩ : ∃ T, voidS (D.read i).1 = T := ⟨_, rfl⟩
  rw [hT] at HW hok hlay
  have HT := Lib.hid hT
  clear hT
  obtain ⟨Q, hQ⟩ : ∃ Q, D.read i = Q := ⟨_, rfl⟩
  rw [hQ] at HR HMK hlay HT hrl2
  obtain ⟨old, er⟩ := Q
  simp only at HR HMK hlay HT hrl2
  have hT2 : voidS old = T := HT.out
  rw [hT2] at HMK
  clear hT2
  generalize D.write i T = Y at HW hok hlay
  obtain ⟨ye, D2⟩ := Y
  simp only at HW hok
  have HF := Lib.hid (fun (W : World) (M : List Ent) (hS : St S w0 W (disk g D2 :: M)) => disk_flush hS hok)
  clear hQ hrl hD hok HT
  by_cases he : er = 0
  · subst he
    rw [if_neg (by decide)] at hlay
    by_cases hy : ye = 0
    · subst hy
      rw [if_neg (fun h => h rfl)] at hlay
      simp only at hlay
      rw [← hlay] at HF
      clear hlay
      (go_enter Try.func32, Try.ntmps32)
      go_wp2_with (first | go_skip | (go_at_call 26; (refine (HR.out _ _ (hS.out (by first | ((repeat (first | exact Out.here | apply Out.there)); done) | fail))).mono ?_; clear hS; rintro e w' ⟨rfl, hS⟩)) | (go_at_call 34; refine (HMK.out _).mono ?_; rintro e w' ⟨rfl, h⟩; replace hS := hS.call h; clear h) | (go_at_call 49; (refine (HW.out _ _ (hS.out (by first | ((repeat (first | exact Out.here | apply Out.there)); done) | fail))).mono ?_; clear hS; rintro e w' ⟨rfl, hS⟩)) | (go_at_call 50; (refine (HF.out _ _ (hS.out (by first | ((repeat (first | exact Out.here | apply Out.there)); done) | fail))).mono ?_; clear hS; rintro e w' ⟨rfl, hS⟩)) | fail)
      go_ret
      exact ⟨rfl, hS.pick⟩
    · have hy1 : (ye != 0) = true := by simpa using hy
      rw [if_pos (by simpa using hy)] at hlay
      subst hlay
      clear hy
      (go_enter Try.func32, Try.ntmps32)
      go_wp2_with (first | go_skip | (go_at_call 26; (refine (HR.out _ _ (hS.out (by first | ((repeat (first | exact Out.here | apply Out.there)); done) | fail))).mono ?_; clear hS; rintro e w' ⟨rfl, hS⟩)) | (go_at_call 34; refine (HMK.out _).mono ?_; rintro e w' ⟨rfl, h⟩; replace hS := hS.call h; clear h) | (go_at_call 49; (refine (HW.out _ _ (hS.out (by first | ((repeat (first | exact Out.here | apply Out.there)); done) | fail))).mono ?_; clear hS; rintro e w' ⟨rfl, hS⟩)) | fail)
      go_ret
      exact ⟨rfl, hS.pick⟩
  · have he1 : (er != 0) = true := by simpa using he
    rw [if_pos (by simpa using he)] at hlay
    subst hlay
    clear he
    (go_enter Try.func32, Try.ntmps32)
    go_wp2_with (first | go_skip | (go_at_call 26; (refine (HR.out _ _ (hS.out (by first | ((repeat (first | exact Out.here | apply Out.there)); done) | fail))).mono ?_; clear hS; rintro e w' ⟨rfl, hS⟩)) | fail)
    go_ret
    exact ⟨rfl, hS.pick⟩

set_option maxHeartbeats 4000000 in
theorem jrnSays1 {gq : Nat} {s : Stb} (hS : St S w0 w (.row gq s.cells 35 (0, 0) :: M)) (old : List UInt8) (ho : old.length ≤ 1000000) (hp : s.parent < 18446744073709551616) (hs : s.sum < 18446744073709551616) :
    Calls Try.prog 57 #[.string ⟨old.toArray⟩, .pointer (some ⟨gq, 0, none⟩)] w fun e w' => e = .returned (.string ⟨(hdrS old s).1.toArray⟩) ∧ St S w0 w' (.row gq s.cells 35 (0, 0) :: M) := by
  have H := Lib.hid (fun w => slotHeader_any old s ho hp hs w)
  generalize hdrS old s = R at H ⊢
  obtain ⟨r, er⟩ := R
  simp only at H
  clear hp hs ho
  (go_enter Try.func57, Try.ntmps57)
  go_wp2_with (first | go_skip | ((with_reducible refine g_load ?_); refine wl_run rfl (by first | exact a_load1 hS rfl rfl rfl rfl (by (repeat (first | exact Ix.here | apply Ix.there))) (by rfl) | exact a_loadR hS rfl rfl rfl rfl (by (repeat (first | exact Ix.here | apply Ix.there))) (by rfl) | fail) ?_) | (go_at_call 58; refine (H.out _).mono ?_; rintro e w' ⟨rfl, h⟩; replace hS := hS.call h; clear h) | fail)
  go_ret
  exact ⟨rfl, hS.pick⟩
set_option maxHeartbeats 4000000 in
theorem jrnHas1 {gq : Nat} {x : En} (hS : St S w0 w (.row gq x.cells 24 (0, 0) :: M)) (old : List UInt8) (ho : old.length ≤ 1000000) (hp : x.parent < 18446744073709551616) (hb : x.body.length ≤ 1000000) :
    Calls Try.prog 55 #[.string ⟨old.toArray⟩, .pointer (some ⟨gq, 0, none⟩)] w fun e w' => e = .returned (.string ⟨(prepS old x).1.toArray⟩) ∧ St S w0 w' (.row gq x.cells 24 (0, 0) :: M) := by
  have H := Lib.hid (fun w => slotPrepare_any old x ho hp hb w)
  generalize prepS old x = R at H ⊢
  obtain ⟨r, er⟩ := R
  simp only at H
  clear hp hb ho
  (go_enter Try.func55, Try.ntmps55)
  go_wp2_with (first | go_skip | ((with_reducible refine g_load ?_); refine wl_run rfl (by first | exact a_load1 hS rfl rfl rfl rfl (by (repeat (first | exact Ix.here | apply Ix.there))) (by rfl) | exact a_loadR hS rfl rfl rfl rfl (by (repeat (first | exact Ix.here | apply Ix.there))) (by rfl) | fail) ?_) | (go_at_call 56; refine (H.out _).mono ?_; rintro e w' ⟨rfl, h⟩; replace hS := hS.call h; clear h) | fail)
  go_ret
  exact ⟨rfl, hS.pick⟩
set_option maxHeartbeats 4000000 in
theorem jrnSays_any (s : Stb) (hS : St S w0 w M) :
    Calls Try.prog 36 #[.agg s.cells.toArray] w fun e w' => ∃ gq, e = .returned (.func (.func 57) #[] #[.pointer (some ⟨gq, 0, none⟩)]) ∧ St S w0 w' (.row gq s.cells 35 (0, 0) :: M) := by
  (go_enter Try.func36, Try.ntmps36)
  go_wp2_with (first | go_skip | ((with_reducible refine g_box ?_); refine wl_of rfl ?_; refine wp_box hS rfl rfl rfl ?_; clear hS; intro gq w1 hS) | fail)
  go_ret
  exact ⟨gq, rfl, hS⟩
set_option maxHeartbeats 4000000 in
theorem jrnHas_any (x : En) (hS : St S w0 w M) :
    Calls Try.prog 35 #[.agg x.cells.toArray] w fun e w' => ∃ gq, e = .returned (.func (.func 55) #[] #[.pointer (some ⟨gq, 0, none⟩)]) ∧ St S w0 w' (.row gq x.cells 24 (0, 0) :: M) := by
  (go_enter Try.func35, Try.ntmps35)
  go_wp2_with (first | go_skip | ((with_reducible refine g_box ?_); refine wl_of rfl ?_; refine wp_box hS rfl rfl rfl ?_; clear hS; intro gq w1 hS) | fail)
  go_ret
  exact ⟨gq, rfl, hS⟩

set_option maxHeartbeats 4000000 in
theorem jrnLayS {gq : Nat} {s : Stb} (hS : St S w0 w (disk g D :: .row gq s.cells 35 (0, 0) :: M)) (hD : D.Ok) (hw : D.way.length < 1000000) (hs : D.steps < 1000000000) (hp : s.parent < 18446744073709551616) (hq : s.sum < 18446744073709551616) (i : Int) :
    Calls Try.prog 32 #[.pointer (some ⟨g, 0, none⟩), .int .i64 i, .func (.func 57) #[] #[.pointer (some ⟨gq, 0, none⟩)]] w fun e w' => e = .returned (.int .i64 (layS s i D).1) ∧ St S w0 w' (disk g (layS s i D).2 :: .row gq s.cells 35 (0, 0) :: M) := by
  have HR := Lib.hid (fun (W : World) (M : List Ent) (hS : St S w0 W (disk g D :: M)) => disk_read hS hD i)
  have hrl := Dsk.read_lenJ hD i
  have hrl2 : (D.read i).1.length ≤ 1000000 := by omega
  have HMK := Lib.hid (fun (W : World) (M : List Ent) (hS : St S w0 W (.row gq s.cells 35 (0, 0) :: M)) => jrnSays1 hS (D.read i).1 hrl2 hp hq)
  have HW := Lib.hid (fun (W : World) (M : List Ent) (hS : St S w0 W (disk g D :: M)) => disk_write hS hD i ((hdrS (D.read i).1 s).1))
  have hok : (D.write i ((hdrS (D.read i).1 s).1)).2.Ok := (Dsk.write_next hD i _ hw hs).ok
  have hlay : layS s i D = if (D.read i).2 ≠ 0 then ((D.read i).2, D) else if (D.write i ((hdrS (D.read i).1 s).1)).1 ≠ 0 then D.write i ((hdrS (D.read i).1 s).1) else (D.write i ((hdrS (D.read i).1 s).1)).2.flush := rfl
  obtain ⟨R, hR⟩ : ∃ R, layS s i D = R := ⟨_, rfl⟩
  rw [hR] at hlay ⊢
  clear hR
  obtain ⟨T, hT⟩ : ∃ T, (hdrS (D.read i).1 s).1 = T := ⟨_, rfl⟩
  rw [hT] at HW hok hlay
  have HT := Lib.hid hT
  clear hT
  obtain ⟨Q, hQ⟩ : ∃ Q, D.read i = Q := ⟨_, rfl⟩
  rw [hQ] at HR HMK hlay HT hrl2
  obtain ⟨old, er⟩ := Q
  simp only at HR HMK hlay HT hrl2
  have hT2 : (hdrS old s).1 = T := HT.out
  rw [hT2] at HMK
  clear hT2
  generalize D.write i T = Y at HW hok hlay
  obtain ⟨ye, D2⟩ := Y
  simp only at HW hok
  have HF := Lib.hid (fun (W : World) (M : List Ent) (hS : St S w0 W (disk g D2 :: M)) => disk_flush hS hok)
  clear hQ hrl hD hok HT
  by_cases he : er = 0
  · subst he
    rw [if_neg (by decide)] at hlay
    by_cases hy : ye = 0
    · subst hy
      rw [if_neg (fun h => h rfl)] at hlay
      simp only at hlay
      rw [← hlay] at HF
      clear hlay
      (go_enter Try.func32, Try.ntmps32)
      go_wp2_with (first | go_skip | (go_at_call 26; (refine (HR.out _ _ (hS.out (by first | ((repeat (first | exact Out.here | apply Out.there)); done) | fail))).mono ?_; clear hS; rintro e w' ⟨rfl, hS⟩)) | (go_at_call 57; (refine (HMK.out _ _ (hS.out (by first | ((repeat (first | exact Out.here | apply Out.there)); done) | fail))).mono ?_; clear hS; rintro e w' ⟨rfl, hS⟩)) | (go_at_call 49; (refine (HW.out _ _ (hS.out (by first | ((repeat (first | exact Out.here | apply Out.there)); done) | fail))).mono ?_; clear hS; rintro e w' ⟨rfl, hS⟩)) | (go_at_call 50; (refine (HF.out _ _ (hS.out (by first | ((repeat (first | exact Out.here | apply Out.there)); done) | fail))).mono ?_; clear hS; rintro e w' ⟨rfl, hS⟩)) | fail)
      go_ret
      exact ⟨rfl, hS.pick⟩
    · have hy1 : (ye != 0) = true := by simpa using hy
      rw [if_pos (by simpa using hy)] at hlay
      subst hlay
      clear hy
      (go_enter Try.func32, Try.ntmps32)
      go_wp2_with (first | go_skip | (go_at_call 26; (refine (HR.out _ _ (hS.out (by first | ((repeat (first | exact Out.here | apply Out.there)); done) | fail))).mono ?_; clear hS; rintro e w' ⟨rfl, hS⟩)) | (go_at_call 57; (refine (HMK.out _ _ (hS.out (by first | ((repeat (first | exact Out.here | apply Out.there)); done) | fail))).mono ?_; clear hS; rintro e w' ⟨rfl, hS⟩)) | (go_at_call 49; (refine (HW.out _ _ (hS.out (by first | ((repeat (first | exact Out.here | apply Out.there)); done) | fail))).mono ?_; clear hS; rintro e w' ⟨rfl, hS⟩)) | fail)
      go_ret
      exact ⟨rfl, hS.pick⟩
  · have he1 : (er != 0) = true := by simpa using he
    rw [if_pos (by simpa using he)] at hlay
    subst hlay
    clear he
    (go_enter Try.func32, Try.ntmps32)
    go_wp2_with (first | go_skip | (go_at_call 26; (refine (HR.out _ _ (hS.out (by first | ((repeat (first | exact Out.here | apply Out.there)); done) | fail))).mono ?_; clear hS; rintro e w' ⟨rfl, hS⟩)) | fail)
    go_ret
    exact ⟨rfl, hS.pick⟩

set_option maxHeartbeats 4000000 in
theorem jrnLayE {gq : Nat} {x : En} (hS : St S w0 w (disk g D :: .row gq x.cells 24 (0, 0) :: M)) (hD : D.Ok) (hw : D.way.length < 1000000) (hs : D.steps < 1000000000) (hp : x.parent < 18446744073709551616) (hb : x.body.length ≤ 1000000) (i : Int) :
    Calls Try.prog 32 #[.pointer (some ⟨g, 0, none⟩), .int .i64 i, .func (.func 55) #[] #[.pointer (some ⟨gq, 0, none⟩)]] w fun e w' => e = .returned (.int .i64 (layE x i D).1) ∧ St S w0 w' (disk g (layE x i D).2 :: .row gq x.cells 24 (0, 0) :: M) := by
  have HR := Lib.hid (fun (W : World) (M : List Ent) (hS : St S w0 W (disk g D :: M)) => disk_read hS hD i)
  have hrl := Dsk.read_lenJ hD i
  have hrl2 : (D.read i).1.length ≤ 1000000 := by omega
  have HMK := Lib.hid (fun (W : World) (M : List Ent) (hS : St S w0 W (.row gq x.cells 24 (0, 0) :: M)) => jrnHas1 hS (D.read i).1 hrl2 hp hb)
  have HW := Lib.hid (fun (W : World) (M : List Ent) (hS : St S w0 W (disk g D :: M)) => disk_write hS hD i ((prepS (D.read i).1 x).1))
  have hok : (D.write i ((prepS (D.read i).1 x).1)).2.Ok := (Dsk.write_next hD i _ hw hs).ok
  have hlay : layE x i D = if (D.read i).2 ≠ 0 then ((D.read i).2, D) else if (D.write i ((prepS (D.read i).1 x).1)).1 ≠ 0 then D.write i ((prepS (D.read i).1 x).1) else (D.write i ((prepS (D.read i).1 x).1)).2.flush := rfl
  obtain ⟨R, hR⟩ : ∃ R, layE x i D = R := ⟨_, rfl⟩
  rw [hR] at hlay ⊢
  clear hR
  obtain ⟨T, hT⟩ : ∃ T, (prepS (D.read i).1 x).1 = T := ⟨_, rfl⟩
  rw [hT] at HW hok hlay
  have HT := Lib.hid hT
  clear hT
  obtain ⟨Q, hQ⟩ : ∃ Q, D.read i = Q := ⟨_, rfl⟩
  rw [hQ] at HR HMK hlay HT hrl2
  obtain ⟨old, er⟩ := Q
  simp only at HR HMK hlay HT hrl2
  have hT2 : (prepS old x).1 = T := HT.out
  rw [hT2] at HMK
  clear hT2
  generalize D.write i T = Y at HW hok hlay
  obtain ⟨ye, D2⟩ := Y
  simp only at HW hok
  have HF := Lib.hid (fun (W : World) (M : List Ent) (hS : St S w0 W (disk g D2 :: M)) => disk_flush hS hok)
  clear hQ hrl hD hok HT
  by_cases he : er = 0
  · subst he
    rw [if_neg (by decide)] at hlay
    by_cases hy : ye = 0
    · subst hy
      rw [if_neg (fun h => h rfl)] at hlay
      simp only at hlay
      rw [← hlay] at HF
      clear hlay
      (go_enter Try.func32, Try.ntmps32)
      go_wp2_with (first | go_skip | (go_at_call 26; (refine (HR.out _ _ (hS.out (by first | ((repeat (first | exact Out.here | apply Out.there)); done) | fail))).mono ?_; clear hS; rintro e w' ⟨rfl, hS⟩)) | (go_at_call 55; (refine (HMK.out _ _ (hS.out (by first | ((repeat (first | exact Out.here | apply Out.there)); done) | fail))).mono ?_; clear hS; rintro e w' ⟨rfl, hS⟩)) | (go_at_call 49; (refine (HW.out _ _ (hS.out (by first | ((repeat (first | exact Out.here | apply Out.there)); done) | fail))).mono ?_; clear hS; rintro e w' ⟨rfl, hS⟩)) | (go_at_call 50; (refine (HF.out _ _ (hS.out (by first | ((repeat (first | exact Out.here | apply Out.there)); done) | fail))).mono ?_; clear hS; rintro e w' ⟨rfl, hS⟩)) | fail)
      go_ret
      exact ⟨rfl, hS.pick⟩
    · have hy1 : (ye != 0) = true := by simpa using hy
      rw [if_pos (by simpa using hy)] at hlay
      subst hlay
      clear hy
      (go_enter Try.func32, Try.ntmps32)
      go_wp2_with (first | go_skip | (go_at_call 26; (refine (HR.out _ _ (hS.out (by first | ((repeat (first | exact Out.here | apply Out.there)); done) | fail))).mono ?_; clear hS; rintro e w' ⟨rfl, hS⟩)) | (go_at_call 55; (refine (HMK.out _ _ (hS.out (by first | ((repeat (first | exact Out.here | apply Out.there)); done) | fail))).mono ?_; clear hS; rintro e w' ⟨rfl, hS⟩)) | (go_at_call 49; (refine (HW.out _ _ (hS.out (by first | ((repeat (first | exact Out.here | apply Out.there)); done) | fail))).mono ?_; clear hS; rintro e w' ⟨rfl, hS⟩)) | fail)
      go_ret
      exact ⟨rfl, hS.pick⟩
  · have he1 : (er != 0) = true := by simpa using he
    rw [if_pos (by simpa using he)] at hlay
    subst hlay
    clear he
    (go_enter Try.func32, Try.ntmps32)
    go_wp2_with (first | go_skip | (go_at_call 26; (refine (HR.out _ _ (hS.out (by first | ((repeat (first | exact Out.here | apply Out.there)); done) | fail))).mono ?_; clear hS; rintro e w' ⟨rfl, hS⟩)) | fail)
    go_ret
    exact ⟨rfl, hS.pick⟩
end
end Go.Proofs.Ytnjboimjlbgdiaa
