/-
  A journal: the chapter's example, by the program.
-/
import Derived.Test.YtnjboimjlbgdiaaJrnQ
import Derived.Test.YtnjboimjlbgdiaaJrn6
import Derived.Test.YtnjboimjlbgdiaaJrnB
import Derived.Test.YtnjboimjlbgdiaaFieldV
set_option linter.unusedSimpArgs false
set_option linter.unusedVariables false
set_option linter.unusedSectionVars false
set_option maxRecDepth 100000
namespace Go.Proofs.Ytnjboimjlbgdiaa
open Go.RowKit Go.Cmp

section
set_option maxHeartbeats 16000000 in
theorem awake13_any (w : World) : Calls Try.prog 7 #[] w fun e w' => e = .returned (.bool true) ∧ St [] w w' [] := by
  have hS := St.init w
  obtain ⟨D0, h0⟩ : ∃ D0, newDsk 32 = D0 := ⟨_, rfl⟩
  have hf0 : FmtI D0 0 := by rw [← h0]; exact newDsk_fmt
  have HNW := Lib.hid (fun (w0 w : World) (M : List Ent) (hS : St [] w0 w M) => disk_new 32 (by omega) (by omega) hS)
  rw [h0] at HNW
  obtain ⟨hf1, hv⟩ := fmt_void hf0
  obtain ⟨D1, h1⟩ : ∃ D1, (fmtJ D0).2 = D1 := ⟨_, rfl⟩
  rw [h1] at hv
  have HFM : Hid (∀ (w0 w : World) (M : List Ent) (g : Nat), St [] w0 w (disk g D0 :: M) → Calls Try.prog 25 #[.pointer (some ⟨g, 0, none⟩)] w fun x w' => x = .returned (.int .i64 0) ∧ St [] w0 w' (disk g D1 :: M)) := Lib.hid (fun w0 w M g hS => by
    refine (jrnFormat_any hS hf0).mono ?_
    rintro e w' ⟨a, _, b⟩
    rw [h1] at b
    exact ⟨a, b⟩)
  obtain ⟨o1, o2, o3⟩ := fresh_open hv
  have hst := hv.steps
  have HOP := Lib.hid (fun (w0 w : World) (M : List Ent) (g : Nat) (hS : St [] w0 w (disk g D1 :: M)) => jrnOpen_any hS 0 (by omega) (OpnI 0 D1.steps) ⟨hv.on, by simp, by simp, rfl⟩ (fun s D J h hs => opnI_step (by omega) h hs))
  obtain ⟨R, hR⟩ : ∃ R, openJ D1 0 = R := ⟨_, rfl⟩
  rw [hR] at HOP o1 o2 o3
  obtain ⟨er, J1, D1'⟩ := R
  simp only at o1 o2 o3
  subst o1
  subst o2
  have hhd := fresh_head o3
  have HH1 := Lib.hid (fun (w0 w : World) (M : List Ent) (g gj : Nat) (hS : St [] w0 w (.row gj (jcells g J1) 68 (0, 0) :: M)) => jrnHead_any hS o3.len (by rw [o3.check]; omega))
  rw [hhd] at HH1
  obtain ⟨J2, D2, p1, p2, p3, p4, p5, p6, p7⟩ := fresh_put hv o3
  have HPU := Lib.hid (fun (w0 w : World) (M : List Ent) (g gj : Nat) (hS : St [] w0 w (disk g D1' :: .row gj (jcells g J1) 68 (0, 0) :: M)) => jrnPut_any hS hv.on.ok (by rw [hv.on.way]; decide) (by omega) o3.len (by rw [o3.check]; omega) awE (by decide) (by decide) (by decide))
  rw [p1] at HPU
  have HH2 := Lib.hid (fun (w0 w : World) (M : List Ent) (g gj : Nat) (hS : St [] w0 w (.row gj (jcells g J2) 68 (0, 0) :: M)) => jrnHead_any hS p4 (by rw [p5]; omega))
  rw [p6] at HH2
  have hr5 : D2.read 5 = (nth D2.lasts 5, 0) := p2.read (i := 5) (by omega)
  have hr13 : D2.read 13 = (nth D2.lasts 13, 0) := p2.read (i := 13) (by omega)
  have HR5 := Lib.hid (fun (w0 w : World) (M : List Ent) (g : Nat) (hS : St [] w0 w (disk g D2 :: M)) => disk_read hS p2.ok 5)
  have HR13 := Lib.hid (fun (w0 w : World) (M : List Ent) (g : Nat) (hS : St [] w0 w (disk g D2 :: M)) => disk_read hS p2.ok 13)
  rw [hr5] at HR5
  rw [hr13] at HR13
  have HJU := Lib.hid (fun w => slotJudge_any (nth D2.lasts 5) (nth D2.lasts 13) 1 (by rw [p2.text (by omega)]; omega) (by rw [p2.text (by omega)]; omega) w)
  generalize nth D2.lasts 5 = t5 at HR5 HJU p7
  generalize nth D2.lasts 13 = t13 at HR13 HJU p7
  generalize judgeS t5 t13 1 = x at HJU p7
  obtain ⟨kd, sb, en⟩ := x
  simp only at p7
  subst p7
  clear h0 hf0 hf1 hv h1 hst o3 hhd p1 p2 p3 p4 p5 p6 hR hr5 hr13
  (go_enter Try.func7, Try.ntmps7)
  go_wp2_with (first | go_skip | (go_at_call 24; refine (HNW.out _ _ _ hS).mono ?_; clear hS; rintro e w' ⟨gd, rfl, hS⟩) | (go_at_call 25; (refine (HFM.out _ _ _ _ (hS.out (by first | ((repeat (first | exact Out.here | apply Out.there)); done) | fail))).mono ?_; clear hS; rintro e w' ⟨rfl, hS⟩)) | fail)
  refine (HOP.out _ _ _ _ hS).mono ?_
  clear hS
  rintro e w' h
  rcases h with ⟨h, _⟩ | ⟨_, gj, rfl, hS⟩
  · exact absurd rfl h
  replace hS : St [] w _ [disk gd D1', .row gj (jcells gd J1) 68 (0, 0)] := hS
  go_wp2_with (first | go_skip | (go_at_call 14; (refine (HH1.out _ _ [disk gd D1'] _ _ hS.pick).mono ?_; clear hS; rintro e w' ⟨rfl, hS⟩)) | fail)
  refine (HPU.out _ _ [] _ _ hS.pick).mono ?_
  clear hS
  rintro e w' ⟨rfl, hS⟩
  go_wp2_with (fail)
  refine (HR5.out _ _ _ _ hS).mono ?_
  clear hS
  rintro e w' ⟨rfl, hS⟩
  go_wp2_with (fail)
  refine (HR13.out _ _ _ _ hS).mono ?_
  clear hS
  rintro e w' ⟨rfl, hS⟩
  go_wp2_with (first | go_skip | (go_at_call 14; (refine (HH2.out _ _ [disk gd D2] _ _ hS.pick).mono ?_; clear hS; rintro e w' ⟨rfl, hS⟩)) | (go_at_call 27; refine (HJU.out _).mono ?_; rintro e w' ⟨rfl, h⟩; replace hS := hS.call h; clear h) | (refine wl_run rfl (v := .int .i64 1) (a_fieldV rfl rfl rfl rfl rfl rfl rfl) ?_) | fail)
  go_ret
  exact ⟨rfl, hS.nil⟩
end
end Go.Proofs.Ytnjboimjlbgdiaa
