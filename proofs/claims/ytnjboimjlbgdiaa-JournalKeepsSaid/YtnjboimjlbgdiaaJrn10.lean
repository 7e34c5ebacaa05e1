/-
  A journal: all sectors are looked at: one slot.
-/
import Derived.Test.YtnjboimjlbgdiaaJrnB
import Derived.Test.YtnjboimjlbgdiaaJrnP
import Derived.Deep.DeepCutAuto
import Derived.Deep.CutBlock
set_option linter.unusedSimpArgs false
set_option linter.unusedVariables false
set_option linter.unusedSectionVars false
set_option maxRecDepth 100000
namespace Go.Cmp
open Go.RowKit
theorem scrubFrom_step (J : Jrn) (k s : Nat) (D : Dsk) : scrubFrom J (k + 1) s D = if (scrubDo D J s).1 ≠ 0 then ((scrubDo D J s).1, { J with items := J.items.set s (scrubAt D J s) }, (scrubDo D J s).2) else scrubFrom { J with items := J.items.set s (scrubAt D J s) } k (s + 1) (scrubDo D J s).2 := rfl
end Go.Cmp
namespace Go.Proofs.Ytnjboimjlbgdiaa
open Go.RowKit Go.Cmp

section
variable {S : List Nat} {w0 w : World} {M : List Ent} {g gj : Nat} {D : Dsk} {J : Jrn}
set_option maxHeartbeats 32000000 in
theorem jrnScrub_any (hS : St S w0 w (disk g D :: .row gj (jcells g J) 68 (0, 0) :: M)) (hJl : J.items.length = 8) (hJc : J.check ≤ 72057594037927935)
    (I : Nat → Dsk → Jrn → Prop) (hI0 : I 0 D J)
    (hIs : ∀ s D J, I s D J → s < 8 → J.items.length = 8 ∧ OnJ D ∧ D.steps + 8 < 1000000000 ∧ ((scrubDo D J s).1 = 0 → I (s + 1) (scrubDo D J s).2 { J with items := J.items.set s (scrubAt D J s) }))
    (hfit : ∀ s D J, I s D J → s < 8 → (scrubAt D J s).stub.parent < 18446744073709551616 ∧ (scrubAt D J s).stub.sum < 18446744073709551616) :
    Calls Try.prog 12 #[.pointer (some ⟨gj, 0, none⟩)] w fun x w' => x = .returned (.int .i64 (scrubJ D J).1) ∧ St S w0 w' (disk g (scrubJ D J).2.2 :: .row gj (jcells g (scrubJ D J).2.1) 68 (0, 0) :: M) := by
  obtain ⟨R, hR⟩ : ∃ R, scrubJ D J = R := ⟨_, rfl⟩
  rw [hR]
  have hR0 : scrubFrom J 8 0 D = R := hR
  have HIS := Lib.hid hIs
  have HFIT := Lib.hid hfit
  have hck : True := trivial
  clear hIs hR hfit
  (go_enter Try.func12, Try.ntmps12)
  go_wp2_with (fail)
  go_loopw [17] (fun v wz => ∃ (s : Nat) (D : Dsk) (J : Jrn), s ≤ 8 ∧ v = .int .i64 (s : Int) ∧ Hid (J.check ≤ 72057594037927935) ∧ Hid (I s D J) ∧ Hid (scrubFrom J (8 - s) s D = R) ∧ St S w0 wz (disk g D :: .row gj (jcells g J) 68 (0, 0) :: M)) (fun v _ => 8 - (intOf v).toNat)
  case atStart => exact ⟨0, D, J, by omega, rfl, Lib.hid hJc, Lib.hid hI0, Lib.hid hR0, hS⟩
  case round =>
    clear hS hI0 hR0 hJl hck hJc
    obtain ⟨s, D, J, hs, rfl, HC, HI, HR, hS⟩ := hrel
    by_cases hs8 : s < 8
    · have hs81 : (s : Int) < 8 := by omega
      obtain ⟨hJl, hon, hst, hnx⟩ := HIS.out s D J HI.out hs8
      obtain ⟨f1, f2⟩ := HFIT.out s D J HI.out hs8
      have HNX := Lib.hid hnx
      have hstep := scrubFrom_step J (7 - s) s D
      rw [show 7 - s + 1 = 8 - s from by omega, HR.out] at hstep
      have HJL := Lib.hid (jc_len (gd := g) hJl)
      have HK := Lib.hid (jc_kind (gd := g) hJl hs8)
      have HSB := Lib.hid (jc_stub (gd := g) hJl hs8)
      have HCS := Lib.hid (fun y => jc_set (gd := g) hJl hs8 y)
      obtain ⟨r1, r2⟩ := slot_reads hon J hs8
      have hop := J.opAt_mod hs8
      have HOP := Lib.hid (fun (W : World) (M : List Ent) (hS : St S w0 W (.row gj (jcells g J) 68 (0, 0) :: M)) => jrnOp_any hS HC.out s hs8)
      have hcl : scrubDo D J s = if (scrubAt D J s).kind = 0 then cleanJ D (J.opAt s) (nth D.lasts (4 + s)) (nth D.lasts (12 + s)) else if (scrubAt D J s).kind ≠ 3 ∧ ((stbP (nth D.lasts (12 + s))).2.1 = false ∨ (stbP (nth D.lasts (12 + s))).1 ≠ (scrubAt D J s).stub) then layS (scrubAt D J s).stub (hdrN (J.opAt s)) D else (0, D) := by
        unfold scrubDo
        rw [r1, r2]
      have hat : scrubAt D J s = if (nth J.items s).kind = 1 ∧ ((entP (nth D.lasts (4 + s))).2.1 = false ∨ stubE (entP (nth D.lasts (4 + s))).1 ≠ (nth J.items s).stub) then ⟨2, (nth J.items s).stub, zeroE⟩ else nth J.items s := by
        unfold scrubAt
        rw [r1]
      have hnb : J.opAt s ≤ 1000000000000000000 := by have := HC.out; omega
      have hlp : (nth D.lasts (4 + s)).length ≤ 1000000 := by rw [hon.text (by omega)]; omega
      have hlh : (nth D.lasts (12 + s)).length ≤ 1000000 := by rw [hon.text (by omega)]; omega
      have HSE := Lib.hid (fun (W : World) (M : List Ent) (hS : St S w0 W (disk g D :: .row gj (jcells g J) 68 (0, 0) :: M)) => by
        have h := jrnSectors_any hS hon.ok (J.opAt s) hnb (by rw [r1]) (by rw [r2])
        rw [r1, r2] at h
        exact h)
      obtain ⟨J1, hJ1⟩ : ∃ J1 : Jrn, ({ J with items := J.items.set s (scrubAt D J s) } : Jrn) = J1 := ⟨_, rfl⟩
      have hJ1l : J1.items.length = 8 := by rw [← hJ1]; simpa using hJl
      have hJ1c : J1.check ≤ 72057594037927935 := by rw [← hJ1]; exact HC.out
      have hx1 : nth J1.items s = scrubAt D J s := by rw [← hJ1]; exact nth_setN (by omega) |>.trans (by rw [if_pos rfl])
      have HK1 := Lib.hid (jc_kind (gd := g) hJ1l hs8)
      have HSB1 := Lib.hid (jc_stub (gd := g) hJ1l hs8)
      rw [hx1] at HK1 HSB1
      have HCL := Lib.hid (fun (W : World) (M : List Ent) (hS : St S w0 W (disk g D :: .row gj (jcells g J1) 68 (0, 0) :: M)) => jrnClean_any hS hon.ok (by rw [hon.way]; decide) (by omega) (J.opAt s) hnb (nth D.lasts (4 + s)) (nth D.lasts (12 + s)) hlp hlh)
      have HLS := Lib.hid (fun (S : List Nat) (w0 W : World) (M : List Ent) (gq : Nat) (hS : St S w0 W (disk g D :: .row gq (scrubAt D J s).stub.cells 35 (0, 0) :: M)) => jrnLayS hS hon.ok (by rw [hon.way]; decide) (by omega) f1 f2 (hdrN (J.opAt s)))
      have HHD := Lib.hid (fun w => jrnHdr_any (J.opAt s) hnb w)
      rw [hJ1] at hstep HNX
      have hset : J1 = { J with items := J.items.set s (scrubAt D J s) } := hJ1.symm
      have HST := Lib.hid hset
      have HEN := Lib.hid (fun w => slotEntry_any (nth D.lasts (4 + s)) hlp w)
      have HSTB := Lib.hid (fun w => slotStub_any (nth D.lasts (12 + s)) hlh w)
      obtain ⟨_, ef1, ef2, _⟩ := entP_facts (nth D.lasts (4 + s))
      have HSO := Lib.hid (fun w => slotStubOf_any (entP (nth D.lasts (4 + s))).1 ef1 (by omega) w)
      have hq := eqStb (stubE (entP (nth D.lasts (4 + s))).1) (nth J.items s).stub
      have hq2 := eqStb (stbP (nth D.lasts (12 + s))).1 (scrubAt D J s).stub
      generalize hdrN (J.opAt s) = kh at HHD HLS hcl
      generalize hopn : J.opAt s = n at HOP HSE HCL HHD hcl
      generalize nth D.lasts (4 + s) = p at HSE HCL HEN HSO hq hcl hat
      generalize nth D.lasts (12 + s) = h at HSE HCL HSTB hq2 hcl
      generalize scrubDo D J s = Z at hstep HNX hcl
      obtain ⟨x1, hx1e⟩ : ∃ x1, scrubAt D J s = x1 := ⟨_, rfl⟩
      rw [hx1e] at HK1 HSB1 HLS hq2 hcl hat HST
      have HXS : Hid (J.items.set s (nth J.items s) = J.items) := Lib.hid (by
        have hget : J.items[s]? = some (nth J.items s) := get_lt (by omega)
        apply List.ext_getElem?
        intro i
        by_cases e : s = i
        · subst e; rw [List.getElem?_set_self (by omega), hget]
        · rw [List.getElem?_set_ne e])
      generalize nth J.items s = x at HK HSB hq hat HXS
      generalize entP p = E at HEN HSO hq hat
      generalize stbP h = T at HSTB hq2 hcl
      obtain ⟨y, is, rd⟩ := E
      obtain ⟨z, told, kn⟩ := T
      simp only at HEN HSO hq hat HSTB hq2 hcl
      have HCL0 := Lib.hid hcl
      have HSTEP := Lib.hid hstep
      have HAT := Lib.hid hat
      clear hcl hstep hat r1 r2 hon hst hnx hlp hlh ef1 ef2 f1 f2 hx1 hx1e hset hJ1 hJ1l hop hopn hnb HI HR HC
      go_upto_region 13 with (first | go_skip | (go_at_call 38; (refine (HOP.out _ _ (hS.out (by first | ((repeat (first | exact Out.here | apply Out.there)); done) | fail))).mono ?_; clear hS; rintro e w' ⟨rfl, hS⟩)) | (go_at_call 39; (refine (HSE.out _ _ (hS.pick : St S w0 _ (disk g D :: .row gj (jcells g J) 68 (0, 0) :: M))).mono ?_; clear hS; rintro e w' ⟨rfl, hS⟩)) | (go_at_call 31; refine (HEN.out _).mono ?_; rintro e w' ⟨rfl, h⟩; replace hS := hS.call h; clear h) | (go_at_call 40; refine (HSTB.out _).mono ?_; rintro e w' ⟨rfl, h⟩; replace hS := hS.call h; clear h) | (first | (have q9 := ga; clear q9; ((with_reducible refine g_alloc ?_); refine wl_of rfl ?_; refine wp_alloc hS rfl rfl rfl rfl ?_; clear hS; intro gb w1 hS)) | ((with_reducible refine g_alloc ?_); refine wl_of rfl ?_; refine wp_alloc hS rfl rfl rfl rfl ?_; clear hS; intro ga w1 hS)) | ((with_reducible refine g_store ?_); refine wl_of rfl ?_; refine a_storeA (vs := y.cells) (cs' := y.cells) hS rfl rfl rfl (by rfl) (en_one _) (by (repeat (first | exact Sw.here | apply Sw.there))) (by exact Nat.le_refl 9) (by rfl) ?_; clear hS; intro w' hS) | ((with_reducible refine g_store ?_); refine wl_of rfl ?_; refine a_storeA (vs := z.cells) (cs' := z.cells) hS rfl rfl rfl (by rfl) (stb_one _) (by (repeat (first | exact Sw.here | apply Sw.there))) (by exact Nat.le_refl 5) (by rfl) ?_; clear hS; intro w' hS) | fail)
      go_cut [67] (fun c wx => ∃ b : Bool, c = .bool b ∧ Hid ((b = true ∧ x1 = ⟨2, x.stub, zeroE⟩) ∨ (b = false ∧ x1 = x)) ∧ St S w0 wx (disk g D :: .row gj (jcells g J) 68 (0, 0) :: .row gb z.cells 35 (0, 0) :: M))
      case first =>
        by_cases k1 : x.kind = 1
        · cases is
          · have hxx : x1 = ⟨2, x.stub, zeroE⟩ := by rw [HAT.out, if_pos ⟨k1, .inl rfl⟩]
            have HXX := Lib.hid hxx
            clear hxx
            refine region_calm (by kernel_rfl) (by kernel_rfl) hS ?_
            iterate 3 (refine Calm.pure rfl (h := ?_); simp only [Act.put, List.setIfInBounds_toArray, List.set_cons_zero, List.set_cons_succ])
            (refine Calm.run rfl (fun W hW => by exact a_load1 hW (off := 2 + s * 15) rfl rfl rfl rfl (by (repeat (first | exact Ix.here | apply Ix.there))) HK.out) ?_; simp only [Act.put, List.setIfInBounds_toArray, List.set_cons_zero, List.set_cons_succ])
            iterate 5 (refine Calm.pure rfl (h := ?_); simp only [Act.put, List.setIfInBounds_toArray, List.set_cons_zero, List.set_cons_succ])
            iterate 7 (refine Calm.skip rfl ?_; simp only [Act.put, List.setIfInBounds_toArray, List.set_cons_zero, List.set_cons_succ])
            iterate 2 (refine Calm.pure rfl (h := ?_); simp only [Act.put, List.setIfInBounds_toArray, List.set_cons_zero, List.set_cons_succ])
            (refine Calm.nil ?_; clear hS; intro w8 hS)
            go_wp2_with (fail)
            go_meet
            exact ⟨true, rfl, Lib.hid (.inl ⟨rfl, HXX.out⟩), hS.pick⟩
          · by_cases q : stubE y = x.stub
            · rw [decide_eq_true q] at hq
              have HXX : Hid (x1 = x) := Lib.hid (by rw [HAT.out, if_neg (by simp [q])])
              clear q
              refine region_calm (by kernel_rfl) (by kernel_rfl) hS ?_
              iterate 3 (refine Calm.pure rfl (h := ?_); simp only [Act.put, List.setIfInBounds_toArray, List.set_cons_zero, List.set_cons_succ])
              (refine Calm.run rfl (fun W hW => by exact a_load1 hW (off := 2 + s * 15) rfl rfl rfl rfl (by (repeat (first | exact Ix.here | apply Ix.there))) HK.out) ?_; simp only [Act.put, List.setIfInBounds_toArray, List.set_cons_zero, List.set_cons_succ])
              iterate 5 (refine Calm.pure rfl (h := ?_); simp only [Act.put, List.setIfInBounds_toArray, List.set_cons_zero, List.set_cons_succ])
              (refine Calm.run rfl (fun W hW => by first | exact a_load1 hW rfl rfl rfl rfl (by (repeat (first | exact Ix.here | apply Ix.there))) (by rfl) | exact a_loadR hW rfl rfl rfl rfl (by (repeat (first | exact Ix.here | apply Ix.there))) (by rfl)) ?_; simp only [Act.put, List.setIfInBounds_toArray, List.set_cons_zero, List.set_cons_succ])
              (refine Calm.call (calm_makes HSO.out) rfl (h := ?_); simp only [Act.put, List.setIfInBounds_toArray, List.set_cons_zero, List.set_cons_succ])
              iterate 3 (refine Calm.pure rfl (h := ?_); simp only [Act.put, List.setIfInBounds_toArray, List.set_cons_zero, List.set_cons_succ])
              (refine Calm.run rfl (fun W hW => by exact a_loadA (vs := x.stub.cells) (off := 2 + s * 15 + 1) hW rfl rfl rfl rfl (by (repeat (first | exact Ix.here | apply Ix.there))) 5 (by rfl) HSB.out (by rfl)) ?_; simp only [Act.put, List.setIfInBounds_toArray, List.set_cons_zero, List.set_cons_succ])
              ((with_reducible refine c_neqS (t := 35) ?_); refine Calm.run rfl (fun W hW => by exact x_structNe rfl rfl rfl stbGuard hq) ?_; simp only [Act.put, List.setIfInBounds_toArray, List.set_cons_zero, List.set_cons_succ])
              iterate 2 (refine Calm.pure rfl (h := ?_); simp only [Act.put, List.setIfInBounds_toArray, List.set_cons_zero, List.set_cons_succ])
              (refine Calm.nil ?_; clear hS; intro w8 hS)
              go_wp2_with (fail)
              go_meet
              exact ⟨false, rfl, Lib.hid (.inr ⟨rfl, HXX.out⟩), hS.pick⟩
            · rw [decide_eq_false q] at hq
              have HXX : Hid (x1 = ⟨2, x.stub, zeroE⟩) := Lib.hid (by rw [HAT.out, if_pos ⟨k1, .inr q⟩])
              clear q
              refine region_calm (by kernel_rfl) (by kernel_rfl) hS ?_
              iterate 3 (refine Calm.pure rfl (h := ?_); simp only [Act.put, List.setIfInBounds_toArray, List.set_cons_zero, List.set_cons_succ])
              (refine Calm.run rfl (fun W hW => by exact a_load1 hW (off := 2 + s * 15) rfl rfl rfl rfl (by (repeat (first | exact Ix.here | apply Ix.there))) HK.out) ?_; simp only [Act.put, List.setIfInBounds_toArray, List.set_cons_zero, List.set_cons_succ])
              iterate 5 (refine Calm.pure rfl (h := ?_); simp only [Act.put, List.setIfInBounds_toArray, List.set_cons_zero, List.set_cons_succ])
              (refine Calm.run rfl (fun W hW => by first | exact a_load1 hW rfl rfl rfl rfl (by (repeat (first | exact Ix.here | apply Ix.there))) (by rfl) | exact a_loadR hW rfl rfl rfl rfl (by (repeat (first | exact Ix.here | apply Ix.there))) (by rfl)) ?_; simp only [Act.put, List.setIfInBounds_toArray, List.set_cons_zero, List.set_cons_succ])
              (refine Calm.call (calm_makes HSO.out) rfl (h := ?_); simp only [Act.put, List.setIfInBounds_toArray, List.set_cons_zero, List.set_cons_succ])
              iterate 3 (refine Calm.pure rfl (h := ?_); simp only [Act.put, List.setIfInBounds_toArray, List.set_cons_zero, List.set_cons_succ])
              (refine Calm.run rfl (fun W hW => by exact a_loadA (vs := x.stub.cells) (off := 2 + s * 15 + 1) hW rfl rfl rfl rfl (by (repeat (first | exact Ix.here | apply Ix.there))) 5 (by rfl) HSB.out (by rfl)) ?_; simp only [Act.put, List.setIfInBounds_toArray, List.set_cons_zero, List.set_cons_succ])
              ((with_reducible refine c_neqS (t := 35) ?_); refine Calm.run rfl (fun W hW => by exact x_structNe rfl rfl rfl stbGuard hq) ?_; simp only [Act.put, List.setIfInBounds_toArray, List.set_cons_zero, List.set_cons_succ])
              iterate 2 (refine Calm.pure rfl (h := ?_); simp only [Act.put, List.setIfInBounds_toArray, List.set_cons_zero, List.set_cons_succ])
              (refine Calm.nil ?_; clear hS; intro w8 hS)
              go_wp2_with (fail)
              go_meet
              exact ⟨true, rfl, Lib.hid (.inl ⟨rfl, HXX.out⟩), hS.pick⟩
        · have HXX : Hid (x1 = x) := Lib.hid (by rw [HAT.out, if_neg (fun h => k1 h.1)])
          have b1 : (x.kind == 1) = false := by rw [beq_eq_false_iff_ne]; exact k1
          refine region_calm (by kernel_rfl) (by kernel_rfl) hS ?_
          iterate 3 (refine Calm.pure rfl (h := ?_); simp only [Act.put, List.setIfInBounds_toArray, List.set_cons_zero, List.set_cons_succ])
          (refine Calm.run rfl (fun W hW => by exact a_load1 hW (off := 2 + s * 15) rfl rfl rfl rfl (by (repeat (first | exact Ix.here | apply Ix.there))) HK.out) ?_; simp only [Act.put, List.setIfInBounds_toArray, List.set_cons_zero, List.set_cons_succ])
          iterate 1 (refine Calm.pure rfl (h := ?_); simp only [Act.put, List.setIfInBounds_toArray, List.set_cons_zero, List.set_cons_succ])
          try simp only [b1]
          iterate 1 (refine Calm.pure rfl (h := ?_); simp only [Act.put, List.setIfInBounds_toArray, List.set_cons_zero, List.set_cons_succ])
          iterate 11 (refine Calm.skip rfl ?_; simp only [Act.put, List.setIfInBounds_toArray, List.set_cons_zero, List.set_cons_succ])
          iterate 1 (refine Calm.pure rfl (h := ?_); simp only [Act.put, List.setIfInBounds_toArray, List.set_cons_zero, List.set_cons_succ])
          (refine Calm.nil ?_; clear hS; intro w8 hS)
          go_wp2_with (fail)
          go_meet
          exact ⟨false, rfl, Lib.hid (.inr ⟨rfl, HXX.out⟩), hS.pick⟩
      case rest =>
        clear hS HEN HSTB HSO hq HOP HSE
        obtain ⟨b, rfl, HB, hS⟩ := hcut
        go_upto_if 67 with (fail)
        go_cut [] (fun wx => St S w0 wx (disk g D :: .row gj (jcells g J1) 68 (0, 0) :: .row gb z.cells 35 (0, 0) :: M))
        case first =>
          rcases HB.out with ⟨rfl, hxx⟩ | ⟨rfl, hxx⟩
          · have HXX := Lib.hid hxx
            clear hxx
            go_wp2_with (first | go_skip | ((with_reducible refine g_load ?_); refine wl_run rfl (by exact a_loadA (vs := x.stub.cells) (off := 2 + s * 15 + 1) hS rfl rfl rfl rfl (by (repeat (first | exact Ix.here | apply Ix.there))) 5 (by rfl) HSB.out (by rfl)) ?_) | ((with_reducible refine g_build ?_); refine wl_run rfl (x_build rfl rfl (built_item2 2 x.stub)) ?_) | ((with_reducible refine g_store ?_); refine wl_of rfl ?_; refine a_storeA (vs := (⟨2, x.stub, zeroE⟩ : It).cells) (off := 2 + s * 15) hS rfl rfl rfl (by rfl) (it_one _) (by (repeat (first | exact Sw.here | apply Sw.there))) (by rw [HJL.out]; show 2 + s * 15 + 15 ≤ 122; omega) (HCS.out _) ?_; clear hS; intro w' hS) | fail)
            go_meet
            rw [HST.out, HXX.out]
            exact hS
          · have HXX := Lib.hid hxx
            clear hxx
            go_wp2_with (fail)
            go_meet
            rw [HST.out, HXX.out, HXS.out]
            exact hS
        case rest =>
          clear hS HB HK HSB HCS HAT HXS HJL
          have hS := hcut
          clear hcut
          by_cases k0 : x1.kind = 0
          · have HZ0 : Hid (Z = cleanJ D n p h) := Lib.hid (by rw [HCL0.out, if_pos k0])
            obtain ⟨C, hC⟩ : ∃ C, cleanJ D n p h = C := ⟨_, rfl⟩
            rw [hC] at HCL HZ0
            obtain ⟨ez, Dz⟩ := C
            simp only at HCL
            clear hC HLS HHD hq2 HCL0
            go_wp2_with (first | go_skip | ((with_reducible refine g_load ?_); refine wl_run rfl (by exact a_load1 hS (off := 2 + s * 15) rfl rfl rfl rfl (by (repeat (first | exact Ix.here | apply Ix.there))) HK1.out) ?_) | fail)
            refine (HCL.out _ _ (hS.pick : St S w0 _ (disk g D :: .row gj (jcells g J1) 68 (0, 0) :: .row gb z.cells 35 (0, 0) :: M))).mono ?_
            clear hS
            rintro _ w' ⟨rfl, hS⟩
            by_cases he : ez = 0
            · subst he
              go_wp2_with (fail)
              have hz : Z = (0, Dz) := HZ0.out
              exact ⟨⟨s + 1, Dz, J1, by omega, by simp, Lib.hid hJ1c, Lib.hid (by have := HNX.out (by rw [hz]); rw [hz] at this; exact this), Lib.hid (by have := HSTEP.out; rw [hz, if_neg (by simp)] at this; rw [show 8 - (s + 1) = 7 - s from by omega]; exact this.symm), hS.pick⟩, by simp [intOf]; omega⟩
            · have he1 : (ez != 0) = true := by simpa using he
              go_wp2_with (fail)
              go_ret
              have hz : Z = (ez, Dz) := HZ0.out
              have hr : R = (ez, J1, Dz) := by rw [HSTEP.out, hz, if_pos (by simpa using he)]
              exact ⟨by rw [hr]; rfl, by rw [hr]; exact hS.pick⟩
          · have b0 : (x1.kind == 0) = false := by rw [beq_eq_false_iff_ne]; exact k0
            clear HCL
            by_cases k3 : x1.kind = 3
            · have HZ0 : Hid (Z = (0, D)) := Lib.hid (by rw [HCL0.out, if_neg k0, if_neg (fun h => h.1 k3)])
              clear HLS HHD hq2 HCL0
              go_wp2_with (first | go_skip | ((with_reducible refine g_load ?_); refine wl_run rfl (by exact a_load1 hS (off := 2 + s * 15) rfl rfl rfl rfl (by (repeat (first | exact Ix.here | apply Ix.there))) HK1.out) ?_) | fail)
              refine region_calm (by kernel_rfl) (by kernel_rfl) hS ?_
              iterate 3 (refine Calm.pure rfl (h := ?_); simp only [Act.put, List.setIfInBounds_toArray, List.set_cons_zero, List.set_cons_succ])
              (refine Calm.run rfl (fun W hW => by exact a_load1 hW (off := 2 + s * 15) rfl rfl rfl rfl (by (repeat (first | exact Ix.here | apply Ix.there))) HK1.out) ?_; simp only [Act.put, List.setIfInBounds_toArray, List.set_cons_zero, List.set_cons_succ])
              iterate 1 (refine Calm.pure rfl (h := ?_); simp only [Act.put, List.setIfInBounds_toArray, List.set_cons_zero, List.set_cons_succ])
              try simp only [b3n]
              iterate 1 (refine Calm.pure rfl (h := ?_); simp only [Act.put, List.setIfInBounds_toArray, List.set_cons_zero, List.set_cons_succ])
              iterate 10 (refine Calm.skip rfl ?_; simp only [Act.put, List.setIfInBounds_toArray, List.set_cons_zero, List.set_cons_succ])
              iterate 2 (refine Calm.pure rfl (h := ?_); simp only [Act.put, List.setIfInBounds_toArray, List.set_cons_zero, List.set_cons_succ])
              (refine Calm.nil ?_; clear hS; intro w8 hS)
              go_wp2_with (fail)
              have hz : Z = (0, D) := HZ0.out
              exact ⟨⟨s + 1, D, J1, by omega, by simp, Lib.hid hJ1c, Lib.hid (by have := HNX.out (by rw [hz]); rw [hz] at this; exact this), Lib.hid (by have := HSTEP.out; rw [hz, if_neg (by simp)] at this; rw [show 8 - (s + 1) = 7 - s from by omega]; exact this.symm), hS.pick⟩, by simp [intOf]; omega⟩
            · have b3 : (x1.kind == 3) = false := by rw [beq_eq_false_iff_ne]; exact k3
              have b3n : (x1.kind != 3) = true := by simpa using k3
              cases told
              · have HZ0 : Hid (Z = layS x1.stub kh D) := Lib.hid (by rw [HCL0.out, if_neg k0, if_pos ⟨k3, .inl rfl⟩])
                clear hq2 HCL0
                go_wp2_with (first | go_skip | ((with_reducible refine g_load ?_); refine wl_run rfl (by exact a_load1 hS (off := 2 + s * 15) rfl rfl rfl rfl (by (repeat (first | exact Ix.here | apply Ix.there))) HK1.out) ?_) | fail)
                refine region_calm (by kernel_rfl) (by kernel_rfl) hS ?_
                iterate 3 (refine Calm.pure rfl (h := ?_); simp only [Act.put, List.setIfInBounds_toArray, List.set_cons_zero, List.set_cons_succ])
                (refine Calm.run rfl (fun W hW => by exact a_load1 hW (off := 2 + s * 15) rfl rfl rfl rfl (by (repeat (first | exact Ix.here | apply Ix.there))) HK1.out) ?_; simp only [Act.put, List.setIfInBounds_toArray, List.set_cons_zero, List.set_cons_succ])
                iterate 1 (refine Calm.pure rfl (h := ?_); simp only [Act.put, List.setIfInBounds_toArray, List.set_cons_zero, List.set_cons_succ])
                try simp only [b3n]
                iterate 1 (refine Calm.pure rfl (h := ?_); simp only [Act.put, List.setIfInBounds_toArray, List.set_cons_zero, List.set_cons_succ])
                iterate 3 (refine Calm.pure rfl (h := ?_); simp only [Act.put, List.setIfInBounds_toArray, List.set_cons_zero, List.set_cons_succ])
                iterate 6 (refine Calm.skip rfl ?_; simp only [Act.put, List.setIfInBounds_toArray, List.set_cons_zero, List.set_cons_succ])
                iterate 3 (refine Calm.pure rfl (h := ?_); simp only [Act.put, List.setIfInBounds_toArray, List.set_cons_zero, List.set_cons_succ])
                (refine Calm.nil ?_; clear hS; intro w8 hS)
                obtain ⟨C, hC⟩ : ∃ C, layS x1.stub kh D = C := ⟨_, rfl⟩
                rw [hC] at HLS HZ0
                obtain ⟨ez, Dz⟩ := C
                simp only at HLS
                clear hC
                go_wp2_with (fail)
                refine St.named hS fun wq hwq => ?_
                subst hwq
                replace hS : St S w0 wq ([disk g D] ++ (.row gj (jcells g J1) 68 (0, 0) :: .row gb z.cells 35 (0, 0) :: M)) := hS.pick
                obtain ⟨F, hA, hR, hB⟩ := St.split (A := [disk g D]) hS
                clear hS
                have hS := hA.drew
                clear hA
                refine wp_region_held (S := fun W => Cmp.Mod F wq W) (by kernel_rfl) ?_
                change wpAnyH _ _ _ _ _ _ _ _ (wq).drew
                generalize (wq).drew = w2 at hS ⊢
                (refine whd_take 0 rfl rfl (by kernel_rfl) (by kernel_rfl) (by kernel_rfl) (fun _ _ _ h => h) rfl (fun W hW => by (go_simp; try with_reducible rfl)) hS.base ?_; simp only [Act.put, List.setIfInBounds_toArray, List.set_cons_zero, List.set_cons_succ])
                (refine whd_take 1 rfl rfl (by kernel_rfl) (by kernel_rfl) (by kernel_rfl) (fun _ _ _ h => h) rfl (fun W hW => by (go_simp; try with_reducible rfl)) hS.base ?_; simp only [Act.put, List.setIfInBounds_toArray, List.set_cons_zero, List.set_cons_succ])
                (refine whd_take 2 rfl rfl (by kernel_rfl) (by kernel_rfl) (by kernel_rfl) (fun _ _ _ h => h) rfl (fun W hW => by (go_simp; try with_reducible rfl)) hS.base ?_; simp only [Act.put, List.setIfInBounds_toArray, List.set_cons_zero, List.set_cons_succ])
                (refine whd_take 3 rfl rfl (by kernel_rfl) (by kernel_rfl) (by kernel_rfl) (fun _ _ _ h => h) rfl (fun W hW => (by exact a_load1 (hR W hW) rfl rfl rfl rfl (by (repeat (first | exact Ix.here | apply Ix.there))) (by rfl))) hS.base ?_; simp only [Act.put, List.setIfInBounds_toArray, List.set_cons_zero, List.set_cons_succ])
                (refine whd_take 4 rfl rfl (by kernel_rfl) (by kernel_rfl) (by kernel_rfl) (fun _ _ _ h => h) rfl (fun W hW => by (go_simp; try with_reducible rfl)) hS.base ?_; simp only [Act.put, List.setIfInBounds_toArray, List.set_cons_zero, List.set_cons_succ])
                (refine whd_take 6 rfl rfl (by kernel_rfl) (by kernel_rfl) (by kernel_rfl) (fun _ _ _ h => h) rfl (fun W hW => by (go_simp; try with_reducible rfl)) hS.base ?_; simp only [Act.put, List.setIfInBounds_toArray, List.set_cons_zero, List.set_cons_succ])
                (refine whd_take 7 rfl rfl (by kernel_rfl) (by kernel_rfl) (by kernel_rfl) (fun _ _ _ h => h) rfl (fun W hW => by (go_simp; try with_reducible rfl)) hS.base ?_; simp only [Act.put, List.setIfInBounds_toArray, List.set_cons_zero, List.set_cons_succ])
                (refine whd_take 8 rfl rfl (by kernel_rfl) (by kernel_rfl) (by kernel_rfl) (fun _ _ _ h => h) rfl (fun W hW => by (go_simp; try with_reducible rfl)) hS.base ?_; simp only [Act.put, List.setIfInBounds_toArray, List.set_cons_zero, List.set_cons_succ])
                (refine whd_take 9 rfl rfl (by kernel_rfl) (by kernel_rfl) (by kernel_rfl) (fun _ _ _ h => h) rfl (fun W hW => (by exact a_loadA (vs := x1.stub.cells) (off := 2 + s * 15 + 1) (hR W hW) rfl rfl rfl rfl (by (repeat (first | exact Ix.here | apply Ix.there))) 5 (by rfl) HSB1.out (by rfl))) hS.base ?_; simp only [Act.put, List.setIfInBounds_toArray, List.set_cons_zero, List.set_cons_succ])
                (refine wpAnyH_all (rs := [5]) (by kernel_rfl) (by simp) ?_; intro i hi; have hi := List.mem_singleton.1 hi; subst hi)
                refine wod_of rfl rfl rfl (wp_call (by go_simp) (HHD.out w2) ?_)
                rintro e w5 ⟨rfl, rfl⟩
                refine ⟨_, rfl, hS.base, ?_⟩
                simp only [Act.put, List.setIfInBounds_toArray, List.set_cons_zero, List.set_cons_succ]
                (refine wpAnyH_all (rs := [10]) (by kernel_rfl) (by simp) ?_; intro i hi; have hi := List.mem_singleton.1 hi; subst hi)
                refine wod_of rfl rfl rfl (wp_call (by go_simp) (jrnSays_any x1.stub hS) ?_)
                clear hS
                rintro e8 w4 ⟨gq2, rfl, hS⟩
                refine ⟨_, rfl, hS.base, ?_⟩
                simp only [Act.put, List.setIfInBounds_toArray, List.set_cons_zero, List.set_cons_succ]
                (refine wpAnyH_all (rs := [11]) (by kernel_rfl) (by simp) ?_; intro i hi; have hi := List.mem_singleton.1 hi; subst hi)
                refine wod_of rfl rfl rfl (wp_call (by go_simp) (HLS.out F wq _ [] gq2 hS.pick) ?_)
                clear hS
                rintro e w4 ⟨rfl, hS⟩
                refine ⟨_, rfl, hS.base, ?_⟩
                simp only [Act.put, List.setIfInBounds_toArray, List.set_cons_zero, List.set_cons_succ]
                (refine whd_take 12 rfl rfl (by kernel_rfl) (by kernel_rfl) (by kernel_rfl) (fun _ _ _ h => h) rfl (fun W hW => by (go_simp; try with_reducible rfl)) hS.base ?_; simp only [Act.put, List.setIfInBounds_toArray, List.set_cons_zero, List.set_cons_succ])
                (refine wpAnyH_done (by kernel_rfl) ?_ _)
                replace hS := hB _ _ hS
                simp only [List.cons_append, List.nil_append] at hS
                clear hR hB
                by_cases he : ez = 0
                · subst he
                  go_wp2_with (fail)
                  have hz : Z = (0, Dz) := HZ0.out
                  exact ⟨⟨s + 1, Dz, J1, by omega, by simp, Lib.hid hJ1c, Lib.hid (by have := HNX.out (by rw [hz]); rw [hz] at this; exact this), Lib.hid (by have := HSTEP.out; rw [hz, if_neg (by simp)] at this; rw [show 8 - (s + 1) = 7 - s from by omega]; exact this.symm), hS.pick⟩, by simp [intOf]; omega⟩
                · have he1 : (ez != 0) = true := by simpa using he
                  go_wp2_with (fail)
                  go_ret
                  have hz : Z = (ez, Dz) := HZ0.out
                  have hr : R = (ez, J1, Dz) := by rw [HSTEP.out, hz, if_pos (by simpa using he)]
                  exact ⟨by rw [hr]; rfl, by rw [hr]; exact hS.pick⟩
              · by_cases q : z = x1.stub
                · rw [decide_eq_true q] at hq2
                  have HZ0 : Hid (Z = (0, D)) := Lib.hid (by rw [HCL0.out, if_neg k0, if_neg (by simp [q])])
                  clear HLS HHD HCL0 q
                  go_wp2_with (first | go_skip | ((with_reducible refine g_load ?_); refine wl_run rfl (by exact a_load1 hS (off := 2 + s * 15) rfl rfl rfl rfl (by (repeat (first | exact Ix.here | apply Ix.there))) HK1.out) ?_) | fail)
                  refine region_calm (by kernel_rfl) (by kernel_rfl) hS ?_
                  iterate 3 (refine Calm.pure rfl (h := ?_); simp only [Act.put, List.setIfInBounds_toArray, List.set_cons_zero, List.set_cons_succ])
                  (refine Calm.run rfl (fun W hW => by exact a_load1 hW (off := 2 + s * 15) rfl rfl rfl rfl (by (repeat (first | exact Ix.here | apply Ix.there))) HK1.out) ?_; simp only [Act.put, List.setIfInBounds_toArray, List.set_cons_zero, List.set_cons_succ])
                  iterate 1 (refine Calm.pure rfl (h := ?_); simp only [Act.put, List.setIfInBounds_toArray, List.set_cons_zero, List.set_cons_succ])
                  try simp only [b3n]
                  iterate 1 (refine Calm.pure rfl (h := ?_); simp only [Act.put, List.setIfInBounds_toArray, List.set_cons_zero, List.set_cons_succ])
                  iterate 3 (refine Calm.pure rfl (h := ?_); simp only [Act.put, List.setIfInBounds_toArray, List.set_cons_zero, List.set_cons_succ])
                  (refine Calm.run rfl (fun W hW => by first | exact a_load1 hW rfl rfl rfl rfl (by (repeat (first | exact Ix.here | apply Ix.there))) (by rfl) | exact a_loadR hW rfl rfl rfl rfl (by (repeat (first | exact Ix.here | apply Ix.there))) (by rfl)) ?_; simp only [Act.put, List.setIfInBounds_toArray, List.set_cons_zero, List.set_cons_succ])
                  iterate 3 (refine Calm.pure rfl (h := ?_); simp only [Act.put, List.setIfInBounds_toArray, List.set_cons_zero, List.set_cons_succ])
                  (refine Calm.run rfl (fun W hW => by exact a_loadA (vs := x1.stub.cells) (off := 2 + s * 15 + 1) hW rfl rfl rfl rfl (by (repeat (first | exact Ix.here | apply Ix.there))) 5 (by rfl) HSB1.out (by rfl)) ?_; simp only [Act.put, List.setIfInBounds_toArray, List.set_cons_zero, List.set_cons_succ])
                  ((with_reducible refine c_neqS (t := 35) ?_); refine Calm.run rfl (fun W hW => by exact x_structNe rfl rfl rfl stbGuard hq2) ?_; simp only [Act.put, List.setIfInBounds_toArray, List.set_cons_zero, List.set_cons_succ])
                  iterate 3 (refine Calm.pure rfl (h := ?_); simp only [Act.put, List.setIfInBounds_toArray, List.set_cons_zero, List.set_cons_succ])
                  (refine Calm.nil ?_; clear hS; intro w8 hS)
                  go_wp2_with (fail)
                  have hz : Z = (0, D) := HZ0.out
                  exact ⟨⟨s + 1, D, J1, by omega, by simp, Lib.hid hJ1c, Lib.hid (by have := HNX.out (by rw [hz]); rw [hz] at this; exact this), Lib.hid (by have := HSTEP.out; rw [hz, if_neg (by simp)] at this; rw [show 8 - (s + 1) = 7 - s from by omega]; exact this.symm), hS.pick⟩, by simp [intOf]; omega⟩
                · rw [decide_eq_false q] at hq2
                  have HZ0 : Hid (Z = layS x1.stub kh D) := Lib.hid (by rw [HCL0.out, if_neg k0, if_pos ⟨k3, .inr q⟩])
                  clear HCL0 q
                  go_wp2_with (first | go_skip | ((with_reducible refine g_load ?_); refine wl_run rfl (by exact a_load1 hS (off := 2 + s * 15) rfl rfl rfl rfl (by (repeat (first | exact Ix.here | apply Ix.there))) HK1.out) ?_) | fail)
                  refine region_calm (by kernel_rfl) (by kernel_rfl) hS ?_
                  iterate 3 (refine Calm.pure rfl (h := ?_); simp only [Act.put, List.setIfInBounds_toArray, List.set_cons_zero, List.set_cons_succ])
                  (refine Calm.run rfl (fun W hW => by exact a_load1 hW (off := 2 + s * 15) rfl rfl rfl rfl (by (repeat (first | exact Ix.here | apply Ix.there))) HK1.out) ?_; simp only [Act.put, List.setIfInBounds_toArray, List.set_cons_zero, List.set_cons_succ])
                  iterate 1 (refine Calm.pure rfl (h := ?_); simp only [Act.put, List.setIfInBounds_toArray, List.set_cons_zero, List.set_cons_succ])
                  try simp only [b3n]
                  iterate 1 (refine Calm.pure rfl (h := ?_); simp only [Act.put, List.setIfInBounds_toArray, List.set_cons_zero, List.set_cons_succ])
                  iterate 3 (refine Calm.pure rfl (h := ?_); simp only [Act.put, List.setIfInBounds_toArray, List.set_cons_zero, List.set_cons_succ])
                  (refine Calm.run rfl (fun W hW => by first | exact a_load1 hW rfl rfl rfl rfl (by (repeat (first | exact Ix.here | apply Ix.there))) (by rfl) | exact a_loadR hW rfl rfl rfl rfl (by (repeat (first | exact Ix.here | apply Ix.there))) (by rfl)) ?_; simp only [Act.put, List.setIfInBounds_toArray, List.set_cons_zero, List.set_cons_succ])
                  iterate 3 (refine Calm.pure rfl (h := ?_); simp only [Act.put, List.setIfInBounds_toArray, List.set_cons_zero, List.set_cons_succ])
                  (refine Calm.run rfl (fun W hW => by exact a_loadA (vs := x1.stub.cells) (off := 2 + s * 15 + 1) hW rfl rfl rfl rfl (by (repeat (first | exact Ix.here | apply Ix.there))) 5 (by rfl) HSB1.out (by rfl)) ?_; simp only [Act.put, List.setIfInBounds_toArray, List.set_cons_zero, List.set_cons_succ])
                  ((with_reducible refine c_neqS (t := 35) ?_); refine Calm.run rfl (fun W hW => by exact x_structNe rfl rfl rfl stbGuard hq2) ?_; simp only [Act.put, List.setIfInBounds_toArray, List.set_cons_zero, List.set_cons_succ])
                  iterate 3 (refine Calm.pure rfl (h := ?_); simp only [Act.put, List.setIfInBounds_toArray, List.set_cons_zero, List.set_cons_succ])
                  (refine Calm.nil ?_; clear hS; intro w8 hS)
                  obtain ⟨C, hC⟩ : ∃ C, layS x1.stub kh D = C := ⟨_, rfl⟩
                  rw [hC] at HLS HZ0
                  obtain ⟨ez, Dz⟩ := C
                  simp only at HLS
                  clear hC
                  go_wp2_with (fail)
                  refine St.named hS fun wq hwq => ?_
                  subst hwq
                  replace hS : St S w0 wq ([disk g D] ++ (.row gj (jcells g J1) 68 (0, 0) :: .row gb z.cells 35 (0, 0) :: M)) := hS.pick
                  obtain ⟨F, hA, hR, hB⟩ := St.split (A := [disk g D]) hS
                  clear hS
                  have hS := hA.drew
                  clear hA
                  refine wp_region_held (S := fun W => Cmp.Mod F wq W) (by kernel_rfl) ?_
                  change wpAnyH _ _ _ _ _ _ _ _ (wq).drew
                  generalize (wq).drew = w2 at hS ⊢
                  (refine whd_take 0 rfl rfl (by kernel_rfl) (by kernel_rfl) (by kernel_rfl) (fun _ _ _ h => h) rfl (fun W hW => by (go_simp; try with_reducible rfl)) hS.base ?_; simp only [Act.put, List.setIfInBounds_toArray, List.set_cons_zero, List.set_cons_succ])
                  (refine whd_take 1 rfl rfl (by kernel_rfl) (by kernel_rfl) (by kernel_rfl) (fun _ _ _ h => h) rfl (fun W hW => by (go_simp; try with_reducible rfl)) hS.base ?_; simp only [Act.put, List.setIfInBounds_toArray, List.set_cons_zero, List.set_cons_succ])
                  (refine whd_take 2 rfl rfl (by kernel_rfl) (by kernel_rfl) (by kernel_rfl) (fun _ _ _ h => h) rfl (fun W hW => by (go_simp; try with_reducible rfl)) hS.base ?_; simp only [Act.put, List.setIfInBounds_toArray, List.set_cons_zero, List.set_cons_succ])
                  (refine whd_take 3 rfl rfl (by kernel_rfl) (by kernel_rfl) (by kernel_rfl) (fun _ _ _ h => h) rfl (fun W hW => (by exact a_load1 (hR W hW) rfl rfl rfl rfl (by (repeat (first | exact Ix.here | apply Ix.there))) (by rfl))) hS.base ?_; simp only [Act.put, List.setIfInBounds_toArray, List.set_cons_zero, List.set_cons_succ])
                  (refine whd_take 4 rfl rfl (by kernel_rfl) (by kernel_rfl) (by kernel_rfl) (fun _ _ _ h => h) rfl (fun W hW => by (go_simp; try with_reducible rfl)) hS.base ?_; simp only [Act.put, List.setIfInBounds_toArray, List.set_cons_zero, List.set_cons_succ])
                  (refine whd_take 6 rfl rfl (by kernel_rfl) (by kernel_rfl) (by kernel_rfl) (fun _ _ _ h => h) rfl (fun W hW => by (go_simp; try with_reducible rfl)) hS.base ?_; simp only [Act.put, List.setIfInBounds_toArray, List.set_cons_zero, List.set_cons_succ])
                  (refine whd_take 7 rfl rfl (by kernel_rfl) (by kernel_rfl) (by kernel_rfl) (fun _ _ _ h => h) rfl (fun W hW => by (go_simp; try with_reducible rfl)) hS.base ?_; simp only [Act.put, List.setIfInBounds_toArray, List.set_cons_zero, List.set_cons_succ])
                  (refine whd_take 8 rfl rfl (by kernel_rfl) (by kernel_rfl) (by kernel_rfl) (fun _ _ _ h => h) rfl (fun W hW => by (go_simp; try with_reducible rfl)) hS.base ?_; simp only [Act.put, List.setIfInBounds_toArray, List.set_cons_zero, List.set_cons_succ])
                  (refine whd_take 9 rfl rfl (by kernel_rfl) (by kernel_rfl) (by kernel_rfl) (fun _ _ _ h => h) rfl (fun W hW => (by exact a_loadA (vs := x1.stub.cells) (off := 2 + s * 15 + 1) (hR W hW) rfl rfl rfl rfl (by (repeat (first | exact Ix.here | apply Ix.there))) 5 (by rfl) HSB1.out (by rfl))) hS.base ?_; simp only [Act.put, List.setIfInBounds_toArray, List.set_cons_zero, List.set_cons_succ])
                  (refine wpAnyH_all (rs := [5]) (by kernel_rfl) (by simp) ?_; intro i hi; have hi := List.mem_singleton.1 hi; subst hi)
                  refine wod_of rfl rfl rfl (wp_call (by go_simp) (HHD.out w2) ?_)
                  rintro e w5 ⟨rfl, rfl⟩
                  refine ⟨_, rfl, hS.base, ?_⟩
                  simp only [Act.put, List.setIfInBounds_toArray, List.set_cons_zero, List.set_cons_succ]
                  (refine wpAnyH_all (rs := [10]) (by kernel_rfl) (by simp) ?_; intro i hi; have hi := List.mem_singleton.1 hi; subst hi)
                  refine wod_of rfl rfl rfl (wp_call (by go_simp) (jrnSays_any x1.stub hS) ?_)
                  clear hS
                  rintro e8 w4 ⟨gq2, rfl, hS⟩
                  refine ⟨_, rfl, hS.base, ?_⟩
                  simp only [Act.put, List.setIfInBounds_toArray, List.set_cons_zero, List.set_cons_succ]
                  (refine wpAnyH_all (rs := [11]) (by kernel_rfl) (by simp) ?_; intro i hi; have hi := List.mem_singleton.1 hi; subst hi)
                  refine wod_of rfl rfl rfl (wp_call (by go_simp) (HLS.out F wq _ [] gq2 hS.pick) ?_)
                  clear hS
                  rintro e w4 ⟨rfl, hS⟩
                  refine ⟨_, rfl, hS.base, ?_⟩
                  simp only [Act.put, List.setIfInBounds_toArray, List.set_cons_zero, List.set_cons_succ]
                  (refine whd_take 12 rfl rfl (by kernel_rfl) (by kernel_rfl) (by kernel_rfl) (fun _ _ _ h => h) rfl (fun W hW => by (go_simp; try with_reducible rfl)) hS.base ?_; simp only [Act.put, List.setIfInBounds_toArray, List.set_cons_zero, List.set_cons_succ])
                  (refine wpAnyH_done (by kernel_rfl) ?_ _)
                  replace hS := hB _ _ hS
                  simp only [List.cons_append, List.nil_append] at hS
                  clear hR hB
                  by_cases he : ez = 0
                  · subst he
                    go_wp2_with (fail)
                    have hz : Z = (0, Dz) := HZ0.out
                    exact ⟨⟨s + 1, Dz, J1, by omega, by simp, Lib.hid hJ1c, Lib.hid (by have := HNX.out (by rw [hz]); rw [hz] at this; exact this), Lib.hid (by have := HSTEP.out; rw [hz, if_neg (by simp)] at this; rw [show 8 - (s + 1) = 7 - s from by omega]; exact this.symm), hS.pick⟩, by simp [intOf]; omega⟩
                  · have he1 : (ez != 0) = true := by simpa using he
                    go_wp2_with (fail)
                    go_ret
                    have hz : Z = (ez, Dz) := HZ0.out
                    have hr : R = (ez, J1, Dz) := by rw [HSTEP.out, hz, if_pos (by simpa using he)]
                    exact ⟨by rw [hr]; rfl, by rw [hr]; exact hS.pick⟩
    · obtain rfl : s = 8 := by omega
      have hr : (0, J, D) = R := HR.out
      subst hr
      go_wp2_with (fail)
      go_ret
      exact ⟨rfl, hS⟩
end
end Go.Proofs.Ytnjboimjlbgdiaa
