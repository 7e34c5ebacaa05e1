/-
  A journal: a slot that lacks its operation is made clean.
-/
import Derived.Test.YtnjboimjlbgdiaaJrn3
import Derived.Test.YtnjboimjlbgdiaaJrn3b
import Derived.Deep.DeepCutAuto
import Derived.Deep.CutBlock
set_option linter.unusedSimpArgs false
set_option linter.unusedVariables false
set_option linter.unusedSectionVars false
set_option maxRecDepth 100000
namespace Go.Cmp
open Go.RowKit
theorem St.named {S : List Nat} {w0 w : World} {M : List Ent} {G : Prop} (_ : St S w0 w M) (h : ∀ wq, wq = w → G) : G := h w rfl
theorem layD_ok {D : Dsk} (h : D.Ok) (hw : D.way.length < 1000000) (hs : D.steps + 2 ≤ 1000000000) (i : Int) (mk : List UInt8 → List UInt8) :
    (layD D i mk).2.Ok ∧ (layD D i mk).2.way.length ≤ D.way.length + 1 ∧ (layD D i mk).2.steps ≤ D.steps + 2 ∧ (layD D i mk).2.lasts.length = D.lasts.length := by
  unfold layD
  split
  · exact ⟨h, by simp, by simp only; omega, rfl⟩
  · have nw := Dsk.write_next h i (mk (D.read i).1) hw (by omega)
    split
    · exact ⟨nw.ok, nw.way, by have := nw.steps; omega, nw.len⟩
    · have := nw.steps
      have nf := Dsk.flush_next nw.ok (by omega)
      have := nf.steps
      refine ⟨nf.ok, ?_, by omega, nf.len.trans nw.len⟩
      have h2 : (D.write i (mk (D.read i).1)).2.flush.2.way.length ≤ (D.write i (mk (D.read i).1)).2.way.length := by
        generalize (D.write i (mk (D.read i).1)).2 = E
        unfold Dsk.flush Dsk.step
        split
        · exact Nat.le_refl _
        · by_cases hf : E.fuse = 1
          · rw [if_pos hf, if_pos rfl]; exact Nat.le_refl _
          · rw [if_neg hf, if_neg (by simp)]; simp
      exact Nat.le_trans h2 nw.way
end Go.Cmp
namespace Go.Proofs.Ytnjboimjlbgdiaa
open Go.RowKit Go.Cmp

section
variable {S : List Nat} {w0 w : World} {M : List Ent} {g gj : Nat} {D : Dsk} {J : Jrn}
theorem en_one (x : En) : ∀ u ∈ x.cells, u.oneCell' = true := by
  intro u hu
  simp only [En.cells, List.mem_cons, List.not_mem_nil, or_false] at hu
  rcases hu with rfl | rfl | rfl | rfl | rfl | rfl | rfl | rfl | rfl <;> rfl
theorem stb_one (x : Stb) : ∀ u ∈ x.cells, u.oneCell' = true := by
  intro u hu
  simp only [Stb.cells, List.mem_cons, List.not_mem_nil, or_false] at hu
  rcases hu with rfl | rfl | rfl | rfl | rfl <;> rfl
set_option maxHeartbeats 16000000 in
theorem jrnClean_any (hS : St S w0 w (disk g D :: .row gj (jcells g J) 68 (0, 0) :: M)) (hD : D.Ok) (hw : D.way.length + 2 < 1000000) (hs : D.steps + 4 < 1000000000) (n : Nat) (hn : n ≤ 1000000000000000000) (p h : List UInt8) (hp : p.length ≤ 1000000) (hh : h.length ≤ 1000000) :
    Calls Try.prog 41 #[.pointer (some ⟨gj, 0, none⟩), .int .i64 n, .string ⟨p.toArray⟩, .string ⟨h.toArray⟩] w fun e w' => e = .returned (.int .i64 (cleanJ D n p h).1) ∧ St S w0 w' (disk g (cleanJ D n p h).2 :: .row gj (jcells g J) 68 (0, 0) :: M) := by
  have HPR := Lib.hid (fun w => jrnPrep_any n hn w)
  have HHD := Lib.hid (fun w => jrnHdr_any n hn w)
  have HEN := Lib.hid (fun w => slotEntry_any p hp w)
  have HST := Lib.hid (fun w => slotStub_any h hh w)
  have ok1 := layD_ok hD (by omega) (by omega) (prepN n) voidS
  have HL1 := Lib.hid (fun (S : List Nat) (w0 W : World) (M : List Ent) (hS : St S w0 W (disk g D :: M)) => jrnLayV hS hD (by omega) (by omega) (prepN n))
  have HL2 := Lib.hid (fun (E : Dsk) (hE : E.Ok) (hw : E.way.length < 1000000) (hs : E.steps < 1000000000) (S : List Nat) (w0 W : World) (M : List Ent) (hS : St S w0 W (disk g E :: M)) => jrnLayV hS hE hw hs (hdrN n))
  have hcl : cleanJ D n p h = if (if cleanP n p = true then layV D (prepN n) else (0, D)).1 ≠ 0 then (if cleanP n p = true then layV D (prepN n) else (0, D)) else if cleanH n h = true then layV (if cleanP n p = true then layV D (prepN n) else (0, D)).2 (hdrN n) else (0, (if cleanP n p = true then layV D (prepN n) else (0, D)).2) := rfl
  have cP : cleanP n p = (!(entP p).2.2 || ((entP p).2.1 && decide ((entP p).1.op = n))) := rfl
  have cH : cleanH n h = (!(stbP h).2.2 || ((stbP h).2.1 && decide ((stbP h).1.op = n))) := rfl
  generalize cleanJ D n p h = R at hcl ⊢
  generalize cleanP n p = bP at cP hcl
  generalize cleanH n h = bH at cH hcl
  generalize entP p = E at HEN cP
  generalize stbP h = T at HST cH
  obtain ⟨e, has, read⟩ := E
  obtain ⟨t, says, known⟩ := T
  simp only at HEN HST cP cH
  have hl1 : layV D (prepN n) = layD D (prepN n) voidS := rfl
  rw [← hl1] at ok1
  generalize layV D (prepN n) = L1 at HL1 hcl ok1
  obtain ⟨er, D1⟩ := L1
  simp only at HL1 ok1
  have HL3 := Lib.hid (HL2.out D1 ok1.1 (by omega) (by omega))
  have HL4 := Lib.hid (HL2.out D hD (by omega) (by omega))
  have s1 := ok1
  clear hl1 ok1 HL2 hp hh hD hw hs s1
  generalize hdrN n = k2 at HHD HL3 HL4 hcl
  generalize prepN n = k1 at HPR HL1
  obtain ⟨L3, h3⟩ : ∃ L, layV D1 k2 = L := ⟨_, rfl⟩
  obtain ⟨L4, h4⟩ : ∃ L, layV D k2 = L := ⟨_, rfl⟩
  rw [h3] at HL3
  rw [h4] at HL4
  obtain ⟨e3, D3⟩ := L3
  obtain ⟨e4, D4⟩ := L4
  simp only at HL3 HL4
  have H3 := Lib.hid h3
  have H4 := Lib.hid h4
  clear h3 h4
  have HCL := Lib.hid hcl
  clear hcl
  have kP : (read = false ∧ bP = true) ∨ (read = true ∧ has = false ∧ bP = false) ∨ (read = true ∧ has = true ∧ ((e.op == (n : Int)) = true) ∧ bP = true) ∨ (read = true ∧ has = true ∧ ((e.op == (n : Int)) = false) ∧ bP = false) := by
    rw [cP]
    cases read <;> cases has <;> by_cases q : e.op = (n : Int) <;> simp [q]
  have kH : (known = false ∧ bH = true) ∨ (known = true ∧ says = false ∧ bH = false) ∨ (known = true ∧ says = true ∧ ((t.op == (n : Int)) = true) ∧ bH = true) ∨ (known = true ∧ says = true ∧ ((t.op == (n : Int)) = false) ∧ bH = false) := by
    rw [cH]
    cases known <;> cases says <;> by_cases q : t.op = (n : Int) <;> simp [q]
  clear cP cH
  have HKH := Lib.hid kH
  clear kH
  rcases kP with ⟨rfl, rfl⟩ | ⟨rfl, rfl, rfl⟩ | ⟨rfl, rfl, qP, rfl⟩ | ⟨rfl, rfl, qP, rfl⟩
  · by_cases he : er = 0
    · subst he
      (go_enter Try.func41, Try.ntmps41)
      go_wp2_with (first | go_skip | (go_at_call 31; refine (HEN.out _).mono ?_; rintro e w' ⟨rfl, h⟩; replace hS := hS.call h; clear h) | ((with_reducible refine g_load ?_); refine wl_run rfl (by first | exact a_load1 hS rfl rfl rfl rfl (by (repeat (first | exact Ix.here | apply Ix.there))) (by rfl) | exact a_loadR hS rfl rfl rfl rfl (by (repeat (first | exact Ix.here | apply Ix.there))) (by rfl) | fail) ?_) | ((with_reducible refine g_alloc ?_); refine wl_of rfl ?_; refine wp_alloc hS rfl rfl rfl rfl ?_; clear hS; intro ga w1 hS) | ((with_reducible refine g_store ?_); refine wl_of rfl ?_; refine a_storeA (vs := e.cells) (cs' := e.cells) hS rfl rfl rfl (by rfl) (en_one _) (by (repeat (first | exact Sw.here | apply Sw.there))) (by exact Nat.le_refl 9) (by rfl) ?_; clear hS; intro w' hS) | fail)
      refine St.named hS fun wq hwq => ?_
      subst hwq
      replace hS : St S w0 wq ([disk g D] ++ (.row gj (jcells g J) 68 (0, 0) :: M)) := hS.pick
      obtain ⟨F, hA, hR, hB⟩ := St.split (A := [disk g D]) hS
      clear hS
      have hS := hA.drew
      clear hA
      refine wp_region_held (S := fun W => Cmp.Mod F wq W) (by kernel_rfl) ?_
      change wpAnyH _ _ _ _ _ _ _ _ (wq).drew
      generalize (wq).drew = w2 at hS ⊢
      (refine whd_take 0 rfl rfl (by kernel_rfl) (by kernel_rfl) (by kernel_rfl) (fun _ _ _ h => h) rfl (fun W hW => by (go_simp; try with_reducible rfl)) hS.base ?_; simp only [Act.put, List.setIfInBounds_toArray, List.set_cons_zero, List.set_cons_succ])
      (refine whd_take 1 rfl rfl (by kernel_rfl) (by kernel_rfl) (by kernel_rfl) (fun _ _ _ h => h) rfl (fun W hW => by (go_simp; try with_reducible rfl)) hS.base ?_; simp only [Act.put, List.setIfInBounds_toArray, List.set_cons_zero, List.set_cons_succ])
      (refine whd_take 2 rfl rfl (by kernel_rfl) (by kernel_rfl) (by kernel_rfl) (fun _ _ _ h => h) rfl (fun W hW => by (go_simp; try with_reducible rfl)) hS.base ?_; simp only [Act.put, List.setIfInBounds_toArray, List.set_cons_zero, List.set_cons_succ])
      (refine whd_take 3 rfl rfl (by kernel_rfl) (by kernel_rfl) (by kernel_rfl) (fun _ _ _ h => h) rfl (fun W hW => (by exact a_load1 (hR W hW) rfl rfl rfl rfl (by (repeat (first | exact Ix.here | apply Ix.there))) (by rfl))) hS.base ?_; simp only [Act.put, List.setIfInBounds_toArray, List.set_cons_zero, List.set_cons_succ])
      (refine whd_take 4 rfl rfl (by kernel_rfl) (by kernel_rfl) (by kernel_rfl) (fun _ _ _ h => h) rfl (fun W hW => by (go_simp; try with_reducible rfl)) hS.base ?_; simp only [Act.put, List.setIfInBounds_toArray, List.set_cons_zero, List.set_cons_succ])
      (refine wpAnyH_all (rs := [5]) (by kernel_rfl) (by simp) ?_; intro i hi; have hi := List.mem_singleton.1 hi; subst hi)
      refine wod_of rfl rfl rfl (wp_call (by go_simp) (HPR.out w2) ?_)
      rintro e w5 ⟨rfl, rfl⟩
      refine ⟨_, rfl, hS.base, ?_⟩
      simp only [Act.put, List.setIfInBounds_toArray, List.set_cons_zero, List.set_cons_succ]
      (refine wpAnyH_all (rs := [6]) (by kernel_rfl) (by simp) ?_; intro i hi; have hi := List.mem_singleton.1 hi; subst hi)
      refine wod_of rfl rfl rfl (wp_call (by go_simp) (HL1.out F wq _ [] hS) ?_)
      clear hS
      rintro e w4 ⟨rfl, hS⟩
      refine ⟨_, rfl, hS.base, ?_⟩
      simp only [Act.put, List.setIfInBounds_toArray, List.set_cons_zero, List.set_cons_succ]
      (refine whd_take 7 rfl rfl (by kernel_rfl) (by kernel_rfl) (by kernel_rfl) (fun _ _ _ h => h) rfl (fun W hW => by (go_simp; try with_reducible rfl)) hS.base ?_; simp only [Act.put, List.setIfInBounds_toArray, List.set_cons_zero, List.set_cons_succ])
      (refine wpAnyH_done (by kernel_rfl) ?_ _)
      replace hS := hB _ _ hS
      simp only [List.cons_append, List.nil_append] at hS
      replace hS : St S w0 _ (disk g D1 :: .row gj (jcells g J) 68 (0, 0) :: M) := hS.pick
      rcases HKH.out with ⟨rfl, rfl⟩ | ⟨rfl, rfl, rfl⟩ | ⟨rfl, rfl, qH, rfl⟩ | ⟨rfl, rfl, qH, rfl⟩
      · go_wp2_with (first | go_skip | (go_at_call 40; refine (HST.out _).mono ?_; rintro e w' ⟨rfl, h⟩; replace hS := hS.call h; clear h) | ((with_reducible refine g_load ?_); refine wl_run rfl (by first | exact a_load1 hS rfl rfl rfl rfl (by (repeat (first | exact Ix.here | apply Ix.there))) (by rfl) | exact a_loadR hS rfl rfl rfl rfl (by (repeat (first | exact Ix.here | apply Ix.there))) (by rfl) | fail) ?_) | ((with_reducible refine g_alloc ?_); refine wl_of rfl ?_; refine wp_alloc hS rfl rfl rfl rfl ?_; clear hS; intro gb w1 hS) | ((with_reducible refine g_store ?_); refine wl_of rfl ?_; refine a_storeA (vs := t.cells) (cs' := t.cells) hS rfl rfl rfl (by rfl) (stb_one _) (by (repeat (first | exact Sw.here | apply Sw.there))) (by exact Nat.le_refl 5) (by rfl) ?_; clear hS; intro w' hS) | fail)
        refine St.named hS fun wq hwq => ?_
        subst hwq
        replace hS : St S w0 wq ([disk g D1] ++ (.row gj (jcells g J) 68 (0, 0) :: M)) := hS.pick
        obtain ⟨F, hA, hR, hB⟩ := St.split (A := [disk g D1]) hS
        clear hS
        have hS := hA.drew
        clear hA
        refine wp_region_held (S := fun W => Cmp.Mod F wq W) (by kernel_rfl) ?_
        change wpAnyH _ _ _ _ _ _ _ _ (wq).drew
        generalize (wq).drew = w2 at hS ⊢
        (refine whd_take 0 rfl rfl (by kernel_rfl) (by kernel_rfl) (by kernel_rfl) (fun _ _ _ h => h) rfl (fun W hW => by (go_simp; try with_reducible rfl)) hS.base ?_; simp only [Act.put, List.setIfInBounds_toArray, List.set_cons_zero, List.set_cons_succ])
        (refine whd_take 1 rfl rfl (by kernel_rfl) (by kernel_rfl) (by kernel_rfl) (fun _ _ _ h => h) rfl (fun W hW => by (go_simp; try with_reducible rfl)) hS.base ?_; simp only [Act.put, List.setIfInBounds_toArray, List.set_cons_zero, List.set_cons_succ])
        (refine whd_take 2 rfl rfl (by kernel_rfl) (by kernel_rfl) (by kernel_rfl) (fun _ _ _ h => h) rfl (fun W hW => by (go_simp; try with_reducible rfl)) hS.base ?_; simp only [Act.put, List.setIfInBounds_toArray, List.set_cons_zero, List.set_cons_succ])
        (refine whd_take 3 rfl rfl (by kernel_rfl) (by kernel_rfl) (by kernel_rfl) (fun _ _ _ h => h) rfl (fun W hW => (by exact a_load1 (hR W hW) rfl rfl rfl rfl (by (repeat (first | exact Ix.here | apply Ix.there))) (by rfl))) hS.base ?_; simp only [Act.put, List.setIfInBounds_toArray, List.set_cons_zero, List.set_cons_succ])
        (refine whd_take 4 rfl rfl (by kernel_rfl) (by kernel_rfl) (by kernel_rfl) (fun _ _ _ h => h) rfl (fun W hW => by (go_simp; try with_reducible rfl)) hS.base ?_; simp only [Act.put, List.setIfInBounds_toArray, List.set_cons_zero, List.set_cons_succ])
        (refine wpAnyH_all (rs := [5]) (by kernel_rfl) (by simp) ?_; intro i hi; have hi := List.mem_singleton.1 hi; subst hi)
        refine wod_of rfl rfl rfl (wp_call (by go_simp) (HHD.out w2) ?_)
        rintro e w5 ⟨rfl, rfl⟩
        refine ⟨_, rfl, hS.base, ?_⟩
        simp only [Act.put, List.setIfInBounds_toArray, List.set_cons_zero, List.set_cons_succ]
        (refine wpAnyH_all (rs := [6]) (by kernel_rfl) (by simp) ?_; intro i hi; have hi := List.mem_singleton.1 hi; subst hi)
        refine wod_of rfl rfl rfl (wp_call (by go_simp) (HL3.out F wq _ [] hS) ?_)
        clear hS
        rintro e w4 ⟨rfl, hS⟩
        refine ⟨_, rfl, hS.base, ?_⟩
        simp only [Act.put, List.setIfInBounds_toArray, List.set_cons_zero, List.set_cons_succ]
        (refine whd_take 7 rfl rfl (by kernel_rfl) (by kernel_rfl) (by kernel_rfl) (fun _ _ _ h => h) rfl (fun W hW => by (go_simp; try with_reducible rfl)) hS.base ?_; simp only [Act.put, List.setIfInBounds_toArray, List.set_cons_zero, List.set_cons_succ])
        (refine wpAnyH_done (by kernel_rfl) ?_ _)
        replace hS := hB _ _ hS
        simp only [List.cons_append, List.nil_append] at hS
        go_wp2_with (fail)
        go_ret
        have hR2 : R = (e3, D3) := by rw [HCL.out]; simp [H3.out, H4.out]
        rw [hR2]
        exact ⟨rfl, hS.pick⟩
      · go_wp2_with (first | go_skip | (go_at_call 40; refine (HST.out _).mono ?_; rintro e w' ⟨rfl, h⟩; replace hS := hS.call h; clear h) | ((with_reducible refine g_load ?_); refine wl_run rfl (by first | exact a_load1 hS rfl rfl rfl rfl (by (repeat (first | exact Ix.here | apply Ix.there))) (by rfl) | exact a_loadR hS rfl rfl rfl rfl (by (repeat (first | exact Ix.here | apply Ix.there))) (by rfl) | fail) ?_) | ((with_reducible refine g_alloc ?_); refine wl_of rfl ?_; refine wp_alloc hS rfl rfl rfl rfl ?_; clear hS; intro gb w1 hS) | ((with_reducible refine g_store ?_); refine wl_of rfl ?_; refine a_storeA (vs := t.cells) (cs' := t.cells) hS rfl rfl rfl (by rfl) (stb_one _) (by (repeat (first | exact Sw.here | apply Sw.there))) (by exact Nat.le_refl 5) (by rfl) ?_; clear hS; intro w' hS) | fail)
        go_ret
        have hR2 : R = (0, D1) := by rw [HCL.out]; simp [H3.out, H4.out]
        rw [hR2]
        exact ⟨rfl, hS.pick⟩
      · go_wp2_with (first | go_skip | (go_at_call 40; refine (HST.out _).mono ?_; rintro e w' ⟨rfl, h⟩; replace hS := hS.call h; clear h) | ((with_reducible refine g_load ?_); refine wl_run rfl (by first | exact a_load1 hS rfl rfl rfl rfl (by (repeat (first | exact Ix.here | apply Ix.there))) (by rfl) | exact a_loadR hS rfl rfl rfl rfl (by (repeat (first | exact Ix.here | apply Ix.there))) (by rfl) | fail) ?_) | ((with_reducible refine g_alloc ?_); refine wl_of rfl ?_; refine wp_alloc hS rfl rfl rfl rfl ?_; clear hS; intro gb w1 hS) | ((with_reducible refine g_store ?_); refine wl_of rfl ?_; refine a_storeA (vs := t.cells) (cs' := t.cells) hS rfl rfl rfl (by rfl) (stb_one _) (by (repeat (first | exact Sw.here | apply Sw.there))) (by exact Nat.le_refl 5) (by rfl) ?_; clear hS; intro w' hS) | fail)
        refine St.named hS fun wq hwq => ?_
        subst hwq
        replace hS : St S w0 wq ([disk g D1] ++ (.row gj (jcells g J) 68 (0, 0) :: M)) := hS.pick
        obtain ⟨F, hA, hR, hB⟩ := St.split (A := [disk g D1]) hS
        clear hS
        have hS := hA.drew
        clear hA
        refine wp_region_held (S := fun W => Cmp.Mod F wq W) (by kernel_rfl) ?_
        change wpAnyH _ _ _ _ _ _ _ _ (wq).drew
        generalize (wq).drew = w2 at hS ⊢
        (refine whd_take 0 rfl rfl (by kernel_rfl) (by kernel_rfl) (by kernel_rfl) (fun _ _ _ h => h) rfl (fun W hW => by (go_simp; try with_reducible rfl)) hS.base ?_; simp only [Act.put, List.setIfInBounds_toArray, List.set_cons_zero, List.set_cons_succ])
        (refine whd_take 1 rfl rfl (by kernel_rfl) (by kernel_rfl) (by kernel_rfl) (fun _ _ _ h => h) rfl (fun W hW => by (go_simp; try with_reducible rfl)) hS.base ?_; simp only [Act.put, List.setIfInBounds_toArray, List.set_cons_zero, List.set_cons_succ])
        (refine whd_take 2 rfl rfl (by kernel_rfl) (by kernel_rfl) (by kernel_rfl) (fun _ _ _ h => h) rfl (fun W hW => by (go_simp; try with_reducible rfl)) hS.base ?_; simp only [Act.put, List.setIfInBounds_toArray, List.set_cons_zero, List.set_cons_succ])
        (refine whd_take 3 rfl rfl (by kernel_rfl) (by kernel_rfl) (by kernel_rfl) (fun _ _ _ h => h) rfl (fun W hW => (by exact a_load1 (hR W hW) rfl rfl rfl rfl (by (repeat (first | exact Ix.here | apply Ix.there))) (by rfl))) hS.base ?_; simp only [Act.put, List.setIfInBounds_toArray, List.set_cons_zero, List.set_cons_succ])
        (refine whd_take 4 rfl rfl (by kernel_rfl) (by kernel_rfl) (by kernel_rfl) (fun _ _ _ h => h) rfl (fun W hW => by (go_simp; try with_reducible rfl)) hS.base ?_; simp only [Act.put, List.setIfInBounds_toArray, List.set_cons_zero, List.set_cons_succ])
        (refine wpAnyH_all (rs := [5]) (by kernel_rfl) (by simp) ?_; intro i hi; have hi := List.mem_singleton.1 hi; subst hi)
        refine wod_of rfl rfl rfl (wp_call (by go_simp) (HHD.out w2) ?_)
        rintro e w5 ⟨rfl, rfl⟩
        refine ⟨_, rfl, hS.base, ?_⟩
        simp only [Act.put, List.setIfInBounds_toArray, List.set_cons_zero, List.set_cons_succ]
        (refine wpAnyH_all (rs := [6]) (by kernel_rfl) (by simp) ?_; intro i hi; have hi := List.mem_singleton.1 hi; subst hi)
        refine wod_of rfl rfl rfl (wp_call (by go_simp) (HL3.out F wq _ [] hS) ?_)
        clear hS
        rintro e w4 ⟨rfl, hS⟩
        refine ⟨_, rfl, hS.base, ?_⟩
        simp only [Act.put, List.setIfInBounds_toArray, List.set_cons_zero, List.set_cons_succ]
        (refine whd_take 7 rfl rfl (by kernel_rfl) (by kernel_rfl) (by kernel_rfl) (fun _ _ _ h => h) rfl (fun W hW => by (go_simp; try with_reducible rfl)) hS.base ?_; simp only [Act.put, List.setIfInBounds_toArray, List.set_cons_zero, List.set_cons_succ])
        (refine wpAnyH_done (by kernel_rfl) ?_ _)
        replace hS := hB _ _ hS
        simp only [List.cons_append, List.nil_append] at hS
        go_wp2_with (fail)
        go_ret
        have hR2 : R = (e3, D3) := by rw [HCL.out]; simp [H3.out, H4.out]
        rw [hR2]
        exact ⟨rfl, hS.pick⟩
      · go_wp2_with (first | go_skip | (go_at_call 40; refine (HST.out _).mono ?_; rintro e w' ⟨rfl, h⟩; replace hS := hS.call h; clear h) | ((with_reducible refine g_load ?_); refine wl_run rfl (by first | exact a_load1 hS rfl rfl rfl rfl (by (repeat (first | exact Ix.here | apply Ix.there))) (by rfl) | exact a_loadR hS rfl rfl rfl rfl (by (repeat (first | exact Ix.here | apply Ix.there))) (by rfl) | fail) ?_) | ((with_reducible refine g_alloc ?_); refine wl_of rfl ?_; refine wp_alloc hS rfl rfl rfl rfl ?_; clear hS; intro gb w1 hS) | ((with_reducible refine g_store ?_); refine wl_of rfl ?_; refine a_storeA (vs := t.cells) (cs' := t.cells) hS rfl rfl rfl (by rfl) (stb_one _) (by (repeat (first | exact Sw.here | apply Sw.there))) (by exact Nat.le_refl 5) (by rfl) ?_; clear hS; intro w' hS) | fail)
        go_ret
        have hR2 : R = (0, D1) := by rw [HCL.out]; simp [H3.out, H4.out]
        rw [hR2]
        exact ⟨rfl, hS.pick⟩
    · have he1 : (er != 0) = true := by simpa using he
      (go_enter Try.func41, Try.ntmps41)
      go_wp2_with (first | go_skip | (go_at_call 31; refine (HEN.out _).mono ?_; rintro e w' ⟨rfl, h⟩; replace hS := hS.call h; clear h) | ((with_reducible refine g_load ?_); refine wl_run rfl (by first | exact a_load1 hS rfl rfl rfl rfl (by (repeat (first | exact Ix.here | apply Ix.there))) (by rfl) | exact a_loadR hS rfl rfl rfl rfl (by (repeat (first | exact Ix.here | apply Ix.there))) (by rfl) | fail) ?_) | ((with_reducible refine g_alloc ?_); refine wl_of rfl ?_; refine wp_alloc hS rfl rfl rfl rfl ?_; clear hS; intro ga w1 hS) | ((with_reducible refine g_store ?_); refine wl_of rfl ?_; refine a_storeA (vs := e.cells) (cs' := e.cells) hS rfl rfl rfl (by rfl) (en_one _) (by (repeat (first | exact Sw.here | apply Sw.there))) (by exact Nat.le_refl 9) (by rfl) ?_; clear hS; intro w' hS) | fail)
      refine St.named hS fun wq hwq => ?_
      subst hwq
      replace hS : St S w0 wq ([disk g D] ++ (.row gj (jcells g J) 68 (0, 0) :: M)) := hS.pick
      obtain ⟨F, hA, hR, hB⟩ := St.split (A := [disk g D]) hS
      clear hS
      have hS := hA.drew
      clear hA
      refine wp_region_held (S := fun W => Cmp.Mod F wq W) (by kernel_rfl) ?_
      change wpAnyH _ _ _ _ _ _ _ _ (wq).drew
      generalize (wq).drew = w2 at hS ⊢
      (refine whd_take 0 rfl rfl (by kernel_rfl) (by kernel_rfl) (by kernel_rfl) (fun _ _ _ h => h) rfl (fun W hW => by (go_simp; try with_reducible rfl)) hS.base ?_; simp only [Act.put, List.setIfInBounds_toArray, List.set_cons_zero, List.set_cons_succ])
      (refine whd_take 1 rfl rfl (by kernel_rfl) (by kernel_rfl) (by kernel_rfl) (fun _ _ _ h => h) rfl (fun W hW => by (go_simp; try with_reducible rfl)) hS.base ?_; simp only [Act.put, List.setIfInBounds_toArray, List.set_cons_zero, List.set_cons_succ])
      (refine whd_take 2 rfl rfl (by kernel_rfl) (by kernel_rfl) (by kernel_rfl) (fun _ _ _ h => h) rfl (fun W hW => by (go_simp; try with_reducible rfl)) hS.base ?_; simp only [Act.put, List.setIfInBounds_toArray, List.set_cons_zero, List.set_cons_succ])
      (refine whd_take 3 rfl rfl (by kernel_rfl) (by kernel_rfl) (by kernel_rfl) (fun _ _ _ h => h) rfl (fun W hW => (by exact a_load1 (hR W hW) rfl rfl rfl rfl (by (repeat (first | exact Ix.here | apply Ix.there))) (by rfl))) hS.base ?_; simp only [Act.put, List.setIfInBounds_toArray, List.set_cons_zero, List.set_cons_succ])
      (refine whd_take 4 rfl rfl (by kernel_rfl) (by kernel_rfl) (by kernel_rfl) (fun _ _ _ h => h) rfl (fun W hW => by (go_simp; try with_reducible rfl)) hS.base ?_; simp only [Act.put, List.setIfInBounds_toArray, List.set_cons_zero, List.set_cons_succ])
      (refine wpAnyH_all (rs := [5]) (by kernel_rfl) (by simp) ?_; intro i hi; have hi := List.mem_singleton.1 hi; subst hi)
      refine wod_of rfl rfl rfl (wp_call (by go_simp) (HPR.out w2) ?_)
      rintro e w5 ⟨rfl, rfl⟩
      refine ⟨_, rfl, hS.base, ?_⟩
      simp only [Act.put, List.setIfInBounds_toArray, List.set_cons_zero, List.set_cons_succ]
      (refine wpAnyH_all (rs := [6]) (by kernel_rfl) (by simp) ?_; intro i hi; have hi := List.mem_singleton.1 hi; subst hi)
      refine wod_of rfl rfl rfl (wp_call (by go_simp) (HL1.out F wq _ [] hS) ?_)
      clear hS
      rintro e w4 ⟨rfl, hS⟩
      refine ⟨_, rfl, hS.base, ?_⟩
      simp only [Act.put, List.setIfInBounds_toArray, List.set_cons_zero, List.set_cons_succ]
      (refine whd_take 7 rfl rfl (by kernel_rfl) (by kernel_rfl) (by kernel_rfl) (fun _ _ _ h => h) rfl (fun W hW => by (go_simp; try with_reducible rfl)) hS.base ?_; simp only [Act.put, List.setIfInBounds_toArray, List.set_cons_zero, List.set_cons_succ])
      (refine wpAnyH_done (by kernel_rfl) ?_ _)
      replace hS := hB _ _ hS
      simp only [List.cons_append, List.nil_append] at hS
      go_wp2_with (fail)
      go_ret
      have hR2 : R = (er, D1) := by rw [HCL.out]; simp [he]
      rw [hR2]
      exact ⟨rfl, hS.pick⟩
  · (go_enter Try.func41, Try.ntmps41)
    go_upto_region 6 with (first | go_skip | (go_at_call 31; refine (HEN.out _).mono ?_; rintro e w' ⟨rfl, h⟩; replace hS := hS.call h; clear h) | ((with_reducible refine g_load ?_); refine wl_run rfl (by first | exact a_load1 hS rfl rfl rfl rfl (by (repeat (first | exact Ix.here | apply Ix.there))) (by rfl) | exact a_loadR hS rfl rfl rfl rfl (by (repeat (first | exact Ix.here | apply Ix.there))) (by rfl) | fail) ?_) | ((with_reducible refine g_alloc ?_); refine wl_of rfl ?_; refine wp_alloc hS rfl rfl rfl rfl ?_; clear hS; intro ga w1 hS) | ((with_reducible refine g_store ?_); refine wl_of rfl ?_; refine a_storeA (vs := e.cells) (cs' := e.cells) hS rfl rfl rfl (by rfl) (en_one _) (by (repeat (first | exact Sw.here | apply Sw.there))) (by exact Nat.le_refl 9) (by rfl) ?_; clear hS; intro w' hS) | fail)
    replace hS : St S w0 _ (disk g D :: .row gj (jcells g J) 68 (0, 0) :: M) := hS.pick
    rcases HKH.out with ⟨rfl, rfl⟩ | ⟨rfl, rfl, rfl⟩ | ⟨rfl, rfl, qH, rfl⟩ | ⟨rfl, rfl, qH, rfl⟩
    · go_wp2_with (first | go_skip | (go_at_call 40; refine (HST.out _).mono ?_; rintro e w' ⟨rfl, h⟩; replace hS := hS.call h; clear h) | ((with_reducible refine g_load ?_); refine wl_run rfl (by first | exact a_load1 hS rfl rfl rfl rfl (by (repeat (first | exact Ix.here | apply Ix.there))) (by rfl) | exact a_loadR hS rfl rfl rfl rfl (by (repeat (first | exact Ix.here | apply Ix.there))) (by rfl) | fail) ?_) | ((with_reducible refine g_alloc ?_); refine wl_of rfl ?_; refine wp_alloc hS rfl rfl rfl rfl ?_; clear hS; intro gb w1 hS) | ((with_reducible refine g_store ?_); refine wl_of rfl ?_; refine a_storeA (vs := t.cells) (cs' := t.cells) hS rfl rfl rfl (by rfl) (stb_one _) (by (repeat (first | exact Sw.here | apply Sw.there))) (by exact Nat.le_refl 5) (by rfl) ?_; clear hS; intro w' hS) | fail)
      refine St.named hS fun wq hwq => ?_
      subst hwq
      replace hS : St S w0 wq ([disk g D] ++ (.row gj (jcells g J) 68 (0, 0) :: M)) := hS.pick
      obtain ⟨F, hA, hR, hB⟩ := St.split (A := [disk g D]) hS
      clear hS
      have hS := hA.drew
      clear hA
      refine wp_region_held (S := fun W => Cmp.Mod F wq W) (by kernel_rfl) ?_
      change wpAnyH _ _ _ _ _ _ _ _ (wq).drew
      generalize (wq).drew = w2 at hS ⊢
      (refine whd_take 0 rfl rfl (by kernel_rfl) (by kernel_rfl) (by kernel_rfl) (fun _ _ _ h => h) rfl (fun W hW => by (go_simp; try with_reducible rfl)) hS.base ?_; simp only [Act.put, List.setIfInBounds_toArray, List.set_cons_zero, List.set_cons_succ])
      (refine whd_take 1 rfl rfl (by kernel_rfl) (by kernel_rfl) (by kernel_rfl) (fun _ _ _ h => h) rfl (fun W hW => by (go_simp; try with_reducible rfl)) hS.base ?_; simp only [Act.put, List.setIfInBounds_toArray, List.set_cons_zero, List.set_cons_succ])
      (refine whd_take 2 rfl rfl (by kernel_rfl) (by kernel_rfl) (by kernel_rfl) (fun _ _ _ h => h) rfl (fun W hW => by (go_simp; try with_reducible rfl)) hS.base ?_; simp only [Act.put, List.setIfInBounds_toArray, List.set_cons_zero, List.set_cons_succ])
      (refine whd_take 3 rfl rfl (by kernel_rfl) (by kernel_rfl) (by kernel_rfl) (fun _ _ _ h => h) rfl (fun W hW => (by exact a_load1 (hR W hW) rfl rfl rfl rfl (by (repeat (first | exact Ix.here | apply Ix.there))) (by rfl))) hS.base ?_; simp only [Act.put, List.setIfInBounds_toArray, List.set_cons_zero, List.set_cons_succ])
      (refine whd_take 4 rfl rfl (by kernel_rfl) (by kernel_rfl) (by kernel_rfl) (fun _ _ _ h => h) rfl (fun W hW => by (go_simp; try with_reducible rfl)) hS.base ?_; simp only [Act.put, List.setIfInBounds_toArray, List.set_cons_zero, List.set_cons_succ])
      (refine wpAnyH_all (rs := [5]) (by kernel_rfl) (by simp) ?_; intro i hi; have hi := List.mem_singleton.1 hi; subst hi)
      refine wod_of rfl rfl rfl (wp_call (by go_simp) (HHD.out w2) ?_)
      rintro e w5 ⟨rfl, rfl⟩
      refine ⟨_, rfl, hS.base, ?_⟩
      simp only [Act.put, List.setIfInBounds_toArray, List.set_cons_zero, List.set_cons_succ]
      (refine wpAnyH_all (rs := [6]) (by kernel_rfl) (by simp) ?_; intro i hi; have hi := List.mem_singleton.1 hi; subst hi)
      refine wod_of rfl rfl rfl (wp_call (by go_simp) (HL4.out F wq _ [] hS) ?_)
      clear hS
      rintro e w4 ⟨rfl, hS⟩
      refine ⟨_, rfl, hS.base, ?_⟩
      simp only [Act.put, List.setIfInBounds_toArray, List.set_cons_zero, List.set_cons_succ]
      (refine whd_take 7 rfl rfl (by kernel_rfl) (by kernel_rfl) (by kernel_rfl) (fun _ _ _ h => h) rfl (fun W hW => by (go_simp; try with_reducible rfl)) hS.base ?_; simp only [Act.put, List.setIfInBounds_toArray, List.set_cons_zero, List.set_cons_succ])
      (refine wpAnyH_done (by kernel_rfl) ?_ _)
      replace hS := hB _ _ hS
      simp only [List.cons_append, List.nil_append] at hS
      go_wp2_with (fail)
      go_ret
      have hR2 : R = (e4, D4) := by rw [HCL.out]; simp [H3.out, H4.out]
      rw [hR2]
      exact ⟨rfl, hS.pick⟩
    · go_wp2_with (first | go_skip | (go_at_call 40; refine (HST.out _).mono ?_; rintro e w' ⟨rfl, h⟩; replace hS := hS.call h; clear h) | ((with_reducible refine g_load ?_); refine wl_run rfl (by first | exact a_load1 hS rfl rfl rfl rfl (by (repeat (first | exact Ix.here | apply Ix.there))) (by rfl) | exact a_loadR hS rfl rfl rfl rfl (by (repeat (first | exact Ix.here | apply Ix.there))) (by rfl) | fail) ?_) | ((with_reducible refine g_alloc ?_); refine wl_of rfl ?_; refine wp_alloc hS rfl rfl rfl rfl ?_; clear hS; intro gb w1 hS) | ((with_reducible refine g_store ?_); refine wl_of rfl ?_; refine a_storeA (vs := t.cells) (cs' := t.cells) hS rfl rfl rfl (by rfl) (stb_one _) (by (repeat (first | exact Sw.here | apply Sw.there))) (by exact Nat.le_refl 5) (by rfl) ?_; clear hS; intro w' hS) | fail)
      go_ret
      have hR2 : R = (0, D) := by rw [HCL.out]; simp [H3.out, H4.out]
      rw [hR2]
      exact ⟨rfl, hS.pick⟩
    · go_wp2_with (first | go_skip | (go_at_call 40; refine (HST.out _).mono ?_; rintro e w' ⟨rfl, h⟩; replace hS := hS.call h; clear h) | ((with_reducible refine g_load ?_); refine wl_run rfl (by first | exact a_load1 hS rfl rfl rfl rfl (by (repeat (first | exact Ix.here | apply Ix.there))) (by rfl) | exact a_loadR hS rfl rfl rfl rfl (by (repeat (first | exact Ix.here | apply Ix.there))) (by rfl) | fail) ?_) | ((with_reducible refine g_alloc ?_); refine wl_of rfl ?_; refine wp_alloc hS rfl rfl rfl rfl ?_; clear hS; intro gb w1 hS) | ((with_reducible refine g_store ?_); refine wl_of rfl ?_; refine a_storeA (vs := t.cells) (cs' := t.cells) hS rfl rfl rfl (by rfl) (stb_one _) (by (repeat (first | exact Sw.here | apply Sw.there))) (by exact Nat.le_refl 5) (by rfl) ?_; clear hS; intro w' hS) | fail)
      refine St.named hS fun wq hwq => ?_
      subst hwq
      replace hS : St S w0 wq ([disk g D] ++ (.row gj (jcells g J) 68 (0, 0) :: M)) := hS.pick
      obtain ⟨F, hA, hR, hB⟩ := St.split (A := [disk g D]) hS
      clear hS
      have hS := hA.drew
      clear hA
      refine wp_region_held (S := fun W => Cmp.Mod F wq W) (by kernel_rfl) ?_
      change wpAnyH _ _ _ _ _ _ _ _ (wq).drew
      generalize (wq).drew = w2 at hS ⊢
      (refine whd_take 0 rfl rfl (by kernel_rfl) (by kernel_rfl) (by kernel_rfl) (fun _ _ _ h => h) rfl (fun W hW => by (go_simp; try with_reducible rfl)) hS.base ?_; simp only [Act.put, List.setIfInBounds_toArray, List.set_cons_zero, List.set_cons_succ])
      (refine whd_take 1 rfl rfl (by kernel_rfl) (by kernel_rfl) (by kernel_rfl) (fun _ _ _ h => h) rfl (fun W hW => by (go_simp; try with_reducible rfl)) hS.base ?_; simp only [Act.put, List.setIfInBounds_toArray, List.set_cons_zero, List.set_cons_succ])
      (refine whd_take 2 rfl rfl (by kernel_rfl) (by kernel_rfl) (by kernel_rfl) (fun _ _ _ h => h) rfl (fun W hW => by (go_simp; try with_reducible rfl)) hS.base ?_; simp only [Act.put, List.setIfInBounds_toArray, List.set_cons_zero, List.set_cons_succ])
      (refine whd_take 3 rfl rfl (by kernel_rfl) (by kernel_rfl) (by kernel_rfl) (fun _ _ _ h => h) rfl (fun W hW => (by exact a_load1 (hR W hW) rfl rfl rfl rfl (by (repeat (first | exact Ix.here | apply Ix.there))) (by rfl))) hS.base ?_; simp only [Act.put, List.setIfInBounds_toArray, List.set_cons_zero, List.set_cons_succ])
      (refine whd_take 4 rfl rfl (by kernel_rfl) (by kernel_rfl) (by kernel_rfl) (fun _ _ _ h => h) rfl (fun W hW => by (go_simp; try with_reducible rfl)) hS.base ?_; simp only [Act.put, List.setIfInBounds_toArray, List.set_cons_zero, List.set_cons_succ])
      (refine wpAnyH_all (rs := [5]) (by kernel_rfl) (by simp) ?_; intro i hi; have hi := List.mem_singleton.1 hi; subst hi)
      refine wod_of rfl rfl rfl (wp_call (by go_simp) (HHD.out w2) ?_)
      rintro e w5 ⟨rfl, rfl⟩
      refine ⟨_, rfl, hS.base, ?_⟩
      simp only [Act.put, List.setIfInBounds_toArray, List.set_cons_zero, List.set_cons_succ]
      (refine wpAnyH_all (rs := [6]) (by kernel_rfl) (by simp) ?_; intro i hi; have hi := List.mem_singleton.1 hi; subst hi)
      refine wod_of rfl rfl rfl (wp_call (by go_simp) (HL4.out F wq _ [] hS) ?_)
      clear hS
      rintro e w4 ⟨rfl, hS⟩
      refine ⟨_, rfl, hS.base, ?_⟩
      simp only [Act.put, List.setIfInBounds_toArray, List.set_cons_zero, List.set_cons_succ]
      (refine whd_take 7 rfl rfl (by kernel_rfl) (by kernel_rfl) (by kernel_rfl) (fun _ _ _ h => h) rfl (fun W hW => by (go_simp; try with_reducible rfl)) hS.base ?_; simp only [Act.put, List.setIfInBounds_toArray, List.set_cons_zero, List.set_cons_succ])
      (refine wpAnyH_done (by kernel_rfl) ?_ _)
      replace hS := hB _ _ hS
      simp only [List.cons_append, List.nil_append] at hS
      go_wp2_with (fail)
      go_ret
      have hR2 : R = (e4, D4) := by rw [HCL.out]; simp [H3.out, H4.out]
      rw [hR2]
      exact ⟨rfl, hS.pick⟩
    · go_wp2_with (first | go_skip | (go_at_call 40; refine (HST.out _).mono ?_; rintro e w' ⟨rfl, h⟩; replace hS := hS.call h; clear h) | ((with_reducible refine g_load ?_); refine wl_run rfl (by first | exact a_load1 hS rfl rfl rfl rfl (by (repeat (first | exact Ix.here | apply Ix.there))) (by rfl) | exact a_loadR hS rfl rfl rfl rfl (by (repeat (first | exact Ix.here | apply Ix.there))) (by rfl) | fail) ?_) | ((with_reducible refine g_alloc ?_); refine wl_of rfl ?_; refine wp_alloc hS rfl rfl rfl rfl ?_; clear hS; intro gb w1 hS) | ((with_reducible refine g_store ?_); refine wl_of rfl ?_; refine a_storeA (vs := t.cells) (cs' := t.cells) hS rfl rfl rfl (by rfl) (stb_one _) (by (repeat (first | exact Sw.here | apply Sw.there))) (by exact Nat.le_refl 5) (by rfl) ?_; clear hS; intro w' hS) | fail)
      go_ret
      have hR2 : R = (0, D) := by rw [HCL.out]; simp [H3.out, H4.out]
      rw [hR2]
      exact ⟨rfl, hS.pick⟩
  · by_cases he : er = 0
    · subst he
      (go_enter Try.func41, Try.ntmps41)
      go_wp2_with (first | go_skip | (go_at_call 31; refine (HEN.out _).mono ?_; rintro e w' ⟨rfl, h⟩; replace hS := hS.call h; clear h) | ((with_reducible refine g_load ?_); refine wl_run rfl (by first | exact a_load1 hS rfl rfl rfl rfl (by (repeat (first | exact Ix.here | apply Ix.there))) (by rfl) | exact a_loadR hS rfl rfl rfl rfl (by (repeat (first | exact Ix.here | apply Ix.there))) (by rfl) | fail) ?_) | ((with_reducible refine g_alloc ?_); refine wl_of rfl ?_; refine wp_alloc hS rfl rfl rfl rfl ?_; clear hS; intro ga w1 hS) | ((with_reducible refine g_store ?_); refine wl_of rfl ?_; refine a_storeA (vs := e.cells) (cs' := e.cells) hS rfl rfl rfl (by rfl) (en_one _) (by (repeat (first | exact Sw.here | apply Sw.there))) (by exact Nat.le_refl 9) (by rfl) ?_; clear hS; intro w' hS) | fail)
      refine St.named hS fun wq hwq => ?_
      subst hwq
      replace hS : St S w0 wq ([disk g D] ++ (.row gj (jcells g J) 68 (0, 0) :: M)) := hS.pick
      obtain ⟨F, hA, hR, hB⟩ := St.split (A := [disk g D]) hS
      clear hS
      have hS := hA.drew
      clear hA
      refine wp_region_held (S := fun W => Cmp.Mod F wq W) (by kernel_rfl) ?_
      change wpAnyH _ _ _ _ _ _ _ _ (wq).drew
      generalize (wq).drew = w2 at hS ⊢
      (refine whd_take 0 rfl rfl (by kernel_rfl) (by kernel_rfl) (by kernel_rfl) (fun _ _ _ h => h) rfl (fun W hW => by (go_simp; try with_reducible rfl)) hS.base ?_; simp only [Act.put, List.setIfInBounds_toArray, List.set_cons_zero, List.set_cons_succ])
      (refine whd_take 1 rfl rfl (by kernel_rfl) (by kernel_rfl) (by kernel_rfl) (fun _ _ _ h => h) rfl (fun W hW => by (go_simp; try with_reducible rfl)) hS.base ?_; simp only [Act.put, List.setIfInBounds_toArray, List.set_cons_zero, List.set_cons_succ])
      (refine whd_take 2 rfl rfl (by kernel_rfl) (by kernel_rfl) (by kernel_rfl) (fun _ _ _ h => h) rfl (fun W hW => by (go_simp; try with_reducible rfl)) hS.base ?_; simp only [Act.put, List.setIfInBounds_toArray, List.set_cons_zero, List.set_cons_succ])
      (refine whd_take 3 rfl rfl (by kernel_rfl) (by kernel_rfl) (by kernel_rfl) (fun _ _ _ h => h) rfl (fun W hW => (by exact a_load1 (hR W hW) rfl rfl rfl rfl (by (repeat (first | exact Ix.here | apply Ix.there))) (by rfl))) hS.base ?_; simp only [Act.put, List.setIfInBounds_toArray, List.set_cons_zero, List.set_cons_succ])
      (refine whd_take 4 rfl rfl (by kernel_rfl) (by kernel_rfl) (by kernel_rfl) (fun _ _ _ h => h) rfl (fun W hW => by (go_simp; try with_reducible rfl)) hS.base ?_; simp only [Act.put, List.setIfInBounds_toArray, List.set_cons_zero, List.set_cons_succ])
      (refine wpAnyH_all (rs := [5]) (by kernel_rfl) (by simp) ?_; intro i hi; have hi := List.mem_singleton.1 hi; subst hi)
      refine wod_of rfl rfl rfl (wp_call (by go_simp) (HPR.out w2) ?_)
      rintro e w5 ⟨rfl, rfl⟩
      refine ⟨_, rfl, hS.base, ?_⟩
      simp only [Act.put, List.setIfInBounds_toArray, List.set_cons_zero, List.set_cons_succ]
      (refine wpAnyH_all (rs := [6]) (by kernel_rfl) (by simp) ?_; intro i hi; have hi := List.mem_singleton.1 hi; subst hi)
      refine wod_of rfl rfl rfl (wp_call (by go_simp) (HL1.out F wq _ [] hS) ?_)
      clear hS
      rintro e w4 ⟨rfl, hS⟩
      refine ⟨_, rfl, hS.base, ?_⟩
      simp only [Act.put, List.setIfInBounds_toArray, List.set_cons_zero, List.set_cons_succ]
      (refine whd_take 7 rfl rfl (by kernel_rfl) (by kernel_rfl) (by kernel_rfl) (fun _ _ _ h => h) rfl (fun W hW => by (go_simp; try with_reducible rfl)) hS.base ?_; simp only [Act.put, List.setIfInBounds_toArray, List.set_cons_zero, List.set_cons_succ])
      (refine wpAnyH_done (by kernel_rfl) ?_ _)
      replace hS := hB _ _ hS
      simp only [List.cons_append, List.nil_append] at hS
      replace hS : St S w0 _ (disk g D1 :: .row gj (jcells g J) 68 (0, 0) :: M) := hS.pick
      rcases HKH.out with ⟨rfl, rfl⟩ | ⟨rfl, rfl, rfl⟩ | ⟨rfl, rfl, qH, rfl⟩ | ⟨rfl, rfl, qH, rfl⟩
      · go_wp2_with (first | go_skip | (go_at_call 40; refine (HST.out _).mono ?_; rintro e w' ⟨rfl, h⟩; replace hS := hS.call h; clear h) | ((with_reducible refine g_load ?_); refine wl_run rfl (by first | exact a_load1 hS rfl rfl rfl rfl (by (repeat (first | exact Ix.here | apply Ix.there))) (by rfl) | exact a_loadR hS rfl rfl rfl rfl (by (repeat (first | exact Ix.here | apply Ix.there))) (by rfl) | fail) ?_) | ((with_reducible refine g_alloc ?_); refine wl_of rfl ?_; refine wp_alloc hS rfl rfl rfl rfl ?_; clear hS; intro gb w1 hS) | ((with_reducible refine g_store ?_); refine wl_of rfl ?_; refine a_storeA (vs := t.cells) (cs' := t.cells) hS rfl rfl rfl (by rfl) (stb_one _) (by (repeat (first | exact Sw.here | apply Sw.there))) (by exact Nat.le_refl 5) (by rfl) ?_; clear hS; intro w' hS) | fail)
        refine St.named hS fun wq hwq => ?_
        subst hwq
        replace hS : St S w0 wq ([disk g D1] ++ (.row gj (jcells g J) 68 (0, 0) :: M)) := hS.pick
        obtain ⟨F, hA, hR, hB⟩ := St.split (A := [disk g D1]) hS
        clear hS
        have hS := hA.drew
        clear hA
        refine wp_region_held (S := fun W => Cmp.Mod F wq W) (by kernel_rfl) ?_
        change wpAnyH _ _ _ _ _ _ _ _ (wq).drew
        generalize (wq).drew = w2 at hS ⊢
        (refine whd_take 0 rfl rfl (by kernel_rfl) (by kernel_rfl) (by kernel_rfl) (fun _ _ _ h => h) rfl (fun W hW => by (go_simp; try with_reducible rfl)) hS.base ?_; simp only [Act.put, List.setIfInBounds_toArray, List.set_cons_zero, List.set_cons_succ])
        (refine whd_take 1 rfl rfl (by kernel_rfl) (by kernel_rfl) (by kernel_rfl) (fun _ _ _ h => h) rfl (fun W hW => by (go_simp; try with_reducible rfl)) hS.base ?_; simp only [Act.put, List.setIfInBounds_toArray, List.set_cons_zero, List.set_cons_succ])
        (refine whd_take 2 rfl rfl (by kernel_rfl) (by kernel_rfl) (by kernel_rfl) (fun _ _ _ h => h) rfl (fun W hW => by (go_simp; try with_reducible rfl)) hS.base ?_; simp only [Act.put, List.setIfInBounds_toArray, List.set_cons_zero, List.set_cons_succ])
        (refine whd_take 3 rfl rfl (by kernel_rfl) (by kernel_rfl) (by kernel_rfl) (fun _ _ _ h => h) rfl (fun W hW => (by exact a_load1 (hR W hW) rfl rfl rfl rfl (by (repeat (first | exact Ix.here | apply Ix.there))) (by rfl))) hS.base ?_; simp only [Act.put, List.setIfInBounds_toArray, List.set_cons_zero, List.set_cons_succ])
        (refine whd_take 4 rfl rfl (by kernel_rfl) (by kernel_rfl) (by kernel_rfl) (fun _ _ _ h => h) rfl (fun W hW => by (go_simp; try with_reducible rfl)) hS.base ?_; simp only [Act.put, List.setIfInBounds_toArray, List.set_cons_zero, List.set_cons_succ])
        (refine wpAnyH_all (rs := [5]) (by kernel_rfl) (by simp) ?_; intro i hi; have hi := List.mem_singleton.1 hi; subst hi)
        refine wod_of rfl rfl rfl (wp_call (by go_simp) (HHD.out w2) ?_)
        rintro e w5 ⟨rfl, rfl⟩
        refine ⟨_, rfl, hS.base, ?_⟩
        simp only [Act.put, List.setIfInBounds_toArray, List.set_cons_zero, List.set_cons_succ]
        (refine wpAnyH_all (rs := [6]) (by kernel_rfl) (by simp) ?_; intro i hi; have hi := List.mem_singleton.1 hi; subst hi)
        refine wod_of rfl rfl rfl (wp_call (by go_simp) (HL3.out F wq _ [] hS) ?_)
        clear hS
        rintro e w4 ⟨rfl, hS⟩
        refine ⟨_, rfl, hS.base, ?_⟩
        simp only [Act.put, List.setIfInBounds_toArray, List.set_cons_zero, List.set_cons_succ]
        (refine whd_take 7 rfl rfl (by kernel_rfl) (by kernel_rfl) (by kernel_rfl) (fun _ _ _ h => h) rfl (fun W hW => by (go_simp; try with_reducible rfl)) hS.base ?_; simp only [Act.put, List.setIfInBounds_toArray, List.set_cons_zero, List.set_cons_succ])
        (refine wpAnyH_done (by kernel_rfl) ?_ _)
        replace hS := hB _ _ hS
        simp only [List.cons_append, List.nil_append] at hS
        go_wp2_with (fail)
        go_ret
        have hR2 : R = (e3, D3) := by rw [HCL.out]; simp [H3.out, H4.out]
        rw [hR2]
        exact ⟨rfl, hS.pick⟩
      · go_wp2_with (first | go_skip | (go_at_call 40; refine (HST.out _).mono ?_; rintro e w' ⟨rfl, h⟩; replace hS := hS.call h; clear h) | ((with_reducible refine g_load ?_); refine wl_run rfl (by first | exact a_load1 hS rfl rfl rfl rfl (by (repeat (first | exact Ix.here | apply Ix.there))) (by rfl) | exact a_loadR hS rfl rfl rfl rfl (by (repeat (first | exact Ix.here | apply Ix.there))) (by rfl) | fail) ?_) | ((with_reducible refine g_alloc ?_); refine wl_of rfl ?_; refine wp_alloc hS rfl rfl rfl rfl ?_; clear hS; intro gb w1 hS) | ((with_reducible refine g_store ?_); refine wl_of rfl ?_; refine a_storeA (vs := t.cells) (cs' := t.cells) hS rfl rfl rfl (by rfl) (stb_one _) (by (repeat (first | exact Sw.here | apply Sw.there))) (by exact Nat.le_refl 5) (by rfl) ?_; clear hS; intro w' hS) | fail)
        go_ret
        have hR2 : R = (0, D1) := by rw [HCL.out]; simp [H3.out, H4.out]
        rw [hR2]
        exact ⟨rfl, hS.pick⟩
      · go_wp2_with (first | go_skip | (go_at_call 40; refine (HST.out _).mono ?_; rintro e w' ⟨rfl, h⟩; replace hS := hS.call h; clear h) | ((with_reducible refine g_load ?_); refine wl_run rfl (by first | exact a_load1 hS rfl rfl rfl rfl (by (repeat (first | exact Ix.here | apply Ix.there))) (by rfl) | exact a_loadR hS rfl rfl rfl rfl (by (repeat (first | exact Ix.here | apply Ix.there))) (by rfl) | fail) ?_) | ((with_reducible refine g_alloc ?_); refine wl_of rfl ?_; refine wp_alloc hS rfl rfl rfl rfl ?_; clear hS; intro gb w1 hS) | ((with_reducible refine g_store ?_); refine wl_of rfl ?_; refine a_storeA (vs := t.cells) (cs' := t.cells) hS rfl rfl rfl (by rfl) (stb_one _) (by (repeat (first | exact Sw.here | apply Sw.there))) (by exact Nat.le_refl 5) (by rfl) ?_; clear hS; intro w' hS) | fail)
        refine St.named hS fun wq hwq => ?_
        subst hwq
        replace hS : St S w0 wq ([disk g D1] ++ (.row gj (jcells g J) 68 (0, 0) :: M)) := hS.pick
        obtain ⟨F, hA, hR, hB⟩ := St.split (A := [disk g D1]) hS
        clear hS
        have hS := hA.drew
        clear hA
        refine wp_region_held (S := fun W => Cmp.Mod F wq W) (by kernel_rfl) ?_
        change wpAnyH _ _ _ _ _ _ _ _ (wq).drew
        generalize (wq).drew = w2 at hS ⊢
        (refine whd_take 0 rfl rfl (by kernel_rfl) (by kernel_rfl) (by kernel_rfl) (fun _ _ _ h => h) rfl (fun W hW => by (go_simp; try with_reducible rfl)) hS.base ?_; simp only [Act.put, List.setIfInBounds_toArray, List.set_cons_zero, List.set_cons_succ])
        (refine whd_take 1 rfl rfl (by kernel_rfl) (by kernel_rfl) (by kernel_rfl) (fun _ _ _ h => h) rfl (fun W hW => by (go_simp; try with_reducible rfl)) hS.base ?_; simp only [Act.put, List.setIfInBounds_toArray, List.set_cons_zero, List.set_cons_succ])
        (refine whd_take 2 rfl rfl (by kernel_rfl) (by kernel_rfl) (by kernel_rfl) (fun _ _ _ h => h) rfl (fun W hW => by (go_simp; try with_reducible rfl)) hS.base ?_; simp only [Act.put, List.setIfInBounds_toArray, List.set_cons_zero, List.set_cons_succ])
        (refine whd_take 3 rfl rfl (by kernel_rfl) (by kernel_rfl) (by kernel_rfl) (fun _ _ _ h => h) rfl (fun W hW => (by exact a_load1 (hR W hW) rfl rfl rfl rfl (by (repeat (first | exact Ix.here | apply Ix.there))) (by rfl))) hS.base ?_; simp only [Act.put, List.setIfInBounds_toArray, List.set_cons_zero, List.set_cons_succ])
        (refine whd_take 4 rfl rfl (by kernel_rfl) (by kernel_rfl) (by kernel_rfl) (fun _ _ _ h => h) rfl (fun W hW => by (go_simp; try with_reducible rfl)) hS.base ?_; simp only [Act.put, List.setIfInBounds_toArray, List.set_cons_zero, List.set_cons_succ])
        (refine wpAnyH_all (rs := [5]) (by kernel_rfl) (by simp) ?_; intro i hi; have hi := List.mem_singleton.1 hi; subst hi)
        refine wod_of rfl rfl rfl (wp_call (by go_simp) (HHD.out w2) ?_)
        rintro e w5 ⟨rfl, rfl⟩
        refine ⟨_, rfl, hS.base, ?_⟩
        simp only [Act.put, List.setIfInBounds_toArray, List.set_cons_zero, List.set_cons_succ]
        (refine wpAnyH_all (rs := [6]) (by kernel_rfl) (by simp) ?_; intro i hi; have hi := List.mem_singleton.1 hi; subst hi)
        refine wod_of rfl rfl rfl (wp_call (by go_simp) (HL3.out F wq _ [] hS) ?_)
        clear hS
        rintro e w4 ⟨rfl, hS⟩
        refine ⟨_, rfl, hS.base, ?_⟩
        simp only [Act.put, List.setIfInBounds_toArray, List.set_cons_zero, List.set_cons_succ]
        (refine whd_take 7 rfl rfl (by kernel_rfl) (by kernel_rfl) (by kernel_rfl) (fun _ _ _ h => h) rfl (fun W hW => by (go_simp; try with_reducible rfl)) hS.base ?_; simp only [Act.put, List.setIfInBounds_toArray, List.set_cons_zero, List.set_cons_succ])
        (refine wpAnyH_done (by kernel_rfl) ?_ _)
        replace hS := hB _ _ hS
        simp only [List.cons_append, List.nil_append] at hS
        go_wp2_with (fail)
        go_ret
        have hR2 : R = (e3, D3) := by rw [HCL.out]; simp [H3.out, H4.out]
        rw [hR2]
        exact ⟨rfl, hS.pick⟩
      · go_wp2_with (first | go_skip | (go_at_call 40; refine (HST.out _).mono ?_; rintro e w' ⟨rfl, h⟩; replace hS := hS.call h; clear h) | ((with_reducible refine g_load ?_); refine wl_run rfl (by first | exact a_load1 hS rfl rfl rfl rfl (by (repeat (first | exact Ix.here | apply Ix.there))) (by rfl) | exact a_loadR hS rfl rfl rfl rfl (by (repeat (first | exact Ix.here | apply Ix.there))) (by rfl) | fail) ?_) | ((with_reducible refine g_alloc ?_); refine wl_of rfl ?_; refine wp_alloc hS rfl rfl rfl rfl ?_; clear hS; intro gb w1 hS) | ((with_reducible refine g_store ?_); refine wl_of rfl ?_; refine a_storeA (vs := t.cells) (cs' := t.cells) hS rfl rfl rfl (by rfl) (stb_one _) (by (repeat (first | exact Sw.here | apply Sw.there))) (by exact Nat.le_refl 5) (by rfl) ?_; clear hS; intro w' hS) | fail)
        go_ret
        have hR2 : R = (0, D1) := by rw [HCL.out]; simp [H3.out, H4.out]
        rw [hR2]
        exact ⟨rfl, hS.pick⟩
    · have he1 : (er != 0) = true := by simpa using he
      (go_enter Try.func41, Try.ntmps41)
      go_wp2_with (first | go_skip | (go_at_call 31; refine (HEN.out _).mono ?_; rintro e w' ⟨rfl, h⟩; replace hS := hS.call h; clear h) | ((with_reducible refine g_load ?_); refine wl_run rfl (by first | exact a_load1 hS rfl rfl rfl rfl (by (repeat (first | exact Ix.here | apply Ix.there))) (by rfl) | exact a_loadR hS rfl rfl rfl rfl (by (repeat (first | exact Ix.here | apply Ix.there))) (by rfl) | fail) ?_) | ((with_reducible refine g_alloc ?_); refine wl_of rfl ?_; refine wp_alloc hS rfl rfl rfl rfl ?_; clear hS; intro ga w1 hS) | ((with_reducible refine g_store ?_); refine wl_of rfl ?_; refine a_storeA (vs := e.cells) (cs' := e.cells) hS rfl rfl rfl (by rfl) (en_one _) (by (repeat (first | exact Sw.here | apply Sw.there))) (by exact Nat.le_refl 9) (by rfl) ?_; clear hS; intro w' hS) | fail)
      refine St.named hS fun wq hwq => ?_
      subst hwq
      replace hS : St S w0 wq ([disk g D] ++ (.row gj (jcells g J) 68 (0, 0) :: M)) := hS.pick
      obtain ⟨F, hA, hR, hB⟩ := St.split (A := [disk g D]) hS
      clear hS
      have hS := hA.drew
      clear hA
      refine wp_region_held (S := fun W => Cmp.Mod F wq W) (by kernel_rfl) ?_
      change wpAnyH _ _ _ _ _ _ _ _ (wq).drew
      generalize (wq).drew = w2 at hS ⊢
      (refine whd_take 0 rfl rfl (by kernel_rfl) (by kernel_rfl) (by kernel_rfl) (fun _ _ _ h => h) rfl (fun W hW => by (go_simp; try with_reducible rfl)) hS.base ?_; simp only [Act.put, List.setIfInBounds_toArray, List.set_cons_zero, List.set_cons_succ])
      (refine whd_take 1 rfl rfl (by kernel_rfl) (by kernel_rfl) (by kernel_rfl) (fun _ _ _ h => h) rfl (fun W hW => by (go_simp; try with_reducible rfl)) hS.base ?_; simp only [Act.put, List.setIfInBounds_toArray, List.set_cons_zero, List.set_cons_succ])
      (refine whd_take 2 rfl rfl (by kernel_rfl) (by kernel_rfl) (by kernel_rfl) (fun _ _ _ h => h) rfl (fun W hW => by (go_simp; try with_reducible rfl)) hS.base ?_; simp only [Act.put, List.setIfInBounds_toArray, List.set_cons_zero, List.set_cons_succ])
      (refine whd_take 3 rfl rfl (by kernel_rfl) (by kernel_rfl) (by kernel_rfl) (fun _ _ _ h => h) rfl (fun W hW => (by exact a_load1 (hR W hW) rfl rfl rfl rfl (by (repeat (first | exact Ix.here | apply Ix.there))) (by rfl))) hS.base ?_; simp only [Act.put, List.setIfInBounds_toArray, List.set_cons_zero, List.set_cons_succ])
      (refine whd_take 4 rfl rfl (by kernel_rfl) (by kernel_rfl) (by kernel_rfl) (fun _ _ _ h => h) rfl (fun W hW => by (go_simp; try with_reducible rfl)) hS.base ?_; simp only [Act.put, List.setIfInBounds_toArray, List.set_cons_zero, List.set_cons_succ])
      (refine wpAnyH_all (rs := [5]) (by kernel_rfl) (by simp) ?_; intro i hi; have hi := List.mem_singleton.1 hi; subst hi)
      refine wod_of rfl rfl rfl (wp_call (by go_simp) (HPR.out w2) ?_)
      rintro e w5 ⟨rfl, rfl⟩
      refine ⟨_, rfl, hS.base, ?_⟩
      simp only [Act.put, List.setIfInBounds_toArray, List.set_cons_zero, List.set_cons_succ]
      (refine wpAnyH_all (rs := [6]) (by kernel_rfl) (by simp) ?_; intro i hi; have hi := List.mem_singleton.1 hi; subst hi)
      refine wod_of rfl rfl rfl (wp_call (by go_simp) (HL1.out F wq _ [] hS) ?_)
      clear hS
      rintro e w4 ⟨rfl, hS⟩
      refine ⟨_, rfl, hS.base, ?_⟩
      simp only [Act.put, List.setIfInBounds_toArray, List.set_cons_zero, List.set_cons_succ]
      (refine whd_take 7 rfl rfl (by kernel_rfl) (by kernel_rfl) (by kernel_rfl) (fun _ _ _ h => h) rfl (fun W hW => by (go_simp; try with_reducible rfl)) hS.base ?_; simp only [Act.put, List.setIfInBounds_toArray, List.set_cons_zero, List.set_cons_succ])
      (refine wpAnyH_done (by kernel_rfl) ?_ _)
      replace hS := hB _ _ hS
      simp only [List.cons_append, List.nil_append] at hS
      go_wp2_with (fail)
      go_ret
      have hR2 : R = (er, D1) := by rw [HCL.out]; simp [he]
      rw [hR2]
      exact ⟨rfl, hS.pick⟩
  · (go_enter Try.func41, Try.ntmps41)
    go_upto_region 6 with (first | go_skip | (go_at_call 31; refine (HEN.out _).mono ?_; rintro e w' ⟨rfl, h⟩; replace hS := hS.call h; clear h) | ((with_reducible refine g_load ?_); refine wl_run rfl (by first | exact a_load1 hS rfl rfl rfl rfl (by (repeat (first | exact Ix.here | apply Ix.there))) (by rfl) | exact a_loadR hS rfl rfl rfl rfl (by (repeat (first | exact Ix.here | apply Ix.there))) (by rfl) | fail) ?_) | ((with_reducible refine g_alloc ?_); refine wl_of rfl ?_; refine wp_alloc hS rfl rfl rfl rfl ?_; clear hS; intro ga w1 hS) | ((with_reducible refine g_store ?_); refine wl_of rfl ?_; refine a_storeA (vs := e.cells) (cs' := e.cells) hS rfl rfl rfl (by rfl) (en_one _) (by (repeat (first | exact Sw.here | apply Sw.there))) (by exact Nat.le_refl 9) (by rfl) ?_; clear hS; intro w' hS) | fail)
    replace hS : St S w0 _ (disk g D :: .row gj (jcells g J) 68 (0, 0) :: M) := hS.pick
    rcases HKH.out with ⟨rfl, rfl⟩ | ⟨rfl, rfl, rfl⟩ | ⟨rfl, rfl, qH, rfl⟩ | ⟨rfl, rfl, qH, rfl⟩
    · go_wp2_with (first | go_skip | (go_at_call 40; refine (HST.out _).mono ?_; rintro e w' ⟨rfl, h⟩; replace hS := hS.call h; clear h) | ((with_reducible refine g_load ?_); refine wl_run rfl (by first | exact a_load1 hS rfl rfl rfl rfl (by (repeat (first | exact Ix.here | apply Ix.there))) (by rfl) | exact a_loadR hS rfl rfl rfl rfl (by (repeat (first | exact Ix.here | apply Ix.there))) (by rfl) | fail) ?_) | ((with_reducible refine g_alloc ?_); refine wl_of rfl ?_; refine wp_alloc hS rfl rfl rfl rfl ?_; clear hS; intro gb w1 hS) | ((with_reducible refine g_store ?_); refine wl_of rfl ?_; refine a_storeA (vs := t.cells) (cs' := t.cells) hS rfl rfl rfl (by rfl) (stb_one _) (by (repeat (first | exact Sw.here | apply Sw.there))) (by exact Nat.le_refl 5) (by rfl) ?_; clear hS; intro w' hS) | fail)
      refine St.named hS fun wq hwq => ?_
      subst hwq
      replace hS : St S w0 wq ([disk g D] ++ (.row gj (jcells g J) 68 (0, 0) :: M)) := hS.pick
      obtain ⟨F, hA, hR, hB⟩ := St.split (A := [disk g D]) hS
      clear hS
      have hS := hA.drew
      clear hA
      refine wp_region_held (S := fun W => Cmp.Mod F wq W) (by kernel_rfl) ?_
      change wpAnyH _ _ _ _ _ _ _ _ (wq).drew
      generalize (wq).drew = w2 at hS ⊢
      (refine whd_take 0 rfl rfl (by kernel_rfl) (by kernel_rfl) (by kernel_rfl) (fun _ _ _ h => h) rfl (fun W hW => by (go_simp; try with_reducible rfl)) hS.base ?_; simp only [Act.put, List.setIfInBounds_toArray, List.set_cons_zero, List.set_cons_succ])
      (refine whd_take 1 rfl rfl (by kernel_rfl) (by kernel_rfl) (by kernel_rfl) (fun _ _ _ h => h) rfl (fun W hW => by (go_simp; try with_reducible rfl)) hS.base ?_; simp only [Act.put, List.setIfInBounds_toArray, List.set_cons_zero, List.set_cons_succ])
      (refine whd_take 2 rfl rfl (by kernel_rfl) (by kernel_rfl) (by kernel_rfl) (fun _ _ _ h => h) rfl (fun W hW => by (go_simp; try with_reducible rfl)) hS.base ?_; simp only [Act.put, List.setIfInBounds_toArray, List.set_cons_zero, List.set_cons_succ])
      (refine whd_take 3 rfl rfl (by kernel_rfl) (by kernel_rfl) (by kernel_rfl) (fun _ _ _ h => h) rfl (fun W hW => (by exact a_load1 (hR W hW) rfl rfl rfl rfl (by (repeat (first | exact Ix.here | apply Ix.there))) (by rfl))) hS.base ?_; simp only [Act.put, List.setIfInBounds_toArray, List.set_cons_zero, List.set_cons_succ])
      (refine whd_take 4 rfl rfl (by kernel_rfl) (by kernel_rfl) (by kernel_rfl) (fun _ _ _ h => h) rfl (fun W hW => by (go_simp; try with_reducible rfl)) hS.base ?_; simp only [Act.put, List.setIfInBounds_toArray, List.set_cons_zero, List.set_cons_succ])
      (refine wpAnyH_all (rs := [5]) (by kernel_rfl) (by simp) ?_; intro i hi; have hi := List.mem_singleton.1 hi; subst hi)
      refine wod_of rfl rfl rfl (wp_call (by go_simp) (HHD.out w2) ?_)
      rintro e w5 ⟨rfl, rfl⟩
      refine ⟨_, rfl, hS.base, ?_⟩
      simp only [Act.put, List.setIfInBounds_toArray, List.set_cons_zero, List.set_cons_succ]
      (refine wpAnyH_all (rs := [6]) (by kernel_rfl) (by simp) ?_; intro i hi; have hi := List.mem_singleton.1 hi; subst hi)
      refine wod_of rfl rfl rfl (wp_call (by go_simp) (HL4.out F wq _ [] hS) ?_)
      clear hS
      rintro e w4 ⟨rfl, hS⟩
      refine ⟨_, rfl, hS.base, ?_⟩
      simp only [Act.put, List.setIfInBounds_toArray, List.set_cons_zero, List.set_cons_succ]
      (refine whd_take 7 rfl rfl (by kernel_rfl) (by kernel_rfl) (by kernel_rfl) (fun _ _ _ h => h) rfl (fun W hW => by (go_simp; try with_reducible rfl)) hS.base ?_; simp only [Act.put, List.setIfInBounds_toArray, List.set_cons_zero, List.set_cons_succ])
      (refine wpAnyH_done (by kernel_rfl) ?_ _)
      replace hS := hB _ _ hS
      simp only [List.cons_append, List.nil_append] at hS
      go_wp2_with (fail)
      go_ret
      have hR2 : R = (e4, D4) := by rw [HCL.out]; simp [H3.out, H4.out]
      rw [hR2]
      exact ⟨rfl, hS.pick⟩
    · go_wp2_with (first | go_skip | (go_at_call 40; refine (HST.out _).mono ?_; rintro e w' ⟨rfl, h⟩; replace hS := hS.call h; clear h) | ((with_reducible refine g_load ?_); refine wl_run rfl (by first | exact a_load1 hS rfl rfl rfl rfl (by (repeat (first | exact Ix.here | apply Ix.there))) (by rfl) | exact a_loadR hS rfl rfl rfl rfl (by (repeat (first | exact Ix.here | apply Ix.there))) (by rfl) | fail) ?_) | ((with_reducible refine g_alloc ?_); refine wl_of rfl ?_; refine wp_alloc hS rfl rfl rfl rfl ?_; clear hS; intro gb w1 hS) | ((with_reducible refine g_store ?_); refine wl_of rfl ?_; refine a_storeA (vs := t.cells) (cs' := t.cells) hS rfl rfl rfl (by rfl) (stb_one _) (by (repeat (first | exact Sw.here | apply Sw.there))) (by exact Nat.le_refl 5) (by rfl) ?_; clear hS; intro w' hS) | fail)
      go_ret
      have hR2 : R = (0, D) := by rw [HCL.out]; simp [H3.out, H4.out]
      rw [hR2]
      exact ⟨rfl, hS.pick⟩
    · go_wp2_with (first | go_skip | (go_at_call 40; refine (HST.out _).mono ?_; rintro e w' ⟨rfl, h⟩; replace hS := hS.call h; clear h) | ((with_reducible refine g_load ?_); refine wl_run rfl (by first | exact a_load1 hS rfl rfl rfl rfl (by (repeat (first | exact Ix.here | apply Ix.there))) (by rfl) | exact a_loadR hS rfl rfl rfl rfl (by (repeat (first | exact Ix.here | apply Ix.there))) (by rfl) | fail) ?_) | ((with_reducible refine g_alloc ?_); refine wl_of rfl ?_; refine wp_alloc hS rfl rfl rfl rfl ?_; clear hS; intro gb w1 hS) | ((with_reducible refine g_store ?_); refine wl_of rfl ?_; refine a_storeA (vs := t.cells) (cs' := t.cells) hS rfl rfl rfl (by rfl) (stb_one _) (by (repeat (first | exact Sw.here | apply Sw.there))) (by exact Nat.le_refl 5) (by rfl) ?_; clear hS; intro w' hS) | fail)
      refine St.named hS fun wq hwq => ?_
      subst hwq
      replace hS : St S w0 wq ([disk g D] ++ (.row gj (jcells g J) 68 (0, 0) :: M)) := hS.pick
      obtain ⟨F, hA, hR, hB⟩ := St.split (A := [disk g D]) hS
      clear hS
      have hS := hA.drew
      clear hA
      refine wp_region_held (S := fun W => Cmp.Mod F wq W) (by kernel_rfl) ?_
      change wpAnyH _ _ _ _ _ _ _ _ (wq).drew
      generalize (wq).drew = w2 at hS ⊢
      (refine whd_take 0 rfl rfl (by kernel_rfl) (by kernel_rfl) (by kernel_rfl) (fun _ _ _ h => h) rfl (fun W hW => by (go_simp; try with_reducible rfl)) hS.base ?_; simp only [Act.put, List.setIfInBounds_toArray, List.set_cons_zero, List.set_cons_succ])
      (refine whd_take 1 rfl rfl (by kernel_rfl) (by kernel_rfl) (by kernel_rfl) (fun _ _ _ h => h) rfl (fun W hW => by (go_simp; try with_reducible rfl)) hS.base ?_; simp only [Act.put, List.setIfInBounds_toArray, List.set_cons_zero, List.set_cons_succ])
      (refine whd_take 2 rfl rfl (by kernel_rfl) (by kernel_rfl) (by kernel_rfl) (fun _ _ _ h => h) rfl (fun W hW => by (go_simp; try with_reducible rfl)) hS.base ?_; simp only [Act.put, List.setIfInBounds_toArray, List.set_cons_zero, List.set_cons_succ])
      (refine whd_take 3 rfl rfl (by kernel_rfl) (by kernel_rfl) (by kernel_rfl) (fun _ _ _ h => h) rfl (fun W hW => (by exact a_load1 (hR W hW) rfl rfl rfl rfl (by (repeat (first | exact Ix.here | apply Ix.there))) (by rfl))) hS.base ?_; simp only [Act.put, List.setIfInBounds_toArray, List.set_cons_zero, List.set_cons_succ])
      (refine whd_take 4 rfl rfl (by kernel_rfl) (by kernel_rfl) (by kernel_rfl) (fun _ _ _ h => h) rfl (fun W hW => by (go_simp; try with_reducible rfl)) hS.base ?_; simp only [Act.put, List.setIfInBounds_toArray, List.set_cons_zero, List.set_cons_succ])
      (refine wpAnyH_all (rs := [5]) (by kernel_rfl) (by simp) ?_; intro i hi; have hi := List.mem_singleton.1 hi; subst hi)
      refine wod_of rfl rfl rfl (wp_call (by go_simp) (HHD.out w2) ?_)
      rintro e w5 ⟨rfl, rfl⟩
      refine ⟨_, rfl, hS.base, ?_⟩
      simp only [Act.put, List.setIfInBounds_toArray, List.set_cons_zero, List.set_cons_succ]
      (refine wpAnyH_all (rs := [6]) (by kernel_rfl) (by simp) ?_; intro i hi; have hi := List.mem_singleton.1 hi; subst hi)
      refine wod_of rfl rfl rfl (wp_call (by go_simp) (HL4.out F wq _ [] hS) ?_)
      clear hS
      rintro e w4 ⟨rfl, hS⟩
      refine ⟨_, rfl, hS.base, ?_⟩
      simp only [Act.put, List.setIfInBounds_toArray, List.set_cons_zero, List.set_cons_succ]
      (refine whd_take 7 rfl rfl (by kernel_rfl) (by kernel_rfl) (by kernel_rfl) (fun _ _ _ h => h) rfl (fun W hW => by (go_simp; try with_reducible rfl)) hS.base ?_; simp only [Act.put, List.setIfInBounds_toArray, List.set_cons_zero, List.set_cons_succ])
      (refine wpAnyH_done (by kernel_rfl) ?_ _)
      replace hS := hB _ _ hS
      simp only [List.cons_append, List.nil_append] at hS
      go_wp2_with (fail)
      go_ret
      have hR2 : R = (e4, D4) := by rw [HCL.out]; simp [H3.out, H4.out]
      rw [hR2]
      exact ⟨rfl, hS.pick⟩
    · go_wp2_with (first | go_skip | (go_at_call 40; refine (HST.out _).mono ?_; rintro e w' ⟨rfl, h⟩; replace hS := hS.call h; clear h) | ((with_reducible refine g_load ?_); refine wl_run rfl (by first | exact a_load1 hS rfl rfl rfl rfl (by (repeat (first | exact Ix.here | apply Ix.there))) (by rfl) | exact a_loadR hS rfl rfl rfl rfl (by (repeat (first | exact Ix.here | apply Ix.there))) (by rfl) | fail) ?_) | ((with_reducible refine g_alloc ?_); refine wl_of rfl ?_; refine wp_alloc hS rfl rfl rfl rfl ?_; clear hS; intro gb w1 hS) | ((with_reducible refine g_store ?_); refine wl_of rfl ?_; refine a_storeA (vs := t.cells) (cs' := t.cells) hS rfl rfl rfl (by rfl) (stb_one _) (by (repeat (first | exact Sw.here | apply Sw.there))) (by exact Nat.le_refl 5) (by rfl) ?_; clear hS; intro w' hS) | fail)
      go_ret
      have hR2 : R = (0, D) := by rw [HCL.out]; simp [H3.out, H4.out]
      rw [hR2]
      exact ⟨rfl, hS.pick⟩
end
end Go.Proofs.Ytnjboimjlbgdiaa
