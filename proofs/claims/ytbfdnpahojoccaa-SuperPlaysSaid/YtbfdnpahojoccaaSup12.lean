/-
  Superblocks on a disk: the document's Has and Read.
-/
import Derived.Test.YtbfdnpahojoccaaSup12Sp
import Derived.Test.YtbfdnpahojoccaaSup10
import Derived.Test.YtbfdnpahojoccaaSeal5
import Derived.Test.YtbfdnpahojoccaaRef3A
set_option linter.unusedSimpArgs false
set_option linter.unusedVariables false
set_option linter.unusedSectionVars false
set_option maxRecDepth 100000
namespace Go.Proofs.Ytbfdnpahojoccaa
open Go.RowKit Go.Cmp

section
variable {S : List Nat} {w0 w : World} {M : List Ent} {g : Nat} {D : Dsk}
set_option maxHeartbeats 4000000 in
theorem refHas11_any (O : List UInt8) (hl : O.length ≤ 384) (w : World) :
    Calls Try.prog 50 #[.string ⟨O.toArray⟩] w fun e w' => e = .returned (.tuple #[.agg (hasU O).1.cells.toArray, .bool (hasU O).2]) ∧ St [] w w' [] := by
  have hS := St.init w
  have HOP := Lib.hid (fun w => refOpen_any O (by omega) w)
  have hol := openS_lenU hl
  cases hk : (openS O).2
  · have e : hasU O = (zeroU, false) := by unfold hasU; rw [if_pos hk]
    rw [e]
    rw [hk] at HOP
    generalize (openS O).1 = B at HOP
    clear e hk hol hl
    (go_enter Try.func50, Try.ntmps50)
    go_wp2_with (first | go_skip | ((with_reducible refine g_alloc ?_); refine wl_of rfl ?_; refine wp_alloc hS rfl rfl rfl rfl ?_; clear hS; intro gz w1 hS) | ((with_reducible refine g_load ?_); refine wl_run rfl (by first | exact a_load1 hS rfl rfl rfl rfl (by (repeat (first | exact Ix.here | apply Ix.there))) (by rfl) | exact a_loadR hS rfl rfl rfl rfl (by (repeat (first | exact Ix.here | apply Ix.there))) (by rfl) | fail) ?_) | (go_at_call 65; refine (HOP.out _).mono ?_; rintro e w' ⟨rfl, h⟩; replace hS := hS.call h; clear h) | ((with_reducible refine g_store ?_); refine wl_of rfl ?_; refine a_storeA (vs := Sup.cells zeroU) (cs' := Sup.cells zeroU) hS rfl rfl rfl (by rfl) (sup_one _) (by (repeat (first | exact Sw.here | apply Sw.there))) (by exact Nat.le_refl 17) (by rfl) ?_; clear hS; intro w' hS) | fail)
    exact end_cell2 hS rfl rfl rfl rfl rfl rfl (h := ⟨rfl, hS.nil⟩)
  · have e : hasU O = ((unpU (openS O).1).1, decide ((unpU (openS O).1).2 = 0)) := by unfold hasU; rw [if_neg (by simp [hk])]
    rw [e]
    rw [hk] at HOP
    have HUN := Lib.hid (fun w => refUnpack11_any (openS O).1 hol w)
    generalize (openS O).1 = B at HOP HUN
    generalize unpU B = R at HUN
    obtain ⟨R, r⟩ := R
    clear e hk hol hl
    (go_enter Try.func50, Try.ntmps50)
    go_wp2_with (first | go_skip | (first | (have q9 := gz; clear q9; ((with_reducible refine g_alloc ?_); refine wl_of rfl ?_; refine wp_alloc hS rfl rfl rfl rfl ?_; clear hS; intro gx w1 hS)) | ((with_reducible refine g_alloc ?_); refine wl_of rfl ?_; refine wp_alloc hS rfl rfl rfl rfl ?_; clear hS; intro gz w1 hS)) | ((with_reducible refine g_load ?_); refine wl_run rfl (by first | exact a_load1 hS rfl rfl rfl rfl (by (repeat (first | exact Ix.here | apply Ix.there))) (by rfl) | exact a_loadR hS rfl rfl rfl rfl (by (repeat (first | exact Ix.here | apply Ix.there))) (by rfl) | fail) ?_) | (go_at_call 65; refine (HOP.out _).mono ?_; rintro e w' ⟨rfl, h⟩; replace hS := hS.call h; clear h) | (go_at_call 10; refine (HUN.out _).mono ?_; rintro e w' ⟨rfl, h⟩; replace hS := hS.call h; clear h) | ((with_reducible refine g_store ?_); refine wl_of rfl ?_; refine a_storeA (vs := Sup.cells R) (cs' := Sup.cells R) hS rfl rfl rfl (by rfl) (sup_one _) (by (repeat (first | exact Sw.here | apply Sw.there))) (by exact Nat.le_refl 17) (by rfl) ?_; clear hS; intro w' hS) | fail)
    exact end_cell2 hS rfl rfl rfl rfl rfl rfl (h := ⟨rfl, hS.nil⟩)
set_option maxHeartbeats 8000000 in
theorem refRead11_any (hS : St S w0 w (rdisk g D :: M)) (hD : D.Ok) (h4 : 4 ≤ D.lasts.length) :
    Calls Try.prog 31 #[.pointer (some ⟨g, 0, none⟩)] w fun e w' => e = .returned (.tuple #[.agg (readU D).1.cells.toArray, .int .i64 ((readU D).2.1 : Nat), .int .i64 (readU D).2.2]) ∧ St S w0 w' (rdisk g D :: M) := by
  have HRD := Lib.hid (fun (i : Nat) (hi : i < 4) (W : World) (M : List Ent) (hS : St S w0 W (rdisk g D :: M)) => rdisk_read hS hD (i : Int))
  have HRO := Lib.hid (fun (i : Nat) (hi : i < 4) => Dsk.read_on h4 hi)
  have HLN := Lib.hid (fun (i : Nat) => Dsk.read_len hD (i : Int))
  cases ho : D.off
  · have HRO2 : Hid (∀ i : Nat, i < 4 → (D.read (i : Int)).2 = 0) := Lib.hid (fun i hi => by rw [HRO.out i hi, if_neg (by simp [ho])])
    obtain ⟨R, hR⟩ : ∃ R, readU D = R := ⟨_, rfl⟩
    have HR := Lib.hid (read_goods ho)
    rw [hR] at HR
    rw [hR]
    clear hR ho hD h4 HRO
    (go_enter Try.func31, Try.ntmps31)
    go_wp2_with (first | go_skip | ((with_reducible refine g_alloc ?_); refine wl_of rfl ?_; refine wp_alloc hS rfl rfl rfl rfl ?_; clear hS; intro gz w1 hS) | ((with_reducible refine g_bs ?_); refine wl_of rfl ?_; refine a_build0 (k := 17) hS rfl rfl (by rfl) ?_; clear hS; intro v1 w' hS) | fail)
    go_loopw [5, 6] (fun b k wz => ∃ i : Nat, i ≤ 4 ∧ k = .int .i64 i ∧ St S w0 wz (.vec b 28 17 (goods D i).length ((goods D i).flatMap Sup.cells) :: .row gz [.int .i64 0, .int .i64 0, .int .i64 0, .int .i64 0, .int .i64 0, .int .i64 0, .int .i64 0, .int .u64 0, .int .i64 0, .int .i64 0, .int .u64 0, .int .u64 0, .int .u64 0, .int .u64 0, .int .u64 0, .int .u64 0, .int .u64 0] 28 (0, 0) :: rdisk g D :: M)) (fun _ k _ => 4 - (intOf k).toNat)
    case atStart => exact ⟨0, by omega, rfl, hS.pick⟩
    case round =>
      clear hS
      obtain ⟨i, hi, rfl, hS⟩ := hrel
      have hgl := goods_len D i
      by_cases hi4 : i < 4
      · have hi41 : (i : Int) < 4 := by omega
        have H1 := Lib.hid (HRD.out i hi4)
        have e2 := HRO2.out i hi4
        have hsn := goods_snoc D i
        have HH := Lib.hid (fun w => refHas11_any (D.read (i : Int)).1 (HLN.out i) w)
        obtain ⟨Q, hQ⟩ : ∃ Q, D.read (i : Int) = Q := ⟨_, rfl⟩
        rw [hQ] at H1 e2 hsn HH
        obtain ⟨O, er⟩ := Q
        simp only at H1 e2 hsn HH
        subst e2
        generalize hasU O = X at hsn HH
        obtain ⟨x, ok⟩ := X
        simp only at hsn HH
        have HSN := Lib.hid hsn
        clear hQ hsn
        generalize goods D i = L at hS hgl HSN
        cases ok
        · go_wp2_with (first | go_skip | ((with_reducible refine g_alloc ?_); refine wl_of rfl ?_; refine wp_alloc hS rfl rfl rfl rfl ?_; clear hS; intro gx w1 hS) | ((with_reducible refine g_store ?_); refine wl_of rfl ?_; refine a_storeA (vs := Sup.cells x) (cs' := Sup.cells x) hS rfl rfl rfl (by rfl) (sup_one _) (by (repeat (first | exact Sw.here | apply Sw.there))) (by exact Nat.le_refl 17) (by rfl) ?_; clear hS; intro w' hS) | (go_at_call 34; refine (H1.out _ _ (hS.out (by (repeat (first | exact Out.here | apply Out.there))))).mono ?_; rintro e w' ⟨rfl, rfl⟩) | (go_at_call 50; refine (HH.out _).mono ?_; rintro e w' ⟨rfl, h⟩; replace hS := hS.call h; clear h) | fail)
          refine ⟨⟨i + 1, by omega, by simp, ?_⟩, by simp [intOf]; omega⟩
          rw [HSN.out, if_neg (by simp)]
          exact hS.pick
        · go_wp2_with (first | go_skip | ((with_reducible refine g_alloc ?_); refine wl_of rfl ?_; refine wp_alloc hS rfl rfl rfl rfl ?_; clear hS; intro gx w1 hS) | ((with_reducible refine g_load ?_); refine wl_run rfl (by first | exact a_load1 hS rfl rfl rfl rfl (by (repeat (first | exact Ix.here | apply Ix.there))) (by rfl) | exact a_loadR hS rfl rfl rfl rfl (by (repeat (first | exact Ix.here | apply Ix.there))) (by rfl) | fail) ?_) | ((with_reducible refine g_store ?_); refine wl_of rfl ?_; refine a_storeA (vs := Sup.cells x) (cs' := Sup.cells x) hS rfl rfl rfl (by rfl) (sup_one _) (by (repeat (first | exact Sw.here | apply Sw.there))) (by exact Nat.le_refl 17) (by rfl) ?_; clear hS; intro w' hS) | (go_at_call 34; refine (H1.out _ _ (hS.out (by (repeat (first | exact Out.here | apply Out.there))))).mono ?_; rintro e w' ⟨rfl, rfl⟩) | (go_at_call 50; refine (HH.out _).mono ?_; rintro e w' ⟨rfl, h⟩; replace hS := hS.call h; clear h) | ((with_reducible refine g_bs ?_); refine wl_of rfl ?_; refine a_build1 (v := .agg x.cells.toArray) (cs := x.cells) hS rfl rfl rfl rfl (by rfl) (by show 17 ≤ 16777216; omega) ?_; clear hS; intro vb w' hS) | ((with_reducible refine g_append ?_); refine wl_of rfl ?_; refine k_app (z := x) (f := Sup.cells) (L := L) (k := 17) hS rfl rfl rfl rfl (hR := by exact hS.rdx Ix.here) (h1 := sup_one x) (h := ?_); clear hS; intro va w' hS hv2) | fail)
          refine ⟨⟨i + 1, by omega, by simp, ?_⟩, by simp [intOf]; omega⟩
          rw [HSN.out, if_pos trivial]
          exact hS.pick
      · obtain rfl : i = 4 := by omega
        clear HRD HRO2 HLN
        generalize goods D 4 = L at hS hgl HR
        by_cases hL : L = []
        · subst hL
          have HE : Hid (R = (zeroU, 0, 11)) := Lib.hid (by rw [HR.out, if_pos rfl])
          go_wp2_with (first | go_skip | ((with_reducible refine g_load ?_); refine wl_run rfl (by first | exact a_load1 hS rfl rfl rfl rfl (by (repeat (first | exact Ix.here | apply Ix.there))) (by rfl) | exact a_loadR hS rfl rfl rfl rfl (by (repeat (first | exact Ix.here | apply Ix.there))) (by rfl) | fail) ?_) | ((with_reducible refine g_len ?_); refine wl_run rfl (by exact a_len rfl rfl rfl (hS.rdx (by (repeat (first | exact Ix.here | apply Ix.there))))) ?_) | ((with_reducible refine g_store ?_); refine wl_of rfl ?_; refine a_storeA (vs := Sup.cells zeroU) (cs' := Sup.cells zeroU) hS rfl rfl rfl (by rfl) (sup_one _) (by (repeat (first | exact Sw.here | apply Sw.there))) (by exact Nat.le_refl 17) (by rfl) ?_; clear hS; intro w' hS) | fail)
          exact end_c3 hS rfl rfl rfl rfl rfl rfl rfl (h := ⟨by rw [HE.out]; rfl, hS.pick⟩)
        · have HE : Hid (R = (newest L, sames L (newest L), 0)) := Lib.hid (by rw [HR.out, if_neg hL])
          have hlp : 0 < L.length := List.length_pos_iff.2 hL
          have hl0 : ((L.length : Int) == 0) = false := by rw [beq_eq_false_iff_ne]; omega
          have hg0 := Lib.hid (get_lt hlp)
          clear HR
          obtain ⟨N, hN⟩ : ∃ N, rdisk g D :: M = N := ⟨_, rfl⟩
          rw [hN] at hS
          have HNN := Lib.hid hN
          clear hN
          have HN0 := Lib.hid (show newest L = L.foldl pickS (nth L 0) from rfl)
          obtain ⟨x0, hx0⟩ : ∃ x, nth L 0 = x := ⟨_, rfl⟩
          rw [hx0] at hg0 HN0
          clear hx0
          go_wp2_with (first | go_skip | ((with_reducible refine g_alloc ?_); refine wl_of rfl ?_; refine wp_alloc hS rfl rfl rfl rfl ?_; clear hS; intro gb w1 hS) | ((with_reducible refine g_len ?_); refine wl_run rfl (by exact a_len rfl rfl rfl (hS.rdx (by (repeat (first | exact Ix.here | apply Ix.there))))) ?_) | ((with_reducible refine g_index ?_); refine wl_run rfl (by exact a_index rfl rfl rfl rfl (hS.rdx (by (repeat (first | exact Ix.here | apply Ix.there)))) (by rfl) (by omega) (by omega)) ?_) | ((with_reducible refine g_load (t := 28) ?_); refine wl_run rfl (by exact a_loadG (vs := Sup.cells x0) rfl (hS.rdx (by (repeat (first | exact Ix.here | apply Ix.there)))) rfl rfl rfl (by rfl) (by intro _; rfl) hg0.out rfl) ?_) | ((with_reducible refine g_store ?_); refine wl_of rfl ?_; refine a_storeA (vs := Sup.cells x0) (cs' := Sup.cells x0) hS rfl rfl rfl (by rfl) (sup_one _) (by (repeat (first | exact Sw.here | apply Sw.there))) (by exact Nat.le_refl 17) (by rfl) ?_; clear hS; intro w' hS) | fail)
          replace hS := (hS.pick : St S w0 _ (.row gb x0.cells 28 (0, 0) :: .vec u5 28 17 (L).length ((L).flatMap Sup.cells) :: .row gz [.int .i64 0, .int .i64 0, .int .i64 0, .int .i64 0, .int .i64 0, .int .i64 0, .int .i64 0, .int .u64 0, .int .i64 0, .int .i64 0, .int .u64 0, .int .u64 0, .int .u64 0, .int .u64 0, .int .u64 0, .int .u64 0, .int .u64 0] 28 (0, 0) :: N))
          go_loopw [12] (fun k wz => ∃ i : Nat, i ≤ L.length ∧ k = .int .i64 i ∧ St S w0 wz (.row gb ((L.take i).foldl pickS x0).cells 28 (0, 0) :: .vec u5 28 17 (L).length ((L).flatMap Sup.cells) :: .row gz [.int .i64 0, .int .i64 0, .int .i64 0, .int .i64 0, .int .i64 0, .int .i64 0, .int .i64 0, .int .u64 0, .int .i64 0, .int .i64 0, .int .u64 0, .int .u64 0, .int .u64 0, .int .u64 0, .int .u64 0, .int .u64 0, .int .u64 0] 28 (0, 0) :: N)) (fun k _ => L.length - (intOf k).toNat)
          case atStart => exact ⟨0, by omega, rfl, hS⟩
          case round =>
            clear hS
            obtain ⟨i, hi, rfl, hS⟩ := hrel
            by_cases hil : i < L.length
            · have hil1 : (i : Int) < L.length := by omega
              have hget := get_lt hil
              have HT := Lib.hid (show (L.take (i + 1)).foldl pickS x0 = pickS ((L.take i).foldl pickS x0) (nth L i) by rw [take_nth hil, List.foldl_append]; rfl)
              generalize (L.take i).foldl pickS x0 = bb at hS HT
              generalize nth L i = x at hget HT
              by_cases hlt : bb.seq < x.seq
              · have HT2 : Hid ((L.take (i + 1)).foldl pickS x0 = x) := Lib.hid (by rw [HT.out]; unfold pickS; rw [if_pos hlt])
                clear HT
                go_wp2_with (first | go_skip | ((with_reducible refine g_len ?_); refine wl_run rfl (by exact a_len rfl rfl rfl (hS.rdx (by (repeat (first | exact Ix.here | apply Ix.there))))) ?_) | fail)
                refine region_calm (by kernel_rfl) (by kernel_rfl) hS ?_
                iterate 2 (refine Calm.pure rfl (h := ?_); simp only [Act.put, List.setIfInBounds_toArray, List.set_cons_zero, List.set_cons_succ])
                (refine Calm.run rfl (fun W hW => by exact a_index rfl rfl rfl rfl (hW.rdx (by (repeat (first | exact Ix.here | apply Ix.there)))) (by rfl) (by omega) (by omega)) ?_; simp only [Act.put, List.setIfInBounds_toArray, List.set_cons_zero, List.set_cons_succ])
                (refine Calm.run rfl (fun W hW => by exact a_field rfl rfl (hW.rdx (by (repeat (first | exact Ix.here | apply Ix.there)))) (by omega) rfl rfl rfl (by rfl)) ?_; simp only [Act.put, List.setIfInBounds_toArray, List.set_cons_zero, List.set_cons_succ])
                (refine Calm.run rfl (fun W hW => by exact a_loadF rfl (hW.rdx (by (repeat (first | exact Ix.here | apply Ix.there)))) rfl rfl rfl (by intro _; rfl) hget (by rfl)) ?_; simp only [Act.put, List.setIfInBounds_toArray, List.set_cons_zero, List.set_cons_succ])
                (refine Calm.pure rfl (h := ?_); simp only [Act.put, List.setIfInBounds_toArray, List.set_cons_zero, List.set_cons_succ])
                (refine Calm.run rfl (fun W hW => by first | exact a_load1 hW rfl rfl rfl rfl (by (repeat (first | exact Ix.here | apply Ix.there))) (by rfl) | exact a_loadR hW rfl rfl rfl rfl (by (repeat (first | exact Ix.here | apply Ix.there))) (by rfl)) ?_; simp only [Act.put, List.setIfInBounds_toArray, List.set_cons_zero, List.set_cons_succ])
                (refine Calm.pure rfl (h := ?_); simp only [Act.put, List.setIfInBounds_toArray, List.set_cons_zero, List.set_cons_succ])
                (refine Calm.nil ?_; clear hS; intro w8 hS)
                go_wp2_with (first | go_skip | ((with_reducible refine g_index ?_); refine wl_run rfl (by exact a_index rfl rfl rfl rfl (hS.rdx (by (repeat (first | exact Ix.here | apply Ix.there)))) (by rfl) (by omega) (by omega)) ?_) | ((with_reducible refine g_load (t := 28) ?_); refine wl_run rfl (by exact a_loadG (vs := Sup.cells x) rfl (hS.rdx (by (repeat (first | exact Ix.here | apply Ix.there)))) rfl rfl rfl (by rfl) (by intro _; rfl) hget rfl) ?_) | ((with_reducible refine g_store ?_); refine wl_of rfl ?_; refine a_storeA (vs := Sup.cells x) (cs' := Sup.cells x) hS rfl rfl rfl (by rfl) (sup_one _) (by (repeat (first | exact Sw.here | apply Sw.there))) (by exact Nat.le_refl 17) (by rfl) ?_; clear hS; intro w' hS) | fail)
                exact ⟨⟨i + 1, by omega, by simp, by rw [HT2.out]; exact hS⟩, by simp [intOf]; omega⟩
              · have HT2 : Hid ((L.take (i + 1)).foldl pickS x0 = bb) := Lib.hid (by rw [HT.out]; unfold pickS; rw [if_neg hlt])
                clear HT
                go_wp2_with (first | go_skip | ((with_reducible refine g_len ?_); refine wl_run rfl (by exact a_len rfl rfl rfl (hS.rdx (by (repeat (first | exact Ix.here | apply Ix.there))))) ?_) | fail)
                refine region_calm (by kernel_rfl) (by kernel_rfl) hS ?_
                iterate 2 (refine Calm.pure rfl (h := ?_); simp only [Act.put, List.setIfInBounds_toArray, List.set_cons_zero, List.set_cons_succ])
                (refine Calm.run rfl (fun W hW => by exact a_index rfl rfl rfl rfl (hW.rdx (by (repeat (first | exact Ix.here | apply Ix.there)))) (by rfl) (by omega) (by omega)) ?_; simp only [Act.put, List.setIfInBounds_toArray, List.set_cons_zero, List.set_cons_succ])
                (refine Calm.run rfl (fun W hW => by exact a_field rfl rfl (hW.rdx (by (repeat (first | exact Ix.here | apply Ix.there)))) (by omega) rfl rfl rfl (by rfl)) ?_; simp only [Act.put, List.setIfInBounds_toArray, List.set_cons_zero, List.set_cons_succ])
                (refine Calm.run rfl (fun W hW => by exact a_loadF rfl (hW.rdx (by (repeat (first | exact Ix.here | apply Ix.there)))) rfl rfl rfl (by intro _; rfl) hget (by rfl)) ?_; simp only [Act.put, List.setIfInBounds_toArray, List.set_cons_zero, List.set_cons_succ])
                (refine Calm.pure rfl (h := ?_); simp only [Act.put, List.setIfInBounds_toArray, List.set_cons_zero, List.set_cons_succ])
                (refine Calm.run rfl (fun W hW => by first | exact a_load1 hW rfl rfl rfl rfl (by (repeat (first | exact Ix.here | apply Ix.there))) (by rfl) | exact a_loadR hW rfl rfl rfl rfl (by (repeat (first | exact Ix.here | apply Ix.there))) (by rfl)) ?_; simp only [Act.put, List.setIfInBounds_toArray, List.set_cons_zero, List.set_cons_succ])
                (refine Calm.pure rfl (h := ?_); simp only [Act.put, List.setIfInBounds_toArray, List.set_cons_zero, List.set_cons_succ])
                (refine Calm.nil ?_; clear hS; intro w8 hS)
                go_wp2_with (first | go_skip | fail | fail)
                exact ⟨⟨i + 1, by omega, by simp, by rw [HT2.out]; exact hS⟩, by simp [intOf]; omega⟩
            · obtain rfl : i = L.length := by omega
              rw [List.take_length, ← HN0.out] at hS
              clear HN0 hg0
              obtain ⟨nb, hnb⟩ : ∃ b, newest L = b := ⟨_, rfl⟩
              rw [hnb] at hS HE
              clear hnb
              go_wp2_with (first | go_skip | ((with_reducible refine g_len ?_); refine wl_run rfl (by exact a_len rfl rfl rfl (hS.rdx (by (repeat (first | exact Ix.here | apply Ix.there))))) ?_) | fail)
              go_loopw [13, 14] (fun c k wz => ∃ i : Nat, i ≤ L.length ∧ k = .int .i64 i ∧ c = .int .i64 (sames (L.take i) nb) ∧ St S w0 wz (.row gb nb.cells 28 (0, 0) :: .vec u5 28 17 (L).length ((L).flatMap Sup.cells) :: .row gz [.int .i64 0, .int .i64 0, .int .i64 0, .int .i64 0, .int .i64 0, .int .i64 0, .int .i64 0, .int .u64 0, .int .i64 0, .int .i64 0, .int .u64 0, .int .u64 0, .int .u64 0, .int .u64 0, .int .u64 0, .int .u64 0, .int .u64 0] 28 (0, 0) :: N)) (fun _ k _ => L.length - (intOf k).toNat)
              case atStart => exact ⟨0, by omega, rfl, rfl, hS⟩
              case round =>
                clear hS
                obtain ⟨i, hi, rfl, rfl, hS⟩ := hrel
                have hsl : sames (L.take i) nb ≤ 4 := by unfold sames; exact Nat.le_trans List.countP_le_length (by rw [List.length_take]; omega)
                by_cases hil : i < L.length
                · have hil1 : (i : Int) < L.length := by omega
                  have hget := get_lt hil
                  have HT := Lib.hid (show sames (L.take (i + 1)) nb = sames (L.take i) nb + (if nth L i = nb then 1 else 0) by rw [take_nth hil]; unfold sames; rw [List.countP_append]; by_cases h : nth L i = nb <;> simp [h])
                  generalize sames (L.take i) nb = n at HT hsl
                  generalize nth L i = x at hget HT
                  by_cases hxe : x = nb
                  · have hq : eqV Try.prog 4 28 (.agg x.cells.toArray) (.agg nb.cells.toArray) = some true := by rw [eqSup, decide_eq_true hxe]
                    have HT2 : Hid (sames (L.take (i + 1)) nb = n + 1) := Lib.hid (by rw [HT.out, if_pos hxe])
                    clear HT hxe
                    go_wp2_with (first | go_skip | ((with_reducible refine g_len ?_); refine wl_run rfl (by exact a_len rfl rfl rfl (hS.rdx (by (repeat (first | exact Ix.here | apply Ix.there))))) ?_) | fail)
                    refine region_calm (by kernel_rfl) (by kernel_rfl) hS ?_
                    iterate 2 (refine Calm.pure rfl (h := ?_); simp only [Act.put, List.setIfInBounds_toArray, List.set_cons_zero, List.set_cons_succ])
                    (refine Calm.run rfl (fun W hW => by exact a_index rfl rfl rfl rfl (hW.rdx (by (repeat (first | exact Ix.here | apply Ix.there)))) (by rfl) (by omega) (by omega)) ?_; simp only [Act.put, List.setIfInBounds_toArray, List.set_cons_zero, List.set_cons_succ])
                    (refine Calm.run rfl (fun W hW => by exact a_loadG (vs := Sup.cells x) rfl (hW.rdx (by (repeat (first | exact Ix.here | apply Ix.there)))) rfl rfl rfl (by rfl) (by intro _; rfl) hget rfl) ?_; simp only [Act.put, List.setIfInBounds_toArray, List.set_cons_zero, List.set_cons_succ])
                    (refine Calm.run rfl (fun W hW => by first | exact a_load1 hW rfl rfl rfl rfl (by (repeat (first | exact Ix.here | apply Ix.there))) (by rfl) | exact a_loadR hW rfl rfl rfl rfl (by (repeat (first | exact Ix.here | apply Ix.there))) (by rfl)) ?_; simp only [Act.put, List.setIfInBounds_toArray, List.set_cons_zero, List.set_cons_succ])
                    (refine Calm.run rfl (fun W hW => by exact x_structEq rfl rfl rfl supGuard hq) ?_; simp only [Act.put, List.setIfInBounds_toArray, List.set_cons_zero, List.set_cons_succ])
                    (refine Calm.nil ?_; clear hS; intro w8 hS)
                    go_wp2_with (first | go_skip | fail | fail)
                    exact ⟨⟨i + 1, by omega, by simp, by rw [HT2.out]; simp, hS⟩, by simp [intOf]; omega⟩
                  · have hq : eqV Try.prog 4 28 (.agg x.cells.toArray) (.agg nb.cells.toArray) = some false := by rw [eqSup, decide_eq_false hxe]
                    have HT2 : Hid (sames (L.take (i + 1)) nb = n) := Lib.hid (by rw [HT.out, if_neg hxe]; rfl)
                    clear HT hxe
                    go_wp2_with (first | go_skip | ((with_reducible refine g_len ?_); refine wl_run rfl (by exact a_len rfl rfl rfl (hS.rdx (by (repeat (first | exact Ix.here | apply Ix.there))))) ?_) | fail)
                    refine region_calm (by kernel_rfl) (by kernel_rfl) hS ?_
                    iterate 2 (refine Calm.pure rfl (h := ?_); simp only [Act.put, List.setIfInBounds_toArray, List.set_cons_zero, List.set_cons_succ])
                    (refine Calm.run rfl (fun W hW => by exact a_index rfl rfl rfl rfl (hW.rdx (by (repeat (first | exact Ix.here | apply Ix.there)))) (by rfl) (by omega) (by omega)) ?_; simp only [Act.put, List.setIfInBounds_toArray, List.set_cons_zero, List.set_cons_succ])
                    (refine Calm.run rfl (fun W hW => by exact a_loadG (vs := Sup.cells x) rfl (hW.rdx (by (repeat (first | exact Ix.here | apply Ix.there)))) rfl rfl rfl (by rfl) (by intro _; rfl) hget rfl) ?_; simp only [Act.put, List.setIfInBounds_toArray, List.set_cons_zero, List.set_cons_succ])
                    (refine Calm.run rfl (fun W hW => by first | exact a_load1 hW rfl rfl rfl rfl (by (repeat (first | exact Ix.here | apply Ix.there))) (by rfl) | exact a_loadR hW rfl rfl rfl rfl (by (repeat (first | exact Ix.here | apply Ix.there))) (by rfl)) ?_; simp only [Act.put, List.setIfInBounds_toArray, List.set_cons_zero, List.set_cons_succ])
                    (refine Calm.run rfl (fun W hW => by exact x_structEq rfl rfl rfl supGuard hq) ?_; simp only [Act.put, List.setIfInBounds_toArray, List.set_cons_zero, List.set_cons_succ])
                    (refine Calm.nil ?_; clear hS; intro w8 hS)
                    go_wp2_with (first | go_skip | fail | fail)
                    exact ⟨⟨i + 1, by omega, by simp, by rw [HT2.out], hS⟩, by simp [intOf]; omega⟩
                · obtain rfl : i = L.length := by omega
                  rw [List.take_length] at hsl ⊢
                  go_wp2_with (first | go_skip | ((with_reducible refine g_len ?_); refine wl_run rfl (by exact a_len rfl rfl rfl (hS.rdx (by (repeat (first | exact Ix.here | apply Ix.there))))) ?_) | ((with_reducible refine g_load ?_); refine wl_run rfl (by first | exact a_load1 hS rfl rfl rfl rfl (by (repeat (first | exact Ix.here | apply Ix.there))) (by rfl) | exact a_loadR hS rfl rfl rfl rfl (by (repeat (first | exact Ix.here | apply Ix.there))) (by rfl) | fail) ?_) | ((with_reducible refine g_store ?_); refine wl_of rfl ?_; refine a_storeA (vs := Sup.cells nb) (cs' := Sup.cells nb) hS rfl rfl rfl (by rfl) (sup_one _) (by (repeat (first | exact Sw.here | apply Sw.there))) (by exact Nat.le_refl 17) (by rfl) ?_; clear hS; intro w' hS) | fail)
                  exact end_c3 hS rfl rfl rfl rfl rfl rfl rfl (h := ⟨by rw [HE.out]; rfl, by rw [HNN.out]; exact hS.tail.tail.tail⟩)
  · have e : readU D = (zeroU, 0, 6) := by unfold readU; rw [if_pos ho]
    have H1 := Lib.hid (fun (W : World) (M : List Ent) (hS : St S w0 W (rdisk g D :: M)) => rdisk_read hS hD ((0 : Nat) : Int))
    rw [HRO.out 0 (by omega), if_pos ho] at H1
    generalize (D.read ((0 : Nat) : Int)).1 = O at H1
    rw [e]
    clear e ho hD h4 HRO HLN HRD
    (go_enter Try.func31, Try.ntmps31)
    go_wp2_with (first | go_skip | ((with_reducible refine g_alloc ?_); refine wl_of rfl ?_; refine wp_alloc hS rfl rfl rfl rfl ?_; clear hS; intro gz w1 hS) | ((with_reducible refine g_bs ?_); refine wl_of rfl ?_; refine a_build0 (k := 17) hS rfl rfl (by rfl) ?_; clear hS; intro v1 w' hS) | fail)
    go_loopw [5, 6] (fun b k wz => k = .int .i64 0 ∧ St S w0 wz (.row gz [.int .i64 0, .int .i64 0, .int .i64 0, .int .i64 0, .int .i64 0, .int .i64 0, .int .i64 0, .int .u64 0, .int .i64 0, .int .i64 0, .int .u64 0, .int .u64 0, .int .u64 0, .int .u64 0, .int .u64 0, .int .u64 0, .int .u64 0] 28 (0, 0) :: rdisk g D :: M)) (fun _ k _ => 4 - (intOf k).toNat)
    case atStart => exact ⟨rfl, hS.pick⟩
    case round =>
      clear hS
      obtain ⟨rfl, hS⟩ := hrel
      go_wp2_with (first | go_skip | ((with_reducible refine g_load ?_); refine wl_run rfl (by first | exact a_load1 hS rfl rfl rfl rfl (by (repeat (first | exact Ix.here | apply Ix.there))) (by rfl) | exact a_loadR hS rfl rfl rfl rfl (by (repeat (first | exact Ix.here | apply Ix.there))) (by rfl) | fail) ?_) | ((with_reducible refine g_store ?_); refine wl_of rfl ?_; refine a_storeA (vs := Sup.cells zeroU) (cs' := Sup.cells zeroU) hS rfl rfl rfl (by rfl) (sup_one _) (by (repeat (first | exact Sw.here | apply Sw.there))) (by exact Nat.le_refl 17) (by rfl) ?_; clear hS; intro w' hS) | (go_at_call 34; refine (H1.out _ _ (hS.out (by (repeat (first | exact Out.here | apply Out.there))))).mono ?_; rintro e w' ⟨rfl, rfl⟩) | fail)
      exact end_c3 hS rfl rfl rfl rfl rfl rfl rfl (h := ⟨rfl, hS.pick⟩)
end
end Go.Proofs.Ytbfdnpahojoccaa
