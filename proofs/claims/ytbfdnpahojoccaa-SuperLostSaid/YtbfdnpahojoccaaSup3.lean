/-
  Superblocks: the program's Unpack.
-/
import Derived.Test.YtbfdnpahojoccaaSup2
import Derived.Test.YtbfdnpahojoccaaHead7
set_option linter.unusedSimpArgs false
set_option linter.unusedVariables false
set_option linter.unusedSectionVars false
set_option maxRecDepth 100000
namespace Go.Cmp
open Go.RowKit
def rawN (b : List UInt8) (j : Nat) : List Value := (List.range 17).map fun k => .int .u64 (if k < j then (num8 b (8 * k) : Int) else 0)
theorem rawN_len (b : List UInt8) (j : Nat) : (rawN b j).length = 17 := by simp [rawN]
theorem rawN_set (b : List UInt8) (j : Nat) (h : j < 17) : (rawN b j).set j (.int .u64 (num8 b (8 * j) : Int)) = rawN b (j + 1) := by
  apply List.ext_getElem?
  intro k
  unfold rawN
  rw [List.getElem?_set]
  by_cases hk : k < 17
  · by_cases hj : j = k
    · subst hj; simp [h]
    · simp [hj, hk]
      have : (k < j + 1) = (k < j) := by apply propext; omega
      simp only [this]
  · rw [if_neg (by omega), List.getElem?_eq_none (by simp; omega), List.getElem?_eq_none (by simp; omega)]
end Go.Cmp
namespace Go.Proofs.Ytbfdnpahojoccaa
open Go.RowKit Go.Cmp

section
variable {S : List Nat} {w0 w : World} {M : List Ent}
set_option maxHeartbeats 8000000 in
theorem supUnpack_any (b : List UInt8) (hl : b.length ≤ 1000000) (w : World) :
    Calls Try.prog 9 #[.string ⟨b.toArray⟩] w fun e w' => e = .returned (.tuple #[.agg (unpU b).1.cells.toArray, .int .i64 (unpU b).2]) ∧ St [] w w' [] := by
  have hS := St.init w
  by_cases h1 : b.length = 136
  · have hb : ((b.length : Int) != 136) = false := by rw [h1]; rfl
    obtain ⟨H, hH⟩ : ∃ H, supO b = H := ⟨_, rfl⟩
    have hU : unpU b = if H.right = false then (zeroU, 4) else (H, 0) := by unfold unpU; rw [if_neg (by simp [h1]), hH]
    have HR := Lib.hid (fun w => supRight_any H w)
    obtain ⟨R, hR⟩ : ∃ R, unpU b = R := ⟨_, rfl⟩
    rw [hR] at hU ⊢
    have HU := Lib.hid hU
    have HH := Lib.hid hH
    have HBL := Lib.hid h1
    clear hU hR hH
    (go_enter Try.func9, Try.ntmps9)
    go_wp2_with (first | go_skip | ((with_reducible refine g_alloc (e := 69) ?_); refine wl_of rfl ?_; refine wp_alloc (cs := List.replicate 17 (.int .u64 0)) hS rfl rfl rfl rfl ?_; clear hS; intro ga w1 hS) | ((with_reducible refine g_alloc ?_); refine wl_of rfl ?_; refine wp_alloc hS rfl rfl rfl rfl ?_; clear hS; intro gz w1 hS) | ((with_reducible refine g_load ?_); refine wl_run rfl (by first | exact a_load1 hS rfl rfl rfl rfl (by (repeat (first | exact Ix.here | apply Ix.there))) (by rfl) | exact a_loadR hS rfl rfl rfl rfl (by (repeat (first | exact Ix.here | apply Ix.there))) (by rfl) | fail) ?_))
    replace hS : St [] w w1 [.row ga (rawN b 0) 69 (0, 0), .row gz [.int .i64 0, .int .i64 0, .int .i64 0, .int .i64 0, .int .i64 0, .int .i64 0, .int .i64 0, .int .u64 0, .int .i64 0, .int .i64 0, .int .u64 0, .int .u64 0, .int .u64 0, .int .u64 0, .int .u64 0, .int .u64 0, .int .u64 0] 28 (0, 0)] := hS
    go_loopw [11] (fun k wz => ∃ i : Nat, i ≤ 17 ∧ k = .int .i64 i ∧ St [] w wz [.row ga (rawN b i) 69 (0, 0), .row gz [.int .i64 0, .int .i64 0, .int .i64 0, .int .i64 0, .int .i64 0, .int .i64 0, .int .i64 0, .int .u64 0, .int .i64 0, .int .i64 0, .int .u64 0, .int .u64 0, .int .u64 0, .int .u64 0, .int .u64 0, .int .u64 0, .int .u64 0] 28 (0, 0)]) (fun k _ => 17 - (intOf k).toNat)
    case atStart => exact ⟨0, by omega, rfl, hS⟩
    case round =>
      clear hS
      obtain ⟨i, hi, rfl, hS⟩ := hrel
      by_cases hi5 : i < 17
      · have hi51 : (i : Int) < 17 := by omega
        have HT := Lib.hid (fun (v : Value) (S : List Nat) (w0 W : World) (M : List Ent) (hS : St S w0 W M) (hR : Rd W 1 v b.length (b.flatMap byt)) => num_take (l := b) hS (8 * i) 8 (by omega) (by omega) (by omega) hR)
        rw [takeN_8 (by rw [HBL.out]; omega)] at HT
        have hset := rawN_set b i hi5
        have hlen := rawN_len b i
        have hml : b.length ≤ maxLen := by unfold maxLen; omega
        obtain ⟨x, hx⟩ : ∃ x, num8 b (8 * i) = x := ⟨_, rfl⟩
        rw [hx] at HT hset
        have HSET := Lib.hid hset
        clear hset hx
        have h8 : ((8 * i : Nat) : Int) = 8 * (i : Int) := by omega
        rw [h8] at HT
        go_wp2_with (first | go_skip | ((with_reducible refine g_conv ?_); refine wl_of rfl ?_; refine a_toBytes hS rfl rfl rfl rfl rfl hml ?_; clear hS; intro vb w1 hS))
        refine (HT.out _ _ _ _ _ hS (hS.rdx (by (repeat (first | exact Ix.here | apply Ix.there))))).mono ?_
        clear hS
        rintro e w' ⟨rfl, hS⟩
        go_wp2_with (first | go_skip | ((with_reducible refine g_index ?_); refine wl_run rfl (a_arr (n := 17) rfl rfl rfl rfl rfl (by omega) (by omega)) ?_) | ((with_reducible refine g_store ?_); refine wl_of rfl ?_; refine a_store1 (v := .int .u64 (x : Int)) (cs' := rawN b (i + 1)) hS rfl rfl rfl rfl rfl rfl (Sw.there Sw.here) (by simp; omega) (by simpa using HSET.out) ?_; clear hS; intro w' hS) | fail)
        refine ⟨⟨i + 1, by omega, by simp, hS.tail⟩, by simp [intOf]; omega⟩
      · obtain rfl : i = 17 := by omega
        have e17 : rawN b 17 = [.int .u64 (num8 b 0 : Nat), .int .u64 (num8 b 8 : Nat), .int .u64 (num8 b 16 : Nat), .int .u64 (num8 b 24 : Nat), .int .u64 (num8 b 32 : Nat), .int .u64 (num8 b 40 : Nat), .int .u64 (num8 b 48 : Nat), .int .u64 (num8 b 56 : Nat), .int .u64 (num8 b 64 : Nat), .int .u64 (num8 b 72 : Nat), .int .u64 (num8 b 80 : Nat), .int .u64 (num8 b 88 : Nat), .int .u64 (num8 b 96 : Nat), .int .u64 (num8 b 104 : Nat), .int .u64 (num8 b 112 : Nat), .int .u64 (num8 b 120 : Nat), .int .u64 (num8 b 128 : Nat)] := rfl
        rw [e17] at hS
        have hw : ∀ i, wrap64 (num8 b i : Nat) = int8 b i := fun i => by have := num8_lt b i; unfold int8; rw [IntKind.wrap_i64]; unfold wrap64; omega
        have hw' : ∀ i, IntKind.i64.wrap (num8 b i : Nat) = int8 b i := fun i => rfl
        have hHc : H.cells = [.int .i64 (int8 b 0), .int .i64 (int8 b 8), .int .i64 (int8 b 16), .int .i64 (int8 b 24), .int .i64 (int8 b 32), .int .i64 (int8 b 40), .int .i64 (int8 b 48), .int .u64 (num8 b 56 : Nat), .int .i64 (int8 b 64), .int .i64 (int8 b 72), .int .u64 (num8 b 80 : Nat), .int .u64 (num8 b 88 : Nat), .int .u64 (num8 b 96 : Nat), .int .u64 (num8 b 104 : Nat), .int .u64 (num8 b 112 : Nat), .int .u64 (num8 b 120 : Nat), .int .u64 (num8 b 128 : Nat)] := by rw [← HH.out]; rfl
        have W0 := hw 0; have W1 := hw 8; have W2 := hw 16; have W3 := hw 24; have W4 := hw 32; have W5 := hw 40; have W6 := hw 48; have W8 := hw 64; have W9 := hw 72
        clear hw hw' e17
        generalize int8 b 0 = i0 at hHc W0
        generalize int8 b 8 = i1 at hHc W1
        generalize int8 b 16 = i2 at hHc W2
        generalize int8 b 24 = i3 at hHc W3
        generalize int8 b 32 = i4 at hHc W4
        generalize int8 b 40 = i5 at hHc W5
        generalize int8 b 48 = i6 at hHc W6
        generalize int8 b 64 = i8 at hHc W8
        generalize int8 b 72 = i9 at hHc W9
        generalize num8 b 0 = n0 at *
        generalize num8 b 8 = n1 at *
        generalize num8 b 16 = n2 at *
        generalize num8 b 24 = n3 at *
        generalize num8 b 32 = n4 at *
        generalize num8 b 40 = n5 at *
        generalize num8 b 48 = n6 at *
        generalize num8 b 56 = n7 at *
        generalize num8 b 64 = n8 at *
        generalize num8 b 72 = n9 at *
        generalize num8 b 80 = n10 at *
        generalize num8 b 88 = n11 at *
        generalize num8 b 96 = n12 at *
        generalize num8 b 104 = n13 at *
        generalize num8 b 112 = n14 at *
        generalize num8 b 120 = n15 at *
        generalize num8 b 128 = n16 at *
        have HHC := Lib.hid hHc
        rw [hHc] at HR
        clear hHc
        go_wp2_with (first | go_skip | ((with_reducible refine g_index ?_); refine wl_run rfl (a_arr (n := 17) rfl rfl rfl rfl rfl (by decide) (by decide)) ?_) | ((with_reducible refine g_alloc ?_); refine wl_of rfl ?_; refine wp_alloc hS rfl rfl rfl rfl ?_; clear hS; intro gs w1 hS) | ((with_reducible refine g_load ?_); refine wl_run rfl (by first | exact a_load1 hS rfl rfl rfl rfl (by (repeat (first | exact Ix.here | apply Ix.there))) (by rfl) | exact a_loadR hS rfl rfl rfl rfl (by (repeat (first | exact Ix.here | apply Ix.there))) (by rfl) | fail) ?_) | (refine au5 (n := ?_); clear hS; intro w' hS) )
        (refine wp_region_tail 3 (by kernel_rfl) (by kernel_rfl) hS ?_; clear hS; intro w' hS; simp only [List.take_succ_cons, List.take_zero, List.drop_succ_cons, List.drop_zero]; ((repeat (first | ((with_reducible refine s_load ?_); refine z_read rfl (h := ?_); simp only [Act.put, List.setIfInBounds_toArray, List.set_cons_zero, List.set_cons_succ]) | ((with_reducible refine s_index ?_); refine z_idx rfl (h := ?_); simp only [Act.put, List.setIfInBounds_toArray, List.set_cons_zero, List.set_cons_succ]) | ((with_reducible refine s_field ?_); refine z_fld rfl (h := ?_); simp only [Act.put, List.setIfInBounds_toArray, List.set_cons_zero, List.set_cons_succ]) | ((with_reducible refine s_len ?_); refine z_len rfl (h := ?_); simp only [Act.put, List.setIfInBounds_toArray, List.set_cons_zero, List.set_cons_succ]) | ((with_reducible refine s_cut ?_); refine z_str rfl (h := ?_); simp only [Act.put, List.setIfInBounds_toArray, List.set_cons_zero, List.set_cons_succ]) | ((with_reducible refine s_indexV ?_); refine z_six rfl (h := ?_); simp only [Act.put, List.setIfInBounds_toArray, List.set_cons_zero, List.set_cons_succ]) | ((with_reducible refine s_bin ?_); refine z_cat rfl (h := ?_); simp only [Act.put, List.setIfInBounds_toArray, List.set_cons_zero, List.set_cons_succ]) | ((with_reducible refine s_conv ?_); refine z_tos rfl (h := ?_); simp only [Act.put, List.setIfInBounds_toArray, List.set_cons_zero, List.set_cons_succ]) | still_step)); refine wpStill_nil ?_))
        have hRn : Rd w' 1 (.slice (some ⟨ga, 10, none⟩) 6 7) 6 [.int .u64 (n10 : Nat), .int .u64 (n11 : Nat), .int .u64 (n12 : Nat), .int .u64 (n13 : Nat), .int .u64 (n14 : Nat), .int .u64 (n15 : Nat)] := Rd.ofRow (hS.row (i := 1) rfl) 1 10 6 7 _ rfl (by simp) (by omega) (by simp [maxLen])
        refine wl_of rfl (wp_copyRow hS rfl hRn 0 rfl rfl rfl rfl rfl rfl (by simp) (fun j _ => nf0 _) (by simp [Value.oneCell']) rfl ?_)
        clear hS hRn
        intro w5 hS
        replace hS : St [] w w5 (.row gs [.int .i64 i0, .int .i64 i1, .int .i64 i2, .int .i64 i3, .int .i64 i4, .int .i64 i5, .int .i64 i6, .int .u64 (n7 : Nat), .int .i64 i8, .int .i64 i9, .int .u64 (n10 : Nat), .int .u64 (n11 : Nat), .int .u64 (n12 : Nat), .int .u64 (n13 : Nat), .int .u64 (n14 : Nat), .int .u64 (n15 : Nat), .int .u64 (n16 : Nat)] 28 (0, 0) :: _ :: [.row gz [.int .i64 0, .int .i64 0, .int .i64 0, .int .i64 0, .int .i64 0, .int .i64 0, .int .i64 0, .int .u64 0, .int .i64 0, .int .i64 0, .int .u64 0, .int .u64 0, .int .u64 0, .int .u64 0, .int .u64 0, .int .u64 0, .int .u64 0] 28 (0, 0)]) := hS
        replace hS := (hS.pick : St [] w w5 [.row gs [.int .i64 i0, .int .i64 i1, .int .i64 i2, .int .i64 i3, .int .i64 i4, .int .i64 i5, .int .i64 i6, .int .u64 (n7 : Nat), .int .i64 i8, .int .i64 i9, .int .u64 (n10 : Nat), .int .u64 (n11 : Nat), .int .u64 (n12 : Nat), .int .u64 (n13 : Nat), .int .u64 (n14 : Nat), .int .u64 (n15 : Nat), .int .u64 (n16 : Nat)] 28 (0, 0), .row gz [.int .i64 0, .int .i64 0, .int .i64 0, .int .i64 0, .int .i64 0, .int .i64 0, .int .i64 0, .int .u64 0, .int .i64 0, .int .i64 0, .int .u64 0, .int .u64 0, .int .u64 0, .int .u64 0, .int .u64 0, .int .u64 0, .int .u64 0] 28 (0, 0)])
        cases hr : H.right
        · have hR : R = (zeroU, 4) := by rw [HU.out, if_pos hr]
          rw [hr] at HR
          subst hR
          clear hr HU
          go_wp2_with (first | go_skip | ((with_reducible refine g_load ?_); refine wl_run rfl (by first | exact a_load1 hS rfl rfl rfl rfl (by (repeat (first | exact Ix.here | apply Ix.there))) (by rfl) | exact a_loadR hS rfl rfl rfl rfl (by (repeat (first | exact Ix.here | apply Ix.there))) (by rfl) | fail) ?_) | (go_at_call 13; refine (HR.out _).mono ?_; rintro e w' ⟨rfl, h⟩; replace hS := hS.call h; clear h) | (refine au5 (n := ?_); clear hS; intro w' hS))
          exact end_cell2 hS rfl rfl rfl rfl rfl rfl (h := ⟨rfl, hS.nil⟩)
        · have hR : R = (H, 0) := by rw [HU.out, if_neg (by simp [hr])]
          rw [hr] at HR
          subst hR
          clear hr HU
          go_wp2_with (first | go_skip | ((with_reducible refine g_load ?_); refine wl_run rfl (by first | exact a_load1 hS rfl rfl rfl rfl (by (repeat (first | exact Ix.here | apply Ix.there))) (by rfl) | exact a_loadR hS rfl rfl rfl rfl (by (repeat (first | exact Ix.here | apply Ix.there))) (by rfl) | fail) ?_) | (go_at_call 13; refine (HR.out _).mono ?_; rintro e w' ⟨rfl, h⟩; replace hS := hS.call h; clear h) | (refine au5 (n := ?_); clear hS; intro w' hS))
          exact end_cell2 hS rfl rfl rfl rfl rfl rfl (h := ⟨(congrArg (fun c => Ending.returned (.tuple #[.agg (List.toArray c), .int .i64 0])) HHC.out).symm, hS.nil⟩)
  · have hb : ((b.length : Int) != 136) = true := by simp; omega
    have e : unpU b = (zeroU, 4) := by unfold unpU; rw [if_pos h1]
    rw [e]
    clear e h1 hl
    (go_enter Try.func9, Try.ntmps9)
    go_wp2_with (first | go_skip | ((with_reducible refine g_alloc ?_); refine wl_of rfl ?_; refine wp_alloc hS rfl rfl rfl rfl ?_; clear hS; intro gz w1 hS) | (refine au5 (n := ?_); clear hS; intro w' hS))
    exact end_cell2 hS rfl rfl rfl rfl rfl rfl (h := ⟨rfl, hS.nil⟩)
end
end Go.Proofs.Ytbfdnpahojoccaa
