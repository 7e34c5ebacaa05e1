/-
  Superblocks: the document's Pack, Unpack and Next.
-/
import Derived.Test.YtbfdnpahojoccaaSup9
import Derived.Test.YtbfdnpahojoccaaSupA
import Derived.Test.YtbfdnpahojoccaaCodecU
import Derived.Test.YtbfdnpahojoccaaCrc
set_option linter.unusedSimpArgs false
set_option linter.unusedVariables false
set_option linter.unusedSectionVars false
set_option maxRecDepth 100000
namespace Go.Cmp
open Go.RowKit
def zc17 : List Value := [.int .i64 0, .int .i64 0, .int .i64 0, .int .i64 0, .int .i64 0, .int .i64 0, .int .i64 0, .int .u64 0, .int .i64 0, .int .i64 0, .int .u64 0, .int .u64 0, .int .u64 0, .int .u64 0, .int .u64 0, .int .u64 0, .int .u64 0]
/-- The cells when j of the sums were read. -/
def rowU (b : List UInt8) (p : Nat) (j : Nat) : List Value := [.int .i64 (int8 b 0), .int .i64 (int8 b 8), .int .i64 (int8 b 16), .int .i64 (int8 b 24), .int .i64 (int8 b 32), .int .i64 (int8 b 40), .int .i64 (int8 b 48), .int .u64 (num8 b 56 : Nat), .int .i64 (int8 b 64), .int .i64 (int8 b 72)] ++ ((List.range 6).map fun k => .int .u64 (if k < j then (num8 b (80 + 8 * k) : Int) else 0)) ++ [.int .u64 (p : Nat)]
theorem bcatS (a b : List UInt8) : (⟨a.toArray⟩ : ByteArray) ++ ⟨b.toArray⟩ = ⟨(a ++ b).toArray⟩ := by
  apply ByteArray.ext
  simp [ByteArray.data_append]
theorem rowU_set (b : List UInt8) (p j : Nat) (h : j < 6) : (rowU b p j).set (10 + j) (.int .u64 (num8 b (80 + 8 * j) : Int)) = rowU b p (j + 1) := by
  match j, h with
  | 0, _ => rfl
  | 1, _ => rfl
  | 2, _ => rfl
  | 3, _ => rfl
  | 4, _ => rfl
  | 5, _ => rfl
theorem rowU_len (b : List UInt8) (p j : Nat) : (rowU b p j).length = 17 := by simp [rowU]
theorem rowU_six (b : List UInt8) : rowU b (num8 b 128) 6 = (supO b).cells := rfl
end Go.Cmp
namespace Go.Proofs.Ytbfdnpahojoccaa
open Go.RowKit Go.Cmp

section
variable {S : List Nat} {w0 w : World} {M : List Ent}
theorem r6_atS (s : List UInt8) (i : Nat) (hl : s.length ≤ 1000000) (hi : i + 8 ≤ s.length) (w : World) :
    Calls Try.prog 37 #[.string ⟨s.toArray⟩, .int .i64 (i : Int)] w fun e w' => e = .returned (.int .u64 (num8 s i : Nat)) ∧ St [] w w' [] := by
  have hS := St.init w
  have HT := Lib.hid (fun (v : Value) (W : World) (hR : Rd W 1 v s.length (s.flatMap byt)) => ref_take (w := W) i 8 (by omega) (by omega) (by omega) (by omega) hR)
  rw [takeN_8 hi] at HT
  (go_enter Try.func37, Try.ntmps37)
  go_wp2_with (first | ((with_reducible refine g_conv ?_); refine wl_of rfl ?_; refine a_toBytes hS rfl rfl rfl rfl rfl (show s.length ≤ maxLen by unfold maxLen; omega) ?_; clear hS; intro v1 w1 hS) | (go_at_call 57; refine (HT.out _ _ (hS.rdx (by (repeat (first | exact Ix.here | apply Ix.there))))).mono ?_; rintro e w' ⟨rfl, rfl⟩) | (first | refine au1 (n := ?_) | (refine au2 (n := ?_); clear hS; intro w' hS) | (refine au3 (n := ?_); clear hS; intro gb w1 hS) | (refine au4 (n := ?_); clear hS; intro v1 w' hS) | ((with_reducible refine wl_guard ?_); refine stop_mem rfl rfl ?_)))
  go_ret
  exact ⟨rfl, hS.nil⟩
theorem eight_of {x : Int} (h0 : 0 ≤ x) (h1 : x ≤ 72057594037927935) (w : World) : Calls Try.prog 45 #[.int .u64 (IntKind.u64.wrap x)] w fun e w' => e = .returned (.string ⟨(leB 8 x.toNat).toArray⟩) ∧ St [] w w' [] := by
  rw [u64_idS h0 h1]
  exact ref_eight x h0 (by omega) w
theorem eight_nat {x : Nat} (h1 : x < 18446744073709551616) (w : World) : Calls Try.prog 45 #[.int .u64 (x : Int)] w fun e w' => e = .returned (.string ⟨(leB 8 x).toArray⟩) ∧ St [] w w' [] := by
  have h := ref_eight (x : Int) (by omega) (by omega) w
  rw [Int.toNat_natCast] at h
  exact h
set_option maxHeartbeats 8000000 in
theorem refPack11_any (s : Sup) (hu : s.U64) (w : World) :
    Calls Try.prog 17 #[.agg s.cells.toArray] w fun e w' => e = .returned (.tuple #[.string ⟨(packU s).1.toArray⟩, .int .i64 (packU s).2]) ∧ St [] w w' [] := by
  have hS := St.init w
  have HR := Lib.hid (fun w => refRight11_any s w)
  cases hr : s.right
  · have e : packU s = ([], 4) := by unfold packU; rw [if_pos hr]
    rw [e]
    rw [hr] at HR
    clear hr e hu
    (go_enter Try.func17, Try.ntmps17)
    go_wp2_with (first | go_skip | ((with_reducible refine g_box ?_); refine wl_of rfl ?_; refine wp_box hS rfl rfl rfl ?_; clear hS; intro gs w1 hS) | (go_at_call 18; refine (HR.out _).mono ?_; rintro e w' ⟨rfl, h⟩; replace hS := hS.call h; clear h) | ((with_reducible refine g_load ?_); refine wl_run rfl (by first | exact a_load1 hS rfl rfl rfl rfl (by (repeat (first | exact Ix.here | apply Ix.there))) (by rfl) | exact a_loadR hS rfl rfl rfl rfl (by (repeat (first | exact Ix.here | apply Ix.there))) (by rfl) | fail) ?_) | fail)
    go_ret2
    exact ⟨rfl, hS.nil⟩
  · have e : packU s = (supB s, 0) := by unfold packU; rw [if_neg (by simp [hr])]
    rw [e]
    rw [hr] at HR
    obtain ⟨q1, q2, q3, q4, q5, q6, q7, q8, q9⟩ := sup_right.1 hr
    clear hr e
    have E1 := Lib.hid (fun w => eight_of (x := s.seq) (by omega) (by omega) w)
    have E2 := Lib.hid (fun w => eight_of (x := s.who) (by omega) (by omega) w)
    have E3 := Lib.hid (fun w => eight_of (x := s.count) (by omega) (by omega) w)
    have E4 := Lib.hid (fun w => eight_of (x := s.view) (by omega) (by omega) w)
    have E5 := Lib.hid (fun w => eight_of (x := s.log) (by omega) (by omega) w)
    have E6 := Lib.hid (fun w => eight_of (x := s.cop) (by omega) (by omega) w)
    have E7 := Lib.hid (fun w => eight_of (x := s.cview) (by omega) (by omega) w)
    have E8 := Lib.hid (fun w => eight_nat hu.csum w)
    have E9 := Lib.hid (fun w => eight_of (x := s.area) (by omega) (by omega) w)
    have E10 := Lib.hid (fun w => eight_of (x := s.size) (by omega) (by omega) w)
    have E17 := Lib.hid (fun w => eight_nat hu.parent w)
    have hn6 : ∀ i, i < 6 → nth s.sums i < 18446744073709551616 := by
      obtain ⟨q1, q2, q3, q4, q5, q6, q7, q8⟩ := hu
      intro i hi
      match i, hi with
      | 0, _ => exact q2
      | 1, _ => exact q3
      | 2, _ => exact q4
      | 3, _ => exact q5
      | 4, _ => exact q6
      | 5, _ => exact q7
    have ES := Lib.hid (fun (i : Nat) (hi : i < 6) w => eight_nat (hn6 i hi) w)
    have hl6 : s.sums.length = 6 := rfl
    have HB : Hid (supB s = leB 8 s.seq.toNat ++ leB 8 s.who.toNat ++ leB 8 s.count.toNat ++ leB 8 s.view.toNat ++ leB 8 s.log.toNat ++ leB 8 s.cop.toNat ++ leB 8 s.cview.toNat ++ leB 8 s.csum ++ leB 8 s.area.toNat ++ leB 8 s.size.toNat ++ natsB s.sums ++ leB 8 s.parent) := Lib.hid (by rw [supB_parts]; simp [intsB, Sup.ints])
    have HV6 : Hid (∀ i, i < 6 → s.cells[10 + i]? = some (.int .u64 (nth s.sums i : Nat))) := Lib.hid (fun i hi => by
      match i, hi with
      | 0, _ => rfl
      | 1, _ => rfl
      | 2, _ => rfl
      | 3, _ => rfl
      | 4, _ => rfl
      | 5, _ => rfl)
    clear q1 q2 q3 q4 q5 q6 q7 q8 q9 hu hn6
    have l1 := leB_length 8 s.seq.toNat
    have l2 := leB_length 8 s.who.toNat
    have l3 := leB_length 8 s.count.toNat
    have l4 := leB_length 8 s.view.toNat
    have l5 := leB_length 8 s.log.toNat
    have l6 := leB_length 8 s.cop.toNat
    have l7 := leB_length 8 s.cview.toNat
    have l8 := leB_length 8 s.csum
    have l9 := leB_length 8 s.area.toNat
    have l10 := leB_length 8 s.size.toNat
    have l17 := leB_length 8 s.parent
    generalize leB 8 s.seq.toNat = B1 at *
    generalize leB 8 s.who.toNat = B2 at *
    generalize leB 8 s.count.toNat = B3 at *
    generalize leB 8 s.view.toNat = B4 at *
    generalize leB 8 s.log.toNat = B5 at *
    generalize leB 8 s.cop.toNat = B6 at *
    generalize leB 8 s.cview.toNat = B7 at *
    generalize leB 8 s.csum = B8 at *
    generalize leB 8 s.area.toNat = B9 at *
    generalize leB 8 s.size.toNat = B10 at *
    generalize leB 8 s.parent = B17 at *
    generalize supB s = BB at *
    generalize s.sums = L6 at *
    have hml : maxLen = 9223372036854775807 := rfl
    have k2 : (B1 ++ B2).length = 16 := by rw [List.length_append]; omega
    have k3 : (B1 ++ B2 ++ B3).length = 24 := by rw [List.length_append]; omega
    have k4 : (B1 ++ B2 ++ B3 ++ B4).length = 32 := by rw [List.length_append]; omega
    have k5 : (B1 ++ B2 ++ B3 ++ B4 ++ B5).length = 40 := by rw [List.length_append]; omega
    have k6 : (B1 ++ B2 ++ B3 ++ B4 ++ B5 ++ B6).length = 48 := by rw [List.length_append]; omega
    have k7 : (B1 ++ B2 ++ B3 ++ B4 ++ B5 ++ B6 ++ B7).length = 56 := by rw [List.length_append]; omega
    have k8 : (B1 ++ B2 ++ B3 ++ B4 ++ B5 ++ B6 ++ B7 ++ B8).length = 64 := by rw [List.length_append]; omega
    have k9 : (B1 ++ B2 ++ B3 ++ B4 ++ B5 ++ B6 ++ B7 ++ B8 ++ B9).length = 72 := by rw [List.length_append]; omega
    have k10 : (B1 ++ B2 ++ B3 ++ B4 ++ B5 ++ B6 ++ B7 ++ B8 ++ B9 ++ B10).length = 80 := by rw [List.length_append]; omega
    (go_enter Try.func17, Try.ntmps17)
    go_wp2_with (first | go_skip | ((with_reducible refine g_box ?_); refine wl_of rfl ?_; refine wp_box hS rfl rfl rfl ?_; clear hS; intro gs w1 hS) | (go_at_call 18; refine (HR.out _).mono ?_; rintro e w' ⟨rfl, h⟩; replace hS := hS.call h; clear h) | ((with_reducible refine g_load ?_); refine wl_run rfl (by first | exact a_load1 hS rfl rfl rfl rfl (by (repeat (first | exact Ix.here | apply Ix.there))) (by rfl) | exact a_loadR hS rfl rfl rfl rfl (by (repeat (first | exact Ix.here | apply Ix.there))) (by rfl) | fail) ?_) | fail)
    refine region_calm (by kernel_rfl) (by kernel_rfl) hS ?_
    (repeat (first | ((with_reducible refine c_call ?_); first | fail) | refine calm1 (n := ?_)))
    (refine Calm.call (calm_makes E1.out) rfl (h := ?_); simp only [Act.put, List.setIfInBounds_toArray, List.set_cons_zero, List.set_cons_succ])
    (repeat (first | ((with_reducible refine c_call ?_); first | fail) | refine calm1 (n := ?_)))
    (refine Calm.call (calm_makes E2.out) rfl (h := ?_); simp only [Act.put, List.setIfInBounds_toArray, List.set_cons_zero, List.set_cons_succ])
    (repeat (first | ((with_reducible refine c_call ?_); first | fail) | refine calm1 (n := ?_)))
    (refine Calm.call (calm_makes E3.out) rfl (h := ?_); simp only [Act.put, List.setIfInBounds_toArray, List.set_cons_zero, List.set_cons_succ])
    (repeat (first | ((with_reducible refine c_call ?_); first | fail) | refine calm1 (n := ?_)))
    (refine Calm.call (calm_makes E4.out) rfl (h := ?_); simp only [Act.put, List.setIfInBounds_toArray, List.set_cons_zero, List.set_cons_succ])
    (repeat (first | ((with_reducible refine c_call ?_); first | fail) | refine calm1 (n := ?_)))
    (refine Calm.call (calm_makes E5.out) rfl (h := ?_); simp only [Act.put, List.setIfInBounds_toArray, List.set_cons_zero, List.set_cons_succ])
    (repeat (first | ((with_reducible refine c_call ?_); first | fail) | refine calm1 (n := ?_)))
    (refine Calm.nil ?_; clear hS; intro w8 hS)
    go_wp2_with (fail)
    refine region_calm (by kernel_rfl) (by kernel_rfl) hS ?_
    (repeat (first | ((with_reducible refine c_call ?_); first | fail) | refine calm1 (n := ?_)))
    (refine Calm.call (calm_makes E6.out) rfl (h := ?_); simp only [Act.put, List.setIfInBounds_toArray, List.set_cons_zero, List.set_cons_succ])
    (repeat (first | ((with_reducible refine c_call ?_); first | fail) | refine calm1 (n := ?_)))
    (refine Calm.call (calm_makes E7.out) rfl (h := ?_); simp only [Act.put, List.setIfInBounds_toArray, List.set_cons_zero, List.set_cons_succ])
    (repeat (first | ((with_reducible refine c_call ?_); first | fail) | refine calm1 (n := ?_)))
    (refine Calm.call (calm_makes E8.out) rfl (h := ?_); simp only [Act.put, List.setIfInBounds_toArray, List.set_cons_zero, List.set_cons_succ])
    (repeat (first | ((with_reducible refine c_call ?_); first | fail) | refine calm1 (n := ?_)))
    (refine Calm.call (calm_makes E9.out) rfl (h := ?_); simp only [Act.put, List.setIfInBounds_toArray, List.set_cons_zero, List.set_cons_succ])
    (repeat (first | ((with_reducible refine c_call ?_); first | fail) | refine calm1 (n := ?_)))
    (refine Calm.call (calm_makes E10.out) rfl (h := ?_); simp only [Act.put, List.setIfInBounds_toArray, List.set_cons_zero, List.set_cons_succ])
    (repeat (first | ((with_reducible refine c_call ?_); first | fail) | refine calm1 (n := ?_)))
    (refine Calm.nil ?_; clear hS; intro w8 hS)
    go_wp2_with (fail)
    obtain ⟨A10, hA10⟩ : ∃ A, B1 ++ B2 ++ B3 ++ B4 ++ B5 ++ B6 ++ B7 ++ B8 ++ B9 ++ B10 = A := ⟨_, rfl⟩
    rw [hA10] at k10
    have HA10 := Lib.hid hA10
    have HB2 : Hid (BB = A10 ++ natsB L6 ++ B17) := Lib.hid (by rw [HB.out, hA10])
    clear HB hA10 E1 E2 E3 E4 E5 E6 E7 E8 E9 E10 l1 l2 l3 l4 l5 l6 l7 l8 l9 l10 k2 k3 k4 k5 k6 k7 k8 k9 HR
    replace hS := (hS.pick : St [] w _ [.row gs s.cells 28 (0, 0)])
    go_loopw [4, 5] (fun b k wz => ∃ i : Nat, i ≤ 6 ∧ k = .int .i64 i ∧ b = .string ⟨(A10 ++ natsB (L6.take i)).toArray⟩ ∧ St [] w wz [.row gs s.cells 28 (0, 0)]) (fun _ k _ => 6 - (intOf k).toNat)
    case atStart => exact ⟨0, by omega, rfl, by rw [← HA10.out]; simp only [natsB, List.take_zero, List.flatMap_nil, List.append_nil]; show Value.string _ = _; simp only [bcatS], hS⟩
    case round =>
      clear hS
      obtain ⟨i, hi, rfl, rfl, hS⟩ := hrel
      have hal : (A10 ++ natsB (L6.take i)).length ≤ 200 := by rw [List.length_append, natsB_len, List.length_take]; omega
      by_cases hi5 : i < 6
      · have hi51 : (i : Int) < 6 := by omega
        have HSN := Lib.hid (natsB_snoc (L := L6) (i := i) (by omega))
        have HX := Lib.hid (HV6.out i hi5)
        have HE := Lib.hid (ES.out i hi5)
        have lx := leB_length 8 (nth L6 i)
        generalize leB 8 (nth L6 i) = BX at HSN HE lx
        generalize nth L6 i = x at HX HE
        obtain ⟨A, hA⟩ : ∃ A, A10 ++ natsB (L6.take i) = A := ⟨_, rfl⟩
        rw [hA] at hal ⊢
        have HA := Lib.hid hA
        clear hA
        go_wp2_with (first | go_skip | ((with_reducible refine g_index ?_); refine wl_run rfl (a_arr (n := 6) rfl rfl rfl rfl rfl (by omega) (by omega)) ?_) | ((with_reducible refine g_load ?_); refine wl_run rfl (a_load1 hS rfl rfl rfl rfl Ix.here HX.out) ?_) | (go_at_call 45; refine (HE.out _).mono ?_; rintro e w' ⟨rfl, h⟩; replace hS := hS.call h; clear h) | ((with_reducible refine g_bin ?_); refine k_cat rfl (h := ?_)) | fail)
        refine ⟨⟨i + 1, by omega, by simp, ?_, hS.pick⟩, by simp [intOf]; omega⟩
        rw [HSN.out, ← List.append_assoc, HA.out]
      · obtain rfl : i = 6 := by omega
        rw [List.take_of_length_le (by omega)] at hal ⊢
        have HB3 := Lib.hid HB2.out
        obtain ⟨A, hA⟩ : ∃ A, A10 ++ natsB L6 = A := ⟨_, rfl⟩
        rw [hA] at hal HB3 ⊢
        clear hA HB2
        go_wp2_with (first | go_skip | ((with_reducible refine g_load ?_); refine wl_run rfl (by first | exact a_load1 hS rfl rfl rfl rfl (by (repeat (first | exact Ix.here | apply Ix.there))) (by rfl) | exact a_loadR hS rfl rfl rfl rfl (by (repeat (first | exact Ix.here | apply Ix.there))) (by rfl) | fail) ?_) | (go_at_call 45; refine (E17.out _).mono ?_; rintro e w' ⟨rfl, h⟩; replace hS := hS.call h; clear h) | ((with_reducible refine g_bin ?_); refine k_cat rfl (h := ?_)) | fail)
        go_ret2
        exact ⟨by rw [HB3.out]; rfl, hS.nil⟩
set_option maxHeartbeats 8000000 in
theorem refUnpack11_any (b : List UInt8) (hl : b.length ≤ 1000000) (w : World) :
    Calls Try.prog 10 #[.string ⟨b.toArray⟩] w fun e w' => e = .returned (.tuple #[.agg (unpU b).1.cells.toArray, .int .i64 (unpU b).2]) ∧ St [] w w' [] := by
  have hS := St.init w
  by_cases h1 : b.length = 136
  · have hb : ((b.length : Int) != 136) = false := by rw [h1]; rfl
    obtain ⟨H, hH⟩ : ∃ H, supO b = H := ⟨_, rfl⟩
    have hU : unpU b = if H.right = false then (zeroU, 4) else (H, 0) := by unfold unpU; rw [if_neg (by simp [h1]), hH]
    have hBO : H.right = true → supB H = b := fun h => by rw [← hH] at h ⊢; exact supB_O h1 h
    have HP := Lib.hid (fun w => refPack11_any H (by rw [← hH]; exact supO_U b) w)
    obtain ⟨R, hR⟩ : ∃ R, unpU b = R := ⟨_, rfl⟩
    rw [hR] at hU ⊢
    have HU := Lib.hid hU
    have HHC : Hid (rowU b (num8 b 128) 6 = H.cells) := Lib.hid (by rw [rowU_six, hH])
    have hw : ∀ i, wrap64 (num8 b i : Nat) = int8 b i := fun i => by have := num8_lt b i; unfold int8; rw [IntKind.wrap_i64]; unfold wrap64; omega
    have HW := Lib.hid hw
    have T0 : Hid (∀ W, Calls Try.prog 37 #[.string ⟨b.toArray⟩, .int .i64 0] W fun e w' => e = .returned (.int .u64 (num8 b 0 : Nat)) ∧ St [] W w' []) := Lib.hid (fun W => r6_atS b 0 hl (by omega) W)
    have T8 : Hid (∀ W, Calls Try.prog 37 #[.string ⟨b.toArray⟩, .int .i64 8] W fun e w' => e = .returned (.int .u64 (num8 b 8 : Nat)) ∧ St [] W w' []) := Lib.hid (fun W => r6_atS b 8 hl (by omega) W)
    have T16 : Hid (∀ W, Calls Try.prog 37 #[.string ⟨b.toArray⟩, .int .i64 16] W fun e w' => e = .returned (.int .u64 (num8 b 16 : Nat)) ∧ St [] W w' []) := Lib.hid (fun W => r6_atS b 16 hl (by omega) W)
    have T24 : Hid (∀ W, Calls Try.prog 37 #[.string ⟨b.toArray⟩, .int .i64 24] W fun e w' => e = .returned (.int .u64 (num8 b 24 : Nat)) ∧ St [] W w' []) := Lib.hid (fun W => r6_atS b 24 hl (by omega) W)
    have T32 : Hid (∀ W, Calls Try.prog 37 #[.string ⟨b.toArray⟩, .int .i64 32] W fun e w' => e = .returned (.int .u64 (num8 b 32 : Nat)) ∧ St [] W w' []) := Lib.hid (fun W => r6_atS b 32 hl (by omega) W)
    have T40 : Hid (∀ W, Calls Try.prog 37 #[.string ⟨b.toArray⟩, .int .i64 40] W fun e w' => e = .returned (.int .u64 (num8 b 40 : Nat)) ∧ St [] W w' []) := Lib.hid (fun W => r6_atS b 40 hl (by omega) W)
    have T48 : Hid (∀ W, Calls Try.prog 37 #[.string ⟨b.toArray⟩, .int .i64 48] W fun e w' => e = .returned (.int .u64 (num8 b 48 : Nat)) ∧ St [] W w' []) := Lib.hid (fun W => r6_atS b 48 hl (by omega) W)
    have T56 : Hid (∀ W, Calls Try.prog 37 #[.string ⟨b.toArray⟩, .int .i64 56] W fun e w' => e = .returned (.int .u64 (num8 b 56 : Nat)) ∧ St [] W w' []) := Lib.hid (fun W => r6_atS b 56 hl (by omega) W)
    have T64 : Hid (∀ W, Calls Try.prog 37 #[.string ⟨b.toArray⟩, .int .i64 64] W fun e w' => e = .returned (.int .u64 (num8 b 64 : Nat)) ∧ St [] W w' []) := Lib.hid (fun W => r6_atS b 64 hl (by omega) W)
    have T72 : Hid (∀ W, Calls Try.prog 37 #[.string ⟨b.toArray⟩, .int .i64 72] W fun e w' => e = .returned (.int .u64 (num8 b 72 : Nat)) ∧ St [] W w' []) := Lib.hid (fun W => r6_atS b 72 hl (by omega) W)
    have T128 : Hid (∀ W, Calls Try.prog 37 #[.string ⟨b.toArray⟩, .int .i64 128] W fun e w' => e = .returned (.int .u64 (num8 b 128 : Nat)) ∧ St [] W w' []) := Lib.hid (fun W => r6_atS b 128 hl (by omega) W)
    have TS : Hid (∀ i : Nat, i < 6 → ∀ W, Calls Try.prog 37 #[.string ⟨b.toArray⟩, .int .i64 (80 + 8 * (i : Int))] W fun e w' => e = .returned (.int .u64 (num8 b (80 + 8 * i) : Nat)) ∧ St [] W w' []) := Lib.hid (fun i hi W => by
      have h := r6_atS b (80 + 8 * i) hl (by omega) W
      rw [show ((80 + 8 * i : Nat) : Int) = 80 + 8 * (i : Int) by omega] at h
      exact h)
    clear hU hR hH hw
    (go_enter Try.func10, Try.ntmps10)
    go_wp2_with (first | go_skip | (first | (have q9 := gz; clear q9; ((with_reducible refine g_alloc ?_); refine wl_of rfl ?_; refine wp_alloc hS rfl rfl rfl rfl ?_; clear hS; intro gs w1 hS)) | ((with_reducible refine g_alloc ?_); refine wl_of rfl ?_; refine wp_alloc hS rfl rfl rfl rfl ?_; clear hS; intro gz w1 hS)) | (refine au2 (n := ?_); clear hS; intro w' hS))
    (refine (T0.out _).mono ?_; rintro e w' ⟨rfl, h⟩; replace hS := hS.call h; clear h)
    go_wp2_with (first | go_skip | (first | (have q9 := gz; clear q9; ((with_reducible refine g_alloc ?_); refine wl_of rfl ?_; refine wp_alloc hS rfl rfl rfl rfl ?_; clear hS; intro gs w1 hS)) | ((with_reducible refine g_alloc ?_); refine wl_of rfl ?_; refine wp_alloc hS rfl rfl rfl rfl ?_; clear hS; intro gz w1 hS)) | (refine au2 (n := ?_); clear hS; intro w' hS))
    (refine (T8.out _).mono ?_; rintro e w' ⟨rfl, h⟩; replace hS := hS.call h; clear h)
    go_wp2_with (first | go_skip | (first | (have q9 := gz; clear q9; ((with_reducible refine g_alloc ?_); refine wl_of rfl ?_; refine wp_alloc hS rfl rfl rfl rfl ?_; clear hS; intro gs w1 hS)) | ((with_reducible refine g_alloc ?_); refine wl_of rfl ?_; refine wp_alloc hS rfl rfl rfl rfl ?_; clear hS; intro gz w1 hS)) | (refine au2 (n := ?_); clear hS; intro w' hS))
    (refine (T16.out _).mono ?_; rintro e w' ⟨rfl, h⟩; replace hS := hS.call h; clear h)
    go_wp2_with (first | go_skip | (first | (have q9 := gz; clear q9; ((with_reducible refine g_alloc ?_); refine wl_of rfl ?_; refine wp_alloc hS rfl rfl rfl rfl ?_; clear hS; intro gs w1 hS)) | ((with_reducible refine g_alloc ?_); refine wl_of rfl ?_; refine wp_alloc hS rfl rfl rfl rfl ?_; clear hS; intro gz w1 hS)) | (refine au2 (n := ?_); clear hS; intro w' hS))
    (refine (T24.out _).mono ?_; rintro e w' ⟨rfl, h⟩; replace hS := hS.call h; clear h)
    go_wp2_with (first | go_skip | (first | (have q9 := gz; clear q9; ((with_reducible refine g_alloc ?_); refine wl_of rfl ?_; refine wp_alloc hS rfl rfl rfl rfl ?_; clear hS; intro gs w1 hS)) | ((with_reducible refine g_alloc ?_); refine wl_of rfl ?_; refine wp_alloc hS rfl rfl rfl rfl ?_; clear hS; intro gz w1 hS)) | (refine au2 (n := ?_); clear hS; intro w' hS))
    (refine (T32.out _).mono ?_; rintro e w' ⟨rfl, h⟩; replace hS := hS.call h; clear h)
    go_wp2_with (first | go_skip | (first | (have q9 := gz; clear q9; ((with_reducible refine g_alloc ?_); refine wl_of rfl ?_; refine wp_alloc hS rfl rfl rfl rfl ?_; clear hS; intro gs w1 hS)) | ((with_reducible refine g_alloc ?_); refine wl_of rfl ?_; refine wp_alloc hS rfl rfl rfl rfl ?_; clear hS; intro gz w1 hS)) | (refine au2 (n := ?_); clear hS; intro w' hS))
    (refine (T40.out _).mono ?_; rintro e w' ⟨rfl, h⟩; replace hS := hS.call h; clear h)
    go_wp2_with (first | go_skip | (first | (have q9 := gz; clear q9; ((with_reducible refine g_alloc ?_); refine wl_of rfl ?_; refine wp_alloc hS rfl rfl rfl rfl ?_; clear hS; intro gs w1 hS)) | ((with_reducible refine g_alloc ?_); refine wl_of rfl ?_; refine wp_alloc hS rfl rfl rfl rfl ?_; clear hS; intro gz w1 hS)) | (refine au2 (n := ?_); clear hS; intro w' hS))
    (refine (T48.out _).mono ?_; rintro e w' ⟨rfl, h⟩; replace hS := hS.call h; clear h)
    go_wp2_with (first | go_skip | (first | (have q9 := gz; clear q9; ((with_reducible refine g_alloc ?_); refine wl_of rfl ?_; refine wp_alloc hS rfl rfl rfl rfl ?_; clear hS; intro gs w1 hS)) | ((with_reducible refine g_alloc ?_); refine wl_of rfl ?_; refine wp_alloc hS rfl rfl rfl rfl ?_; clear hS; intro gz w1 hS)) | (refine au2 (n := ?_); clear hS; intro w' hS))
    (refine (T56.out _).mono ?_; rintro e w' ⟨rfl, h⟩; replace hS := hS.call h; clear h)
    go_wp2_with (first | go_skip | (first | (have q9 := gz; clear q9; ((with_reducible refine g_alloc ?_); refine wl_of rfl ?_; refine wp_alloc hS rfl rfl rfl rfl ?_; clear hS; intro gs w1 hS)) | ((with_reducible refine g_alloc ?_); refine wl_of rfl ?_; refine wp_alloc hS rfl rfl rfl rfl ?_; clear hS; intro gz w1 hS)) | (refine au2 (n := ?_); clear hS; intro w' hS))
    (refine (T64.out _).mono ?_; rintro e w' ⟨rfl, h⟩; replace hS := hS.call h; clear h)
    go_wp2_with (first | go_skip | (first | (have q9 := gz; clear q9; ((with_reducible refine g_alloc ?_); refine wl_of rfl ?_; refine wp_alloc hS rfl rfl rfl rfl ?_; clear hS; intro gs w1 hS)) | ((with_reducible refine g_alloc ?_); refine wl_of rfl ?_; refine wp_alloc hS rfl rfl rfl rfl ?_; clear hS; intro gz w1 hS)) | (refine au2 (n := ?_); clear hS; intro w' hS))
    (refine (T72.out _).mono ?_; rintro e w' ⟨rfl, h⟩; replace hS := hS.call h; clear h)
    go_wp2_with (first | go_skip | (first | (have q9 := gz; clear q9; ((with_reducible refine g_alloc ?_); refine wl_of rfl ?_; refine wp_alloc hS rfl rfl rfl rfl ?_; clear hS; intro gs w1 hS)) | ((with_reducible refine g_alloc ?_); refine wl_of rfl ?_; refine wp_alloc hS rfl rfl rfl rfl ?_; clear hS; intro gz w1 hS)) | (refine au2 (n := ?_); clear hS; intro w' hS))
    simp only [HW.out] at hS
    replace hS : St [] w _ [.row gs (rowU b 0 0) 28 (0, 0), .row gz zc17 28 (0, 0)] := hS.pick
    clear T0 T8 T16 T24 T32 T40 T48 T56 T64 T72
    go_loopw [5] (fun k wz => ∃ i : Nat, i ≤ 6 ∧ k = .int .i64 i ∧ St [] w wz [.row gs (rowU b 0 i) 28 (0, 0), .row gz zc17 28 (0, 0)]) (fun k _ => 6 - (intOf k).toNat)
    case atStart => exact ⟨0, by omega, rfl, hS⟩
    case round =>
      clear hS
      obtain ⟨i, hi, rfl, hS⟩ := hrel
      by_cases hi5 : i < 6
      · have hi51 : (i : Int) < 6 := by omega
        have HT := Lib.hid (TS.out i hi5)
        have HSET := Lib.hid (rowU_set b 0 i hi5)
        have hlen := rowU_len b 0 i
        generalize num8 b (80 + 8 * i) = x at HT HSET
        go_wp2_with (first | go_skip | ((with_reducible refine g_index ?_); refine wl_run rfl (a_arr (n := 6) rfl rfl rfl rfl rfl (by omega) (by omega)) ?_) | (go_at_call 37; (refine (HT.out _).mono ?_; rintro e w' ⟨rfl, h⟩; replace hS := hS.call h; clear h)) | ((with_reducible refine g_store ?_); refine wl_of rfl ?_; refine a_store1 (v := .int .u64 (x : Int)) (cs' := rowU b 0 (i + 1)) hS rfl rfl rfl rfl rfl rfl (by (repeat (first | exact Sw.here | apply Sw.there))) (by simp; omega) (by simpa using HSET.out) ?_; clear hS; intro w' hS) | fail)
        exact ⟨⟨i + 1, by omega, by simp, hS.pick⟩, by simp [intOf]; omega⟩
      · obtain rfl : i = 6 := by omega
        cases hr : H.right
        · have hR : R = (zeroU, 4) := by rw [HU.out, if_pos hr]
          have hpk : packU H = ([], 4) := by unfold packU; rw [if_pos hr]
          rw [hpk] at HP
          subst hR
          clear hr HU hpk
          go_wp2_with (first | go_skip | (go_at_call 37; (refine (T128.out _).mono ?_; rintro e w' ⟨rfl, h⟩; replace hS := hS.call h; clear h)) | ((with_reducible refine g_store (t := 23) ?_); refine wl_of rfl ?_; refine a_store1 (v := .int .u64 (num8 b 128 : Nat)) (cs' := H.cells) hS rfl rfl rfl rfl rfl rfl (by (repeat (first | exact Sw.here | apply Sw.there))) (by exact Nat.lt_succ_self 16) (by rw [← HHC.out]; rfl) ?_; clear hS; intro w' hS) | ((with_reducible refine g_load ?_); refine wl_run rfl (by first | exact a_load1 hS rfl rfl rfl rfl (by (repeat (first | exact Ix.here | apply Ix.there))) (by rfl) | exact a_loadR hS rfl rfl rfl rfl (by (repeat (first | exact Ix.here | apply Ix.there))) (by rfl) | fail) ?_) | (go_at_call 17; (refine (HP.out _).mono ?_; rintro e w' ⟨rfl, h⟩; replace hS := hS.call h; clear h)) | ((with_reducible refine g_store ?_); refine wl_of rfl ?_; refine a_storeA (vs := Sup.cells zeroU) (cs' := Sup.cells zeroU) hS rfl rfl rfl (by rfl) (sup_one _) (by (repeat (first | exact Sw.here | apply Sw.there))) (by exact Nat.le_refl 17) (by rfl) ?_; clear hS; intro w' hS) | fail)
          exact end_cell2 hS rfl rfl rfl rfl rfl rfl (h := ⟨rfl, hS.nil⟩)
        · have hR : R = (H, 0) := by rw [HU.out, if_neg (by simp [hr])]
          have hpk : packU H = (b, 0) := by unfold packU; rw [if_neg (by simp [hr]), hBO hr]
          rw [hpk] at HP
          subst hR
          clear hr HU hpk hBO
          go_wp2_with (first | go_skip | (go_at_call 37; (refine (T128.out _).mono ?_; rintro e w' ⟨rfl, h⟩; replace hS := hS.call h; clear h)) | ((with_reducible refine g_store (t := 23) ?_); refine wl_of rfl ?_; refine a_store1 (v := .int .u64 (num8 b 128 : Nat)) (cs' := H.cells) hS rfl rfl rfl rfl rfl rfl (by (repeat (first | exact Sw.here | apply Sw.there))) (by exact Nat.lt_succ_self 16) (by rw [← HHC.out]; rfl) ?_; clear hS; intro w' hS) | ((with_reducible refine g_load ?_); refine wl_run rfl (by first | exact a_load1 hS rfl rfl rfl rfl (by (repeat (first | exact Ix.here | apply Ix.there))) (by rfl) | exact a_loadR hS rfl rfl rfl rfl (by (repeat (first | exact Ix.here | apply Ix.there))) (by rfl) | fail) ?_) | (go_at_call 17; (refine (HP.out _).mono ?_; rintro e w' ⟨rfl, h⟩; replace hS := hS.call h; clear h)) | ((with_reducible refine g_store ?_); refine wl_of rfl ?_; refine a_storeA (vs := Sup.cells H) (cs' := Sup.cells H) hS rfl rfl rfl (by rfl) (sup_one _) (by (repeat (first | exact Sw.here | apply Sw.there))) (by exact Nat.le_refl 17) (by rfl) ?_; clear hS; intro w' hS) | fail)
          exact end_cell2 hS rfl rfl rfl rfl rfl rfl (h := ⟨rfl, hS.nil⟩)
  · have hb : ((b.length : Int) != 136) = true := by simp; omega
    have e : unpU b = (zeroU, 4) := by unfold unpU; rw [if_pos h1]
    rw [e]
    clear e h1 hl
    (go_enter Try.func10, Try.ntmps10)
    go_wp2_with (first | go_skip | ((with_reducible refine g_alloc ?_); refine wl_of rfl ?_; refine wp_alloc hS rfl rfl rfl rfl ?_; clear hS; intro gz w1 hS) | (refine au5 (n := ?_); clear hS; intro w' hS))
    exact end_cell2 hS rfl rfl rfl rfl rfl rfl (h := ⟨rfl, hS.nil⟩)
end
end Go.Proofs.Ytbfdnpahojoccaa
