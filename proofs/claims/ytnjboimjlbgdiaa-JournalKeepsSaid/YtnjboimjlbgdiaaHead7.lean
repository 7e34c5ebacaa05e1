/-
  Bytes are read as headers: the program's Unpack.
-/
import Derived.Test.YtnjboimjlbgdiaaHead6
import Derived.Test.YtnjboimjlbgdiaaNth
set_option linter.unusedSimpArgs false
set_option linter.unusedVariables false
set_option linter.unusedSectionVars false
set_option maxRecDepth 100000
namespace Go.Proofs.Ytnjboimjlbgdiaa
open Go.RowKit Go.Cmp
set_option maxRecDepth 100000

section
variable {S : List Nat} {w0 w : World} {M : List Ent}
def hrow (K : List Value) (I : List Int) (q : Value) (i : Nat) : List Value := K ++ (I.take i ++ List.replicate (8 - i) 0).map (fun n => .int .i64 n) ++ [q]
theorem hrow_set {a b c q : Value} {i1 i2 i3 i4 i5 i6 i7 i8 : Int} {i : Nat} (hi : i < 8) : (hrow [a, b, c] [i1, i2, i3, i4, i5, i6, i7, i8] q i).set (3 + i) (.int .i64 (nth [i1, i2, i3, i4, i5, i6, i7, i8] i)) = hrow [a, b, c] [i1, i2, i3, i4, i5, i6, i7, i8] q (i + 1) ∧ 3 + i < (hrow [a, b, c] [i1, i2, i3, i4, i5, i6, i7, i8] q i).length := by
  match i, hi with
  | 0, _ => exact ⟨rfl, by simp [hrow]⟩
  | 1, _ => exact ⟨rfl, by simp [hrow]⟩
  | 2, _ => exact ⟨rfl, by simp [hrow]⟩
  | 3, _ => exact ⟨rfl, by simp [hrow]⟩
  | 4, _ => exact ⟨rfl, by simp [hrow]⟩
  | 5, _ => exact ⟨rfl, by simp [hrow]⟩
  | 6, _ => exact ⟨rfl, by simp [hrow]⟩
  | 7, _ => exact ⟨rfl, by simp [hrow]⟩
theorem num8_take (s : List UInt8) (n i : Nat) (h : i + 8 ≤ n) : num8 (s.take n) i = num8 s i := by
  unfold num8
  rw [List.drop_take, List.take_take, Nat.min_eq_left (by omega)]
theorem int8_at (s : List UInt8) (i : Nat) (hi : i < 8) : nth [int8 s 24, int8 s 32, int8 s 40, int8 s 48, int8 s 56, int8 s 64, int8 s 72, int8 s 80] i = int8 s (24 + 8 * i) := by
  match i, hi with
  | 0, _ => rfl
  | 1, _ => rfl
  | 2, _ => rfl
  | 3, _ => rfl
  | 4, _ => rfl
  | 5, _ => rfl
  | 6, _ => rfl
  | 7, _ => rfl
set_option maxHeartbeats 8000000 in
theorem headUnpack_any (s : List UInt8) (hl : s.length ≤ 1000000) (w : World) :
    Calls Try.prog 69 #[.string ⟨s.toArray⟩] w fun e w' => e = .returned (.tuple #[.agg (unpH s).1.cells.toArray, .string ⟨(unpH s).2.1.toArray⟩, .int .i64 (unpH s).2.2]) ∧ St [] w w' [] := by
  have hS := St.init w
  by_cases h1 : s.length < 128
  · have e : unpH s = (zeroHd, [], 4) := by unfold unpH; rw [if_pos h1]
    rw [e]
    have h1' : (s.length : Int) < 128 := by omega
    (go_enter Try.func69, Try.ntmps69)
    go_wp2_with (first | refine au1 (n := ?_) | (refine au2 (n := ?_); clear hS; intro w' hS) | (refine au3 (n := ?_); clear hS; intro gb w1 hS) | (refine au4 (n := ?_); clear hS; intro v1 w' hS) | ((with_reducible refine wl_guard ?_); refine stop_mem rfl rfl ?_))
    exact end_cell3 hS rfl rfl rfl rfl rfl rfl rfl (h := ⟨rfl, hS.nil⟩)
  · have h1' : ¬ (s.length : Int) < 128 := by omega
    have h2' : 128 ≤ s.length := by omega
    obtain ⟨H, hH⟩ : ∃ H, hdOf s = H := ⟨_, rfl⟩
    have hpar : H.parent < 18446744073709551616 := by rw [← hH]; exact num8_lt s 16
    have hU : unpH s = if packH H (s.drop 128) = (s, 0) then (H, s.drop 128, 0) else (zeroHd, [], 4) := by unfold unpH; rw [if_neg h1, hH]
    have hc8 := (nth s 8).toNat_lt
    have hc9 := (nth s 9).toNat_lt
    have hc10 := (nth s 10).toNat_lt
    have hN : ∀ i, i < 128 → nth (s.take 128) i = nth s i := fun i hi => nth_take hi
    have h8 := hN 8 (by omega)
    have h9 := hN 9 (by omega)
    have h10 := hN 10 (by omega)
    have hq16 := num8_take s 128 16 (by omega)
    have hqs : ∀ i, i < 8 → num8 (s.take 128) (24 + 8 * i) = num8 s (24 + 8 * i) := fun i hi => num8_take s 128 _ (by omega)
    have his := int8_at s
    have hLl : (s.take 128).length = 128 := by rw [List.length_take]; omega
    obtain ⟨c8, e8⟩ : ∃ c, (nth s 8).toNat = c := ⟨_, rfl⟩
    obtain ⟨c9, e9⟩ : ∃ c, (nth s 9).toNat = c := ⟨_, rfl⟩
    obtain ⟨c10, e10⟩ : ∃ c, (nth s 10).toNat = c := ⟨_, rfl⟩
    rw [e8] at hc8
    have hw8 : IntKind.i64.wrap (c8 : Int) = (c8 : Int) := by rw [IntKind.wrap_i64]; omega
    rw [e9] at hc9
    have hw9 : IntKind.i64.wrap (c9 : Int) = (c9 : Int) := by rw [IntKind.wrap_i64]; omega
    rw [e10] at hc10
    have hw10 : IntKind.i64.wrap (c10 : Int) = (c10 : Int) := by rw [IntKind.wrap_i64]; omega
    have hcl : H.cells = [.int .i64 c8, .int .i64 c9, .int .i64 c10, .int .i64 (int8 s 24), .int .i64 (int8 s 32), .int .i64 (int8 s 40), .int .i64 (int8 s 48), .int .i64 (int8 s 56), .int .i64 (int8 s 64), .int .i64 (int8 s 72), .int .i64 (int8 s 80), .int .u64 (num8 s 16)] := by rw [← hH]; simp only [Hd.cells, hdOf, e8, e9, e10]
    obtain ⟨q16, eq16⟩ : ∃ q, num8 s 16 = q := ⟨_, rfl⟩
    rw [eq16] at hcl hq16
    have hq16b := num8_lt s 16
    rw [eq16] at hq16b
    obtain ⟨i24, ei24⟩ : ∃ q, int8 s 24 = q := ⟨_, rfl⟩
    rw [ei24] at hcl his
    obtain ⟨i32, ei32⟩ : ∃ q, int8 s 32 = q := ⟨_, rfl⟩
    rw [ei32] at hcl his
    obtain ⟨i40, ei40⟩ : ∃ q, int8 s 40 = q := ⟨_, rfl⟩
    rw [ei40] at hcl his
    obtain ⟨i48, ei48⟩ : ∃ q, int8 s 48 = q := ⟨_, rfl⟩
    rw [ei48] at hcl his
    obtain ⟨i56, ei56⟩ : ∃ q, int8 s 56 = q := ⟨_, rfl⟩
    rw [ei56] at hcl his
    obtain ⟨i64, ei64⟩ : ∃ q, int8 s 64 = q := ⟨_, rfl⟩
    rw [ei64] at hcl his
    obtain ⟨i72, ei72⟩ : ∃ q, int8 s 72 = q := ⟨_, rfl⟩
    rw [ei72] at hcl his
    obtain ⟨i80, ei80⟩ : ∃ q, int8 s 80 = q := ⟨_, rfl⟩
    rw [ei80] at hcl his
    have hIS : ∀ i, i < 8 → IntKind.i64.wrap (num8 (s.take 128) (24 + 8 * i) : Nat) = nth [i24, i32, i40, i48, i56, i64, i72, i80] i := fun i hi => by rw [his i hi, hqs i hi]; rfl
    have hHc : H.cells = hrow [.int .i64 c8, .int .i64 c9, .int .i64 c10] [i24, i32, i40, i48, i56, i64, i72, i80] (.int .u64 q16) 8 := by rw [hcl]; rfl
    obtain ⟨L, hL⟩ : ∃ L, s.take 128 = L := ⟨_, rfl⟩
    rw [hL] at h8 h9 h10 hLl hq16 hIS
    have HC8 : Hid ((nth L 8).toNat = c8) := Lib.hid (by rw [h8, e8])
    have HC9 : Hid ((nth L 9).toNat = c9) := Lib.hid (by rw [h9, e9])
    have HC10 : Hid ((nth L 10).toNat = c10) := Lib.hid (by rw [h10, e10])
    have HIS := Lib.hid hIS
    have HLL := Lib.hid hL
    have hll : L.length ≤ 128 := by omega
    have hll2 : 128 ≤ L.length := by omega
    have HT16 : Hid (∀ (W : World) (v : Value) (M : List Ent) (hS : St [] w W M) (hR : Rd W 1 v L.length (L.flatMap byt)), Calls Try.prog 59 #[v, .int .i64 16, .int .i64 8] W fun e w' => e = .returned (.tuple #[.int .u64 (q16 : Nat), .int .i64 0]) ∧ St [] w w' M) := Lib.hid (fun W v M hS hR => by
      have h := num_take (w := W) (v := v) (l := L) hS 16 8 (by omega) (by omega) (by omega) hR
      rw [takeN_8 (by omega), hq16] at h
      exact h)
    have HTI : Hid (∀ (W : World) (v : Value) (M : List Ent) (i : Nat) (hi : i < 8) (hS : St [] w W M) (hR : Rd W 1 v L.length (L.flatMap byt)), Calls Try.prog 59 #[v, .int .i64 (24 + 8 * (i : Int)), .int .i64 8] W fun e w' => e = .returned (.tuple #[.int .u64 (num8 L (24 + 8 * i) : Nat), .int .i64 0]) ∧ St [] w w' M) := Lib.hid (fun W v M i hi hS hR => by
      have h := num_take (w := W) (v := v) (l := L) hS (24 + 8 * i) 8 (by omega) (by omega) (by omega) hR
      rw [takeN_8 (by omega)] at h
      rw [show (24 + 8 * (i : Int)) = ((24 + 8 * i : Nat) : Int) by omega]
      exact h)
    have HP := Lib.hid (fun w => headPack_any H hpar (s.drop 128) (by rw [List.length_drop]; omega) w)
    have hHc2 : H.cells = [.int .i64 c8, .int .i64 c9, .int .i64 c10, .int .i64 i24, .int .i64 i32, .int .i64 i40, .int .i64 i48, .int .i64 i56, .int .i64 i64, .int .i64 i72, .int .i64 i80, .int .u64 q16] := hHc
    rw [hHc2] at HP
    have HHc := Lib.hid hHc2
    have hpe := packH_err H (s.drop 128)
    obtain ⟨B, hB0⟩ : ∃ B, s.drop 128 = B := ⟨_, rfl⟩
    have HB0 := Lib.hid hB0
    rw [hB0] at HP hU hpe
    obtain ⟨PK, hPK⟩ : ∃ K, packH H B = K := ⟨_, rfl⟩
    rw [hPK] at HP hU hpe
    obtain ⟨pk, pe⟩ := PK
    simp only at hpe HP
    obtain ⟨R, hR⟩ : ∃ R, unpH s = R := ⟨_, rfl⟩
    rw [hR] at hU ⊢
    have HU := Lib.hid hU
    clear hR
    have HNU := Lib.hid (fun gb (k : Nat) (hk : k < 8) => (nu_at default gb k hk).2)
    clear hU hPK hB0 hHc hHc2 hIS hL hqs his hcl h8 h9 h10 hN hLl hq16 eq16 e8 e9 e10 hpar hH ei24 ei32 ei40 ei48 ei56 ei64 ei72 ei80
    (go_enter Try.func69, Try.ntmps69)
    go_wp2_with (first | ((with_reducible refine g_conv ?_); refine wl_of rfl ?_; refine a_toBytes hS rfl rfl rfl rfl rfl (show (s.take 128).length ≤ maxLen by unfold maxLen; rw [List.length_take]; omega) ?_; clear hS; intro v1 w1 hS) | (first | refine au1 (n := ?_) | (refine au2 (n := ?_); clear hS; intro w' hS) | (refine au3 (n := ?_); clear hS; intro gb w1 hS) | (refine au4 (n := ?_); clear hS; intro v1 w' hS) | ((with_reducible refine wl_guard ?_); refine stop_mem rfl rfl ?_)))
    replace hS : St [] w w1 [.vec v1 5 1 L.length (L.flatMap byt), .row gb [.int .i64 0, .int .i64 0, .int .i64 0, .int .i64 0, .int .i64 0, .int .i64 0, .int .i64 0, .int .i64 0, .int .i64 0, .int .i64 0, .int .i64 0, .int .u64 0] 83 (0, 0)] := by rw [← HLL.out]; exact hS
    refine region_drift0 14 hS (by kernel_rfl) ?_
    clear hS
    intro wx hR hB hS
    (refine d_take 0 rfl rfl (by kernel_rfl) (by kernel_rfl) (by kernel_rfl) (fun _ _ _ h => h) (by kernel_rfl) rfl (fun W hW => (by (go_simp; try with_reducible rfl))) hS.base ?_; simp only [Act.put, List.setIfInBounds_toArray, List.set_cons_zero, List.set_cons_succ])
    (refine d_take 1 rfl rfl (by kernel_rfl) (by kernel_rfl) (by kernel_rfl) (fun _ _ _ h => h) (by kernel_rfl) rfl (fun W hW => (by (first | exact a_indexI 0 (hR W hW) rfl rfl rfl rfl rfl (by rfl) (by omega) (by omega) | exact a_indexI 1 (hR W hW) rfl rfl rfl rfl rfl (by rfl) (by omega) (by omega) | exact a_indexI 2 (hR W hW) rfl rfl rfl rfl rfl (by rfl) (by omega) (by omega) | exact a_indexI 3 (hR W hW) rfl rfl rfl rfl rfl (by rfl) (by omega) (by omega) | exact a_indexI 4 (hR W hW) rfl rfl rfl rfl rfl (by rfl) (by omega) (by omega) | exact a_indexI 5 (hR W hW) rfl rfl rfl rfl rfl (by rfl) (by omega) (by omega) | exact a_indexI 6 (hR W hW) rfl rfl rfl rfl rfl (by rfl) (by omega) (by omega) | exact a_indexI 7 (hR W hW) rfl rfl rfl rfl rfl (by rfl) (by omega) (by omega) | exact a_indexI 8 (hR W hW) rfl rfl rfl rfl rfl (by rfl) (by omega) (by omega) | exact a_indexI 9 (hR W hW) rfl rfl rfl rfl rfl (by rfl) (by omega) (by omega) | exact a_index rfl rfl rfl rfl (by (first | exact St.rdx (hR W hW) (by (repeat (first | exact Ix.here | apply Ix.there))) | exact Reads.at (by assumption) (hR W hW) (by (repeat (first | exact List.Sublist.refl _ | apply List.Sublist.cons))) | exact St.old0 (hR W hW) (by assumption))) (by rfl) (by omega) (by omega)))) hS.base ?_; simp only [Act.put, List.setIfInBounds_toArray, List.set_cons_zero, List.set_cons_succ])
    (refine d_take (v := (.int .u8 (c8 : Int))) 2 rfl rfl (by kernel_rfl) (by kernel_rfl) (by kernel_rfl) (fun _ _ _ h => h) (by kernel_rfl) rfl (fun W hW => by (rw [← HC8.out]; (first | exact a_load1 (hR W hW) rfl rfl rfl rfl (by (repeat (first | exact Ix.here | apply Ix.there))) (by rfl) | exact a_loadE rfl (by (first | exact St.rdx (hR W hW) (by (repeat (first | exact Ix.here | apply Ix.there))) | exact Reads.at (by assumption) (hR W hW) (by (repeat (first | exact List.Sublist.refl _ | apply List.Sublist.cons))) | exact St.old0 (hR W hW) (by assumption))) rfl rfl rfl (by intro _; rfl) (by (first | assumption | exact get_lt (by first | omega | (simp; omega)))) (by rfl) | exact a_loadF rfl (by (first | exact St.rdx (hR W hW) (by (repeat (first | exact Ix.here | apply Ix.there))) | exact Reads.at (by assumption) (hR W hW) (by (repeat (first | exact List.Sublist.refl _ | apply List.Sublist.cons))) | exact St.old0 (hR W hW) (by assumption))) rfl rfl rfl (by intro _; rfl) (by (first | assumption | exact get_lt (by first | omega | (simp; omega)))) (by rfl) | exact a_loadG (vs := [_, _]) rfl (by (first | exact St.rdx (hR W hW) (by (repeat (first | exact Ix.here | apply Ix.there))) | exact Reads.at (by assumption) (hR W hW) (by (repeat (first | exact List.Sublist.refl _ | apply List.Sublist.cons))) | exact St.old0 (hR W hW) (by assumption))) rfl rfl rfl (by rfl) (by intro _; rfl) (by (first | assumption | exact get_lt (by first | omega | (simp; omega)))) (by rfl) | exact a_loadG (vs := [_, _, _]) rfl (by (first | exact St.rdx (hR W hW) (by (repeat (first | exact Ix.here | apply Ix.there))) | exact Reads.at (by assumption) (hR W hW) (by (repeat (first | exact List.Sublist.refl _ | apply List.Sublist.cons))) | exact St.old0 (hR W hW) (by assumption))) rfl rfl rfl (by rfl) (by intro _; rfl) (by (first | assumption | exact get_lt (by first | omega | (simp; omega)))) (by rfl) | exact a_loadG (vs := [_, _, _, _]) rfl (by (first | exact St.rdx (hR W hW) (by (repeat (first | exact Ix.here | apply Ix.there))) | exact Reads.at (by assumption) (hR W hW) (by (repeat (first | exact List.Sublist.refl _ | apply List.Sublist.cons))) | exact St.old0 (hR W hW) (by assumption))) rfl rfl rfl (by rfl) (by intro _; rfl) (by (first | assumption | exact get_lt (by first | omega | (simp; omega)))) (by rfl) | exact a_loadG (vs := [_, _, _, _, _]) rfl (by (first | exact St.rdx (hR W hW) (by (repeat (first | exact Ix.here | apply Ix.there))) | exact Reads.at (by assumption) (hR W hW) (by (repeat (first | exact List.Sublist.refl _ | apply List.Sublist.cons))) | exact St.old0 (hR W hW) (by assumption))) rfl rfl rfl (by rfl) (by intro _; rfl) (by (first | assumption | exact get_lt (by first | omega | (simp; omega)))) (by rfl) | exact a_loadR (hR W hW) rfl rfl rfl rfl (by (repeat (first | exact Ix.here | apply Ix.there))) (by rfl)))) hS.base ?_; simp only [Act.put, List.setIfInBounds_toArray, List.set_cons_zero, List.set_cons_succ])
    (refine d_take (v := (.int .i64 (c8 : Int))) 3 rfl rfl (by kernel_rfl) (by kernel_rfl) (by kernel_rfl) (fun _ _ _ h => h) (by kernel_rfl) rfl (fun W hW => by (go_simp; try simp [hw8])) hS.base ?_; simp only [Act.put, List.setIfInBounds_toArray, List.set_cons_zero, List.set_cons_succ])
    (refine d_take 4 rfl rfl (by kernel_rfl) (by kernel_rfl) (by kernel_rfl) (fun _ _ _ h => h) (by kernel_rfl) rfl (fun W hW => (by (go_simp; try with_reducible rfl))) hS.base ?_; simp only [Act.put, List.setIfInBounds_toArray, List.set_cons_zero, List.set_cons_succ])
    (refine d_take 5 rfl rfl (by kernel_rfl) (by kernel_rfl) (by kernel_rfl) (fun _ _ _ h => h) (by kernel_rfl) rfl (fun W hW => (by (first | exact a_indexI 0 (hR W hW) rfl rfl rfl rfl rfl (by rfl) (by omega) (by omega) | exact a_indexI 1 (hR W hW) rfl rfl rfl rfl rfl (by rfl) (by omega) (by omega) | exact a_indexI 2 (hR W hW) rfl rfl rfl rfl rfl (by rfl) (by omega) (by omega) | exact a_indexI 3 (hR W hW) rfl rfl rfl rfl rfl (by rfl) (by omega) (by omega) | exact a_indexI 4 (hR W hW) rfl rfl rfl rfl rfl (by rfl) (by omega) (by omega) | exact a_indexI 5 (hR W hW) rfl rfl rfl rfl rfl (by rfl) (by omega) (by omega) | exact a_indexI 6 (hR W hW) rfl rfl rfl rfl rfl (by rfl) (by omega) (by omega) | exact a_indexI 7 (hR W hW) rfl rfl rfl rfl rfl (by rfl) (by omega) (by omega) | exact a_indexI 8 (hR W hW) rfl rfl rfl rfl rfl (by rfl) (by omega) (by omega) | exact a_indexI 9 (hR W hW) rfl rfl rfl rfl rfl (by rfl) (by omega) (by omega) | exact a_index rfl rfl rfl rfl (by (first | exact St.rdx (hR W hW) (by (repeat (first | exact Ix.here | apply Ix.there))) | exact Reads.at (by assumption) (hR W hW) (by (repeat (first | exact List.Sublist.refl _ | apply List.Sublist.cons))) | exact St.old0 (hR W hW) (by assumption))) (by rfl) (by omega) (by omega)))) hS.base ?_; simp only [Act.put, List.setIfInBounds_toArray, List.set_cons_zero, List.set_cons_succ])
    (refine d_take (v := (.int .u8 (c9 : Int))) 6 rfl rfl (by kernel_rfl) (by kernel_rfl) (by kernel_rfl) (fun _ _ _ h => h) (by kernel_rfl) rfl (fun W hW => by (rw [← HC9.out]; (first | exact a_load1 (hR W hW) rfl rfl rfl rfl (by (repeat (first | exact Ix.here | apply Ix.there))) (by rfl) | exact a_loadE rfl (by (first | exact St.rdx (hR W hW) (by (repeat (first | exact Ix.here | apply Ix.there))) | exact Reads.at (by assumption) (hR W hW) (by (repeat (first | exact List.Sublist.refl _ | apply List.Sublist.cons))) | exact St.old0 (hR W hW) (by assumption))) rfl rfl rfl (by intro _; rfl) (by (first | assumption | exact get_lt (by first | omega | (simp; omega)))) (by rfl) | exact a_loadF rfl (by (first | exact St.rdx (hR W hW) (by (repeat (first | exact Ix.here | apply Ix.there))) | exact Reads.at (by assumption) (hR W hW) (by (repeat (first | exact List.Sublist.refl _ | apply List.Sublist.cons))) | exact St.old0 (hR W hW) (by assumption))) rfl rfl rfl (by intro _; rfl) (by (first | assumption | exact get_lt (by first | omega | (simp; omega)))) (by rfl) | exact a_loadG (vs := [_, _]) rfl (by (first | exact St.rdx (hR W hW) (by (repeat (first | exact Ix.here | apply Ix.there))) | exact Reads.at (by assumption) (hR W hW) (by (repeat (first | exact List.Sublist.refl _ | apply List.Sublist.cons))) | exact St.old0 (hR W hW) (by assumption))) rfl rfl rfl (by rfl) (by intro _; rfl) (by (first | assumption | exact get_lt (by first | omega | (simp; omega)))) (by rfl) | exact a_loadG (vs := [_, _, _]) rfl (by (first | exact St.rdx (hR W hW) (by (repeat (first | exact Ix.here | apply Ix.there))) | exact Reads.at (by assumption) (hR W hW) (by (repeat (first | exact List.Sublist.refl _ | apply List.Sublist.cons))) | exact St.old0 (hR W hW) (by assumption))) rfl rfl rfl (by rfl) (by intro _; rfl) (by (first | assumption | exact get_lt (by first | omega | (simp; omega)))) (by rfl) | exact a_loadG (vs := [_, _, _, _]) rfl (by (first | exact St.rdx (hR W hW) (by (repeat (first | exact Ix.here | apply Ix.there))) | exact Reads.at (by assumption) (hR W hW) (by (repeat (first | exact List.Sublist.refl _ | apply List.Sublist.cons))) | exact St.old0 (hR W hW) (by assumption))) rfl rfl rfl (by rfl) (by intro _; rfl) (by (first | assumption | exact get_lt (by first | omega | (simp; omega)))) (by rfl) | exact a_loadG (vs := [_, _, _, _, _]) rfl (by (first | exact St.rdx (hR W hW) (by (repeat (first | exact Ix.here | apply Ix.there))) | exact Reads.at (by assumption) (hR W hW) (by (repeat (first | exact List.Sublist.refl _ | apply List.Sublist.cons))) | exact St.old0 (hR W hW) (by assumption))) rfl rfl rfl (by rfl) (by intro _; rfl) (by (first | assumption | exact get_lt (by first | omega | (simp; omega)))) (by rfl) | exact a_loadR (hR W hW) rfl rfl rfl rfl (by (repeat (first | exact Ix.here | apply Ix.there))) (by rfl)))) hS.base ?_; simp only [Act.put, List.setIfInBounds_toArray, List.set_cons_zero, List.set_cons_succ])
    (refine d_take (v := (.int .i64 (c9 : Int))) 7 rfl rfl (by kernel_rfl) (by kernel_rfl) (by kernel_rfl) (fun _ _ _ h => h) (by kernel_rfl) rfl (fun W hW => by (go_simp; try simp [hw9])) hS.base ?_; simp only [Act.put, List.setIfInBounds_toArray, List.set_cons_zero, List.set_cons_succ])
    (refine d_take 8 rfl rfl (by kernel_rfl) (by kernel_rfl) (by kernel_rfl) (fun _ _ _ h => h) (by kernel_rfl) rfl (fun W hW => (by (go_simp; try with_reducible rfl))) hS.base ?_; simp only [Act.put, List.setIfInBounds_toArray, List.set_cons_zero, List.set_cons_succ])
    (refine d_take 9 rfl rfl (by kernel_rfl) (by kernel_rfl) (by kernel_rfl) (fun _ _ _ h => h) (by kernel_rfl) rfl (fun W hW => (by (first | exact a_indexI 0 (hR W hW) rfl rfl rfl rfl rfl (by rfl) (by omega) (by omega) | exact a_indexI 1 (hR W hW) rfl rfl rfl rfl rfl (by rfl) (by omega) (by omega) | exact a_indexI 2 (hR W hW) rfl rfl rfl rfl rfl (by rfl) (by omega) (by omega) | exact a_indexI 3 (hR W hW) rfl rfl rfl rfl rfl (by rfl) (by omega) (by omega) | exact a_indexI 4 (hR W hW) rfl rfl rfl rfl rfl (by rfl) (by omega) (by omega) | exact a_indexI 5 (hR W hW) rfl rfl rfl rfl rfl (by rfl) (by omega) (by omega) | exact a_indexI 6 (hR W hW) rfl rfl rfl rfl rfl (by rfl) (by omega) (by omega) | exact a_indexI 7 (hR W hW) rfl rfl rfl rfl rfl (by rfl) (by omega) (by omega) | exact a_indexI 8 (hR W hW) rfl rfl rfl rfl rfl (by rfl) (by omega) (by omega) | exact a_indexI 9 (hR W hW) rfl rfl rfl rfl rfl (by rfl) (by omega) (by omega) | exact a_index rfl rfl rfl rfl (by (first | exact St.rdx (hR W hW) (by (repeat (first | exact Ix.here | apply Ix.there))) | exact Reads.at (by assumption) (hR W hW) (by (repeat (first | exact List.Sublist.refl _ | apply List.Sublist.cons))) | exact St.old0 (hR W hW) (by assumption))) (by rfl) (by omega) (by omega)))) hS.base ?_; simp only [Act.put, List.setIfInBounds_toArray, List.set_cons_zero, List.set_cons_succ])
    (refine d_take (v := (.int .u8 (c10 : Int))) 10 rfl rfl (by kernel_rfl) (by kernel_rfl) (by kernel_rfl) (fun _ _ _ h => h) (by kernel_rfl) rfl (fun W hW => by (rw [← HC10.out]; (first | exact a_load1 (hR W hW) rfl rfl rfl rfl (by (repeat (first | exact Ix.here | apply Ix.there))) (by rfl) | exact a_loadE rfl (by (first | exact St.rdx (hR W hW) (by (repeat (first | exact Ix.here | apply Ix.there))) | exact Reads.at (by assumption) (hR W hW) (by (repeat (first | exact List.Sublist.refl _ | apply List.Sublist.cons))) | exact St.old0 (hR W hW) (by assumption))) rfl rfl rfl (by intro _; rfl) (by (first | assumption | exact get_lt (by first | omega | (simp; omega)))) (by rfl) | exact a_loadF rfl (by (first | exact St.rdx (hR W hW) (by (repeat (first | exact Ix.here | apply Ix.there))) | exact Reads.at (by assumption) (hR W hW) (by (repeat (first | exact List.Sublist.refl _ | apply List.Sublist.cons))) | exact St.old0 (hR W hW) (by assumption))) rfl rfl rfl (by intro _; rfl) (by (first | assumption | exact get_lt (by first | omega | (simp; omega)))) (by rfl) | exact a_loadG (vs := [_, _]) rfl (by (first | exact St.rdx (hR W hW) (by (repeat (first | exact Ix.here | apply Ix.there))) | exact Reads.at (by assumption) (hR W hW) (by (repeat (first | exact List.Sublist.refl _ | apply List.Sublist.cons))) | exact St.old0 (hR W hW) (by assumption))) rfl rfl rfl (by rfl) (by intro _; rfl) (by (first | assumption | exact get_lt (by first | omega | (simp; omega)))) (by rfl) | exact a_loadG (vs := [_, _, _]) rfl (by (first | exact St.rdx (hR W hW) (by (repeat (first | exact Ix.here | apply Ix.there))) | exact Reads.at (by assumption) (hR W hW) (by (repeat (first | exact List.Sublist.refl _ | apply List.Sublist.cons))) | exact St.old0 (hR W hW) (by assumption))) rfl rfl rfl (by rfl) (by intro _; rfl) (by (first | assumption | exact get_lt (by first | omega | (simp; omega)))) (by rfl) | exact a_loadG (vs := [_, _, _, _]) rfl (by (first | exact St.rdx (hR W hW) (by (repeat (first | exact Ix.here | apply Ix.there))) | exact Reads.at (by assumption) (hR W hW) (by (repeat (first | exact List.Sublist.refl _ | apply List.Sublist.cons))) | exact St.old0 (hR W hW) (by assumption))) rfl rfl rfl (by rfl) (by intro _; rfl) (by (first | assumption | exact get_lt (by first | omega | (simp; omega)))) (by rfl) | exact a_loadG (vs := [_, _, _, _, _]) rfl (by (first | exact St.rdx (hR W hW) (by (repeat (first | exact Ix.here | apply Ix.there))) | exact Reads.at (by assumption) (hR W hW) (by (repeat (first | exact List.Sublist.refl _ | apply List.Sublist.cons))) | exact St.old0 (hR W hW) (by assumption))) rfl rfl rfl (by rfl) (by intro _; rfl) (by (first | assumption | exact get_lt (by first | omega | (simp; omega)))) (by rfl) | exact a_loadR (hR W hW) rfl rfl rfl rfl (by (repeat (first | exact Ix.here | apply Ix.there))) (by rfl)))) hS.base ?_; simp only [Act.put, List.setIfInBounds_toArray, List.set_cons_zero, List.set_cons_succ])
    (refine d_take (v := (.int .i64 (c10 : Int))) 11 rfl rfl (by kernel_rfl) (by kernel_rfl) (by kernel_rfl) (fun _ _ _ h => h) (by kernel_rfl) rfl (fun W hW => by (go_simp; try simp [hw10])) hS.base ?_; simp only [Act.put, List.setIfInBounds_toArray, List.set_cons_zero, List.set_cons_succ])
    (refine d_take 12 rfl rfl (by kernel_rfl) (by kernel_rfl) (by kernel_rfl) (fun _ _ _ h => h) (by kernel_rfl) rfl (fun W hW => (by (go_simp; try with_reducible rfl))) hS.base ?_; simp only [Act.put, List.setIfInBounds_toArray, List.set_cons_zero, List.set_cons_succ])
    (refine d_all (rs := [13]) (by kernel_rfl) (by simp) ?_; intro wd hd; replace hS := hS.same hd; clear hd; intro i hi; have hi := List.mem_singleton.1 hi; subst hi)
    refine wod_of rfl rfl rfl (wp_alloc hS rfl rfl rfl rfl ?_)
    clear hS
    intro gb2 w3 hS
    (refine ⟨fun _ => hS.base, ?_⟩; simp only [Act.put, List.setIfInBounds_toArray, List.set_cons_zero, List.set_cons_succ])
    (refine d_all (rs := [14]) (by kernel_rfl) (by simp) ?_; intro wd hd; replace hS := hS.same hd; clear hd; intro i hi; have hi := List.mem_singleton.1 hi; subst hi)
    replace hS := hB _ _ hS
    simp only [List.cons_append, List.nil_append] at hS
    refine won_of rfl rfl rfl (a_storeA (vs := [.int .i64 c8, .int .i64 c9, .int .i64 c10, .int .i64 0, .int .i64 0, .int .i64 0, .int .i64 0, .int .i64 0, .int .i64 0, .int .i64 0, .int .i64 0, .int .u64 0]) (cs' := [.int .i64 c8, .int .i64 c9, .int .i64 c10, .int .i64 0, .int .i64 0, .int .i64 0, .int .i64 0, .int .i64 0, .int .i64 0, .int .i64 0, .int .i64 0, .int .u64 0]) hS rfl rfl rfl (by rfl) (by simp [Value.oneCell']) Sw.here (by simp) (by rfl) ?_)
    clear hS
    intro w6 hS
    (refine ⟨fun h => absurd rfl h, ?_⟩; refine d_done (by kernel_rfl) ?_ _; intro wd hd; replace hS := hS.same hd; clear hd)
    simp only [Act.put, List.setIfInBounds_toArray, List.set_cons_zero, List.set_cons_succ]
    go_wp2_with (first | (go_at_call 59; refine (HT16.out _ _ _ hS (hS.rdx (by (repeat (first | exact Ix.here | apply Ix.there))))).mono ?_; clear hS; rintro e w' ⟨rfl, hS⟩) | (go_at_call 62; refine (headNumbers_any (g := gb2) hS).mono ?_; clear hS; rintro e w' ⟨rfl, hS⟩) | (first | refine au1 (n := ?_) | (refine au2 (n := ?_); clear hS; intro w' hS) | (refine au3 (n := ?_); clear hS; intro gb w1 hS) | (refine au4 (n := ?_); clear hS; intro v1 w' hS) | ((with_reducible refine wl_guard ?_); refine stop_mem rfl rfl ?_)))
    replace hS : St [] w _ [.row gb2 (hrow [.int .i64 c8, .int .i64 c9, .int .i64 c10] [i24, i32, i40, i48, i56, i64, i72, i80] (.int .u64 q16) 0) 83 (0, 0), .vec v1 5 1 L.length (L.flatMap byt), .row gb [.int .i64 0, .int .i64 0, .int .i64 0, .int .i64 0, .int .i64 0, .int .i64 0, .int .i64 0, .int .i64 0, .int .i64 0, .int .i64 0, .int .i64 0, .int .u64 0] 83 (0, 0)] := hS
    go_loopw [41] (fun k wz => ∃ i : Nat, i ≤ 8 ∧ k = .int .i64 i ∧ St [] w wz [.row gb2 (hrow [.int .i64 c8, .int .i64 c9, .int .i64 c10] [i24, i32, i40, i48, i56, i64, i72, i80] (.int .u64 q16) i) 83 (0, 0), .vec v1 5 1 L.length (L.flatMap byt), .row gb [.int .i64 0, .int .i64 0, .int .i64 0, .int .i64 0, .int .i64 0, .int .i64 0, .int .i64 0, .int .i64 0, .int .i64 0, .int .i64 0, .int .i64 0, .int .u64 0] 83 (0, 0)]) (fun k _ => 8 - (intOf k).toNat)
    case atStart => exact ⟨0, by omega, rfl, hS⟩
    case round =>
      clear hS
      obtain ⟨i, hi, rfl, hS⟩ := hrel
      by_cases hi8 : i < 8
      · have hi81 : (i : Int) < 8 := by omega
        have HE2 := Lib.hid (HNU.out gb2 i hi8)
        have hst := hrow_set (a := .int .i64 c8) (b := .int .i64 c9) (c := .int .i64 c10) (q := .int .u64 q16) (i1 := i24) (i2 := i32) (i3 := i40) (i4 := i48) (i5 := i56) (i6 := i64) (i7 := i72) (i8 := i80) hi8
        rw [← HIS.out i hi8] at hst
        have HST := Lib.hid hst
        have hnb := num8_lt L (24 + 8 * i)
        have HTX := Lib.hid (fun W v M => HTI.out W v M i hi8)
        obtain ⟨q, hq⟩ : ∃ q, num8 L (24 + 8 * i) = q := ⟨_, rfl⟩
        rw [hq] at HST HTX hnb
        have HW64 : Hid (wrap64 (q : Int) = IntKind.i64.wrap (q : Int)) := Lib.hid (by rw [IntKind.wrap_i64]; unfold wrap64; omega)
        obtain ⟨R1, hR1⟩ : ∃ R, (hrow [.int .i64 c8, .int .i64 c9, .int .i64 c10] [i24, i32, i40, i48, i56, i64, i72, i80] (.int .u64 q16) i) = R := ⟨_, rfl⟩
        obtain ⟨R2, hR2⟩ : ∃ R, (hrow [.int .i64 c8, .int .i64 c9, .int .i64 c10] [i24, i32, i40, i48, i56, i64, i72, i80] (.int .u64 q16) (i + 1)) = R := ⟨_, rfl⟩
        rw [hR1, hR2] at HST
        have HR2 := Lib.hid hR2
        rw [hR1] at hS
        clear hst hq hR1 hR2
        go_wp2_with (first | ((with_reducible refine g_indexV ?_); refine wl_run rfl (a_idxA rfl rfl rfl rfl rfl rfl (by omega) (by omega) (by simpa using HE2.out)) ?_) | (go_at_call 59; refine (HTX.out _ _ _ hS (hS.rdx (by (repeat (first | exact Ix.here | apply Ix.there))))).mono ?_; clear hS; rintro e w' ⟨rfl, hS⟩) | ((with_reducible refine g_store ?_); fail) | (first | refine au1 (n := ?_) | (refine au2 (n := ?_); clear hS; intro w' hS) | (refine au3 (n := ?_); clear hS; intro gb w1 hS) | (refine au4 (n := ?_); clear hS; intro v1 w' hS) | ((with_reducible refine wl_guard ?_); refine stop_mem rfl rfl ?_)))
        unfold Stop
        refine wl_of rfl ?_
        refine k_st1 (v := .int .i64 (IntKind.i64.wrap (q : Int))) (cs' := R2) hS rfl (by rfl) (by simp only [Act.eval, Array.getD_eq_getD_getElem?, List.getElem?_toArray, List.getElem?_cons_succ, List.getElem?_cons_zero, Option.getD_some]; rw [HW64.out]) (hoff := HST.out.2) (hcs := HST.out.1) (h := ?_)
        clear hS
        intro w' hS
        go_wp2_with (fail)
        exact ⟨⟨i + 1, by omega, by simp, by rw [HR2.out]; exact hS⟩, by simp [intOf]; omega⟩
      · obtain rfl : i = 8 := by omega
        replace hS : St [] w _ [.row gb2 [.int .i64 c8, .int .i64 c9, .int .i64 c10, .int .i64 i24, .int .i64 i32, .int .i64 i40, .int .i64 i48, .int .i64 i56, .int .i64 i64, .int .i64 i72, .int .i64 i80, .int .u64 q16] 83 (0, 0), .vec v1 5 1 L.length (L.flatMap byt), .row gb [.int .i64 0, .int .i64 0, .int .i64 0, .int .i64 0, .int .i64 0, .int .i64 0, .int .i64 0, .int .i64 0, .int .i64 0, .int .i64 0, .int .i64 0, .int .u64 0] 83 (0, 0)] := hS
        clear HTI HT16 HIS HNU
        by_cases hpe0 : pe = 0
        · subst hpe0
          by_cases hps : pk = s
          · subst hps
            have HR : Hid (R = (H, B, 0)) := Lib.hid (by rw [HU.out, if_pos rfl])
            go_wp2_with (first | ((with_reducible refine g_cut ?_); refine wl_run rfl (v := .string ⟨B.toArray⟩) (by rw [← HB0.out]; exact a_strLo (l := pk) (h := 128) rfl rfl rfl rfl (by omega) (by omega)) ?_) | (go_at_call 72; refine (HP.out _).mono ?_; rintro e w' ⟨rfl, h⟩; replace hS := hS.call h; clear h) | (first | refine au1 (n := ?_) | (refine au2 (n := ?_); clear hS; intro w' hS) | (refine au3 (n := ?_); clear hS; intro gb w1 hS) | (refine au4 (n := ?_); clear hS; intro v1 w' hS) | ((with_reducible refine wl_guard ?_); refine stop_mem rfl rfl ?_)))
            exact end_cell3 hS rfl rfl rfl rfl rfl rfl rfl (h := ⟨by rw [HR.out, HHc.out]; rfl, hS.nil⟩)
          · have hb : (pk == s) = false := by rw [beq_eq_false_iff_ne]; exact hps
            have HR : Hid (R = (zeroHd, [], 4)) := Lib.hid (by rw [HU.out, if_neg (fun h => hps (congrArg Prod.fst h))])
            go_wp2_with (first | ((with_reducible refine g_cut ?_); refine wl_run rfl (v := .string ⟨B.toArray⟩) (by rw [← HB0.out]; exact a_strLo (l := s) (h := 128) rfl rfl rfl rfl (by omega) (by omega)) ?_) | (go_at_call 72; refine (HP.out _).mono ?_; rintro e w' ⟨rfl, h⟩; replace hS := hS.call h; clear h) | (first | refine au1 (n := ?_) | (refine au2 (n := ?_); clear hS; intro w' hS) | (refine au3 (n := ?_); clear hS; intro gb w1 hS) | (refine au4 (n := ?_); clear hS; intro v1 w' hS) | ((with_reducible refine wl_guard ?_); refine stop_mem rfl rfl ?_)))
            exact end_cell3 hS rfl rfl rfl rfl rfl rfl rfl (h := ⟨by rw [HR.out]; rfl, hS.nil⟩)
        · have HR : Hid (R = (zeroHd, [], 4)) := Lib.hid (by rw [HU.out, if_neg (fun h => hpe0 (congrArg Prod.snd h))])
          rcases hpe with rfl | rfl | rfl
          · exact absurd rfl hpe0
          · clear hpe0
            go_wp2_with (first | ((with_reducible refine g_cut ?_); refine wl_run rfl (v := .string ⟨B.toArray⟩) (by rw [← HB0.out]; exact a_strLo (l := s) (h := 128) rfl rfl rfl rfl (by omega) (by omega)) ?_) | (go_at_call 72; refine (HP.out _).mono ?_; rintro e w' ⟨rfl, h⟩; replace hS := hS.call h; clear h) | (first | refine au1 (n := ?_) | (refine au2 (n := ?_); clear hS; intro w' hS) | (refine au3 (n := ?_); clear hS; intro gb w1 hS) | (refine au4 (n := ?_); clear hS; intro v1 w' hS) | ((with_reducible refine wl_guard ?_); refine stop_mem rfl rfl ?_)))
            exact end_cell3 hS rfl rfl rfl rfl rfl rfl rfl (h := ⟨by rw [HR.out]; rfl, hS.nil⟩)
          · clear hpe0
            go_wp2_with (first | ((with_reducible refine g_cut ?_); refine wl_run rfl (v := .string ⟨B.toArray⟩) (by rw [← HB0.out]; exact a_strLo (l := s) (h := 128) rfl rfl rfl rfl (by omega) (by omega)) ?_) | (go_at_call 72; refine (HP.out _).mono ?_; rintro e w' ⟨rfl, h⟩; replace hS := hS.call h; clear h) | (first | refine au1 (n := ?_) | (refine au2 (n := ?_); clear hS; intro w' hS) | (refine au3 (n := ?_); clear hS; intro gb w1 hS) | (refine au4 (n := ?_); clear hS; intro v1 w' hS) | ((with_reducible refine wl_guard ?_); refine stop_mem rfl rfl ?_)))
            exact end_cell3 hS rfl rfl rfl rfl rfl rfl rfl (h := ⟨by rw [HR.out]; rfl, hS.nil⟩)
end
end Go.Proofs.Ytnjboimjlbgdiaa
