/-
  Slots: the program reads stubs.
-/
import Derived.Test.YtnjboimjlbgdiaaSlot3
set_option linter.unusedSimpArgs false
set_option linter.unusedVariables false
set_option linter.unusedSectionVars false
set_option maxRecDepth 100000
namespace Go.Proofs.Ytnjboimjlbgdiaa
open Go.RowKit Go.Cmp
set_option maxRecDepth 100000

section
variable {S : List Nat} {w0 w : World} {M : List Ent}
def narr (L : List Nat) (i : Nat) : List Value := (L.take i ++ List.replicate (5 - i) 0).map (fun (n : Nat) => .int .u64 (n : Int))
theorem narr_set {a b c d e : Nat} {i : Nat} (hi : i < 5) : (narr [a, b, c, d, e] i).set i (.int .u64 (nth [a, b, c, d, e] i : Nat)) = narr [a, b, c, d, e] (i + 1) ∧ i < (narr [a, b, c, d, e] i).length := by
  match i, hi with
  | 0, _ => exact ⟨rfl, by simp [narr]⟩
  | 1, _ => exact ⟨rfl, by simp [narr]⟩
  | 2, _ => exact ⟨rfl, by simp [narr]⟩
  | 3, _ => exact ⟨rfl, by simp [narr]⟩
  | 4, _ => exact ⟨rfl, by simp [narr]⟩
set_option maxHeartbeats 16000000 in
theorem slotStub_any (p : List UInt8) (hl : p.length ≤ 1000000) (w : World) :
    Calls Try.prog 40 #[.string ⟨p.toArray⟩] w fun x w' => x = .returned (.tuple #[.agg (stbP p).1.cells.toArray, .bool (stbP p).2.1, .bool (stbP p).2.2]) ∧ St [] w w' [] := by
  have hS := St.init w
  have HO := Lib.hid (fun w => open_any p hl w)
  have hol := openS_len p
  have hX : stbP p = if (openS p).2 = false then (zeroB, false, false) else if (openS p).1 = [] then (zeroB, false, true) else if (openS p).1.length ≠ 40 then (zeroB, false, false) else if (stubO (openS p).1).right = false then (zeroB, false, false) else (stubO (openS p).1, true, true) := rfl
  generalize stbP p = R at hX ⊢
  generalize openS p = O at hX HO hol
  obtain ⟨b, ok⟩ := O
  simp only at hX HO hol
  cases ok
  · have HR : Hid (R = (zeroB, false, false)) := Lib.hid (by rw [hX, if_pos rfl])
    clear hX
    (go_enter Try.func40, Try.ntmps40)
    go_wp2_with (first | (go_at_call 52; refine (HO.out _).mono ?_; rintro e w' ⟨rfl, h⟩; replace hS := hS.call h; clear h) | (first | refine au1 (n := ?_) | (refine au2 (n := ?_); clear hS; intro w' hS) | (refine au3 (n := ?_); clear hS; intro gb w1 hS) | (refine au4 (n := ?_); clear hS; intro v1 w' hS) | ((with_reducible refine wl_guard ?_); refine stop_mem rfl rfl ?_)))
    exact end_cell3 hS rfl rfl rfl rfl rfl rfl rfl (h := ⟨by rw [HR.out]; rfl, hS.nil⟩)
  rw [if_neg (by decide)] at hX
  by_cases hb : b = []
  · subst hb
    have HR : Hid (R = (zeroB, false, true)) := Lib.hid (by rw [hX, if_pos rfl])
    clear hX
    (go_enter Try.func40, Try.ntmps40)
    go_wp2_with (first | (go_at_call 52; refine (HO.out _).mono ?_; rintro e w' ⟨rfl, h⟩; replace hS := hS.call h; clear h) | (first | refine au1 (n := ?_) | (refine au2 (n := ?_); clear hS; intro w' hS) | (refine au3 (n := ?_); clear hS; intro gb w1 hS) | (refine au4 (n := ?_); clear hS; intro v1 w' hS) | ((with_reducible refine wl_guard ?_); refine stop_mem rfl rfl ?_)))
    exact end_cell3 hS rfl rfl rfl rfl rfl rfl rfl (h := ⟨by rw [HR.out]; rfl, hS.nil⟩)
  rw [if_neg hb] at hX
  have hb1 : (b == []) = false := by rw [beq_eq_false_iff_ne]; exact hb
  by_cases h40 : b.length ≠ 40
  · have HR : Hid (R = (zeroB, false, false)) := Lib.hid (by rw [hX, if_pos h40])
    have h41 : ¬ (b.length : Int) = 40 := by omega
    clear hX
    (go_enter Try.func40, Try.ntmps40)
    go_wp2_with (first | (go_at_call 52; refine (HO.out _).mono ?_; rintro e w' ⟨rfl, h⟩; replace hS := hS.call h; clear h) | (first | refine au1 (n := ?_) | (refine au2 (n := ?_); clear hS; intro w' hS) | (refine au3 (n := ?_); clear hS; intro gb w1 hS) | (refine au4 (n := ?_); clear hS; intro v1 w' hS) | ((with_reducible refine wl_guard ?_); refine stop_mem rfl rfl ?_)))
    exact end_cell3 hS rfl rfl rfl rfl rfl rfl rfl (h := ⟨by rw [HR.out]; rfl, hS.nil⟩)
  rw [if_neg h40] at hX
  have h40 : b.length = 40 := by omega
  have h41 : (b.length : Int) = 40 := by omega
  have hnn : ∀ i, i < 5 → nth [num8 b 0, num8 b 8, num8 b 16, num8 b 24, num8 b 32] i = num8 b (8 * i) := fun i hi => by
    match i, hi with
    | 0, _ => rfl
    | 1, _ => rfl
    | 2, _ => rfl
    | 3, _ => rfl
    | 4, _ => rfl
  have hst : ∀ i, i < 5 → _ := fun i hi => narr_set (a := num8 b 0) (b := num8 b 8) (c := num8 b 16) (d := num8 b 24) (e := num8 b 32) hi
  have HTI : Hid (∀ (W : World) (v : Value) (M : List Ent) (i : Nat) (hi : i < 5) (hS : St [] w W M) (hR : Rd W 1 v b.length (b.flatMap byt)), Calls Try.prog 59 #[v, .int .i64 (8 * (i : Int)), .int .i64 8] W fun e w' => e = .returned (.tuple #[.int .u64 (nth [num8 b 0, num8 b 8, num8 b 16, num8 b 24, num8 b 32] i : Nat), .int .i64 0]) ∧ St [] w w' M) := Lib.hid (fun W v M i hi hS hR => by
    have h := num_take (w := W) (v := v) (l := b) hS (8 * i) 8 (by omega) (by omega) (by omega) hR
    rw [takeN_8 (by omega)] at h
    rw [show (8 * (i : Int)) = ((8 * i : Nat) : Int) by omega, hnn i hi]
    exact h)
  have HST := Lib.hid hst
  clear hst hnn
  have HRT := Lib.hid (fun w => slotRight_any (stubO b) w)
  have hcl : (stubO b).cells = [.int .i64 (int8 b 0), .int .i64 (int8 b 8), .int .i64 (int8 b 16), .int .u64 (num8 b 24), .int .u64 (num8 b 32)] := rfl
  have hw : ∀ i, wrap64 (num8 b i : Nat) = int8 b i := fun i => by have := num8_lt b i; unfold int8; rw [IntKind.wrap_i64]; unfold wrap64; omega
  have HW0 := Lib.hid (hw 0)
  have HW8 := Lib.hid (hw 8)
  have HW16 := Lib.hid (hw 16)
  clear hw
  generalize int8 b 0 = i0 at HW0 hcl
  generalize int8 b 8 = i8 at HW8 hcl
  generalize int8 b 16 = i16 at HW16 hcl
  generalize num8 b 0 = q0 at HST HTI HW0
  generalize num8 b 8 = q8 at HST HTI HW8
  generalize num8 b 16 = q16 at HST HTI HW16
  generalize num8 b 24 = q24 at HST HTI hcl
  generalize num8 b 32 = q32 at HST HTI hcl
  generalize hs : stubO b = s at hX HRT hcl
  rw [hcl] at HRT
  have HC := Lib.hid hcl
  clear hcl hs
  have hRb : Hid (R = if s.right = false then (zeroB, false, false) else (s, true, true)) := Lib.hid hX
  clear hX
  (go_enter Try.func40, Try.ntmps40)
  go_wp2_with (first | ((with_reducible refine g_alloc ?_); refine wl_of rfl ?_; refine wp_alloc hS rfl rfl rfl rfl ?_; clear hS; intro gr w1 hS) | (first | refine au1 (n := ?_) | (refine au2 (n := ?_); clear hS; intro w' hS) | (refine au3 (n := ?_); clear hS; intro gb w1 hS) | (refine au4 (n := ?_); clear hS; intro v1 w' hS) | ((with_reducible refine wl_guard ?_); refine stop_mem rfl rfl ?_)))
  refine (HO.out _).mono ?_
  rintro e w' ⟨rfl, h⟩
  replace hS := hS.call h
  clear h
  go_wp2_with (first | ((with_reducible refine g_alloc ?_); refine wl_of rfl ?_; refine wp_alloc hS rfl rfl rfl rfl ?_; clear hS; intro gn w1 hS) | (first | refine au1 (n := ?_) | (refine au2 (n := ?_); clear hS; intro w' hS) | (refine au3 (n := ?_); clear hS; intro gb w1 hS) | (refine au4 (n := ?_); clear hS; intro v1 w' hS) | ((with_reducible refine wl_guard ?_); refine stop_mem rfl rfl ?_)))
  replace hS : St [] w _ [.row gn (narr [q0, q8, q16, q24, q32] 0) 105 (0, 0), .row gr [.int .i64 0, .int .i64 0, .int .i64 0, .int .u64 0, .int .u64 0] 35 (0, 0)] := hS
  go_loopw [27] (fun k wz => ∃ i : Nat, i ≤ 5 ∧ k = .int .i64 i ∧ St [] w wz [.row gn (narr [q0, q8, q16, q24, q32] i) 105 (0, 0), .row gr [.int .i64 0, .int .i64 0, .int .i64 0, .int .u64 0, .int .u64 0] 35 (0, 0)]) (fun k _ => 5 - (intOf k).toNat)
  case atStart => exact ⟨0, by omega, rfl, hS⟩
  case round =>
    clear hS
    obtain ⟨i, hi, rfl, hS⟩ := hrel
    by_cases hi5 : i < 5
    · have hi51 : (i : Int) < 5 := by omega
      have HST2 := Lib.hid (HST.out i hi5)
      have HTX := Lib.hid (fun W v M => HTI.out W v M i hi5)
      obtain ⟨q, hq⟩ : ∃ q, nth [q0, q8, q16, q24, q32] i = q := ⟨_, rfl⟩
      rw [hq] at HST2 HTX
      obtain ⟨R1, hR1⟩ : ∃ R, narr [q0, q8, q16, q24, q32] i = R := ⟨_, rfl⟩
      obtain ⟨R2, hR2⟩ : ∃ R, narr [q0, q8, q16, q24, q32] (i + 1) = R := ⟨_, rfl⟩
      rw [hR1, hR2] at HST2
      have HR2 := Lib.hid hR2
      rw [hR1] at hS
      clear hq hR1 hR2
      go_wp2_with (first | ((with_reducible refine g_conv ?_); refine wl_of rfl ?_; refine a_toBytes hS rfl rfl rfl rfl rfl (show b.length ≤ maxLen by unfold maxLen; omega) ?_; clear hS; intro v1 w1 hS) | (first | refine au1 (n := ?_) | (refine au2 (n := ?_); clear hS; intro w' hS) | (refine au3 (n := ?_); clear hS; intro gb w1 hS) | (refine au4 (n := ?_); clear hS; intro v1 w' hS) | ((with_reducible refine wl_guard ?_); refine stop_mem rfl rfl ?_)))
      refine (HTX.out _ _ _ hS (hS.rdx (by (repeat (first | exact Ix.here | apply Ix.there))))).mono ?_
      clear hS
      rintro e w' ⟨rfl, hS⟩
      go_wp2_with (first | ((with_reducible refine g_index ?_); refine wl_run rfl (v := .pointer (some ⟨gn, 0 + (i : Int).toNat, none⟩)) (a_arr (g := gn) (off := 0) (j := (i : Int)) (n := 5) rfl rfl rfl rfl rfl (by omega) (by omega)) ?_; simp only [Int.toNat_natCast, Nat.zero_add]) | ((with_reducible refine g_store ?_); fail) | (first | refine au1 (n := ?_) | (refine au2 (n := ?_); clear hS; intro w' hS) | (refine au3 (n := ?_); clear hS; intro gb w1 hS) | (refine au4 (n := ?_); clear hS; intro v1 w' hS) | ((with_reducible refine wl_guard ?_); refine stop_mem rfl rfl ?_)))
      unfold Stop
      refine wl_of rfl ?_
      refine k_st1 (v := .int .u64 (q : Int)) (cs' := R2) hS rfl (by rfl) (by rfl) (hoff := HST2.out.2) (hcs := HST2.out.1) (h := ?_)
      clear hS
      intro w' hS
      go_wp2_with (fail)
      exact ⟨⟨i + 1, by omega, by simp, by rw [HR2.out]; exact hS.pick⟩, by simp [intOf]; omega⟩
    · obtain rfl : i = 5 := by omega
      replace hS : St [] w _ [.row gn [.int .u64 (q0 : Int), .int .u64 (q8 : Int), .int .u64 (q16 : Int), .int .u64 (q24 : Int), .int .u64 (q32 : Int)] 105 (0, 0), .row gr [.int .i64 0, .int .i64 0, .int .i64 0, .int .u64 0, .int .u64 0] 35 (0, 0)] := hS
      clear HTI HST
      have hx := hRb.out
      clear hRb
      cases hr : s.right
      · have HR : Hid (R = (zeroB, false, false)) := Lib.hid (by rw [hx, if_pos hr])
        rw [hr] at HRT
        clear hx hr
        go_wp2_with (first | ((with_reducible refine g_index ?_); first | (refine wl_run rfl (a_arr (j := 0) (n := 5) rfl rfl rfl rfl rfl (by omega) (by omega)) ?_) | (refine wl_run rfl (a_arr (j := 1) (n := 5) rfl rfl rfl rfl rfl (by omega) (by omega)) ?_) | (refine wl_run rfl (a_arr (j := 2) (n := 5) rfl rfl rfl rfl rfl (by omega) (by omega)) ?_) | (refine wl_run rfl (a_arr (j := 3) (n := 5) rfl rfl rfl rfl rfl (by omega) (by omega)) ?_) | (refine wl_run rfl (a_arr (j := 4) (n := 5) rfl rfl rfl rfl rfl (by omega) (by omega)) ?_)) | (first | refine au1 (n := ?_) | (refine au2 (n := ?_); clear hS; intro w' hS) | (refine au3 (n := ?_); clear hS; intro gb w1 hS) | (refine au4 (n := ?_); clear hS; intro v1 w' hS) | ((with_reducible refine wl_guard ?_); refine stop_mem rfl rfl ?_)))
        simp only [HW0.out, HW8.out, HW16.out] at hS ⊢
        refine (HRT.out _).mono ?_
        rintro e w' ⟨rfl, h⟩
        replace hS := hS.call h
        clear h
        go_wp2_with (first | refine au1 (n := ?_) | (refine au2 (n := ?_); clear hS; intro w' hS) | (refine au3 (n := ?_); clear hS; intro gb w1 hS) | (refine au4 (n := ?_); clear hS; intro v1 w' hS) | ((with_reducible refine wl_guard ?_); refine stop_mem rfl rfl ?_))
        exact end_cell3 hS rfl rfl rfl rfl rfl rfl rfl (h := ⟨by rw [HR.out]; rfl, hS.nil⟩)
      · have HR : Hid (R = (s, true, true)) := Lib.hid (by rw [hx, if_neg (by simp [hr])])
        rw [hr] at HRT
        clear hx hr
        go_wp2_with (first | ((with_reducible refine g_index ?_); first | (refine wl_run rfl (a_arr (j := 0) (n := 5) rfl rfl rfl rfl rfl (by omega) (by omega)) ?_) | (refine wl_run rfl (a_arr (j := 1) (n := 5) rfl rfl rfl rfl rfl (by omega) (by omega)) ?_) | (refine wl_run rfl (a_arr (j := 2) (n := 5) rfl rfl rfl rfl rfl (by omega) (by omega)) ?_) | (refine wl_run rfl (a_arr (j := 3) (n := 5) rfl rfl rfl rfl rfl (by omega) (by omega)) ?_) | (refine wl_run rfl (a_arr (j := 4) (n := 5) rfl rfl rfl rfl rfl (by omega) (by omega)) ?_)) | (first | refine au1 (n := ?_) | (refine au2 (n := ?_); clear hS; intro w' hS) | (refine au3 (n := ?_); clear hS; intro gb w1 hS) | (refine au4 (n := ?_); clear hS; intro v1 w' hS) | ((with_reducible refine wl_guard ?_); refine stop_mem rfl rfl ?_)))
        simp only [HW0.out, HW8.out, HW16.out] at hS ⊢
        refine (HRT.out _).mono ?_
        rintro e w' ⟨rfl, h⟩
        replace hS := hS.call h
        clear h
        go_wp2_with (first | refine au1 (n := ?_) | (refine au2 (n := ?_); clear hS; intro w' hS) | (refine au3 (n := ?_); clear hS; intro gb w1 hS) | (refine au4 (n := ?_); clear hS; intro v1 w' hS) | ((with_reducible refine wl_guard ?_); refine stop_mem rfl rfl ?_))
        exact end_cell3 hS rfl rfl rfl rfl rfl rfl rfl (h := ⟨by rw [HR.out, HC.out]; rfl, hS.nil⟩)
end
end Go.Proofs.Ytnjboimjlbgdiaa
