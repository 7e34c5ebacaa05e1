/-
  Slots: the program lays stubs.
-/
import Derived.Test.YtnjboimjlbgdiaaSlot1
set_option linter.unusedSimpArgs false
set_option linter.unusedVariables false
set_option linter.unusedSectionVars false
set_option maxRecDepth 100000
namespace Go.Cmp
open Go.RowKit
def u64c (n : Nat) : List Value := [.int .u64 (n : Int)]
end Go.Cmp
namespace Go.Proofs.Ytnjboimjlbgdiaa
open Go.RowKit Go.Cmp
set_option maxRecDepth 100000

section
variable {S : List Nat} {w0 w : World} {M : List Ent}
set_option maxHeartbeats 8000000 in
theorem slotHeader_any (old : List UInt8) (s : Stb) (ho : old.length ≤ 1000000) (hp : s.parent < 18446744073709551616) (hs : s.sum < 18446744073709551616) (w : World) :
    Calls Try.prog 58 #[.string ⟨old.toArray⟩, .agg s.cells.toArray] w fun x w' => x = .returned (.tuple #[.string ⟨(hdrS old s).1.toArray⟩, .int .i64 (hdrS old s).2]) ∧ St [] w w' [] := by
  have hS := St.init w
  have HR := Lib.hid (fun w => slotRight_any s w)
  cases hr : s.right
  · have ex : hdrS old s = ([], 4) := by unfold hdrS; rw [if_pos hr]
    rw [ex]
    rw [hr] at HR
    clear hr ex hp hs
    obtain ⟨so, sv, su, sp, ss⟩ := s
    simp only [Stb.cells] at HR ⊢
    (go_enter Try.func58, Try.ntmps58)
    go_wp2_with (first | (go_at_call 60; refine (HR.out _).mono ?_; rintro e w' ⟨rfl, h⟩; replace hS := hS.call h; clear h) | (first | refine au1 (n := ?_) | (refine au2 (n := ?_); clear hS; intro w' hS) | (refine au3 (n := ?_); clear hS; intro gb w1 hS) | (refine au4 (n := ?_); clear hS; intro v1 w' hS) | ((with_reducible refine wl_guard ?_); refine stop_mem rfl rfl ?_)))
    go_ret2
    exact ⟨rfl, hS.nil⟩
  · have ex : hdrS old s = sealS old (stubB s) := by unfold hdrS; rw [if_neg (by simp [hr])]
    have hbl := stubB_len s
    have HS := Lib.hid (fun w => seal_any old (stubB s) ho (by omega) w)
    rw [ex]
    rw [hr] at HR
    simp only [Stb.right, Bool.and_eq_true, decide_eq_true_eq] at hr
    obtain ⟨⟨⟨⟨a1, a2⟩, a3⟩, a4⟩, a5⟩ := hr
    obtain ⟨R, hR⟩ : ∃ R, sealS old (stubB s) = R := ⟨_, rfl⟩
    rw [hR] at HS ⊢
    clear hR ex
    obtain ⟨so, sv, su, sp, ss⟩ := s
    simp only at a1 a2 a3 a4 a5 hp hs
    have hBB : stubB ⟨so, sv, su, sp, ss⟩ = [so.toNat, sv.toNat, su.toNat, sp, ss].flatMap (leB 8) := by simp [stubB]
    obtain ⟨B, hB⟩ : ∃ B, stubB ⟨so, sv, su, sp, ss⟩ = B := ⟨_, rfl⟩
    rw [hB] at HS hbl hBB
    obtain ⟨L5, hL5⟩ : ∃ L, [so.toNat, sv.toNat, su.toNat, sp, ss] = L := ⟨_, rfl⟩
    have hvs : [Value.int .u64 so, .int .u64 sv, .int .u64 su, .int .u64 (sp : Int), .int .u64 (ss : Int)] = L5.flatMap u64c := by
      rw [← hL5]
      simp only [List.flatMap_cons, List.flatMap_nil, u64c, List.cons_append, List.nil_append]
      rw [Int.toNat_of_nonneg (by omega), Int.toNat_of_nonneg (by omega), Int.toNat_of_nonneg (by omega)]
    have hl5 : L5.length = 5 := by rw [← hL5]; rfl
    have hlt5 : ∀ i, i < 5 → nth L5 i < 18446744073709551616 := by
      rw [← hL5]
      intro i hi
      match i, hi with
      | 0, _ => show so.toNat < _; omega
      | 1, _ => show sv.toNat < _; omega
      | 2, _ => show su.toNat < _; omega
      | 3, _ => show sp < _; omega
      | 4, _ => show ss < _; omega
    rw [hL5] at hBB
    have HB := Lib.hid hBB
    have HVS := Lib.hid hvs
    have HLT := Lib.hid hlt5
    simp only [Stb.cells] at HR ⊢
    clear hBB hvs hlt5 hL5 hB
    (go_enter Try.func58, Try.ntmps58)
    go_wp2_with (first | (go_at_call 60; refine (HR.out _).mono ?_; rintro e w' ⟨rfl, h⟩; replace hS := hS.call h; clear h) | ((with_reducible refine g_bs ?_); refine wl_of rfl ?_; refine wp_buildSlice1 (vs := [.int .u64 so, .int .u64 sv, .int .u64 su, .int .u64 (sp : Int), .int .u64 (ss : Int)]) hS rfl rfl rfl rfl rfl rfl (by decide) ⟨rfl, by simp [Value.cells]⟩ ?_; clear hS; intro vu w4 hS) | ((with_reducible refine g_len ?_); refine wl_run rfl (v := .int .i64 5) (a_len rfl rfl rfl (hS.rdx (by (repeat (first | exact Ix.here | apply Ix.there))))) ?_) | (first | refine au1 (n := ?_) | (refine au2 (n := ?_); clear hS; intro w' hS) | (refine au3 (n := ?_); clear hS; intro gb w1 hS) | (refine au4 (n := ?_); clear hS; intro v1 w' hS) | ((with_reducible refine wl_guard ?_); refine stop_mem rfl rfl ?_)))
    replace hS : St [] w w4 [.vec vu 22 1 L5.length (L5.flatMap u64c)] := by rw [← HVS.out, hl5]; exact hS.pick
    go_loopw [6, 27] (fun b k wz => ∃ i : Nat, i ≤ 5 ∧ k = .int .i64 i ∧ ((i = 0 ∧ b = .slice none 0 0 ∧ St [] w wz [.vec vu 22 1 L5.length (L5.flatMap u64c)]) ∨ (0 < i ∧ St [] w wz [.vec b 5 1 ((L5.take i).flatMap (leB 8)).length (((L5.take i).flatMap (leB 8)).flatMap byt), .vec vu 22 1 L5.length (L5.flatMap u64c)]))) (fun _ k _ => 5 - (intOf k).toNat)
    case atStart => exact ⟨0, by omega, rfl, .inl ⟨rfl, rfl, hS⟩⟩
    case round =>
      clear hS
      obtain ⟨i, hi, rfl, hrel⟩ := hrel
      by_cases hi5 : i < 5
      · have hi51 : (i : Int) < 5 := by omega
        have hn := take_nth (show i < L5.length by omega)
        have hx := HLT.out i hi5
        obtain ⟨x, hxx⟩ : ∃ x, nth L5 i = x := ⟨_, rfl⟩
        rw [hxx] at hn hx
        have HX : Hid (L5[i]? = some x) := Lib.hid (by rw [← hxx]; exact get_lt (by omega))
        have hal : ((L5.take i).flatMap (leB 8)).length ≤ 40 := by rw [flatMap_leB_length, List.length_take]; omega
        have HN : Hid ((L5.take (i + 1)).flatMap (leB 8) = (L5.take i).flatMap (leB 8) ++ leB 8 x) := Lib.hid (by rw [hn, List.flatMap_append]; simp)
        clear hn hxx
        rcases hrel with ⟨rfl, rfl, hS⟩ | ⟨h0, hS⟩
        · have hx0 := HX.out
          go_wp2_with (first | ((with_reducible refine g_load ?_); refine wl_run rfl (v := .int .u64 (x : Int)) (a_loadE (L := L5) (f := u64c) rfl (hS.rdx (by (repeat (first | exact Ix.here | apply Ix.there)))) rfl rfl rfl (by intro _; rfl) hx0 (by rfl)) ?_) | (first | refine au1 (n := ?_) | (refine au2 (n := ?_); clear hS; intro w' hS) | (refine au3 (n := ?_); clear hS; intro gb w1 hS) | (refine au4 (n := ?_); clear hS; intro v1 w' hS) | ((with_reducible refine wl_guard ?_); refine stop_mem rfl rfl ?_)))
          refine (put_nil hS (x : Int) 8 (by omega) (by omega) (by omega) (by omega)).mono ?_
          clear hS
          rintro e w' ⟨va1, rfl, hS⟩
          go_wp2_with (fail)
          refine ⟨⟨1, by omega, by simp, .inr ⟨by omega, ?_⟩⟩, by simp [intOf]⟩
          have hn2 := HN.out
          simp only [List.take_zero, List.flatMap_nil, List.nil_append, Nat.zero_add] at hn2
          rw [hn2]
          simpa using hS
        · obtain ⟨A, hA⟩ : ∃ A, (L5.take i).flatMap (leB 8) = A := ⟨_, rfl⟩
          rw [hA] at hS hal HN
          have hx0 := HX.out
          clear hA
          go_wp2_with (first | ((with_reducible refine g_load ?_); refine wl_run rfl (v := .int .u64 (x : Int)) (a_loadE (L := L5) (f := u64c) rfl (hS.rdx (by (repeat (first | exact Ix.here | apply Ix.there)))) rfl rfl rfl (by intro _; rfl) hx0 (by rfl)) ?_) | (first | refine au1 (n := ?_) | (refine au2 (n := ?_); clear hS; intro w' hS) | (refine au3 (n := ?_); clear hS; intro gb w1 hS) | (refine au4 (n := ?_); clear hS; intro v1 w' hS) | ((with_reducible refine wl_guard ?_); refine stop_mem rfl rfl ?_)))
          refine (put_on (l := A) hS (x : Int) 8 (by omega) (by omega) (by omega) (by omega) (by omega)).mono ?_
          clear hS
          rintro e w' ⟨va1, rfl, hS⟩
          go_wp2_with (fail)
          refine ⟨⟨i + 1, by omega, by simp, .inr ⟨by omega, ?_⟩⟩, by simp [intOf]; omega⟩
          rw [HN.out]
          simpa using hS
      · obtain rfl : i = 5 := by omega
        rcases hrel with ⟨h0, _⟩ | ⟨_, hS⟩
        · omega
        · rw [List.take_of_length_le (by omega), ← HB.out] at hS
          go_wp2_with (first | (go_at_call 54; refine (HS.out _).mono ?_; rintro e w' ⟨rfl, h⟩; replace hS := hS.call h; clear h) | (first | refine au1 (n := ?_) | (refine au2 (n := ?_); clear hS; intro w' hS) | (refine au3 (n := ?_); clear hS; intro gb w1 hS) | (refine au4 (n := ?_); clear hS; intro v1 w' hS) | ((with_reducible refine wl_guard ?_); refine stop_mem rfl rfl ?_)))
          go_ret2
          exact ⟨rfl, hS.nil⟩
end
end Go.Proofs.Ytnjboimjlbgdiaa
