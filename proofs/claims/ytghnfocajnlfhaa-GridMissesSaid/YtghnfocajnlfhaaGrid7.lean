/-
  Texts in blocks: lists of numbers compared; the law's text.
-/
import Derived.Test.YtghnfocajnlfhaaGrid6
set_option linter.unusedSimpArgs false
set_option linter.unusedVariables false
set_option linter.unusedSectionVars false
set_option maxRecDepth 100000
namespace Go.Cmp
open Go.RowKit
theorem textN_take {c n j : Nat} (h : j < n) : textN c (j + 1) = textN c j ++ [UInt8.ofNat (c + j / 7)] := by simp [textN, List.range_succ]
/-- j bytes are laid, the others are noughts. -/
def textTo (c n j : Nat) : List UInt8 := textN c j ++ List.replicate (n - j) 0
theorem textTo_len {c n j : Nat} (h : j ≤ n) : (textTo c n j).length = n := by simp [textTo, textN_len]; omega
theorem textTo_set {c n j : Nat} (h : j < n) : (textTo c n j).set j (UInt8.ofNat (c + j / 7)) = textTo c n (j + 1) := by
  unfold textTo
  rw [List.set_append_right _ _ (by rw [textN_len]; exact Nat.le_refl j), textN_len, Nat.sub_self, textN_take h, show n - j = (n - (j + 1)) + 1 by omega, List.replicate_succ, List.set_cons_zero]
  simp
end Go.Cmp
namespace Go.Proofs.Ytghnfocajnlfhaa
open Go.RowKit Go.Cmp

section
variable {S : List Nat} {w0 w : World} {M : List Ent} {g : Nat} {D : Dsk}
set_option maxHeartbeats 4000000 in
theorem same14_any {va vb : Value} {A B : List Nat} (hS : St S w0 w (.vec va 3 1 A.length (A.flatMap natI) :: .vec vb 3 1 B.length (B.flatMap natI) :: M)) (hA : A.length ≤ 1000000) (hB : B.length ≤ 1000000) :
    Calls Try.prog 13 #[va, vb] w fun e w' => e = .returned (.bool (decide (A = B))) ∧ St S w0 w' (.vec va 3 1 A.length (A.flatMap natI) :: .vec vb 3 1 B.length (B.flatMap natI) :: M) := by
  obtain ⟨ans, hans⟩ : ∃ b, decide (A = B) = b := ⟨_, rfl⟩
  rw [hans]
  have HANS := Lib.hid hans
  clear hans
  by_cases hl : A.length = B.length
  · have hlen : ((A.length : Int) != (B.length : Int)) = false := by rw [hl]; simp
    have HL := Lib.hid hl
    clear hl
    (go_enter Try.func13, Try.ntmps13)
    go_wp2_with (first | go_skip | ((with_reducible refine g_len ?_); refine wl_run rfl (by exact a_len rfl rfl rfl (hS.rdx (by (repeat (first | exact Ix.here | apply Ix.there))))) ?_) | fail)
    go_loopw [5] (fun k wz => ∃ i : Nat, i ≤ A.length ∧ k = .int .i64 i ∧ Hid (A.take i = B.take i) ∧ St S w0 wz (.vec va 3 1 A.length (A.flatMap natI) :: .vec vb 3 1 B.length (B.flatMap natI) :: M)) (fun k _ => A.length - (intOf k).toNat)
    case atStart => exact ⟨0, by omega, rfl, Lib.hid (by simp), hS⟩
    case round =>
      clear hS
      obtain ⟨i, hi, rfl, HT, hS⟩ := hrel
      have hiB : i ≤ B.length := by rw [← HL.out]; exact hi
      by_cases hil : i < A.length
      · have hil1 : (i : Int) < A.length := by omega
        have hil2 : (i : Int) < B.length := by rw [← HL.out]; omega
        have hga := get_lt hil
        have hgb := get_lt (L := B) (show i < B.length by omega)
        have hta := take_nth hil
        have htb := take_nth (l := B) (show i < B.length by omega)
        have hno : nth A i ≠ nth B i → A ≠ B := fun h e => h (by rw [e])
        generalize nth A i = x at hga hta hno
        generalize nth B i = y at hgb htb hno
        by_cases hxy : x = y
        · have HN : Hid (A.take (i + 1) = B.take (i + 1)) := Lib.hid (by rw [hta, htb, HT.out, hxy])
          have hne : ((x : Int) != (y : Int)) = false := by rw [hxy]; simp
          clear hta htb hno hxy
          go_wp2_with (first | go_skip | ((with_reducible refine g_len ?_); refine wl_run rfl (by exact a_len rfl rfl rfl (hS.rdx (by (repeat (first | exact Ix.here | apply Ix.there))))) ?_) | fail)
          refine region_calm (by kernel_rfl) (by kernel_rfl) hS ?_
          iterate 2 (refine Calm.pure rfl (h := ?_); simp only [Act.put, List.setIfInBounds_toArray, List.set_cons_zero, List.set_cons_succ])
          (refine Calm.run rfl (fun W hW => by exact a_index rfl rfl rfl rfl (hW.rdx (by (repeat (first | exact Ix.here | apply Ix.there)))) (by rfl) (by omega) (by omega)) ?_; simp only [Act.put, List.setIfInBounds_toArray, List.set_cons_zero, List.set_cons_succ])
          (refine Calm.run rfl (fun W hW => by exact a_loadE (L := A) (f := natI) rfl (hW.rdx (by (repeat (first | exact Ix.here | apply Ix.there)))) rfl rfl rfl (by intro _; rfl) hga (by rfl)) ?_; simp only [Act.put, List.setIfInBounds_toArray, List.set_cons_zero, List.set_cons_succ])
          iterate 2 (refine Calm.pure rfl (h := ?_); simp only [Act.put, List.setIfInBounds_toArray, List.set_cons_zero, List.set_cons_succ])
          (refine Calm.run rfl (fun W hW => by exact a_index rfl rfl rfl rfl (hW.rdx (by (repeat (first | exact Ix.here | apply Ix.there)))) (by rfl) (by omega) (by omega)) ?_; simp only [Act.put, List.setIfInBounds_toArray, List.set_cons_zero, List.set_cons_succ])
          (refine Calm.run rfl (fun W hW => by exact a_loadE (L := B) (f := natI) rfl (hW.rdx (by (repeat (first | exact Ix.here | apply Ix.there)))) rfl rfl rfl (by intro _; rfl) hgb (by rfl)) ?_; simp only [Act.put, List.setIfInBounds_toArray, List.set_cons_zero, List.set_cons_succ])
          (refine Calm.run (v := .bool false) rfl (fun W hW => by (go_simp; try simp [hne])) ?_; simp only [Act.put, List.setIfInBounds_toArray, List.set_cons_zero, List.set_cons_succ])
          (refine Calm.nil ?_; clear hS; intro w8 hS)
          go_wp2_with (first | go_skip | fail | fail)
          exact ⟨⟨i + 1, by omega, by simp, HN, hS⟩, by simp [intOf]; omega⟩
        · have HE : Hid (ans = false) := Lib.hid (by rw [← HANS.out]; exact decide_eq_false (hno hxy))
          have hne : ((x : Int) != (y : Int)) = true := by simp; omega
          clear hta htb hno hxy
          go_wp2_with (first | go_skip | ((with_reducible refine g_len ?_); refine wl_run rfl (by exact a_len rfl rfl rfl (hS.rdx (by (repeat (first | exact Ix.here | apply Ix.there))))) ?_) | fail)
          refine region_calm (by kernel_rfl) (by kernel_rfl) hS ?_
          iterate 2 (refine Calm.pure rfl (h := ?_); simp only [Act.put, List.setIfInBounds_toArray, List.set_cons_zero, List.set_cons_succ])
          (refine Calm.run rfl (fun W hW => by exact a_index rfl rfl rfl rfl (hW.rdx (by (repeat (first | exact Ix.here | apply Ix.there)))) (by rfl) (by omega) (by omega)) ?_; simp only [Act.put, List.setIfInBounds_toArray, List.set_cons_zero, List.set_cons_succ])
          (refine Calm.run rfl (fun W hW => by exact a_loadE (L := A) (f := natI) rfl (hW.rdx (by (repeat (first | exact Ix.here | apply Ix.there)))) rfl rfl rfl (by intro _; rfl) hga (by rfl)) ?_; simp only [Act.put, List.setIfInBounds_toArray, List.set_cons_zero, List.set_cons_succ])
          iterate 2 (refine Calm.pure rfl (h := ?_); simp only [Act.put, List.setIfInBounds_toArray, List.set_cons_zero, List.set_cons_succ])
          (refine Calm.run rfl (fun W hW => by exact a_index rfl rfl rfl rfl (hW.rdx (by (repeat (first | exact Ix.here | apply Ix.there)))) (by rfl) (by omega) (by omega)) ?_; simp only [Act.put, List.setIfInBounds_toArray, List.set_cons_zero, List.set_cons_succ])
          (refine Calm.run rfl (fun W hW => by exact a_loadE (L := B) (f := natI) rfl (hW.rdx (by (repeat (first | exact Ix.here | apply Ix.there)))) rfl rfl rfl (by intro _; rfl) hgb (by rfl)) ?_; simp only [Act.put, List.setIfInBounds_toArray, List.set_cons_zero, List.set_cons_succ])
          (refine Calm.run (v := .bool true) rfl (fun W hW => by (go_simp; try simp [hne])) ?_; simp only [Act.put, List.setIfInBounds_toArray, List.set_cons_zero, List.set_cons_succ])
          (refine Calm.nil ?_; clear hS; intro w8 hS)
          go_wp2_with (first | go_skip | fail | fail)
          go_ret
          exact ⟨by rw [HE.out]; rfl, hS⟩
      · obtain rfl : i = A.length := by omega
        have HE : Hid (ans = true) := Lib.hid (by
          rw [← HANS.out]
          refine decide_eq_true ?_
          have h := HT.out
          rw [List.take_length, HL.out, List.take_length] at h
          exact h)
        go_wp2_with (first | go_skip | ((with_reducible refine g_len ?_); refine wl_run rfl (by exact a_len rfl rfl rfl (hS.rdx (by (repeat (first | exact Ix.here | apply Ix.there))))) ?_) | fail)
        go_ret
        exact ⟨by rw [HE.out]; rfl, hS⟩
  · have hlen : ((A.length : Int) != (B.length : Int)) = true := by simp; omega
    have HE : Hid (ans = false) := Lib.hid (by rw [← HANS.out]; exact decide_eq_false (fun e => hl (by rw [e])))
    clear hl
    (go_enter Try.func13, Try.ntmps13)
    go_wp2_with (first | go_skip | ((with_reducible refine g_len ?_); refine wl_run rfl (by exact a_len rfl rfl rfl (hS.rdx (by (repeat (first | exact Ix.here | apply Ix.there))))) ?_) | fail)
    go_ret
    exact ⟨by rw [HE.out]; rfl, hS⟩
end
end Go.Proofs.Ytghnfocajnlfhaa
