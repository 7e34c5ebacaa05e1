/-
  A client's session, out of all.
-/
import Derived.Test.YtjjiibcnknljfaaMac5
set_option linter.unusedSimpArgs false
set_option linter.unusedVariables false
set_option linter.unusedSectionVars false
set_option maxRecDepth 100000
namespace Go.Proofs.Ytjjiibcnknljfaa
open Go.RowKit Go.Cmp

section
variable {S : List Nat} {w0 w : World} {M : List Ent} {g : Nat} {m : Mac}
set_option maxHeartbeats 8000000 in
theorem session10_any (hS : St S w0 w (mach g m :: M)) (hl : m.T.length ≤ 3) (c : Int) :
    Calls Try.prog 10 #[.pointer (some ⟨g, 0, none⟩), .int .i64 c] w fun e w' => e = .returned (.tuple #[.agg (sLook m.T c).1.cells.toArray, .bool (sLook m.T c).2]) ∧ St S w0 w' (mach g m :: M) := by
  have HL := Lib.hid (fun (S : List Nat) (w0 w : World) (M : List Ent) (hS : St S w0 w (mach g m :: M)) => mach_sessions hS hl)
  have hT : ∃ T, m.T = T := ⟨_, rfl⟩
  obtain ⟨T, hT⟩ := hT
  rw [hT] at HL hl ⊢
  clear hT
  have hr := idx_range (p := fun s : Ses => decide (s.client = c)) T
  have HH : Hid (∀ j, j < T.length → (∀ i, i < j → (nth T i).client ≠ c) → (nth T j).client = c → sLook T c = (nth T j, true)) := Lib.hid (fun j hj hn hc => by
    have e : whose c T = j := idx_first hj (by simp [hc]) (fun i hi => by simpa using hn i hi)
    unfold sLook
    rw [if_neg (by omega), e, Int.toNat_natCast])
  have HNN : Hid ((∀ i, i < T.length → (nth T i).client ≠ c) → sLook T c = (zSes, false)) := Lib.hid (fun hn => by
    have e : whose c T = -1 := idx_none (fun x hx => by
      obtain ⟨i, hi, rfl⟩ := mem_nth' hx
      simpa using hn i hi)
    unfold sLook
    rw [if_pos (by omega)])
  clear hr
  generalize sLook T c = Y at HH HNN ⊢
  (go_enter Try.func10, Try.ntmps10)
  go_wp2_with (first | (go_at_call 16; refine (HL.out _ _ _ _ (hS.out (by (repeat (first | exact Out.here | apply Out.there))))).mono ?_; clear hS; rintro e w' ⟨u, rfl, hS⟩) | ((with_reducible refine g_alloc ?_); refine wl_of rfl ?_; refine wp_alloc hS rfl rfl rfl rfl ?_; clear hS; intro gr w1 hS) | (first | refine au1 (n := ?_) | (refine au2 (n := ?_); clear hS; intro w' hS) | (refine au3 (n := ?_); clear hS; intro gb w1 hS) | (refine au4 (n := ?_); clear hS; intro v1 w' hS) | ((with_reducible refine wl_guard ?_); refine stop_mem rfl rfl ?_)))
  go_loopw [7] (fun i wr => ∃ j : Nat, j ≤ T.length ∧ i = .int .i64 j ∧ Hid (∀ i, i < j → (nth T i).client ≠ c) ∧ St S w0 wr (.vec u 38 5 T.length (T.flatMap Ses.cells) :: .row gr [.int .i64 0, .int .i64 0, .int .i64 0, .int .i64 0, .string ⟨#[]⟩] 38 (0, 0) :: mach g m :: M)) (fun i _ => (T.length - intOf i).toNat)
  case atStart => exact ⟨0, by omega, rfl, Lib.hid (by omega), hS.pick⟩
  case round =>
    clear hS
    obtain ⟨j, hj, rfl, HJ, hS⟩ := hrel
    by_cases hlt : j < T.length
    · have hlt1 : (j : Int) < T.length := by omega
      have hget := get_lt (L := T) hlt
      have HH2 := Lib.hid (HH.out j hlt HJ.out)
      obtain ⟨x, hX⟩ : ∃ X, nth T j = X := ⟨_, rfl⟩
      have HX := Lib.hid hX
      rw [hX] at hget HH2
      clear hX
      obtain ⟨x1, x2, x3, x4, x5⟩ := x
      by_cases hc : x1 = c
      · subst hc
        have hY := HH2.out rfl
        subst hY
        clear HH HNN HH2 HX HJ
        go_wp2_with (first | refine au1 (n := ?_) | (refine au2 (n := ?_); clear hS; intro w' hS) | (refine au3 (n := ?_); clear hS; intro gb w1 hS) | (refine au4 (n := ?_); clear hS; intro v1 w' hS) | ((with_reducible refine wl_guard ?_); refine stop_mem rfl rfl ?_))
        exact end_cell2 hS rfl rfl rfl rfl rfl rfl (h := ⟨rfl, hS.pick⟩)
      · clear HH HNN HH2
        go_wp2_with (first | refine au1 (n := ?_) | (refine au2 (n := ?_); clear hS; intro w' hS) | (refine au3 (n := ?_); clear hS; intro gb w1 hS) | (refine au4 (n := ?_); clear hS; intro v1 w' hS) | ((with_reducible refine wl_guard ?_); refine stop_mem rfl rfl ?_))
        refine ⟨⟨j + 1, by omega, by go_num, Lib.hid (fun i hi => ?_), hS.pick⟩, by simp [intOf]; omega⟩
        by_cases hij : i < j
        · exact HJ.out i hij
        · obtain rfl : i = j := by omega
          rw [HX.out]
          exact hc
    · obtain rfl : j = T.length := by omega
      have hY := HNN.out HJ.out
      subst hY
      clear HH HNN HJ
      go_wp2_with (first | refine au1 (n := ?_) | (refine au2 (n := ?_); clear hS; intro w' hS) | (refine au3 (n := ?_); clear hS; intro gb w1 hS) | (refine au4 (n := ?_); clear hS; intro v1 w' hS) | ((with_reducible refine wl_guard ?_); refine stop_mem rfl rfl ?_))
      exact end_cell2 hS rfl rfl rfl rfl rfl rfl (h := ⟨rfl, hS.pick⟩)
end
end Go.Proofs.Ytjjiibcnknljfaa
