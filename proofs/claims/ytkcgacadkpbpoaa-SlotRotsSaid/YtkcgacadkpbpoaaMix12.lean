/-
  Two texts mixed: the document's.
-/
import Derived.Test.YtkcgacadkpbpoaaHead3
set_option linter.unusedSimpArgs false
set_option linter.unusedVariables false
set_option linter.unusedSectionVars false
set_option maxRecDepth 100000
namespace Go.Proofs.Ytkcgacadkpbpoaa
open Go.RowKit Go.Cmp

section
def mixB (a b : List UInt8) (c : Nat) : List UInt8 := a.take c ++ b.drop c
theorem mixB_len {a b : List UInt8} {c : Nat} (ha : a.length = 384) (hb : b.length = 384) (hc : c ≤ 384) : (mixB a b c).length = 384 := by unfold mixB; simp; omega
theorem mixB_nth {a b : List UInt8} {c j : Nat} (ha : a.length = 384) (hb : b.length = 384) (hc : c ≤ 384) (hj : j < 384) : nth (mixB a b c) j = if j < c then nth a j else nth b j := by
  apply nth_eq
  unfold mixB
  rw [List.getElem?_append]
  simp only [List.length_take, ha, Nat.min_eq_left hc]
  split
  · rw [List.getElem?_take_of_lt (by assumption), get_lt (by omega)]
  · rw [List.getElem?_drop, show c + (j - c) = j by omega, get_lt (by omega)]
set_option maxRecDepth 100000 in
set_option maxHeartbeats 2000000 in
theorem ref_mix (a b : List UInt8) (c : Nat) (w : World) (ha : a.length = 384) (hb : b.length = 384) (hc : c ≤ 384) :
    Calls Try.prog 27 #[.string ⟨a.toArray⟩, .string ⟨b.toArray⟩, .int .i64 c] w fun e w' => e = .returned (.string ⟨(mixB a b c).toArray⟩) ∧ St [] w w' [] := by
  have hN : ∀ j, j < 384 → nth (mixB a b c) j = if j < c then nth a j else nth b j := fun j hj => mixB_nth ha hb hc hj
  have HN := Lib.hid hN
  have HL := Lib.hid (mixB_len ha hb hc)
  have ha' : (a.length : Int) = 384 := by omega
  have hb' : (b.length : Int) = 384 := by omega
  obtain ⟨m, hm⟩ : ∃ m, mixB a b c = m := ⟨_, rfl⟩
  rw [hm] at HN HL ⊢
  clear hN hm ha hb
  have hS := St.init w
  (go_enter Try.func27, Try.ntmps27)
  go_wp2_with (first | ((with_reducible refine g_bs ?_); refine wl_of rfl ?_; refine a_build0 hS rfl rfl (by rfl) ?_; clear hS; intro v1 w' hS) | (first | refine au1 (n := ?_) | (refine au2 (n := ?_); clear hS; intro w' hS) | (refine au3 (n := ?_); clear hS; intro gb w1 hS) | (refine au4 (n := ?_); clear hS; intro v1 w' hS) | ((with_reducible refine wl_guard ?_); refine stop_mem rfl rfl ?_)))
  go_loopw [7, 8] (fun v i wr => ∃ j : Nat, j ≤ 384 ∧ i = .int .i64 j ∧ St [] w wr [.vec v 5 1 (m.take j).length ((m.take j).flatMap byt)]) (fun _ i _ => 384 - (intOf i).toNat)
  case atStart => exact ⟨0, Nat.zero_le _, rfl, hS⟩
  case round =>
    clear hS
    obtain ⟨j, hj, rfl, hS⟩ := hrel
    have hml : (m.take j).length ≤ 384 := by rw [List.length_take]; omega
    by_cases hlt : j < 384
    · have e := take_nth (l := m) (j := j) (by rw [HL.out]; exact hlt)
      rw [HN.out j hlt] at e
      by_cases hjc : j < c
      · rw [if_pos hjc] at e
        have E := Lib.hid e
        have hjl : j < a.length := by omega
        clear e
        go_wp2_with (first | ((with_reducible refine g_append ?_); refine wl_of rfl ?_; refine k_app (z := nth a j) hS rfl rfl rfl rfl (h1 := by simp [byt, Value.oneCell']) (h := ?_); clear hS; intro v2 w' hS hv2) | (first | refine au1 (n := ?_) | (refine au2 (n := ?_); clear hS; intro w' hS) | (refine au3 (n := ?_); clear hS; intro gb w1 hS) | (refine au4 (n := ?_); clear hS; intro v1 w' hS) | ((with_reducible refine wl_guard ?_); refine stop_mem rfl rfl ?_)))
        go_round
        case rel => exact ⟨j + 1, by omega, by go_num, by rw [E.out]; exact hS.sel (by (repeat (first | exact Sel.refl | exact Sel.nil | refine Sel.cons (by (repeat (first | exact Out.here | apply Out.there))) ?_ | refine Sel.drop ?_)))⟩
        case measure => simp [intOf]; omega
      · rw [if_neg hjc] at e
        have E := Lib.hid e
        have hjl : j < b.length := by omega
        clear e
        go_wp2_with (first | ((with_reducible refine g_append ?_); refine wl_of rfl ?_; refine k_app (z := nth b j) hS rfl rfl rfl rfl (h1 := by simp [byt, Value.oneCell']) (h := ?_); clear hS; intro v2 w' hS hv2) | (first | refine au1 (n := ?_) | (refine au2 (n := ?_); clear hS; intro w' hS) | (refine au3 (n := ?_); clear hS; intro gb w1 hS) | (refine au4 (n := ?_); clear hS; intro v1 w' hS) | ((with_reducible refine wl_guard ?_); refine stop_mem rfl rfl ?_)))
        go_round
        case rel => exact ⟨j + 1, by omega, by go_num, by rw [E.out]; exact hS.sel (by (repeat (first | exact Sel.refl | exact Sel.nil | refine Sel.cons (by (repeat (first | exact Out.here | apply Out.there))) ?_ | refine Sel.drop ?_)))⟩
        case measure => simp [intOf]; omega
    · obtain rfl : j = 384 := by omega
      have e : m.take 384 = m := List.take_of_length_le (by rw [HL.out]; exact Nat.le_refl _)
      rw [e] at hS
      clear e
      go_wp2_with (first | refine au1 (n := ?_) | (refine au2 (n := ?_); clear hS; intro w' hS) | (refine au3 (n := ?_); clear hS; intro gb w1 hS) | (refine au4 (n := ?_); clear hS; intro v1 w' hS) | ((with_reducible refine wl_guard ?_); refine stop_mem rfl rfl ?_))
      go_ret
      exact ⟨rfl, hS.nil⟩

theorem mixB_same (a : List UInt8) (c : Nat) : mixB a a c = a := List.take_append_drop c a
end
end Go.Proofs.Ytkcgacadkpbpoaa
