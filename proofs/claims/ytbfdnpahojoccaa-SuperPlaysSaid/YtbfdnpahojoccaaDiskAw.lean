/-
  The chapter's example; a sector of one byte; two texts mixed.
-/
import Derived.Test.YtbfdnpahojoccaaDiskA
import Derived.Test.YtbfdnpahojoccaaDiskB
set_option linter.unusedSimpArgs false
set_option linter.unusedVariables false
set_option linter.unusedSectionVars false
set_option maxRecDepth 100000
namespace Go.Proofs.Ytbfdnpahojoccaa
open Go.RowKit Go.Cmp

section
variable {S : List Nat} {w0 w : World} {M : List Ent} {g : Nat} {D : Dsk}

theorem ref_kept (pick : Int) (w : World) (h : -9223372036854775808 ≤ pick) (h2 : pick ≤ 9223372036854775807) : Calls Try.prog 54 #[.int .i64 pick] w fun e w' => e = .returned (.int .i64 (Dsk.kept pick : Int)) ∧ w' = w := by
  by_cases c0 : pick < 0
  · have e : Dsk.kept pick = 0 := by unfold Dsk.kept; rw [if_pos (.inl c0)]
    rw [e]
    (go_enter Try.func54, Try.ntmps54)
    go_wp2
    go_ret
    exact ⟨rfl, rfl⟩
  · have c0 : 0 ≤ pick := by omega
    by_cases c1 : pick % 3 = 0
    · have e : Dsk.kept pick = 0 := by unfold Dsk.kept; rw [if_pos (.inr c1)]
      rw [e]
      (go_enter Try.func54, Try.ntmps54)
      go_wp2
      go_ret
      exact ⟨rfl, rfl⟩
    · by_cases c2 : pick % 3 = 1
      · have e : Dsk.kept pick = 384 := by unfold Dsk.kept; rw [if_neg (by omega), if_pos c2]
        rw [e]
        (go_enter Try.func54, Try.ntmps54)
        go_wp2
        go_ret
        exact ⟨rfl, rfl⟩
      · have e : (Dsk.kept pick : Int) = pick / 3 % 385 := by unfold Dsk.kept; rw [if_neg (by omega), if_neg c2]; omega
        rw [e]
        (go_enter Try.func54, Try.ntmps54)
        go_wp2
        go_ret
        exact ⟨rfl, rfl⟩

def mixB (a b : List UInt8) (c : Nat) : List UInt8 := a.take c ++ b.drop c
theorem mixB_len {a b : List UInt8} {c : Nat} (ha : a.length = 384) (hb : b.length = 384) (hc : c ≤ 384) : (mixB a b c).length = 384 := by unfold mixB; simp; omega
theorem mixB_nth {a b : List UInt8} {c j : Nat} (ha : a.length = 384) (hb : b.length = 384) (hc : c ≤ 384) (hj : j < 384) : nth (mixB a b c) j = if j < c then nth a j else nth b j := by
  apply nth_eq
  unfold mixB
  rw [List.getElem?_append]
  simp only [List.length_take, ha, Nat.min_eq_left hc]
  split
  · rw [List.getElem?_take_of_lt (by assumption), get_lt (by omega)]
  · rw [List.getElem?_drop, show c + (j - c) = j by omega, get_lt (by omega)]
theorem take_nth {α : Type} [Inhabited α] {L : List α} {j : Nat} (h : j < L.length) : L.take (j + 1) = L.take j ++ [nth L j] := by
  rw [List.take_add_one, get_lt h]; rfl

set_option maxRecDepth 100000 in
set_option maxHeartbeats 2000000 in
theorem ref_mix (a b : List UInt8) (c : Nat) (w : World) (ha : a.length = 384) (hb : b.length = 384) (hc : c ≤ 384) :
    Calls Try.prog 55 #[.string ⟨a.toArray⟩, .string ⟨b.toArray⟩, .int .i64 c] w fun e w' => e = .returned (.string ⟨(mixB a b c).toArray⟩) ∧ St [] w w' [] := by
  have hN : ∀ j, j < 384 → nth (mixB a b c) j = if j < c then nth a j else nth b j := fun j hj => mixB_nth ha hb hc hj
  have HN := Lib.hid hN
  have HL := Lib.hid (mixB_len ha hb hc)
  have ha' : (a.length : Int) = 384 := by omega
  have hb' : (b.length : Int) = 384 := by omega
  obtain ⟨m, hm⟩ : ∃ m, mixB a b c = m := ⟨_, rfl⟩
  rw [hm] at HN HL ⊢
  clear hN hm ha hb
  have hS := St.init w
  (go_enter Try.func55, Try.ntmps55)
  go_wp2_with (first | ((with_reducible refine g_bs ?_); refine wl_of rfl ?_; refine a_build0 hS rfl rfl (by rfl) ?_; clear hS; intro v1 w' hS) | (first | refine au1 (n := ?_) | (refine au2 (n := ?_); clear hS; intro w' hS) | (refine au3 (n := ?_); clear hS; intro gb w1 hS) | (refine au4 (n := ?_); clear hS; intro v1 w' hS) | ((with_reducible refine wl_guard ?_); refine stop_mem rfl rfl ?_)))
  go_loopw [7, 8] (fun v i wr => ∃ j : Nat, j ≤ 384 ∧ i = .int .i64 j ∧ St [] w wr [.vec v 5 1 (m.take j).length ((m.take j).flatMap byt)]) (fun _ i _ => 384 - (intOf i).toNat)
  case atStart => exact ⟨0, Nat.zero_le _, rfl, hS⟩
  case round =>
    clear hS
    obtain ⟨j, hj, rfl, hS⟩ := hrel
    have hml : (m.take j).length ≤ 384 := by rw [List.length_take]; omega
    by_cases hlt : j < 384
    · have e := take_nth (L := m) (j := j) (by rw [HL.out]; exact hlt)
      rw [HN.out j hlt] at e
      by_cases hjc : j < c
      · rw [if_pos hjc] at e
        have E := Lib.hid e
        have hjl : j < a.length := by omega
        clear e
        go_wp2_with (first | ((with_reducible refine g_append ?_); refine wl_of rfl ?_; refine k_app (z := nth a j) hS rfl rfl rfl rfl (h1 := by simp [byt, Value.oneCell']) (h := ?_); clear hS; intro v2 w' hS hv2) | (first | refine au1 (n := ?_) | (refine au2 (n := ?_); clear hS; intro w' hS) | (refine au3 (n := ?_); clear hS; intro gb w1 hS) | (refine au4 (n := ?_); clear hS; intro v1 w' hS) | ((with_reducible refine wl_guard ?_); refine stop_mem rfl rfl ?_)))
        go_round
        case rel => exact ⟨j + 1, by omega, by go_num, by rw [E.out]; exact hS.sel (by (repeat (first | exact Sel.refl | exact Sel.nil | refine Sel.cons (by (repeat (first | exact Out.here | apply Out.there))) ?_ | refine Sel.drop ?_)))⟩
        case measure => simp [intOf]; omega
      · rw [if_neg hjc] at e
        have E := Lib.hid e
        have hjl : j < b.length := by omega
        clear e
        go_wp2_with (first | ((with_reducible refine g_append ?_); refine wl_of rfl ?_; refine k_app (z := nth b j) hS rfl rfl rfl rfl (h1 := by simp [byt, Value.oneCell']) (h := ?_); clear hS; intro v2 w' hS hv2) | (first | refine au1 (n := ?_) | (refine au2 (n := ?_); clear hS; intro w' hS) | (refine au3 (n := ?_); clear hS; intro gb w1 hS) | (refine au4 (n := ?_); clear hS; intro v1 w' hS) | ((with_reducible refine wl_guard ?_); refine stop_mem rfl rfl ?_)))
        go_round
        case rel => exact ⟨j + 1, by omega, by go_num, by rw [E.out]; exact hS.sel (by (repeat (first | exact Sel.refl | exact Sel.nil | refine Sel.cons (by (repeat (first | exact Out.here | apply Out.there))) ?_ | refine Sel.drop ?_)))⟩
        case measure => simp [intOf]; omega
    · obtain rfl : j = 384 := by omega
      have e : m.take 384 = m := List.take_of_length_le (by rw [HL.out]; exact Nat.le_refl _)
      rw [e] at hS
      clear e
      go_wp2_with (first | refine au1 (n := ?_) | (refine au2 (n := ?_); clear hS; intro w' hS) | (refine au3 (n := ?_); clear hS; intro gb w1 hS) | (refine au4 (n := ?_); clear hS; intro v1 w' hS) | ((with_reducible refine wl_guard ?_); refine stop_mem rfl rfl ?_))
      go_ret
      exact ⟨rfl, hS.nil⟩

def sect (c : UInt8) : List UInt8 := List.replicate 384 c
theorem sect_len (c : UInt8) : (sect c).length = 384 := by unfold sect; exact List.length_replicate
theorem sect_zero : sect 0 = zeros 384 := rfl
def fillS (c : UInt8) (j : Nat) : List UInt8 := List.replicate j c ++ List.replicate (384 - j) 0
theorem fillS_set {c : UInt8} {j : Nat} (h : j < 384) : (fillS c j).set j c = fillS c (j + 1) := by
  unfold fillS
  rw [List.set_append_right _ _ (by rw [List.length_replicate]; exact Nat.le_refl _), List.length_replicate, Nat.sub_self]
  obtain ⟨m, hm⟩ : ∃ m, 384 - j = m + 1 := ⟨384 - j - 1, by omega⟩
  rw [hm, show 384 - (j + 1) = m by omega, List.replicate_succ (n := m), List.set_cons_zero, List.replicate_succ' (n := j), List.append_assoc]
  rfl
theorem fillS_len {c : UInt8} {j : Nat} (h : j ≤ 384) : (fillS c j).length = 384 := by unfold fillS; rw [List.length_append, List.length_replicate, List.length_replicate]; omega

end
end Go.Proofs.Ytbfdnpahojoccaa
