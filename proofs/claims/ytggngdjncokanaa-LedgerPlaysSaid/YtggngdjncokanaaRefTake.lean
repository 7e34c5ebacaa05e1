/-
  The document's answer: the number of eight bytes from a place on.
-/
import Derived.Test.YtggngdjncokanaaRef
set_option linter.unusedSimpArgs false
set_option linter.unusedVariables false
set_option linter.unusedSectionVars false
namespace Go.Proofs.Ytggngdjncokanaa
open Go.RowKit Go.Cmp
set_option maxRecDepth 100000

theorem leN_drop (c : List UInt8) (j : Nat) (h : j < c.length) : leN (c.drop j) = leN (c.drop (j + 1)) * 256 + c[j].toNat := by
  rw [List.drop_eq_getElem_cons h]
  simp only [leN]
  omega

set_option maxHeartbeats 400000 in
theorem refTake_in (l : List UInt8) (v : Value) (i : Nat) (w : World) (hi : i + 8 ≤ l.length) (hl : l.length ≤ 140737488355328) (hR : Rd w 1 v l.length (B l)) :
    Calls Try.prog 81 #[v, .int .i64 i, .int .i64 8] w fun e w' => e = .returned (.tuple #[.int .u64 (leN ((l.drop i).take 8)), .int .i64 0]) ∧ St [] w w' [] := by
  obtain ⟨c, hc⟩ : ∃ c, (l.drop i).take 8 = c := ⟨_, rfl⟩
  have hcl : c.length = 8 := by rw [← hc]; simp; omega
  have hcg : ∀ (j : Nat) (h : j < c.length), (B l)[i + j]? = some (.int .u8 (c[j].toNat : Int)) := by
    intro j h
    have hij : i + j < l.length := by omega
    have : c[j]? = l[i + j]? := by
      rw [← hc, List.getElem?_take_of_lt (by omega), List.getElem?_drop]
    rw [List.getElem?_eq_getElem h, List.getElem?_eq_getElem hij] at this
    simp only [Option.some.injEq] at this
    rw [this]
    exact B_get hij
  rw [hc]
  have Hcl := Lib.hid hcl
  have Hcg := Lib.hid hcg
  clear hc hcl hcg
  go_enter Try.func81, Try.ntmps81
  refine St.startAt w fun w1 hS => ?_
  have d1 : decide ((l.length : Int) - 8 < (i : Int)) = false := by simp; omega
  go_wp2_with (first | ((with_reducible refine g_len ?_); refine wl_run rfl (x_len rfl (hS.old0 hR) rfl rfl) ?_) | fail)
  go_loopw [8, 9] (fun x k wr => ∃ j : Nat, j ≤ 8 ∧ k = .int .i64 ((j : Int) - 1) ∧ x = .int .u64 (leN (c.drop j)) ∧ St [] w wr []) (fun _ k _ => (intOf k + 1).toNat)
  case atStart => exact ⟨8, by omega, rfl, by rw [List.drop_eq_nil_of_le (by rw [Hcl.out]; exact Nat.le_refl _)]; rfl, hS⟩
  case round =>
    clear hS
    obtain ⟨j, hj, rfl, rfl, hS⟩ := hrel
    by_cases hlt : 0 < j
    · obtain ⟨q, rfl⟩ : ∃ q, j = q + 1 := ⟨j - 1, by omega⟩
      have hq : q < c.length := by rw [Hcl.out]; omega
      have e0 : ((q + 1 : Nat) : Int) - 1 = q := by omega
      have hbd := leN_lt (c.drop q)
      have hst := leN_drop c q hq
      have hp := pow256_le (c.drop q).length (by rw [List.length_drop, Hcl.out]; omega)
      have hcq := Hcg.out q hq
      rw [e0]
      obtain ⟨x, hx⟩ : ∃ x, leN (c.drop (q + 1)) = x := ⟨_, rfl⟩
      obtain ⟨y, hy⟩ : ∃ y, c[q].toNat = y := ⟨_, rfl⟩
      have hiq : (i : Int) + q < l.length := by omega
      rw [hx, hy] at hst
      rw [hx]
      rw [hy] at hcq
      have h64 : x * 256 + y < 18446744073709551616 := by omega
      have Hst := Lib.hid hst
      have Hcq := Lib.hid hcq
      clear hx hy hst hbd hp hcq e0
      go_wp2_with (first | ((with_reducible refine g_index ?_); refine wl_run rfl (x_index rfl (hS.old0 hR) rfl rfl rfl rfl rfl (by omega) (by omega)) ?_) | ((with_reducible refine g_load ?_); refine wl_run rfl (x_loadS1 rfl (hS.old0 hR) rfl rfl rfl (by have := Hcq.out; rw [Nat.mul_one]; rw [show ((i : Int) + q).toNat = i + q by omega]; exact this)) ?_) | fail)
      exact ⟨⟨q, by omega, rfl, by rw [Hst.out, Int.natCast_add, Int.natCast_mul]; rfl, hS⟩, by simp only [intOf]; omega⟩
    · obtain rfl : j = 0 := by omega
      go_wp2
      go_ret2
      exact ⟨rfl, hS⟩

theorem refAt_in (l : List UInt8) (i : Nat) (w : World) (hi : i + 8 ≤ l.length) (hl : l.length ≤ 140737488355328) :
    Calls Try.prog 70 #[.string ⟨l.toArray⟩, .int .i64 i] w fun e w' => e = .returned (.int .u64 (leN ((l.drop i).take 8))) ∧ St [] w w' [] := by
  go_enter Try.func70, Try.ntmps70
  refine St.startAt w fun w1 hS => ?_
  have hm : l.length ≤ maxLen := by unfold maxLen; omega
  go_wp2_with (first | ((with_reducible refine g_conv ?_); refine wl_of rfl ?_; refine wp_toBytes hS rfl rfl rfl rfl rfl hm ?_; clear hS; intro v1 w1 hS) | fail)
  refine (refTake_in l _ i _ hi hl (hS.rdv (i := 0) rfl)).mono ?_
  rintro e w2 ⟨rfl, hS2⟩
  go_wp2
  go_ret
  exact ⟨rfl, (hS.call hS2).nil⟩

end Go.Proofs.Ytggngdjncokanaa
