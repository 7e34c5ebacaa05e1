/-
  A number and a text are read: the document's.
-/
import Derived.Test.YtjjiibcnknljfaaGreatCodec
set_option linter.unusedSimpArgs false
set_option linter.unusedVariables false
set_option linter.unusedSectionVars false
set_option maxRecDepth 100000
namespace Go.Cmp
open Go.RowKit
theorem leN_cons_drop (c : List UInt8) (j : Nat) (h : j < c.length) : leN (c.drop j) = leN (c.drop (j + 1)) * 256 + (nth c j).toNat := by
  rw [List.drop_eq_getElem_cons h]
  simp only [leN]
  have e : nth c j = c[j] := nth_eq (List.getElem?_eq_getElem h)
  rw [e]
  omega
theorem byt_get {l : List UInt8} {i : Nat} (h : i < l.length) : l[i]? = some (nth l i) := get_lt h
end Go.Cmp
namespace Go.Proofs.YtjjiibcnknljfaaGreat
open Go.RowKit Go.Cmp
set_option maxRecDepth 100000

section
variable {w : World}
set_option maxHeartbeats 2000000 in
theorem ref_take {v : Value} {l : List UInt8} (i k : Nat) (hk1 : 1 ≤ k) (hk : k ≤ 8) (hi : i ≤ 1000000000) (hl : l.length ≤ 1000000000) (hR : Rd w 1 v l.length (l.flatMap byt)) :
    Calls Tryz.prog 107 #[v, .int .i64 i, .int .i64 k] w fun e w' => e = .returned (.tuple #[.int .u64 ((takeN l i k).1 : Nat), .int .i64 (takeN l i k).2]) ∧ w' = w := by
  have hS := St.init w
  have d0 : decide ((k : Int) < 1) = false := decide_eq_false (by omega)
  have d2 : decide ((8 : Int) < k) = false := decide_eq_false (by omega)
  have d3 : decide ((i : Int) < 0) = false := decide_eq_false (by omega)
  by_cases h1 : l.length < i + k
  · have e : takeN l i k = (0, 3) := by unfold takeN; rw [if_pos h1]
    rw [e]
    have h1' : (l.length : Int) - k < i := by omega
    (go_enter Tryz.func107, Tryz.ntmps107)
    go_wp2_with (first | ((with_reducible refine g_len ?_); refine wl_run rfl (a_len rfl rfl rfl hR) ?_) | (first | refine au1 (n := ?_) | (refine au2 (n := ?_); clear hS; intro w' hS) | (refine au3 (n := ?_); clear hS; intro gb w1 hS) | (refine au4 (n := ?_); clear hS; intro v1 w' hS) | ((with_reducible refine wl_guard ?_); refine stop_mem rfl rfl ?_)))
    go_ret2
    exact ⟨rfl, rfl⟩
  · have e : takeN l i k = (leN ((l.drop i).take k), 0) := by unfold takeN; rw [if_neg h1]
    rw [e]
    have h1' : ¬ (l.length : Int) - k < i := by omega
    have HCG : Hid (∀ q, q < k → nth ((l.drop i).take k) q = nth l (i + q)) := Lib.hid (fun q hq => by
      unfold nth
      rw [List.getD_eq_getElem?_getD, List.getD_eq_getElem?_getD, List.getElem?_take_of_lt hq, List.getElem?_drop])
    have hcl : ((l.drop i).take k).length = k := by rw [List.length_take, List.length_drop]; omega
    obtain ⟨c, hc⟩ : ∃ c, (l.drop i).take k = c := ⟨_, rfl⟩
    rw [hc] at HCG hcl ⊢
    have HCL := Lib.hid hcl
    clear hc hcl e
    (go_enter Tryz.func107, Tryz.ntmps107)
    go_wp2_with (first | ((with_reducible refine g_len ?_); refine wl_run rfl (a_len rfl rfl rfl hR) ?_) | (first | refine au1 (n := ?_) | (refine au2 (n := ?_); clear hS; intro w' hS) | (refine au3 (n := ?_); clear hS; intro gb w1 hS) | (refine au4 (n := ?_); clear hS; intro v1 w' hS) | ((with_reducible refine wl_guard ?_); refine stop_mem rfl rfl ?_)))
    clear h1' d0 d2 d3
    go_loopw [8, 9] (fun x y wr => ∃ j : Nat, j ≤ k ∧ y = .int .i64 ((j : Int) - 1) ∧ x = .int .u64 (leN (c.drop j)) ∧ wr = w) (fun _ y _ => (intOf y + 1).toNat)
    case atStart => exact ⟨k, by omega, rfl, by rw [List.drop_eq_nil_of_le (by rw [HCL.out]; exact Nat.le_refl _)]; rfl, rfl⟩
    case round =>
      obtain ⟨j, hj, rfl, rfl, rfl⟩ := hrel
      by_cases hlt : 0 < j
      · obtain ⟨q, rfl⟩ : ∃ q, j = q + 1 := ⟨j - 1, by omega⟩
        have hq : q < c.length := by rw [HCL.out]; omega
        have e0 : ((q + 1 : Nat) : Int) - 1 = q := by omega
        have hbd := leN_lt (c.drop q)
        have hst := leN_cons_drop c q hq
        have hp := pow256_le (c.drop q).length (by rw [List.length_drop, HCL.out]; omega)
        have hcq := HCG.out q (by omega)
        have hil : i + q < l.length := by omega
        have hget := byt_get hil
        rw [← hcq] at hget
        rw [e0]
        obtain ⟨x, hx⟩ : ∃ x, leN (c.drop (q + 1)) = x := ⟨_, rfl⟩
        obtain ⟨b, hb⟩ : ∃ b, nth c q = b := ⟨_, rfl⟩
        rw [hx, hb] at hst
        rw [hb] at hget
        rw [hx]
        have hyb := b.toNat_lt
        have HG := Lib.hid hget
        obtain ⟨y, hy⟩ : ∃ y, b.toNat = y := ⟨_, rfl⟩
        rw [hy] at hst hyb
        have HY := Lib.hid hy
        have h64 : x * 256 + y < 18446744073709551616 := by omega
        have hiq : (i : Int) + q < l.length := by omega
        have Hst := Lib.hid hst
        clear hx hb hst hbd hp hcq e0 hget hy
        go_wp2_with (first | ((with_reducible refine g_index ?_); refine wl_run rfl (a_index (u := v) (j := (i : Int) + q) rfl rfl rfl rfl hR (by rfl) (by omega) (by omega)) ?_) | ((with_reducible refine g_load ?_); refine wl_run rfl (v := .int .u8 (y : Int)) (by have e : ((i : Int) + q).toNat = i + q := (by omega); rw [← HY.out]; exact a_loadE (f := byt) (k := 1) (L := l) (j := i + q) rfl hR (by rw [← e]; rfl) rfl rfl (by intro _; rfl) HG.out (by rfl)) ?_) | fail)
        exact ⟨⟨q, by omega, rfl, by rw [Hst.out, Int.natCast_add, Int.natCast_mul]; rfl, trivial⟩, by simp only [intOf]; omega⟩
      · obtain rfl : j = 0 := by omega
        go_wp2
        go_ret2
        exact ⟨rfl, rfl⟩

end
end Go.Proofs.YtjjiibcnknljfaaGreat
