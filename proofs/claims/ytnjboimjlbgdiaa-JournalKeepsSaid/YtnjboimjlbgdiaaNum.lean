/-
  num.Take: what it hands back.
  num.Put: a number's bytes behind bytes.
-/
import Derived.Test.YtnjboimjlbgdiaaChecked
import Derived.Test.YtnjboimjlbgdiaaGen
import Derived.StillTailTactics
set_option linter.unusedSimpArgs false
set_option linter.unusedVariables false
set_option linter.unusedSectionVars false
set_option maxRecDepth 100000
namespace Go.Proofs.Ytnjboimjlbgdiaa
open Go.RowKit Go.Cmp
set_option maxRecDepth 100000

set_option maxHeartbeats 400000 in
theorem take_in (l : List UInt8) (v : Value) (i k : Nat) (w : World) (hk1 : 1 ≤ k) (hk : k ≤ 8) (hi : i + k ≤ l.length) (hl : l.length ≤ 140737488355328) (hR : Rd w 1 v l.length (B l)) :
    Calls Try.prog 59 #[v, .int .i64 i, .int .i64 k] w fun e w' => e = .returned (.tuple #[.int .u64 (leN ((l.drop i).take k)), .int .i64 0]) ∧ St [] w w' [] := by
  have d1 : decide ((k : Int) < 1) = false := by simp; omega
  have d2 : decide ((8 : Int) < k) = false := by simp; omega
  have d3 : decide ((i : Int) < 0) = false := by simp
  have d4 : decide (l.length < i) = false := by simp; omega
  have d5 : decide ((l.length : Int) - (i : Int) < (k : Int)) = false := by simp; omega
  have s1 : IntKind.i64.wrap ((i : Int) + k) = i + k := IntWalk.i64_in _ (by omega)
  obtain ⟨m, hm⟩ : ∃ m, (l.drop i).take k = m := ⟨_, rfl⟩
  have Hm := Lib.hid hm
  have hml : m.length = k := by rw [← hm]; simp; omega
  have Hml := Lib.hid hml
  clear hm hml
  go_enter Try.func59, Try.ntmps59
  refine St.startAt w fun w1 hS => ?_
  go_wp2_with (first | ((with_reducible refine g_alloc ?_); refine wl_of rfl ?_; refine wp_alloc hS rfl rfl rfl rfl ?_; clear hS; intro gb w1 hS) | ((with_reducible refine g_len ?_); refine wl_run rfl (x_len rfl (hS.old0 hR) rfl rfl) ?_) | fail)
  refine wp_region_tail 7 (by kernel_rfl) (by kernel_rfl) hS ?_
  clear hS
  intro w2 hS
  simp only [List.take_succ_cons, List.take_zero, List.drop_succ_cons, List.drop_zero]
  iterate 6 (still_step)
  refine ws_run rfl (x_cut rfl (hS.old0 hR) rfl rfl rfl rfl rfl rfl (by omega) (by omega) (by omega)) ?_
  refine wpStill_nil ?_
  have hC : Rd w2 1 (cutSl v 1 i (i+k)) k (B m) := by
    have := (hS.old0 hR).cut i (i+k) (by omega) (by omega)
    rw [show i + k - i = k by omega, Nat.mul_one, Nat.mul_one, ← B_take, ← B_drop, List.drop_take, show i + k - i = k by omega, Hm.out] at this
    exact this
  refine wl_of rfl (wp_copyRow hS rfl hC 0 rfl rfl rfl rfl rfl rfl ?_ ?_ (B_one _) rfl ?_)
  · simp; omega
  · intro j _; exact nf0 _
  clear hS hC
  intro w3 hS
  have hmin : min k 8 = k := by omega
  rw [hmin] at hS
  simp only [List.set_cons_zero, List.take_zero, List.nil_append, Nat.mul_one, Nat.zero_add] at hS
  rw [List.take_of_length_le (by rw [B_length, Hml.out]; omega)] at hS
  clear hmin
  obtain ⟨x, hx⟩ : ∃ x, m ++ List.replicate (8 - k) 0 = x := ⟨_, rfl⟩
  have Hx := Lib.hid hx
  have hxl : x.length = 8 := by rw [← hx]; simp; have := Hml.out; omega
  have hx0 : B m ++ List.drop k [Value.int IntKind.u8 0, Value.int IntKind.u8 0, Value.int IntKind.u8 0, Value.int IntKind.u8 0, Value.int IntKind.u8 0, Value.int IntKind.u8 0, Value.int IntKind.u8 0, Value.int IntKind.u8 0] = B x := by
    rw [← hx, B_append]
    congr 1
    have : [Value.int IntKind.u8 0, Value.int IntKind.u8 0, Value.int IntKind.u8 0, Value.int IntKind.u8 0, Value.int IntKind.u8 0, Value.int IntKind.u8 0, Value.int IntKind.u8 0, Value.int IntKind.u8 0] = List.replicate 8 (Value.int IntKind.u8 0) := rfl
    rw [this, List.drop_replicate]
    simp [B]
  rw [hx0] at hS
  have Hxl := Lib.hid hxl
  clear hx hx0 hxl
  go_wp2_with (first | (refine wl_run rfl (x_loadA hS rfl rfl rfl rfl rfl 0 rfl (List.take_of_length_le (Nat.le_of_eq ?_)) ?_) ?_; (rw [List.length_drop, B_length, Hxl.out]; rfl); (rw [List.length_drop, B_length, Hxl.out]; rfl)) | fail)
  go_loop [9, 43] (fun n i => ∃ j : Nat, j ≤ 8 ∧ i = .int .i64 j ∧ n = .int .u64 (leN (x.take j))) (fun _ i => 8 - (intOf i).toNat)
  case atStart => exact ⟨0, by omega, rfl, by simp [leN]⟩
  case round =>
    obtain ⟨j, hj, rfl, rfl⟩ := hrel
    by_cases hlt : j < 8
    · have hjx : j < x.length := by have := Hxl.out; omega
      have hor := or_step (leN (x.take j)) x[j] j (by have := leN_lt (x.take j); rwa [List.length_take, Nat.min_eq_left (by omega)] at this) hlt
      have Hor := Lib.hid hor
      clear hor
      go_wp2_with (first | ((with_reducible refine g_indexV ?_); refine wl_run rfl (x_indexA rfl rfl rfl rfl rfl rfl rfl rfl (by omega) (by omega) (B_get hjx)) ?_) | fail)
      refine ⟨⟨j + 1, by omega, by go_num, ?_⟩, by simp [intOf]; omega⟩
      rw [Hor.out, List.take_succ_eq_append_getElem hjx, leN_snoc, List.length_take, Nat.min_eq_left (by omega)]
    · go_wp2
      go_ret2
      refine ⟨?_, hS.nil⟩
      have : leN (x.take j) = leN (List.take k (List.drop i l)) := by
        rw [List.take_of_length_le (by have := Hxl.out; omega), ← Hx.out, leN_append, leN_zeros, Hm.out]
        simp
      simp [this]

/-- Too few bytes. -/
theorem take_short (l : List UInt8) (v : Value) (i k : Nat) (w : World) (hk1 : 1 ≤ k) (hk : k ≤ 8) (hi : l.length < i + k) (hR : Rd w 1 v l.length (B l)) :
    Calls Try.prog 59 #[v, .int .i64 i, .int .i64 k] w fun e w' => e = .returned (.tuple #[.int .u64 0, .int .i64 3]) ∧ St [] w w' [] := by
  have d1 : decide ((k : Int) < 1) = false := by simp; omega
  have d2 : decide ((8 : Int) < k) = false := by simp; omega
  have d3 : decide ((i : Int) < 0) = false := by simp
  by_cases h4 : l.length < i
  · have d4 : decide (l.length < i) = true := by simp; omega
    go_enter Try.func59, Try.ntmps59
    refine St.startAt w fun w1 hS => ?_
    go_wp2_with (first | ((with_reducible refine g_len ?_); refine wl_run rfl (x_len rfl (hS.old0 hR) rfl rfl) ?_) | fail)
    go_ret2
    exact ⟨rfl, hS⟩
  · have d4 : decide (l.length < i) = false := by simp; omega
    have d5 : decide ((l.length : Int) - (i : Int) < (k : Int)) = true := by simp; omega
    go_enter Try.func59, Try.ntmps59
    refine St.startAt w fun w1 hS => ?_
    go_wp2_with (first | ((with_reducible refine g_len ?_); refine wl_run rfl (x_len rfl (hS.old0 hR) rfl rfl) ?_) | fail)
    go_ret2
    exact ⟨rfl, hS⟩
end Go.Proofs.Ytnjboimjlbgdiaa
namespace Go.Proofs.Ytnjboimjlbgdiaa
open Go.RowKit Go.Cmp
set_option maxRecDepth 100000

set_option maxHeartbeats 400000 in
theorem put_in (l : List UInt8) (v : Value) (n k : Nat) (w : World) (hk1 : 1 ≤ k) (hk : k ≤ 8) (hn : n < 256 ^ k) (hl : l.length + 8 ≤ 140737488355328) (hR : Rd w 1 v l.length (B l)) :
    Calls Try.prog 71 #[v, .int .u64 n, .int .i64 k] w fun e w' => ∃ v', e = .returned (.tuple #[v', .int .i64 0]) ∧ St [] w w' [.vec v' 5 1 (l.length + k) (B (l ++ leB k n))] := by
  have d1 : decide ((k : Int) < 1) = false := by simp; omega
  have d2 : decide ((8 : Int) < k) = false := by simp; omega
  have Hn := Lib.hid hn
  clear hn
  have hz : ((n : Int) / 2 ^ (8 * k) != 0) = false := by
    have h1 : (n : Int) / 2 ^ (8 * k) = ((n / 256 ^ k : Nat) : Int) := by rw [← two8]; push_cast; rfl
    rw [h1, Nat.div_eq_of_lt Hn.out]
    rfl
  have hk8 : 8 ≤ (k : Int) ∨ (k : Int) < 8 := by omega
  rcases hk8 with hk8 | hk8
  all_goals
    go_enter Try.func71, Try.ntmps71
    refine St.startAt w fun w1 hS => ?_
    go_wp2_with (first | ((with_reducible refine g_alloc ?_); refine wl_of rfl ?_; refine wp_alloc hS rfl rfl rfl rfl ?_; clear hS; intro gb w1 hS) | fail)
    go_loopw [27] (fun i wr => ∃ j : Nat, j ≤ 8 ∧ i = .int .i64 j ∧ St [] w wr [.row gb (B (leB j n ++ List.replicate (8 - j) 0)) 128 (0, 0)]) (fun i _ => 8 - (intOf i).toNat)
    case atStart => exact ⟨0, by omega, rfl, hS⟩
    case round =>
      clear hS
      obtain ⟨j, hj, rfl, hS⟩ := hrel
      by_cases hlt : j < 8
      · have hoff : j + 1 ≤ (B (leB j n ++ List.replicate (8 - j) 0)).length := by simp only [B_length, List.length_append, leB_length, List.length_replicate]; omega
        go_wp2_with (first | ((with_reducible refine g_store ?_); refine wl_of rfl ?_; refine wp_store1 (v := .int _ _) hS rfl rfl rfl rfl rfl 0 rfl hoff (fun j _ => nf0 _) (by simp [Value.cells, Value.oneCell']) rfl ?_; clear hS; intro w2 hS; simp only [Value.cells] at hS) | fail)
        have e1 : (8 - j) = (8 - (j + 1)) + 1 := by omega
        rw [byte_div, B_append, List.take_left' (by rw [B_length, leB_length]), List.drop_append, List.drop_eq_nil_of_le (by rw [B_length, leB_length]; simp), B_length, leB_length, List.nil_append] at hS
        have e2 : List.drop (j + #[Value.int IntKind.u8 ((UInt8.ofNat (n / 256 ^ j % 256)).toNat : Int)].size - j) (B (List.replicate (8 - j) 0)) = B (List.replicate (8 - (j + 1)) 0) := by
          rw [← B_drop, List.drop_replicate]
          congr 2
          simp
          omega
        rw [e2] at hS
        refine ⟨⟨j + 1, by omega, by go_num, ?_⟩, by simp [intOf]; omega⟩
        rw [leB_snoc, List.append_assoc, B_append, B_append]
        simpa [B, List.append_assoc] using hS
      · obtain rfl : j = 8 := by omega
        rw [show 8 - 8 = 0 from rfl, List.replicate_zero, List.append_nil] at hS
        have k0 : (0 : Int) ≤ (k : Int) := by omega
        have k1 : (k : Int) ≤ ((8 : Nat) : Int) := by omega
        have hpt : B (leB k n) = (List.drop 0 (B (leB 8 n))).take (k * 1) := by rw [List.drop_zero, Nat.mul_one, ← B_take, leB_take _ _ _ hk]
        have Hpt := Lib.hid hpt
        have hvc : ∀ u ∈ [v, Value.slice (some ⟨gb, 0, none⟩) k 8], u.cells = #[u] := by
          intro u hu
          simp only [List.mem_cons, List.not_mem_nil, or_false] at hu
          rcases hu with rfl | rfl
          · exact hR.cells
          · rfl
        clear hpt
        go_wp2_with (first | ((with_reducible refine g_cut ?_); refine wl_run rfl (x_cutArr rfl rfl rfl rfl rfl k0 k1) ?_) | ((with_reducible refine g_bs ?_); refine wl_of rfl ?_; refine wp_buildSlice1 (vs := [v, .slice (some ⟨gb, 0, none⟩) k 8]) hS rfl rfl rfl rfl rfl rfl (by decide) ⟨rfl, hvc⟩ ?_; clear hS; intro v1 w1 hS) | fail)
        refine (join_any [l, leB k n] [v, .slice (some ⟨gb, 0, none⟩) k 8] _ 2 _ rfl (by omega) (by omega) (hS.rdv (i := 0) rfl) (parts2 (hS.old0 hR) (by rw [leB_length]; exact Rd.ofRow (hS.row (i := 1) rfl) 1 0 k 8 _ Hpt.out (by rw [B_length, leB_length]; omega) (by omega) (by unfold maxLen; omega))) (by simp [leB_length]; omega)).mono ?_
        rintro e w' ⟨v', rfl, hS'⟩
        go_wp2
        go_ret2
        refine ⟨v', rfl, ?_⟩
        have := (hS.call hS').one
        simpa [leB_length] using this
end Go.Proofs.Ytnjboimjlbgdiaa
