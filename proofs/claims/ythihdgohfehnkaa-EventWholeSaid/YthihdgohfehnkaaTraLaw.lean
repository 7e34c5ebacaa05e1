/-
  The statement on transfers: the walk.
-/
import Derived.Test.YthihdgohfehnkaaPutTra
namespace Go.Proofs.Ythihdgohfehnkaa
open Go.RowKit Go.Cmp

theorem gTra_by (x : Tra) (h : x.Ok) (s : List UInt8) (hs : byTra x = some s) : s.length = 32 ∧ gTra s = x := by
  simp only [byTra, Option.some.injEq] at hs
  subst hs
  obtain ⟨a, b, c, d⟩ := x
  obtain ⟨h1, h2, h3, h4⟩ := h
  have e8 : ∀ (n : Nat) (r : List UInt8), (leB 8 n ++ r).take 8 = leB 8 n := fun n r => List.take_left' (leB_length _ _)
  have d8 : ∀ (n : Nat) (r : List UInt8), (leB 8 n ++ r).drop 8 = r := fun n r => List.drop_left' (leB_length _ _)
  have t8 : ∀ n : Nat, (leB 8 n).take 8 = leB 8 n := fun n => List.take_of_length_le (by rw [leB_length]; exact Nat.le_refl _)
  have r8 : ∀ n : Nat, n < 256 ^ 8 → leN (leB 8 n) = n := fun n h => by rw [leN_leB, Nat.mod_eq_of_lt h]
  constructor
  · simp [leB_length]
  · unfold gTra
    simp only [List.append_assoc] at *
    have w16 : ∀ l : List UInt8, l.drop 16 = (l.drop 8).drop 8 := fun l => by rw [List.drop_drop]
    have w24 : ∀ l : List UInt8, l.drop 24 = ((l.drop 8).drop 8).drop 8 := fun l => by rw [List.drop_drop, List.drop_drop]
    rw [w16, w24]
    simp only [e8, d8, t8]
    rw [r8 _ h1, r8 _ h2, r8 _ h3, r8 _ h4]

theorem flatMap_take {α : Type} (val : α → List Value) (k : Nat) (hv : ∀ x, (val x).length = k) : ∀ (xs : List α) (m : Nat), (xs.flatMap val).take (m * k) = (xs.take m).flatMap val
  | [], m => by simp
  | x :: xs, 0 => by simp
  | x :: xs, m + 1 => by
    rw [List.take_succ_cons, List.flatMap_cons, List.flatMap_cons, ← flatMap_take val k hv xs m, Nat.succ_mul, Nat.add_comm, ← hv x, List.take_length_add_append]

theorem eventTransfers_any (xs : List Tra) (vl : Value) (n : Nat) (w : World) (hn : xs.length = n) (hx : ∀ x ∈ xs, x.Ok) (hL : Rd w 4 vl n (xs.flatMap Tra.cells)) :
    Calls Try.prog 6 #[vl] w fun e w' => e = .returned (.bool true) ∧ St [] w w' [] := by
  obtain ⟨m, hm⟩ : ∃ m, min n 100 = m := ⟨_, rfl⟩
  obtain ⟨ys, hys⟩ : ∃ ys, xs.take m = ys := ⟨_, rfl⟩
  have hml : ys.length = m := by rw [← hys, List.length_take]; omega
  have hy : ∀ x ∈ ys, x.Ok := by
    intro x h
    rw [← hys] at h
    exact hx x (List.mem_of_mem_take h)
  have hround : ∀ s, cat byTra ys = some s → 1 ≤ ys.length → ys.length ≤ 4 → takeS gTra 32 s = (ys, true) := by
    intro s h1 h2 h3
    have := takeS_cat byTra gTra id 32 (by omega) ys s (fun x h t ht => gTra_by x (hy x h) t ht) h1 h2 h3
    simpa using this
  have HR := Lib.hid hround
  clear hround
  have hM : Rd w 4 (cutSl vl 4 0 m) m (ys.flatMap Tra.cells) := by
    have := hL.cut 0 m (by omega) (by omega)
    rw [Nat.sub_zero, Nat.zero_mul, List.drop_zero, flatMap_take Tra.cells 4 (fun _ => rfl), hys] at this
    exact this
  have hmm : (n ≤ 100 ∧ m = n) ∨ (100 < n ∧ m = 100) := by omega
  have Hm := Lib.hid hml
  have Hy := Lib.hid hy
  clear hml hy hys hx hm
  rcases hmm with ⟨h1, rfl⟩ | ⟨h1, rfl⟩
  all_goals
    go_enter Try.func6, Try.ntmps6
    refine St.startAt w fun w1 hS => ?_
    go_wp2_with (fail)
    refine (awake_any _).mono ?_
    rintro e w2 ⟨rfl, hS2⟩
    replace hS := hS.call hS2
    clear hS2
    go_wp2_with (first | ((with_reducible refine g_len ?_); refine wl_run rfl (x_len rfl (hS.old0 hL) rfl rfl) ?_) | ((with_reducible refine g_cut ?_); refine wl_run rfl (x_cutHi (ti := Try.t68) rfl (hS.old0 hL) rfl rfl rfl rfl rfl (by omega) (by omega)) ?_) | fail)
    refine (putTransfers_any ys _ _ _ Hm.out Hy.out (hS.old0 hM)).mono ?_
    rintro e w3 ⟨rfl, hS2⟩
    replace hS := hS.call hS2
    clear hS2
    go_wp2_with (fail)
    refine (refPutTransfers_any ys _ _ _ Hm.out Hy.out (hS.old0 hM)).mono ?_
    rintro e w4 ⟨rfl, hS2⟩
    replace hS := hS.call hS2
    clear hS2
    rcases putS_cases byTra ys with ⟨s, e1, e2, e3, e4⟩ | e1
    · rw [e1]
      have Ht := Lib.hid (HR.out s e2 e3 e4)
      have hsl : s.length ≤ 140737488355328 := by
        have := cat_len byTra byTra_len _ _ e2
        omega
      clear e1 e2 e3 e4
      go_wp2_with (fail)
      refine (transfers_any s _ hsl).mono ?_
      rw [Ht.out]
      rintro e w5 ⟨v5, rfl, hS2⟩
      replace hS := hS.call hS2
      clear hS2
      go_wp2_with (fail)
      refine (sameTransfers_any ys ys _ _ _ _ _ rfl Hm.out (hS.rdv (i := 0) rfl) (hS.old0 hM)).mono ?_
      rintro e w6 ⟨rfl, hS2⟩
      replace hS := hS.call hS2
      clear hS2
      rw [decide_eq_true rfl]
      go_wp2
      go_ret
      exact ⟨rfl, hS.nil⟩
    · rw [e1]
      clear e1
      go_wp2
      go_ret
      exact ⟨rfl, hS.nil⟩

end Go.Proofs.Ythihdgohfehnkaa
