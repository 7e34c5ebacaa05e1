/-
  The statement on ids: the walk.
-/
import Derived.Test.YthihdgohfehnkaaLaw
namespace Go.Proofs.Ythihdgohfehnkaa
open Go.RowKit Go.Cmp

theorem U_take (l : List Nat) (k : Nat) : U (l.take k) = (U l).take k := by simp [U]

theorem eventIDs_any (xs : List Nat) (vl : Value) (n : Nat) (w : World) (hn : xs.length = n) (hx : ∀ x ∈ xs, x < 256 ^ 8) (hL : Rd w 1 vl n (U xs)) :
    Calls Try.prog 3 #[vl] w fun e w' => e = .returned (.bool true) ∧ St [] w w' [] := by
  obtain ⟨m, hm⟩ : ∃ m, min n 100 = m := ⟨_, rfl⟩
  obtain ⟨ys, hys⟩ : ∃ ys, xs.take m = ys := ⟨_, rfl⟩
  have hml : ys.length = m := by rw [← hys, List.length_take]; omega
  have hy : ∀ x ∈ ys, x < 256 ^ 8 := by
    intro x h
    rw [← hys] at h
    exact hx x (List.mem_of_mem_take h)
  have hround : ∀ s, cat byID ys = some s → 1 ≤ ys.length → ys.length ≤ 4 → takeS gID 8 s = (ys, true) := by
    intro s h1 h2 h3
    have := takeS_cat byID gID id 8 (by omega) ys s (fun x h t ht => gID_by x (hy x h) t ht) h1 h2 h3
    simpa using this
  have HR := Lib.hid hround
  clear hround
  have hM : Rd w 1 (cutSl vl 1 0 m) m (U ys) := by
    have := hL.cut 0 m (by omega) (by omega)
    rw [Nat.sub_zero, List.drop_zero, ← U_take, Nat.mul_one, hys] at this
    exact this
  have hmm : (n ≤ 100 ∧ m = n) ∨ (100 < n ∧ m = 100) := by omega
  have Hm := Lib.hid hml
  have Hy := Lib.hid hy
  clear hml hy hys hx hm
  rcases hmm with ⟨h1, rfl⟩ | ⟨h1, rfl⟩
  all_goals
    go_enter Try.func3, Try.ntmps3
    refine St.startAt w fun w1 hS => ?_
    go_wp2_with (fail)
    refine (awake_any _).mono ?_
    rintro e w2 ⟨rfl, hS2⟩
    replace hS := hS.call hS2
    clear hS2
    go_wp2_with (first | ((with_reducible refine g_len ?_); refine wl_run rfl (x_len rfl (hS.old0 hL) rfl rfl) ?_) | ((with_reducible refine g_cut ?_); refine wl_run rfl (x_cutHi rfl (hS.old0 hL) rfl rfl rfl rfl rfl (by omega) (by omega)) ?_) | fail)
    refine (putIDs_any ys _ _ _ Hm.out Hy.out (hS.old0 hM)).mono ?_
    rintro e w3 ⟨rfl, hS2⟩
    replace hS := hS.call hS2
    clear hS2
    go_wp2_with (fail)
    refine (refPutIDs_any ys _ _ _ Hm.out Hy.out (hS.old0 hM)).mono ?_
    rintro e w4 ⟨rfl, hS2⟩
    replace hS := hS.call hS2
    clear hS2
    rcases putS_cases byID ys with ⟨s, e1, e2, e3, e4⟩ | e1
    · rw [e1]
      have Ht := Lib.hid (HR.out s e2 e3 e4)
      have hsl : s.length ≤ 140737488355328 := by
        have := cat_len byID byID_len _ _ e2
        omega
      clear e1 e2 e3 e4
      go_wp2_with (fail)
      refine (iDs_any s _ hsl).mono ?_
      rw [Ht.out]
      rintro e w5 ⟨v5, rfl, hS2⟩
      replace hS := hS.call hS2
      clear hS2
      go_wp2_with (fail)
      refine (sameIDs_any ys ys _ _ _ _ _ rfl Hm.out (hS.rdv (i := 0) rfl) (hS.old0 hM)).mono ?_
      rintro e w6 ⟨rfl, hS2⟩
      replace hS := hS.call hS2
      clear hS2
      rw [decide_eq_true rfl]
      go_wp2
      go_ret
      exact ⟨rfl, hS.nil⟩
    · rw [e1]
      clear e1
      go_wp2
      go_ret
      exact ⟨rfl, hS.nil⟩

end Go.Proofs.Ythihdgohfehnkaa
