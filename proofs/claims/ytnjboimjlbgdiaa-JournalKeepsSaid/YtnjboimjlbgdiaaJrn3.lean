/-
  A journal: its head; an operation's sectors; a slot is made clean.
-/
import Derived.Test.YtnjboimjlbgdiaaJrn2
set_option linter.unusedSimpArgs false
set_option linter.unusedVariables false
set_option linter.unusedSectionVars false
set_option maxRecDepth 100000
namespace Go.Cmp
open Go.RowKit
theorem jc_kind {gd : Nat} {J : Jrn} (h : J.items.length = 8) {s : Nat} (hs : s < 8) : (jcells gd J)[2 + s * 15]? = some (.int .i64 (nth J.items s).kind) := jc_get h hs 0 (by omega)
theorem jc_stub {gd : Nat} {J : Jrn} (h : J.items.length = 8) {s : Nat} (hs : s < 8) : ((jcells gd J).drop (2 + s * 15 + 1)).take 5 = (nth J.items s).stub.cells := by
  rw [jc_seg h hs 1 5 (by omega)]
  rfl
theorem jc_ent {gd : Nat} {J : Jrn} (h : J.items.length = 8) {s : Nat} (hs : s < 8) : ((jcells gd J).drop (2 + s * 15 + 6)).take 9 = (nth J.items s).ent.cells := by
  rw [jc_seg h hs 6 9 (by omega)]
  rfl
theorem headTo_le (J : Jrn) : ∀ k, J.headTo k ≤ J.check + k
  | 0 => Nat.le_refl _
  | k + 1 => by
    unfold Jrn.headTo
    split
    · omega
    · have := headTo_le J k; omega
end Go.Cmp
namespace Go.Proofs.Ytnjboimjlbgdiaa
open Go.RowKit Go.Cmp

section
variable {S : List Nat} {w0 w : World} {M : List Ent} {g gj : Nat} {D : Dsk} {J : Jrn}
set_option maxHeartbeats 8000000 in
theorem jrnHead_any (hS : St S w0 w (.row gj (jcells g J) 68 (0, 0) :: M)) (hJ : J.items.length = 8) (hc : J.check ≤ 72057594037927935) :
    Calls Try.prog 14 #[.pointer (some ⟨gj, 0, none⟩)] w fun e w' => e = .returned (.int .i64 (J.head : Nat)) ∧ St S w0 w' (.row gj (jcells g J) 68 (0, 0) :: M) := by
  obtain ⟨ans, hans⟩ : ∃ a, J.head = a := ⟨_, rfl⟩
  rw [hans]
  (go_enter Try.func14, Try.ntmps14)
  go_wp2_with (first | go_skip | ((with_reducible refine g_load ?_); refine wl_run rfl (by first | exact a_load1 hS rfl rfl rfl rfl (by (repeat (first | exact Ix.here | apply Ix.there))) (by rfl) | exact a_loadR hS rfl rfl rfl rfl (by (repeat (first | exact Ix.here | apply Ix.there))) (by rfl) | fail) ?_) | fail)
  go_loopw [3] (fun v wz => ∃ (k m : Nat), k ≤ 8 ∧ m = J.check + k ∧ v = .int .i64 (m : Int) ∧ Hid (J.headTo k = ans) ∧ St S w0 wz (.row gj (jcells g J) 68 (0, 0) :: M)) (fun v _ => (intOf v - J.check).toNat)
  case atStart => exact ⟨8, J.check + 8, by omega, rfl, by rw [Int.natCast_add]; rfl, Lib.hid hans, hS⟩
  case round =>
    clear hS hans
    obtain ⟨k, m, hk, hm, rfl, HH, hS⟩ := hrel
    by_cases hk0 : k = 0
    · subst hk0
      have hm1 : m = J.check := hm
      subst hm1
      have ha : J.check = ans := HH.out
      subst ha
      clear hk hm HH
      go_wp2_with (first | go_skip | ((with_reducible refine g_load ?_); refine wl_run rfl (by first | exact a_load1 hS rfl rfl rfl rfl (by (repeat (first | exact Ix.here | apply Ix.there))) (by rfl) | exact a_loadR hS rfl rfl rfl rfl (by (repeat (first | exact Ix.here | apply Ix.there))) (by rfl) | fail) ?_) | fail)
      go_ret
      exact ⟨rfl, hS⟩
    · obtain ⟨k', rfl⟩ : ∃ k', k = k' + 1 := ⟨k - 1, by omega⟩
      have hlt : (J.check : Int) < (m : Int) := by omega
      obtain ⟨s, hs0⟩ : ∃ s, m % 8 = s := ⟨_, rfl⟩
      have hs : s < 8 := by omega
      have HP := Lib.hid (fun (W : World) (M : List Ent) (hS : St S w0 W (.row gj (jcells g J) 68 (0, 0) :: M)) => jrnItemP_any hS m s hs0)
      have HK := Lib.hid (jc_kind (gd := g) hJ hs)
      have hx := J.item_at hs0
      have hstep : J.headTo (k' + 1) = if Jrn.kept (J.item ((J.check + (k' + 1) : Nat) : Int)) = true then J.check + (k' + 1) else J.headTo k' := rfl
      rw [← hm, hx] at hstep
      have HM := Lib.hid hm
      have hmc : m ≤ J.check + 8 := by omega
      clear hm
      generalize nth J.items s = x at HK hstep
      obtain ⟨kd, hkd⟩ : ∃ kd, x.kind = kd := ⟨_, rfl⟩
      have hkp : Jrn.kept x = ((kd == 1) || (kd == 2)) := by rw [← hkd]; rfl
      rw [hkd] at HK
      rw [hkp] at hstep
      clear hkd hkp hx
      by_cases h1 : kd = 1
      · subst h1
        have ha : m = ans := by have := HH.out; rw [hstep, if_pos (by rfl)] at this; exact this
        subst ha
        clear hstep
        go_wp2_with (first | go_skip | (go_at_call 29; refine (HP.out _ _ (hS.out (by first | ((repeat (first | exact Out.here | apply Out.there)); done) | fail))).mono ?_; rintro e w' ⟨rfl, rfl⟩) | ((with_reducible refine g_load ?_); refine wl_run rfl (by first | exact a_load1 hS (off := 1) rfl rfl rfl rfl (by (repeat (first | exact Ix.here | apply Ix.there))) (by rfl) | exact a_load1 hS (off := 2 + s * 15) rfl rfl rfl rfl (by (repeat (first | exact Ix.here | apply Ix.there))) HK.out) ?_) | fail)
        go_ret
        exact ⟨rfl, hS⟩
      · by_cases h2 : kd = 2
        · subst h2
          have ha : m = ans := by have := HH.out; rw [hstep, if_pos (by rfl)] at this; exact this
          subst ha
          clear hstep
          go_wp2_with (first | go_skip | (go_at_call 29; refine (HP.out _ _ (hS.out (by first | ((repeat (first | exact Out.here | apply Out.there)); done) | fail))).mono ?_; rintro e w' ⟨rfl, rfl⟩) | ((with_reducible refine g_load ?_); refine wl_run rfl (by first | exact a_load1 hS (off := 1) rfl rfl rfl rfl (by (repeat (first | exact Ix.here | apply Ix.there))) (by rfl) | exact a_load1 hS (off := 2 + s * 15) rfl rfl rfl rfl (by (repeat (first | exact Ix.here | apply Ix.there))) HK.out) ?_) | fail)
          go_ret
          exact ⟨rfl, hS⟩
        · have b1 : (kd == 1) = false := by rw [beq_eq_false_iff_ne]; exact h1
          have b2 : (kd == 2) = false := by rw [beq_eq_false_iff_ne]; exact h2
          have HN : Hid (J.headTo k' = ans) := Lib.hid (by have := HH.out; rw [hstep, b1, b2, if_neg (by simp)] at this; exact this)
          clear hstep HH h1 h2
          go_wp2_with (first | go_skip | (go_at_call 29; refine (HP.out _ _ (hS.out (by first | ((repeat (first | exact Out.here | apply Out.there)); done) | fail))).mono ?_; rintro e w' ⟨rfl, rfl⟩) | ((with_reducible refine g_load ?_); refine wl_run rfl (by first | exact a_load1 hS (off := 1) rfl rfl rfl rfl (by (repeat (first | exact Ix.here | apply Ix.there))) (by rfl) | exact a_load1 hS (off := 2 + s * 15) rfl rfl rfl rfl (by (repeat (first | exact Ix.here | apply Ix.there))) HK.out) ?_) | fail)
          exact ⟨⟨k', m - 1, by omega, by have := HM.out; omega, by congr 1; omega, HN, hS⟩, by simp [intOf]; omega⟩
end
end Go.Proofs.Ytnjboimjlbgdiaa
