/-
  The document's machine: a new one; what is told; follows.
-/
import Derived.Test.YtjjiibcnknljfaaGreatMacSpec
import Derived.Test.YtjjiibcnknljfaaGreatEnt4
import Derived.Test.YtjjiibcnknljfaaGreatLedE
import Derived.Test.YtjjiibcnknljfaaGreatSesP
set_option linter.unusedSimpArgs false
set_option linter.unusedVariables false
set_option linter.unusedSectionVars false
set_option maxRecDepth 100000
namespace Go.Proofs.YtjjiibcnknljfaaGreat
open Go.RowKit Go.Cmp

/-- The document's machine. -/
def rmach (g : Nat) (m : Mac) : Ent := pack (fun _ : Nat × Nat => True) fun x =>
  [.row g [.int .i64 m.mark.op, .int .i64 m.mark.view, .int .u64 m.mark.sum, .pointer (some ⟨x.1, 0, none⟩), .pointer (some ⟨x.2, 0, none⟩)] 62 (0, 0), rses x.1 m.T, rledg x.2 m.D]

section
variable {S : List Nat} {w0 w : World} {M : List Ent} {g : Nat} {m : Mac}
theorem rmach_in {gs gl : Nat} (m : Mac) (hS : St S w0 w (.row g [.int .i64 m.mark.op, .int .i64 m.mark.view, .int .u64 m.mark.sum, .pointer (some ⟨gs, 0, none⟩), .pointer (some ⟨gl, 0, none⟩)] 62 (0, 0) :: rses gs m.T :: rledg gl m.D :: M)) : St S w0 w (rmach g m :: M) := St.pack (gs, gl) trivial hS

theorem rmach_new (hS : St S w0 w M) : Calls Tryz.prog 18 #[] w fun e w' => ∃ g, e = .returned (.pointer (some ⟨g, 0, none⟩)) ∧ St S w0 w' (rmach g newMac :: M) := by
  (go_enter Tryz.func18, Tryz.ntmps18)
  go_wp2_with (first | ((with_reducible refine g_box (e := 65) ?_); refine wl_of rfl ?_; refine wp_box hS rfl rfl rfl ?_; clear hS; intro gs w1 hS) | ((with_reducible refine g_box (e := 50) ?_); refine wl_of rfl ?_; refine wp_box hS rfl rfl rfl ?_; clear hS; intro gl w1 hS) | (first | refine au1 (n := ?_) | (refine au2 (n := ?_); clear hS; intro w' hS) | (refine au3 (n := ?_); clear hS; intro gb w1 hS) | (refine au4 (n := ?_); clear hS; intro v1 w' hS) | ((with_reducible refine wl_guard ?_); refine stop_mem rfl rfl ?_)))
  go_ret
  have hS := ((hS.addNil 41 5).addNil 86 4).addNil 91 4
  have hS : St S w0 _ (rses gs [] :: _) := St.packs (Value.slice none 0 0) hS
  have hS : St S w0 _ (rledg gl ⟨[], []⟩ :: _) := St.packs (Value.slice none 0 0, Value.slice none 0 0) hS
  exact ⟨gb, rfl, rmach_in (gs := gs) (gl := gl) newMac (((hS.out (m := rledg gl _) (by (repeat (first | exact Out.here | apply Out.there)))).out (m := rses gs _) (by (repeat (first | exact Out.here | apply Out.there)))).out (m := .row gb _ _ _) (by (repeat (first | exact Out.here | apply Out.there))))⟩

theorem told10_any (s : Ses) (w : World) : Calls Tryz.prog 52 #[.agg s.cells.toArray] w fun e w' => e = .returned (.agg (tellS s).cells.toArray) ∧ St [] w w' [] := by
  have hS := St.init w
  obtain ⟨a, b, c, d, e⟩ := s
  simp only [Ses.cells, Ans.cells, tellS]
  (go_enter Tryz.func52, Tryz.ntmps52)
  go_wp2_with (first | refine au1 (n := ?_) | (refine au2 (n := ?_); clear hS; intro w' hS) | (refine au3 (n := ?_); clear hS; intro gb w1 hS) | (refine au4 (n := ?_); clear hS; intro v1 w' hS) | ((with_reducible refine wl_guard ?_); refine stop_mem rfl rfl ?_))
  exact end_cell1 hS rfl rfl rfl rfl rfl (h := ⟨rfl, hS.nil⟩)

set_option maxHeartbeats 4000000 in
theorem ref9Follows_any (m : Mk) (e : En) (hb : e.body.length ≤ 1000000) (w : World) :
    Calls Tryz.prog 46 #[.agg m.cells.toArray, .agg e.cells.toArray] w fun x w' => x = .returned (.bool (followsE m e)) ∧ St [] w w' [] := by
  have hS := St.init w
  have HR := Lib.hid (fun w => refRight9_any e (by omega) w)
  generalize ha : followsE m e = ans
  unfold followsE at ha
  have hop : e.right = true → 1 ≤ e.op ∧ e.op ≤ 72057594037927935 := fun h => by have := (right_may h).2.1; simp [may] at this; omega
  obtain ⟨b0, hb0⟩ : ∃ b, e.right = b := ⟨_, rfl⟩
  rw [hb0] at HR ha hop
  clear hb0
  obtain ⟨vw, po, un, par, cl, se, rq, opr, body⟩ := e
  obtain ⟨mo, mv, ms⟩ := m
  simp only at ha hop
  simp only [En.cells, Mk.cells] at HR ⊢
  cases b0
  · have HA : Hid (ans = false) := Lib.hid (by rw [← ha]; simp only [Bool.false_and])
    clear ha hop; (go_enter Tryz.func46, Tryz.ntmps46); go_wp2_with (first | (go_at_call 45; refine (HR.out _).mono ?_; rintro e w' ⟨rfl, h⟩; replace hS := hS.call h; clear h) | (first | refine au1 (n := ?_) | (refine au2 (n := ?_); clear hS; intro w' hS) | (refine au3 (n := ?_); clear hS; intro gb w1 hS) | (refine au4 (n := ?_); clear hS; intro v1 w' hS) | ((with_reducible refine wl_guard ?_); refine stop_mem rfl rfl ?_)))
    go_ret
    exact ⟨by rw [HA.out]; rfl, hS.nil⟩
  obtain ⟨hop, hop2⟩ := hop rfl
  by_cases c1 : mo = po - 1
  · by_cases c2 : mv = un
    · by_cases c3 : ms = par
      · have HA : Hid (ans = true) := Lib.hid (by rw [← ha]; simp [c1, c2, c3])
        subst c1 c2 c3
        clear ha; (go_enter Tryz.func46, Tryz.ntmps46); go_wp2_with (first | (go_at_call 45; refine (HR.out _).mono ?_; rintro e w' ⟨rfl, h⟩; replace hS := hS.call h; clear h) | (first | refine au1 (n := ?_) | (refine au2 (n := ?_); clear hS; intro w' hS) | (refine au3 (n := ?_); clear hS; intro gb w1 hS) | (refine au4 (n := ?_); clear hS; intro v1 w' hS) | ((with_reducible refine wl_guard ?_); refine stop_mem rfl rfl ?_)))
        go_ret
        exact ⟨by rw [HA.out]; rfl, hS.nil⟩
      · have HA : Hid (ans = false) := Lib.hid (by rw [← ha]; simp [show ¬ par = ms from fun h => c3 h.symm])
        subst c1 c2
        have hc3 : ((ms : Int) == (par : Int)) = false := by rw [beq_eq_false_iff_ne]; omega
        clear ha; (go_enter Tryz.func46, Tryz.ntmps46); go_wp2_with (first | (go_at_call 45; refine (HR.out _).mono ?_; rintro e w' ⟨rfl, h⟩; replace hS := hS.call h; clear h) | (first | refine au1 (n := ?_) | (refine au2 (n := ?_); clear hS; intro w' hS) | (refine au3 (n := ?_); clear hS; intro gb w1 hS) | (refine au4 (n := ?_); clear hS; intro v1 w' hS) | ((with_reducible refine wl_guard ?_); refine stop_mem rfl rfl ?_)))
        go_ret
        exact ⟨by rw [HA.out]; rfl, hS.nil⟩
    · have HA : Hid (ans = false) := Lib.hid (by rw [← ha]; simp [show ¬ un = mv from fun h => c2 h.symm])
      subst c1
      clear ha; (go_enter Tryz.func46, Tryz.ntmps46); go_wp2_with (first | (go_at_call 45; refine (HR.out _).mono ?_; rintro e w' ⟨rfl, h⟩; replace hS := hS.call h; clear h) | (first | refine au1 (n := ?_) | (refine au2 (n := ?_); clear hS; intro w' hS) | (refine au3 (n := ?_); clear hS; intro gb w1 hS) | (refine au4 (n := ?_); clear hS; intro v1 w' hS) | ((with_reducible refine wl_guard ?_); refine stop_mem rfl rfl ?_)))
      go_ret
      exact ⟨by rw [HA.out]; rfl, hS.nil⟩
  · have HA : Hid (ans = false) := Lib.hid (by rw [← ha]; simp [show ¬ po - 1 = mo from fun h => c1 h.symm])
    clear ha; (go_enter Tryz.func46, Tryz.ntmps46); go_wp2_with (first | (go_at_call 45; refine (HR.out _).mono ?_; rintro e w' ⟨rfl, h⟩; replace hS := hS.call h; clear h) | (first | refine au1 (n := ?_) | (refine au2 (n := ?_); clear hS; intro w' hS) | (refine au3 (n := ?_); clear hS; intro gb w1 hS) | (refine au4 (n := ?_); clear hS; intro v1 w' hS) | ((with_reducible refine wl_guard ?_); refine stop_mem rfl rfl ?_)))
    go_ret
    exact ⟨by rw [HA.out]; rfl, hS.nil⟩
end
end Go.Proofs.YtjjiibcnknljfaaGreat
