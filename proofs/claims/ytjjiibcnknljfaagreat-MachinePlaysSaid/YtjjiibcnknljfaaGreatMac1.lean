/-
  The program's machine: a new one; what is told again; follows, next; registers, asks; an entry is done.
-/
import Derived.Test.YtjjiibcnknljfaaGreatMacSpec
import Derived.Test.YtjjiibcnknljfaaGreatEnt3
import Derived.Test.YtjjiibcnknljfaaGreatLedB
set_option linter.unusedSimpArgs false
set_option linter.unusedVariables false
set_option linter.unusedSectionVars false
set_option maxRecDepth 100000
namespace Go.Proofs.YtjjiibcnknljfaaGreat
open Go.RowKit Go.Cmp

/-- The program's machine. -/
def mach (g : Nat) (m : Mac) : Ent := pack (fun _ : Nat × Nat => True) fun x =>
  [.row g [.int .i64 m.mark.op, .int .i64 m.mark.view, .int .u64 m.mark.sum, .pointer (some ⟨x.1, 0, none⟩), .pointer (some ⟨x.2, 0, none⟩)] 74 (0, 0), ses x.1 m.T, ledg x.2 m.D]

section
variable {S : List Nat} {w0 w : World} {M : List Ent} {g : Nat} {m : Mac}

theorem mach_in {gs gl : Nat} (m : Mac) (hS : St S w0 w (.row g [.int .i64 m.mark.op, .int .i64 m.mark.view, .int .u64 m.mark.sum, .pointer (some ⟨gs, 0, none⟩), .pointer (some ⟨gl, 0, none⟩)] 74 (0, 0) :: ses gs m.T :: ledg gl m.D :: M)) : St S w0 w (mach g m :: M) := St.pack (gs, gl) trivial hS

theorem mach_new (hS : St S w0 w M) : Calls Tryz.prog 7 #[] w fun e w' => ∃ g, e = .returned (.pointer (some ⟨g, 0, none⟩)) ∧ St S w0 w' (mach g newMac :: M) := by
  (go_enter Tryz.func7, Tryz.ntmps7)
  go_wp2_with (first | (go_at_call 28; refine (ses_new hS).mono ?_; clear hS; rintro e w' ⟨gs, rfl, hS⟩) | (go_at_call 29; refine (ledg_new hS).mono ?_; clear hS; rintro e w' ⟨gl, rfl, hS⟩) | (first | refine au1 (n := ?_) | (refine au2 (n := ?_); clear hS; intro w' hS) | (refine au3 (n := ?_); clear hS; intro gb w1 hS) | (refine au4 (n := ?_); clear hS; intro v1 w' hS) | ((with_reducible refine wl_guard ?_); refine stop_mem rfl rfl ?_)))
  go_ret
  exact ⟨gb, rfl, St.packs (gs, gl) hS⟩

theorem again_any (s : Ses) (w : World) : Calls Tryz.prog 50 #[.agg s.cells.toArray] w fun e w' => e = .returned (.agg (tellS s).cells.toArray) ∧ St [] w w' [] := by
  have hS := St.init w
  obtain ⟨a, b, c, d, e⟩ := s
  simp only [Ses.cells, Ans.cells, tellS]
  (go_enter Tryz.func50, Tryz.ntmps50)
  go_wp2_with (first | refine au1 (n := ?_) | (refine au2 (n := ?_); clear hS; intro w' hS) | (refine au3 (n := ?_); clear hS; intro gb w1 hS) | (refine au4 (n := ?_); clear hS; intro v1 w' hS) | ((with_reducible refine wl_guard ?_); refine stop_mem rfl rfl ?_))
  exact end_cell1 hS rfl rfl rfl rfl rfl (h := ⟨rfl, hS.nil⟩)

set_option maxHeartbeats 4000000 in
theorem entFollows_any (m : Mk) (e : En) (w : World) :
    Calls Tryz.prog 30 #[.agg m.cells.toArray, .agg e.cells.toArray] w fun x w' => x = .returned (.bool (followsE m e)) ∧ St [] w w' [] := by
  have hS := St.init w
  have HR := Lib.hid (fun w => entRightL_any e w)
  generalize ha : followsE m e = ans
  unfold followsE at ha
  have hop : e.right = true → 1 ≤ e.op ∧ e.op ≤ 72057594037927935 := fun h => by have := (right_may h).2.1; simp [may] at this; omega
  obtain ⟨b0, hb0⟩ : ∃ b, e.right = b := ⟨_, rfl⟩
  rw [hb0] at HR ha hop
  clear hb0
  obtain ⟨vw, po, un, par, cl, se, rq, opr, body⟩ := e
  obtain ⟨mo, mv, ms⟩ := m
  simp only at ha hop
  simp only [En.cells, Mk.cells] at HR ⊢
  cases b0
  · have HA : Hid (ans = false) := Lib.hid (by rw [← ha]; simp only [Bool.false_and])
    clear ha hop; (go_enter Tryz.func30, Tryz.ntmps30); go_wp2_with (first | (go_at_call 12; refine (HR.out _).mono ?_; rintro e w' ⟨rfl, h⟩; replace hS := hS.call h; clear h) | (first | refine au1 (n := ?_) | (refine au2 (n := ?_); clear hS; intro w' hS) | (refine au3 (n := ?_); clear hS; intro gb w1 hS) | (refine au4 (n := ?_); clear hS; intro v1 w' hS) | ((with_reducible refine wl_guard ?_); refine stop_mem rfl rfl ?_)))
    go_ret
    exact ⟨by rw [HA.out]; rfl, hS.nil⟩
  obtain ⟨hop, hop2⟩ := hop rfl
  by_cases c1 : po - 1 = mo
  · by_cases c2 : un = mv
    · by_cases c3 : par = ms
      · have HA : Hid (ans = true) := Lib.hid (by rw [← ha]; simp [c1, c2, c3])
        subst c1 c2 c3
        clear ha; (go_enter Tryz.func30, Tryz.ntmps30); go_wp2_with (first | (go_at_call 12; refine (HR.out _).mono ?_; rintro e w' ⟨rfl, h⟩; replace hS := hS.call h; clear h) | (first | refine au1 (n := ?_) | (refine au2 (n := ?_); clear hS; intro w' hS) | (refine au3 (n := ?_); clear hS; intro gb w1 hS) | (refine au4 (n := ?_); clear hS; intro v1 w' hS) | ((with_reducible refine wl_guard ?_); refine stop_mem rfl rfl ?_)))
        go_ret
        exact ⟨by rw [HA.out]; rfl, hS.nil⟩
      · have HA : Hid (ans = false) := Lib.hid (by rw [← ha]; simp [c3])
        subst c1 c2
        have hc3 : ((par : Int) == (ms : Int)) = false := by rw [beq_eq_false_iff_ne]; omega
        clear ha; (go_enter Tryz.func30, Tryz.ntmps30); go_wp2_with (first | (go_at_call 12; refine (HR.out _).mono ?_; rintro e w' ⟨rfl, h⟩; replace hS := hS.call h; clear h) | (first | refine au1 (n := ?_) | (refine au2 (n := ?_); clear hS; intro w' hS) | (refine au3 (n := ?_); clear hS; intro gb w1 hS) | (refine au4 (n := ?_); clear hS; intro v1 w' hS) | ((with_reducible refine wl_guard ?_); refine stop_mem rfl rfl ?_)))
        go_ret
        exact ⟨by rw [HA.out]; rfl, hS.nil⟩
    · have HA : Hid (ans = false) := Lib.hid (by rw [← ha]; simp [c2])
      subst c1
      clear ha; (go_enter Tryz.func30, Tryz.ntmps30); go_wp2_with (first | (go_at_call 12; refine (HR.out _).mono ?_; rintro e w' ⟨rfl, h⟩; replace hS := hS.call h; clear h) | (first | refine au1 (n := ?_) | (refine au2 (n := ?_); clear hS; intro w' hS) | (refine au3 (n := ?_); clear hS; intro gb w1 hS) | (refine au4 (n := ?_); clear hS; intro v1 w' hS) | ((with_reducible refine wl_guard ?_); refine stop_mem rfl rfl ?_)))
      go_ret
      exact ⟨by rw [HA.out]; rfl, hS.nil⟩
  · have HA : Hid (ans = false) := Lib.hid (by rw [← ha]; simp [c1])
    clear ha; (go_enter Tryz.func30, Tryz.ntmps30); go_wp2_with (first | (go_at_call 12; refine (HR.out _).mono ?_; rintro e w' ⟨rfl, h⟩; replace hS := hS.call h; clear h) | (first | refine au1 (n := ?_) | (refine au2 (n := ?_); clear hS; intro w' hS) | (refine au3 (n := ?_); clear hS; intro gb w1 hS) | (refine au4 (n := ?_); clear hS; intro v1 w' hS) | ((with_reducible refine wl_guard ?_); refine stop_mem rfl rfl ?_)))
    go_ret
    exact ⟨by rw [HA.out]; rfl, hS.nil⟩

set_option maxHeartbeats 4000000 in
theorem entNext_any (m : Mk) (e : En) (w : World) :
    Calls Tryz.prog 11 #[.agg m.cells.toArray, .agg e.cells.toArray] w fun x w' => x = .returned (.agg (nextE m e).cells.toArray) ∧ St [] w w' [] := by
  have hS := St.init w
  obtain ⟨vw, po, un, par, cl, se, rq, opr, body⟩ := e
  obtain ⟨mo, mv, ms⟩ := m
  by_cases c1 : 0 ≤ mo
  · by_cases c2 : mo < 72057594037927935
    · have e : nextE ⟨mo, mv, ms⟩ ⟨vw, po, un, par, cl, se, rq, opr, body⟩ = ⟨vw, mo + 1, mv, ms, cl, se, rq, opr, body⟩ := by unfold nextE; simp only; rw [if_pos ⟨c1, c2⟩]
      rw [e]
      simp only [En.cells, Mk.cells]
      (go_enter Tryz.func11, Tryz.ntmps11)
      go_wp2_with (first | refine au1 (n := ?_) | (refine au2 (n := ?_); clear hS; intro w' hS) | (refine au3 (n := ?_); clear hS; intro gb w1 hS) | (refine au4 (n := ?_); clear hS; intro v1 w' hS) | ((with_reducible refine wl_guard ?_); refine stop_mem rfl rfl ?_))
      exact end_cell1 hS rfl rfl rfl rfl rfl (h := ⟨rfl, hS.nil⟩)
    · have e : nextE ⟨mo, mv, ms⟩ ⟨vw, po, un, par, cl, se, rq, opr, body⟩ = ⟨vw, po, mv, ms, cl, se, rq, opr, body⟩ := by unfold nextE; simp only; rw [if_neg (fun h => c2 h.2)]
      rw [e]
      simp only [En.cells, Mk.cells]
      (go_enter Tryz.func11, Tryz.ntmps11)
      go_wp2_with (first | refine au1 (n := ?_) | (refine au2 (n := ?_); clear hS; intro w' hS) | (refine au3 (n := ?_); clear hS; intro gb w1 hS) | (refine au4 (n := ?_); clear hS; intro v1 w' hS) | ((with_reducible refine wl_guard ?_); refine stop_mem rfl rfl ?_))
      exact end_cell1 hS rfl rfl rfl rfl rfl (h := ⟨rfl, hS.nil⟩)
  · have e : nextE ⟨mo, mv, ms⟩ ⟨vw, po, un, par, cl, se, rq, opr, body⟩ = ⟨vw, po, mv, ms, cl, se, rq, opr, body⟩ := by unfold nextE; simp only; rw [if_neg (fun h => c1 h.1)]
    rw [e]
    simp only [En.cells, Mk.cells]
    (go_enter Tryz.func11, Tryz.ntmps11)
    go_wp2_with (first | refine au1 (n := ?_) | (refine au2 (n := ?_); clear hS; intro w' hS) | (refine au3 (n := ?_); clear hS; intro gb w1 hS) | (refine au4 (n := ?_); clear hS; intro v1 w' hS) | ((with_reducible refine wl_guard ?_); refine stop_mem rfl rfl ?_))
    exact end_cell1 hS rfl rfl rfl rfl rfl (h := ⟨rfl, hS.nil⟩)
end
end Go.Proofs.YtjjiibcnknljfaaGreat
