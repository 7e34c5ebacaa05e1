/-
  The program's machine: what would be told once more; what a request would be.
-/
import Derived.Test.YtjjiibcnknljfaaGreatMac1
set_option linter.unusedSimpArgs false
set_option linter.unusedVariables false
set_option linter.unusedSectionVars false
set_option maxRecDepth 100000
namespace Go.Proofs.YtjjiibcnknljfaaGreat
open Go.RowKit Go.Cmp

section
variable {S : List Nat} {w0 w : World} {M : List Ent} {g : Nat} {m : Mac}

theorem mach_verdict (hS : St S w0 w (mach g m :: M)) (hm : m.Ok) (c s r : Int) (h1 : -9223372036854775808 ≤ r) (h2 : r ≤ 9223372036854775807) :
    Calls Tryz.prog 22 #[.pointer (some ⟨g, 0, none⟩), .int .i64 c, .int .i64 s, .int .i64 r] w fun x w' => x = .returned (.int .i64 (sVerdict m.T c s r)) ∧ St S w0 w' (mach g m :: M) := by
  obtain ⟨mk, T, D⟩ := m
  have hl3 : T.length ≤ 3 := hm.good.ok.len
  have HV := Lib.hid (fun (S : List Nat) (w0 : World) (w : World) (M : List Ent) (g : Nat) (hS : St S w0 w (ses g T :: M)) => ses_verdict hS (by omega) c s r hm.good.ok.req h1 h2)
  clear hm hl3
  (have hU := St.unpack hS; clear hS; obtain ⟨⟨gs, gl⟩, _, hS⟩ := hU; simp only [List.cons_append, List.nil_append] at hS)
  (go_enter Tryz.func22, Tryz.ntmps22)
  go_wp2_with (first | (go_at_call 48; refine (HV.out _ _ _ _ _ (hS.out (by (repeat (first | exact Out.here | apply Out.there))))).mono ?_; clear hS; rintro e w' ⟨rfl, hS⟩) | (first | refine au1 (n := ?_) | (refine au2 (n := ?_); clear hS; intro w' hS) | (refine au3 (n := ?_); clear hS; intro gb w1 hS) | (refine au4 (n := ?_); clear hS; intro v1 w' hS) | ((with_reducible refine wl_guard ?_); refine stop_mem rfl rfl ?_)))
  go_ret
  exact ⟨rfl, St.packs (gs, gl) hS⟩

set_option maxHeartbeats 8000000 in
theorem mach_cached (hS : St S w0 w (mach g m :: M)) (hm : m.Ok) (c s r : Int) (h1 : -9223372036854775808 ≤ r) (h2 : r ≤ 9223372036854775807) :
    Calls Tryz.prog 20 #[.pointer (some ⟨g, 0, none⟩), .int .i64 c, .int .i64 s, .int .i64 r] w fun x w' => x = .returned (.tuple #[.agg (m.cached c s r).1.cells.toArray, .bool (m.cached c s r).2]) ∧ St S w0 w' (mach g m :: M) := by
  obtain ⟨mk, T, D⟩ := m
  have hl3 : T.length ≤ 3 := hm.good.ok.len
  have HL := Lib.hid (fun (S : List Nat) (w0 : World) (w : World) (M : List Ent) (g : Nat) (hS : St S w0 w (ses g T :: M)) => ses_look hS (by omega) c)
  have HV := Lib.hid (fun (S : List Nat) (w0 : World) (w : World) (M : List Ent) (g : Nat) (hS : St S w0 w (ses g T :: M)) => ses_verdict hS (by omega) c s r hm.good.ok.req h1 h2)
  have HA := Lib.hid (fun w => again_any (sLook T c).1 w)
  unfold Mac.cached
  simp only
  clear hm hl3
  generalize sVerdict T c s r = V at HV ⊢
  generalize sLook T c = Y at HL HA ⊢
  obtain ⟨⟨ya1, ya2, ya3, ya4, ya5⟩, yb⟩ := Y
  simp only [tellS, Ses.cells, Ans.cells] at HL HA ⊢
  by_cases hV : V = 2
  · subst hV
    rw [if_pos rfl]
    simp only
    (have hU := St.unpack hS; clear hS; obtain ⟨⟨gs, gl⟩, _, hS⟩ := hU; simp only [List.cons_append, List.nil_append] at hS)
    (go_enter Tryz.func20, Tryz.ntmps20)
    go_wp2_with (first | (go_at_call 48; refine (HV.out _ _ _ _ _ (hS.out (by (repeat (first | exact Out.here | apply Out.there))))).mono ?_; clear hS; rintro e w' ⟨rfl, hS⟩) | (go_at_call 49; refine (HL.out _ _ _ _ _ (hS.out (by (repeat (first | exact Out.here | apply Out.there))))).mono ?_; clear hS; rintro e w' ⟨rfl, hS⟩) | (go_at_call 50; refine (HA.out _).mono ?_; rintro e w' ⟨rfl, h⟩; replace hS := hS.call h; clear h) | (first | refine au1 (n := ?_) | (refine au2 (n := ?_); clear hS; intro w' hS) | (refine au3 (n := ?_); clear hS; intro gb w1 hS) | (refine au4 (n := ?_); clear hS; intro v1 w' hS) | ((with_reducible refine wl_guard ?_); refine stop_mem rfl rfl ?_)))
    exact end_cell2 hS rfl rfl rfl rfl rfl rfl (h := ⟨rfl, St.packs (gs, gl) hS⟩)
  · rw [if_neg hV]
    have hV1 : ((V : Int) != 2) = true := by rw [bne_iff_ne]; exact hV
    simp only [zAns]
    (have hU := St.unpack hS; clear hS; obtain ⟨⟨gs, gl⟩, _, hS⟩ := hU; simp only [List.cons_append, List.nil_append] at hS)
    (go_enter Tryz.func20, Tryz.ntmps20)
    go_wp2_with (first | (go_at_call 48; refine (HV.out _ _ _ _ _ (hS.out (by (repeat (first | exact Out.here | apply Out.there))))).mono ?_; clear hS; rintro e w' ⟨rfl, hS⟩) | (first | refine au1 (n := ?_) | (refine au2 (n := ?_); clear hS; intro w' hS) | (refine au3 (n := ?_); clear hS; intro gb w1 hS) | (refine au4 (n := ?_); clear hS; intro v1 w' hS) | ((with_reducible refine wl_guard ?_); refine stop_mem rfl rfl ?_)))
    exact end_cell2 hS rfl rfl rfl rfl rfl rfl (h := ⟨rfl, St.packs (gs, gl) hS⟩)
end
end Go.Proofs.YtjjiibcnknljfaaGreat
