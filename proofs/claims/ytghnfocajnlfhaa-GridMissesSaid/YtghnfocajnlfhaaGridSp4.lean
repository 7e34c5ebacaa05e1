/-
  Texts in blocks: one area is written, the other one keeps what it holds.
-/
import Derived.Test.YtghnfocajnlfhaaGridSp3
set_option linter.unusedSimpArgs false
set_option linter.unusedVariables false
set_option linter.unusedSectionVars false
set_option maxRecDepth 100000
namespace Go.Cmp
open Go.RowKit
theorem writesG_ok (a : Nat) : ∀ (l : List (List UInt8)) (i : Nat) (D : Dsk), D.Ok → D.way.length + l.length ≤ 1000000 → D.steps + l.length + 1 ≤ 1000000000 →
    (writesG a i l D).2.Ok ∧ (writesG a i l D).2.lasts.length = D.lasts.length ∧ (writesG a i l D).2.steps ≤ D.steps + l.length + 1 ∧ (writesG a i l D).2.way.length ≤ D.way.length + l.length
  | [], i, D, h, hw, hs => by
    have n := Dsk.flush_next h (by simp at hs; omega)
    have e : writesG a i [] D = D.flush := rfl
    rw [e]
    have h1 := n.steps
    have h2 := n.way
    refine ⟨n.ok, n.len, by simpa using h1, ?_⟩
    have : D.flush.2.way.length ≤ D.way.length := by
      unfold Dsk.flush Dsk.step
      split
      · exact Nat.le_refl _
      · by_cases hf : D.fuse = 1
        · rw [if_pos hf, if_pos rfl]; exact Nat.le_refl _
        · rw [if_neg hf, if_neg (by simp)]; simp
    simpa using this
  | b :: l, i, D, h, hw, hs => by
    simp only [List.length_cons, Int.natCast_add, Int.natCast_one] at hw hs
    have n := layG_next h (secG a i) b (by omega) (by omega)
    have h1 := n.steps
    have h2 := n.way
    have h3 := n.len
    rw [writesG]
    by_cases hc : (layG D (secG a i) b).1 ≠ 0
    · rw [if_pos hc]
      exact ⟨n.ok, n.len, by simp only [List.length_cons]; omega, by simp only [List.length_cons]; omega⟩
    · rw [if_neg hc]
      obtain ⟨a1, a2, a3, a4⟩ := writesG_ok a l (i + 1) _ n.ok (by omega) (by omega)
      exact ⟨a1, a2.trans h3, by simp only [List.length_cons]; omega, by simp only [List.length_cons]; omega⟩
theorem gWrite_ok {D : Dsk} (h : D.Ok) (hw : D.way.length + 10 ≤ 1000000) (hs : D.steps + 10 ≤ 1000000000) (a : Nat) (s : List UInt8) :
    (gWrite D a s).2.Ok ∧ (gWrite D a s).2.lasts.length = D.lasts.length ∧ (gWrite D a s).2.steps ≤ D.steps + 7 ∧ (gWrite D a s).2.way.length ≤ D.way.length + 6 := by
  unfold gWrite
  split
  · exact ⟨h, rfl, by simp only; omega, by simp only; omega⟩
  · have hl : (piecesG s).length = cntG s.length := piecesTo_len s _
    have h6 : cntG s.length ≤ 6 := by unfold cntG; omega
    obtain ⟨a1, a2, a3, a4⟩ := writesG_ok a (piecesG s) 0 D h (by omega) (by omega)
    exact ⟨a1, a2, by omega, by omega⟩
theorem piecesG_len (s : List UInt8) : (piecesG s).length = cntG s.length := piecesTo_len s _
theorem piecesG_small (s : List UInt8) : ∀ b ∈ piecesG s, b.length ≤ 376 := by
  intro b hb
  obtain ⟨i, _, rfl⟩ := List.mem_map.1 hb
  have := piece_len s i
  omega
theorem piecesG_nth {s : List UInt8} {i : Nat} (h : i < cntG s.length) : nth (piecesG s) i = piece s i := by
  have : (piecesG s)[i]? = some (piece s i) := piecesTo_nth h
  unfold nth
  rw [List.getD_eq_getElem?_getD, this]
  rfl
/-- A text is written whole. -/
theorem write_holds {D : Dsk} (ho : D.off = false) (hl : D.lasts.length = 32) (hw : D.way = []) {a : Nat} (ha : a < 2) {s : List UInt8} (hs : s.length ≤ 1920) (hf : 0 ≤ D.fuse) :
    (gWrite D a s).1 = 0 ∧ HoldsG (gWrite D a s).2 a s ∧ (D.fuse = 0 → (gWrite D a s).2.fuse = 0) ∧ (gWrite D a s).2.steps = D.steps + cntG s.length + 1 ∨
    (gWrite D a s).1 = 6 ∧ D.fuse ≠ 0 ∧ (gWrite D a s).2.off = true := by
  have h6 : cntG s.length ≤ 6 := by unfold cntG; omega
  have e : gWrite D a s = writesG a 0 (piecesG s) D := by unfold gWrite; rw [if_neg (by omega)]
  rw [e]
  obtain ⟨Ts, hL, h | h⟩ := Dsk.writes_on a ha (piecesG s) 0 D ho hl (by rw [piecesG_len]; omega) (piecesG_small s) hf
  · obtain ⟨f, h1, h2, h3, h4⟩ := h
    refine .inl ⟨h1, ?_, ?_, ?_⟩
    · rw [h4, hw]
      refine ⟨rfl, rfl, by simp [putsL_len, hl], fun i hi => ?_⟩
      obtain ⟨g, hg⟩ := putsL_at a (piecesG s) 0 Ts D.lasts hL (by rw [piecesG_len, hl]; unfold secN; omega) i (by rw [piecesG_len]; exact hi)
      rw [Nat.zero_add, piecesG_nth hi] at hg
      simp only [List.nil_append]
      rw [hg, openS_sealed (by have := piece_len s i; omega)]
    · rw [h4]; exact h2
    · rw [h4, piecesG_len]
  · obtain ⟨n, t, h1, h2, h3, h4, h5, h6⟩ := h
    exact .inr ⟨h1, h2, by rw [h6]⟩
/-- The other area is written: whatever comes of it, what the first one holds stays. -/
theorem other_holds {D : Dsk} {a b : Nat} {s t : List UInt8} (h : HoldsG D a s) (ha : a < 2) (hb : b < 2) (hab : b ≠ a) (hs : s.length ≤ 1920) (hf : 0 ≤ D.fuse) (P : List Int) :
    ((gWrite D b t).2.off = false ∧ HoldsG (gWrite D b t).2 a s) ∨ ((gWrite D b t).2.off = true ∧ HoldsG ((gWrite D b t).2.start P).2 a s) := by
  by_cases hl : 1920 < t.length
  · have e : gWrite D b t = (5, D) := by unfold gWrite; rw [if_pos hl]
    rw [e]
    exact .inl ⟨h.off, h⟩
  · have h6 : cntG t.length ≤ 6 := by unfold cntG; omega
    have e : gWrite D b t = writesG b 0 (piecesG t) D := by unfold gWrite; rw [if_neg (by omega)]
    rw [e]
    obtain ⟨Ts, hL, q | q⟩ := Dsk.writes_on b hb (piecesG t) 0 D h.off h.len (by rw [piecesG_len]; omega) (piecesG_small t) hf
    · obtain ⟨f, h1, h2, h3, h4⟩ := q
      rw [h4, h.way]
      refine .inl ⟨rfl, rfl, rfl, by simp [putsL_len, h.len], fun i hi => ?_⟩
      simp only [List.nil_append]
      rw [putsL_out, h.has i hi]
      intro x hx
      obtain ⟨j, hj, _, hj2⟩ := hL.mem hx
      rw [piecesG_len] at hj
      unfold cntG at hi
      rw [hj2]; unfold secN; omega
    · obtain ⟨n, u, h1, h2, h3, h4, h5, h6⟩ := q
      rw [h6, h.way]
      refine .inr ⟨rfl, ?_⟩
      unfold Dsk.start
      rw [if_neg (by simp)]
      have fx := settles_fix (P := P) ([] ++ Ts.take n) 0 { D with way := [] ++ Ts.take n, steps := u, fuse := 0, off := true }
      refine ⟨rfl, rfl, fx.1.trans h.len, fun i hi => ?_⟩
      show openS (nth (Dsk.settles _ _ _ _).lasts _) = _
      rw [settles_out]
      · exact h.has i hi
      · intro x hx
        obtain ⟨j, hj, _, hj2⟩ := hL.mem (List.mem_of_mem_take (by simpa using hx))
        rw [piecesG_len] at hj
        unfold cntG at hi
        rw [hj2]; unfold secN; omega
end Go.Cmp
