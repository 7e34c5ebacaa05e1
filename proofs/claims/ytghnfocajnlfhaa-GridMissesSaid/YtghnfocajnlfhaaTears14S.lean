/-
  Texts in blocks: what is loaded behind a write that was cut off, in plain lists.
-/
import Derived.Test.YtghnfocajnlfhaaKeeps14
set_option linter.unusedSimpArgs false
set_option linter.unusedVariables false
set_option linter.unusedSectionVars false
set_option maxRecDepth 100000
namespace Go.Cmp
open Go.RowKit
/-- A disk that is on, with nothing under way. -/
structure On14 (D : Dsk) : Prop where
  ok : D.Ok
  off : D.off = false
  way : D.way = []
  len : D.lasts.length = 32
theorem HoldsG.on {D : Dsk} {a : Nat} {s : List UInt8} (h : HoldsG D a s) (ok : D.Ok) : On14 D := ⟨ok, h.off, h.way, h.len⟩
theorem write_on14 {D : Dsk} (h : On14 D) (hf : D.fuse = 0) (hst : D.steps + 10 ≤ 1000000000) {a : Nat} (ha : a < 2) (s : List UInt8) :
    On14 (gWrite D a s).2 ∧ (gWrite D a s).2.steps ≤ D.steps + 7 := by
  have n := gWrite_ok h.ok (by rw [h.way]; decide) hst a s
  refine ⟨?_, n.2.2.1⟩
  by_cases hl : 1920 < s.length
  · have e : gWrite D a s = (5, D) := by unfold gWrite; rw [if_pos hl]
    rw [e]; exact h
  · rcases write_holds h.off h.len h.way ha (s := s) (by omega) (by rw [hf]; decide) with q | q
    · exact q.2.1.on n.1
    · exact absurd hf q.2.1
theorem tears14 {D : Dsk} (h : On14 D) (hst : D.steps + 10 ≤ 1000000000) {a : Nat} (ha : a < 2) (s : List UInt8) (hs : s.length ≤ 1920) (fz : Int) (hfz : fz ≤ 9223372036854775807) (P : List Int) :
    ∃ E e F, D.setFuse fz = (0, E) ∧ E.Ok ∧ E.way = [] ∧ E.steps = D.steps ∧ gWrite E a s = (e, F) ∧ F.Ok ∧
      ((e = 0 ∧ F.off = false ∧ On14 F ∧ HoldsG F a s) ∨ (e = 6 ∧ F.off = true ∧ ∃ G, F.start P = (0, G) ∧ On14 G)) := by
  have e1 : D.setFuse fz = (0, { D with fuse := max 0 fz }) := by unfold Dsk.setFuse; rw [if_neg (by rw [h.off]; simp)]
  have n := Dsk.fuse_next h.ok fz hfz
  rw [e1] at n
  have w0 : 0 ≤ ({ D with fuse := max 0 fz } : Dsk).fuse := by show 0 ≤ max 0 fz; omega
  obtain ⟨E, hE⟩ : ∃ E, ({ D with fuse := max 0 fz } : Dsk) = E := ⟨_, rfl⟩
  have w1 : E.way = [] := by rw [← hE]; exact h.way
  have w2 : E.steps = D.steps := by rw [← hE]
  have w3 : E.off = false := by rw [← hE]; exact h.off
  have w4 : E.lasts.length = 32 := by rw [← hE]; exact h.len
  rw [hE] at e1 n w0
  have n2 := gWrite_ok n.ok (by rw [w1]; decide) (by rw [w2]; omega) a s
  have q := write_holds w3 w4 w1 ha hs w0
  obtain ⟨e, F, hF⟩ : ∃ e F, gWrite E a s = (e, F) := ⟨_, _, rfl⟩
  rw [hF] at n2 q
  refine ⟨E, e, F, e1, n.ok, w1, w2, hF, n2.1, ?_⟩
  rcases q with ⟨q1, q2, _, _⟩ | ⟨q1, q2, q3⟩
  · exact .inl ⟨q1, q2.off, q2.on n2.1, q2⟩
  · have hst : F.start P = (0, (F.start P).2) := by unfold Dsk.start; rw [if_neg (by rw [q3]; simp)]
    have nn := Dsk.start_next n2.1 P
    refine .inr ⟨q1, q3, _, hst, nn.ok, ?_, ?_, nn.len.trans (n2.2.1.trans w4)⟩
    · unfold Dsk.start; rw [if_neg (by rw [q3]; simp)]
    · unfold Dsk.start; rw [if_neg (by rw [q3]; simp)]
theorem missL_nil {D : Dsk} {a size : Nat} {N : List Nat} {n : Nat} (h : missL D a size N n = []) {i : Nat} (hi : i < n) : goodL D a size N i = true := by
  unfold missL at h
  rw [List.filter_eq_nil_iff] at h
  have := h i (List.mem_range.2 hi)
  simpa using this
theorem hasG_sum {x : List UInt8} {i m : Nat} (h : (hasG x i m).2 = true) : chainOf i (hasG x i m).1 = m := by
  unfold hasG at h ⊢
  split
  · rename_i hc; rw [if_pos hc] at h; exact absurd h (by simp)
  · rename_i hc
    simp only [not_or, ne_eq, Decidable.not_not] at hc
    exact hc.2.2
theorem textL_to {D : Dsk} {a : Nat} {N : List Nat} : ∀ (n i : Nat), i < n → ∃ r, textL D a N n = textL D a N i ++ (partL D a N i).1 ++ r ∧ (i + 1 = n → r = [])
  | 0, i, h => absurd h (by omega)
  | n + 1, i, h => by
    by_cases e : i = n
    · subst e
      exact ⟨[], by rw [textL_snoc, List.append_nil], fun _ => rfl⟩
    · obtain ⟨r, hr, _⟩ := textL_to (D := D) (a := a) (N := N) n i (by omega)
      refine ⟨r ++ (partL D a N n).1, by rw [textL_snoc, hr]; simp, fun h => absurd h (by omega)⟩
/-- What was loaded whole: its blocks. -/
theorem loaded14 {D : Dsk} {a : Nat} {s : List UInt8} (hs : s.length ≤ 1920) (hm : missL D a s.length (sumsN s) (cntG s.length) = []) :
    (textL D a (sumsN s) (cntG s.length)).length = s.length ∧
    (∀ i, i < cntG s.length → (partL D a (sumsN s) i).2 = true ∧ 320 * i + (partL D a (sumsN s) i).1.length ≤ s.length ∧ ((textL D a (sumsN s) (cntG s.length)).take (320 * i + (partL D a (sumsN s) i).1.length)).drop (320 * i) = (partL D a (sumsN s) i).1) ∧
    sumsV (textL D a (sumsN s) (cntG s.length)) = sumsV s := by
  have hlen : (textL D a (sumsN s) (cntG s.length)).length = s.length := by rw [textL_full _ (Nat.le_refl _) hm]; unfold cntG; omega
  have hp : ∀ i, i < cntG s.length → (partL D a (sumsN s) i).2 = true ∧ (partL D a (sumsN s) i).1.length = min 320 (s.length - 320 * i) ∧ ∃ r, textL D a (sumsN s) (cntG s.length) = textL D a (sumsN s) i ++ (partL D a (sumsN s) i).1 ++ r ∧ (textL D a (sumsN s) i).length = 320 * i ∧ (i + 1 = cntG s.length → r = []) := by
    intro i hi
    have hg := missL_nil hm hi
    unfold goodL wantL at hg
    simp only [Bool.and_eq_true, decide_eq_true_eq] at hg
    obtain ⟨r, hr, hr2⟩ := textL_to (D := D) (a := a) (N := sumsN s) _ i hi
    refine ⟨hg.1, hg.2, r, hr, ?_, hr2⟩
    have hm2 : missL D a s.length (sumsN s) i = [] := by
      unfold missL
      rw [List.filter_eq_nil_iff]
      intro k hk
      have := missL_nil hm (i := k) (by have := List.mem_range.1 hk; omega)
      simp [this]
    rw [textL_full i (by omega) hm2]
    have := cntG_lt.1 hi
    omega
  refine ⟨hlen, fun i hi => ?_, ?_⟩
  · obtain ⟨h1, h2, r, h3, h4, _⟩ := hp i hi
    have := cntG_lt.1 hi
    refine ⟨h1, by omega, ?_⟩
    rw [h3, List.append_assoc, List.take_append, h4, List.drop_append, List.length_take, h4]
    simp [h4]
  · have e : ∀ i, i < cntG s.length → sumG (textL D a (sumsN s) (cntG s.length)) i = sumG s i := by
      intro i hi
      obtain ⟨h1, h2, r, h3, h4, h5⟩ := hp i hi
      have hc := cntG_lt.1 hi
      have hpc : piece (textL D a (sumsN s) (cntG s.length)) i = (partL D a (sumsN s) i).1 := by
        unfold piece
        rw [h3, List.append_assoc, List.drop_append, h4, List.drop_eq_nil_of_le (by omega), List.nil_append, Nat.sub_self, List.drop_zero]
        by_cases hl : i + 1 = cntG s.length
        · rw [h5 hl, List.append_nil, List.take_of_length_le (by omega)]
        · have : 320 * (i + 1) < s.length := cntG_lt.1 (by omega)
          rw [List.take_append_of_le_length (by omega), List.take_of_length_le (by omega)]
      have h6 : i < 6 := by unfold cntG at hi; omega
      have hsum : chainOf i (partL D a (sumsN s) i).1 = sumG s i := by
        have := hasG_sum h1
        unfold partL
        rw [this]
        exact sumN_nth h6
      have e1 : sumG (textL D a (sumsN s) (cntG s.length)) i = chainOf i (piece (textL D a (sumsN s) (cntG s.length)) i) := by
        unfold sumG; rw [hlen, if_pos hi]
      rw [e1, hpc, hsum]
    unfold sumsV
    apply List.map_congr_left
    intro i _
    by_cases hi : i < cntG s.length
    · rw [e i hi]
    · have z1 : sumG (textL D a (sumsN s) (cntG s.length)) i = 0 := by unfold sumG; rw [hlen, if_neg hi]
      have z2 : sumG s i = 0 := by unfold sumG; rw [if_neg hi]
      rw [z1, z2]
end Go.Cmp
