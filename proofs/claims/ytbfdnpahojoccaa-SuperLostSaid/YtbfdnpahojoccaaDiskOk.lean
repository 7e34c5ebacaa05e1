/-
  What may be of a disk stays so, whatever is called.
-/
import Derived.Test.YtbfdnpahojoccaaDiskSpec
set_option linter.unusedSimpArgs false
set_option linter.unusedVariables false
set_option linter.unusedSectionVars false
set_option maxRecDepth 100000
namespace Go.Cmp
open Go.RowKit
namespace Dsk

theorem kept_le' (pick : Int) : kept pick ≤ 384 := by unfold kept; split <;> (try split) <;> omega
/-- D' is as D may be, and has at most one write, one step more. -/
structure Next (D D' : Dsk) : Prop where
  ok : D'.Ok
  way : D'.way.length ≤ D.way.length + 1
  steps : D'.steps ≤ D.steps + 1
  len : D'.lasts.length = D.lasts.length
theorem Next.same {D : Dsk} (h : D.Ok) : Next D D := ⟨h, by omega, by omega, rfl⟩

theorem step_next {D : Dsk} (h : D.Ok) (hs : D.steps < 1000000000) : Next D D.step.2 ∧ D.step.2.way = D.way := by
  have h1 := h.fuse0
  have h2 := h.fuse1
  have h3 := h.steps0
  unfold step
  split
  · exact ⟨⟨⟨h.len, h.few, h.size, h.way, h.ways, by simp, by simp, by simp only; omega, by simp only; omega⟩, by simp, by simp, rfl⟩, rfl⟩
  · exact ⟨⟨⟨h.len, h.few, h.size, h.way, h.ways, by simp only; omega, by simp only; omega, by simp only; omega, by simp only; omega⟩, by simp, by simp, rfl⟩, rfl⟩
theorem is_lt {D : Dsk} {i : Int} (h : D.is i = true) : 0 ≤ i ∧ i < D.lasts.length := by simpa [is] using h
theorem write_next {D : Dsk} (h : D.Ok) (i : Int) (t : List UInt8) (hw : D.way.length < 1000000) (hs : D.steps < 1000000000) : Next D (D.write i t).2 := by
  obtain ⟨n1, n2⟩ := step_next h hs
  unfold write
  split
  · exact .same h
  · rename_i hc
    split
    · exact .same h
    · split
      · exact n1
      · have hd : D.is i = true := by cases hd : D.is i; exact absurd (.inl hd) hc; rfl
        have ht : t.length = 384 := by
          by_cases ht : (t.length : Int) = 384
          · omega
          · exact absurd (.inr ht) hc
        obtain ⟨i1, i2⟩ := is_lt hd
        refine ⟨⟨n1.ok.len, n1.ok.few, n1.ok.size, ?_, by simp; omega, n1.ok.fuse0, n1.ok.fuse1, n1.ok.steps0, n1.ok.steps1⟩, by simp, n1.steps, n1.len⟩
        intro x hx
        rcases List.mem_append.1 hx with hx | hx
        · have := h.way x hx
          rw [← n1.len] at this
          exact this
        · simp only [List.mem_singleton] at hx
          subst hx
          exact ⟨i1, by simp only [n1.len]; exact i2, ht⟩
theorem put_ok {D : Dsk} (h : D.Ok) {x : Wr} (h3 : x.text.length = 384) : (D.put x).Ok ∧ (D.put x).lasts.length = D.lasts.length := by
  refine ⟨⟨by simp [put, h.len], by simpa [put] using h.few, ?_, by simpa [put] using h.way, h.ways, h.fuse0, h.fuse1, h.steps0, h.steps1⟩, by simp [put]⟩
  intro s hs
  rcases List.mem_or_eq_of_mem_set hs with hs | hs
  · exact h.size s hs
  · rw [hs]; exact h3
theorem puts_ok : ∀ {l : List Wr} {D : Dsk}, D.Ok → (∀ x ∈ l, x.text.length = 384) → (D.puts l).Ok ∧ (D.puts l).lasts.length = D.lasts.length ∧ (D.puts l).way = D.way ∧ (D.puts l).steps = D.steps
  | [], D, h, _ => ⟨h, rfl, rfl, rfl⟩
  | x :: l, D, h, hl => by
    obtain ⟨h1, h2⟩ := put_ok h (hl x (by simp))
    obtain ⟨h3, h4, h5, h6⟩ := puts_ok (l := l) h1 (fun y hy => hl y (by simp [hy]))
    exact ⟨h3, by rw [← h2]; exact h4, h5, h6⟩
theorem noway {D : Dsk} (h : D.Ok) (o : Bool) : ({ D with way := [], off := o } : Dsk).Ok := ⟨h.len, h.few, h.size, by simp, by simp, h.fuse0, h.fuse1, h.steps0, h.steps1⟩
theorem flush_next {D : Dsk} (h : D.Ok) (hs : D.steps < 1000000000) : Next D D.flush.2 := by
  obtain ⟨n1, n2⟩ := step_next h hs
  unfold flush
  split
  · exact .same h
  · split
    · exact n1
    · obtain ⟨p1, p2, p3, p4⟩ := puts_ok (l := D.way) n1.ok (fun x hx => (h.way x hx).2.2)
      have := n1.len
      have := n1.steps
      exact ⟨noway p1 _, by simp, by simp only; omega, by simp only; omega⟩
theorem fuse_next {D : Dsk} (h : D.Ok) (n : Int) (hn : n ≤ 9223372036854775807) : Next D (D.setFuse n).2 := by
  unfold setFuse
  split
  · exact .same h
  · exact ⟨⟨h.len, h.few, h.size, h.way, h.ways, by simp only; omega, by simp only; omega, h.steps0, h.steps1⟩, by simp, by simp only; omega, rfl⟩
theorem cut_next {D : Dsk} (h : D.Ok) : Next D D.cut.2 := by
  unfold cut
  split
  · exact .same h
  · exact ⟨⟨h.len, h.few, h.size, h.way, h.ways, by simp, by simp, h.steps0, h.steps1⟩, by simp, by simp only; omega, rfl⟩
theorem settle_ok' {D : Dsk} (hD : D.Ok) {x : Wr} (h3 : x.text.length = 384) (h1 : 0 ≤ x.sector) (h2 : x.sector < D.lasts.length) (pick : Int) : (D.settle x pick).Ok ∧ (D.settle x pick).lasts.length = D.lasts.length ∧ (D.settle x pick).way = D.way ∧ (D.settle x pick).steps = D.steps := by
  unfold settle
  split
  · exact ⟨hD, rfl, rfl, rfl⟩
  · refine ⟨⟨by simp [hD.len], by simpa using hD.few, ?_, by simpa using hD.way, hD.ways, hD.fuse0, hD.fuse1, hD.steps0, hD.steps1⟩, by simp, rfl, rfl⟩
    intro s hs
    rcases List.mem_or_eq_of_mem_set hs with h | h
    · exact hD.size s h
    · have hy := hD.size _ (nth_mem (L := D.lasts) (j := x.sector.toNat) (by omega))
      have := kept_le' pick
      rw [h]
      simp [h3, hy]
      omega
theorem settles_ok {picks : List Int} : ∀ {l : List Wr} {D : Dsk} {k : Nat}, D.Ok → (∀ x ∈ l, 0 ≤ x.sector ∧ x.sector < D.lasts.length ∧ x.text.length = 384) →
    (D.settles picks k l).Ok ∧ (D.settles picks k l).lasts.length = D.lasts.length ∧ (D.settles picks k l).way = D.way ∧ (D.settles picks k l).steps = D.steps
  | [], D, k, h, _ => ⟨h, rfl, rfl, rfl⟩
  | x :: l, D, k, h, hl => by
    obtain ⟨x1, x2, x3⟩ := hl x (by simp)
    obtain ⟨h1, h2, h3, h4⟩ := settle_ok' h x3 x1 x2 (pickAt picks k)
    obtain ⟨h5, h6, h7, h8⟩ := settles_ok (l := l) (k := k + 1) h1 (fun y hy => by rw [h2]; exact hl y (by simp [hy]))
    exact ⟨h5, by rw [← h2]; exact h6, by rw [← h3]; exact h7, by rw [← h4]; exact h8⟩
theorem start_next {D : Dsk} (h : D.Ok) (picks : List Int) : Next D (D.start picks).2 := by
  unfold start
  split
  · exact .same h
  · obtain ⟨h5, h6, h7, h8⟩ := settles_ok (picks := picks) (k := 0) h h.way
    exact ⟨noway h5 _, by simp, by simp only; omega, h6⟩
theorem rot_next {D : Dsk} (h : D.Ok) (i at' mask : Int) : Next D (D.rot i at' mask).2 := by
  unfold rot
  split
  · exact .same h
  · split
    · exact .same h
    · split
      · exact .same h
      · rename_i hc _ _
        have hd : D.is i = true := by cases hd : D.is i; exact absurd (.inl hd) hc; rfl
        obtain ⟨i1, i2⟩ := is_lt hd
        refine ⟨⟨by simp [h.len], by simpa using h.few, ?_, by simpa using h.way, h.ways, h.fuse0, h.fuse1, h.steps0, h.steps1⟩, by simp, by simp only; omega, by simp⟩
        intro s hs
        rcases List.mem_or_eq_of_mem_set hs with hs | hs
        · exact h.size s hs
        · rw [hs]
          simp only [turn, List.length_set]
          exact h.size _ (nth_mem (by omega))
end Dsk
end Go.Cmp
