/-
  A disk, in plain lists: what lasts, which sectors are marked, what is under way.
  What may be of a disk stays so, whatever is called.
-/
import Derived.Test.YtnjboimjlbgdiaaGen
set_option linter.unusedSimpArgs false
set_option linter.unusedVariables false
set_option linter.unusedSectionVars false
set_option maxRecDepth 100000
namespace Go.Cmp
open Go.RowKit

def str (s : List UInt8) : List Value := [.string ⟨s.toArray⟩]
def bl (b : Bool) : List Value := [.bool b]
def num (n : Int) : List Value := [.int .i64 n]

structure Wr where
  sector : Int
  text : List UInt8
deriving Inhabited
def Wr.cells (x : Wr) : List Value := [.int .i64 x.sector, .string ⟨x.text.toArray⟩]

structure Dsk where
  lasts : List (List UInt8)
  mark : List Bool
  way : List Wr
  off : Bool
  fuse : Int
  steps : Int

namespace Dsk
def is (D : Dsk) (i : Int) : Bool := decide (0 ≤ i) && decide (i < D.lasts.length)
/-- The text of the last one under way. -/
def under (i : Int) : List Wr → Option (List UInt8)
  | [] => none
  | x :: l => match under i l with | some s => some s | none => if x.sector = i then some x.text else none
def read (D : Dsk) (i : Int) : List UInt8 × Int :=
  if D.is i = false then ([], 1) else if D.off = true then ([], 6) else ((under i D.way).getD (nth D.lasts i.toNat), 0)
def step (D : Dsk) : Bool × Dsk :=
  if D.fuse = 1 then (false, { D with steps := D.steps + 1, fuse := 0, off := true }) else (true, { D with steps := D.steps + 1, fuse := max 0 (D.fuse - 1) })
def write (D : Dsk) (i : Int) (t : List UInt8) : Int × Dsk :=
  if D.is i = false ∨ (t.length : Int) ≠ 384 then (1, D) else if D.off = true then (6, D) else if D.step.1 = false then (6, D.step.2) else (0, { D.step.2 with way := D.way ++ [⟨i, t⟩] })
def put (D : Dsk) (x : Wr) : Dsk := { D with lasts := D.lasts.set x.sector.toNat x.text, mark := D.mark.set x.sector.toNat false }
def puts (D : Dsk) (l : List Wr) : Dsk := l.foldl put D
def flush (D : Dsk) : Int × Dsk :=
  if D.off = true then (6, D) else if D.step.1 = false then (6, D.step.2) else (0, { D.step.2.puts D.way with way := [] })
def setFuse (D : Dsk) (n : Int) : Int × Dsk := if D.off = true then (6, D) else (0, { D with fuse := max 0 n })
def cut (D : Dsk) : Int × Dsk := if D.off = true then (6, D) else (0, { D with off := true, fuse := 0 })
def kept (pick : Int) : Nat := if pick < 0 ∨ pick % 3 = 0 then 0 else if pick % 3 = 1 then 384 else (pick / 3 % 385).toNat
def settle (D : Dsk) (x : Wr) (pick : Int) : Dsk :=
  if kept pick = 0 then D else { D with lasts := D.lasts.set x.sector.toNat (x.text.take (kept pick) ++ (nth D.lasts x.sector.toNat).drop (kept pick)), mark := D.mark.set x.sector.toNat (decide ((kept pick : Int) < 384)) }
def pickAt (picks : List Int) (k : Nat) : Int := if picks.length = 0 then 0 else (nth picks (k % picks.length))
def settles (D : Dsk) (picks : List Int) : Nat → List Wr → Dsk
  | _, [] => D
  | k, x :: l => settles (D.settle x (pickAt picks k)) picks (k + 1) l
def start (D : Dsk) (picks : List Int) : Int × Dsk := if D.off = false then (10, D) else (0, { D.settles picks 0 D.way with way := [], off := false })
def turn (s : List UInt8) (at' : Nat) (mask : Int) : List UInt8 := s.set at' ((nth s (at')) ^^^ UInt8.ofNat mask.toNat)
def rot (D : Dsk) (i at' mask : Int) : Int × Dsk :=
  if D.is i = false ∨ at' < 0 ∨ 384 ≤ at' ∨ mask < 1 ∨ 255 < mask then (1, D) else if D.way.any (fun x => x.sector == i) then (10, D) else if (nth D.mark i.toNat) = true then (7, D)
  else (0, { D with lasts := D.lasts.set i.toNat (turn (nth D.lasts i.toNat) at'.toNat mask), mark := D.mark.set i.toNat true })
structure Ok (D : Dsk) : Prop where
  len : D.mark.length = D.lasts.length
  few : D.lasts.length ≤ 64
  size : ∀ s ∈ D.lasts, s.length = 384
  way : ∀ x ∈ D.way, 0 ≤ x.sector ∧ x.sector < D.lasts.length ∧ x.text.length = 384
  ways : D.way.length ≤ 1000000
  fuse0 : 0 ≤ D.fuse
  fuse1 : D.fuse ≤ 9223372036854775807
  steps0 : 0 ≤ D.steps
  steps1 : D.steps ≤ 1000000000
end Dsk
end Go.Cmp
namespace Go.Cmp
open Go.RowKit
namespace Dsk

theorem kept_le' (pick : Int) : kept pick ≤ 384 := by unfold kept; split <;> (try split) <;> omega
/-- D' is as D may be, and has at most one write, one step more. -/
structure Next (D D' : Dsk) : Prop where
  ok : D'.Ok
  way : D'.way.length ≤ D.way.length + 1
  steps : D'.steps ≤ D.steps + 1
  len : D'.lasts.length = D.lasts.length
theorem Next.same {D : Dsk} (h : D.Ok) : Next D D := ⟨h, by omega, by omega, rfl⟩

theorem step_next {D : Dsk} (h : D.Ok) (hs : D.steps < 1000000000) : Next D D.step.2 ∧ D.step.2.way = D.way := by
  have h1 := h.fuse0
  have h2 := h.fuse1
  have h3 := h.steps0
  unfold step
  split
  · exact ⟨⟨⟨h.len, h.few, h.size, h.way, h.ways, by simp, by simp, by simp only; omega, by simp only; omega⟩, by simp, by simp, rfl⟩, rfl⟩
  · exact ⟨⟨⟨h.len, h.few, h.size, h.way, h.ways, by simp only; omega, by simp only; omega, by simp only; omega, by simp only; omega⟩, by simp, by simp, rfl⟩, rfl⟩
theorem is_lt {D : Dsk} {i : Int} (h : D.is i = true) : 0 ≤ i ∧ i < D.lasts.length := by simpa [is] using h
theorem write_next {D : Dsk} (h : D.Ok) (i : Int) (t : List UInt8) (hw : D.way.length < 1000000) (hs : D.steps < 1000000000) : Next D (D.write i t).2 := by
  obtain ⟨n1, n2⟩ := step_next h hs
  unfold write
  split
  · exact .same h
  · rename_i hc
    split
    · exact .same h
    · split
      · exact n1
      · have hd : D.is i = true := by cases hd : D.is i; exact absurd (.inl hd) hc; rfl
        have ht : t.length = 384 := by
          by_cases ht : (t.length : Int) = 384
          · omega
          · exact absurd (.inr ht) hc
        obtain ⟨i1, i2⟩ := is_lt hd
        refine ⟨⟨n1.ok.len, n1.ok.few, n1.ok.size, ?_, by simp; omega, n1.ok.fuse0, n1.ok.fuse1, n1.ok.steps0, n1.ok.steps1⟩, by simp, n1.steps, n1.len⟩
        intro x hx
        rcases List.mem_append.1 hx with hx | hx
        · have := h.way x hx
          rw [← n1.len] at this
          exact this
        · simp only [List.mem_singleton] at hx
          subst hx
          exact ⟨i1, by simp only [n1.len]; exact i2, ht⟩
theorem put_ok {D : Dsk} (h : D.Ok) {x : Wr} (h3 : x.text.length = 384) : (D.put x).Ok ∧ (D.put x).lasts.length = D.lasts.length := by
  refine ⟨⟨by simp [put, h.len], by simpa [put] using h.few, ?_, by simpa [put] using h.way, h.ways, h.fuse0, h.fuse1, h.steps0, h.steps1⟩, by simp [put]⟩
  intro s hs
  rcases List.mem_or_eq_of_mem_set hs with hs | hs
  · exact h.size s hs
  · rw [hs]; exact h3
theorem puts_ok : ∀ {l : List Wr} {D : Dsk}, D.Ok → (∀ x ∈ l, x.text.length = 384) → (D.puts l).Ok ∧ (D.puts l).lasts.length = D.lasts.length ∧ (D.puts l).way = D.way ∧ (D.puts l).steps = D.steps
  | [], D, h, _ => ⟨h, rfl, rfl, rfl⟩
  | x :: l, D, h, hl => by
    obtain ⟨h1, h2⟩ := put_ok h (hl x (by simp))
    obtain ⟨h3, h4, h5, h6⟩ := puts_ok (l := l) h1 (fun y hy => hl y (by simp [hy]))
    exact ⟨h3, by rw [← h2]; exact h4, h5, h6⟩
theorem noway {D : Dsk} (h : D.Ok) (o : Bool) : ({ D with way := [], off := o } : Dsk).Ok := ⟨h.len, h.few, h.size, by simp, by simp, h.fuse0, h.fuse1, h.steps0, h.steps1⟩
theorem flush_next {D : Dsk} (h : D.Ok) (hs : D.steps < 1000000000) : Next D D.flush.2 := by
  obtain ⟨n1, n2⟩ := step_next h hs
  unfold flush
  split
  · exact .same h
  · split
    · exact n1
    · obtain ⟨p1, p2, p3, p4⟩ := puts_ok (l := D.way) n1.ok (fun x hx => (h.way x hx).2.2)
      have := n1.len
      have := n1.steps
      exact ⟨noway p1 _, by simp, by simp only; omega, by simp only; omega⟩
theorem fuse_next {D : Dsk} (h : D.Ok) (n : Int) (hn : n ≤ 9223372036854775807) : Next D (D.setFuse n).2 := by
  unfold setFuse
  split
  · exact .same h
  · exact ⟨⟨h.len, h.few, h.size, h.way, h.ways, by simp only; omega, by simp only; omega, h.steps0, h.steps1⟩, by simp, by simp only; omega, rfl⟩
theorem cut_next {D : Dsk} (h : D.Ok) : Next D D.cut.2 := by
  unfold cut
  split
  · exact .same h
  · exact ⟨⟨h.len, h.few, h.size, h.way, h.ways, by simp, by simp, h.steps0, h.steps1⟩, by simp, by simp only; omega, rfl⟩
theorem settle_ok' {D : Dsk} (hD : D.Ok) {x : Wr} (h3 : x.text.length = 384) (h1 : 0 ≤ x.sector) (h2 : x.sector < D.lasts.length) (pick : Int) : (D.settle x pick).Ok ∧ (D.settle x pick).lasts.length = D.lasts.length ∧ (D.settle x pick).way = D.way ∧ (D.settle x pick).steps = D.steps := by
  unfold settle
  split
  · exact ⟨hD, rfl, rfl, rfl⟩
  · refine ⟨⟨by simp [hD.len], by simpa using hD.few, ?_, by simpa using hD.way, hD.ways, hD.fuse0, hD.fuse1, hD.steps0, hD.steps1⟩, by simp, rfl, rfl⟩
    intro s hs
    rcases List.mem_or_eq_of_mem_set hs with h | h
    · exact hD.size s h
    · have hy := hD.size _ (nth_mem (L := D.lasts) (j := x.sector.toNat) (by omega))
      have := kept_le' pick
      rw [h]
      simp [h3, hy]
      omega
theorem settles_ok {picks : List Int} : ∀ {l : List Wr} {D : Dsk} {k : Nat}, D.Ok → (∀ x ∈ l, 0 ≤ x.sector ∧ x.sector < D.lasts.length ∧ x.text.length = 384) →
    (D.settles picks k l).Ok ∧ (D.settles picks k l).lasts.length = D.lasts.length ∧ (D.settles picks k l).way = D.way ∧ (D.settles picks k l).steps = D.steps
  | [], D, k, h, _ => ⟨h, rfl, rfl, rfl⟩
  | x :: l, D, k, h, hl => by
    obtain ⟨x1, x2, x3⟩ := hl x (by simp)
    obtain ⟨h1, h2, h3, h4⟩ := settle_ok' h x3 x1 x2 (pickAt picks k)
    obtain ⟨h5, h6, h7, h8⟩ := settles_ok (l := l) (k := k + 1) h1 (fun y hy => by rw [h2]; exact hl y (by simp [hy]))
    exact ⟨h5, by rw [← h2]; exact h6, by rw [← h3]; exact h7, by rw [← h4]; exact h8⟩
theorem start_next {D : Dsk} (h : D.Ok) (picks : List Int) : Next D (D.start picks).2 := by
  unfold start
  split
  · exact .same h
  · obtain ⟨h5, h6, h7, h8⟩ := settles_ok (picks := picks) (k := 0) h h.way
    exact ⟨noway h5 _, by simp, by simp only; omega, h6⟩
theorem rot_next {D : Dsk} (h : D.Ok) (i at' mask : Int) : Next D (D.rot i at' mask).2 := by
  unfold rot
  split
  · exact .same h
  · split
    · exact .same h
    · split
      · exact .same h
      · rename_i hc _ _
        have hd : D.is i = true := by cases hd : D.is i; exact absurd (.inl hd) hc; rfl
        obtain ⟨i1, i2⟩ := is_lt hd
        refine ⟨⟨by simp [h.len], by simpa using h.few, ?_, by simpa using h.way, h.ways, h.fuse0, h.fuse1, h.steps0, h.steps1⟩, by simp, by simp only; omega, by simp⟩
        intro s hs
        rcases List.mem_or_eq_of_mem_set hs with hs | hs
        · exact h.size s hs
        · rw [hs]
          simp only [turn, List.length_set]
          exact h.size _ (nth_mem (by omega))
end Dsk
end Go.Cmp
