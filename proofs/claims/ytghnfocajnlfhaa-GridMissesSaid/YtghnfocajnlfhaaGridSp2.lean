/-
  Texts in blocks on a disk that may lose its power: in plain lists.
-/
import Derived.Test.YtghnfocajnlfhaaGrid2
import Derived.Test.YtghnfocajnlfhaaGrid5
set_option linter.unusedSimpArgs false
set_option linter.unusedVariables false
set_option linter.unusedSectionVars false
set_option maxRecDepth 100000
namespace Go.Cmp
open Go.RowKit
def secN (a i : Nat) : Nat := 20 + 6 * a + i
theorem secG_N (a i : Nat) : secG a i = ((secN a i : Nat) : Int) := by unfold secG secN; omega
def putsL (ls : List (List UInt8)) (l : List Wr) : List (List UInt8) := l.foldl (fun ls x => ls.set x.sector.toNat x.text) ls
def putsM (ms : List Bool) (l : List Wr) : List Bool := l.foldl (fun ms x => ms.set x.sector.toNat false) ms
namespace Dsk
theorem puts_is : ∀ (l : List Wr) (D : Dsk), D.puts l = { D with lasts := putsL D.lasts l, mark := putsM D.mark l }
  | [], _ => rfl
  | x :: l, D => by
    have e : D.puts (x :: l) = (D.put x).puts l := rfl
    rw [e, puts_is l]; rfl
theorem lay_on {D : Dsk} (ho : D.off = false) {k : Nat} (hk : k < D.lasts.length) {b : List UInt8} (hb : b.length ≤ 376) :
    ∃ T : List UInt8, T.length = 384 ∧ (∃ g, T = sealed g b) ∧
      ((D.fuse = 1 ∧ layG D (k : Int) b = (6, { D with steps := D.steps + 1, fuse := 0, off := true })) ∨
       (D.fuse ≠ 1 ∧ layG D (k : Int) b = (0, { D with steps := D.steps + 1, fuse := max 0 (D.fuse - 1), way := D.way ++ [⟨(k : Int), T⟩] }))) := by
  have his : D.is (k : Int) = true := by unfold is; simp; omega
  have hr : (D.read (k : Int)).2 = 0 := by
    unfold read
    rw [if_neg (by rw [his]; simp), if_neg (by rw [ho]; simp)]
  have hs : sealS (D.read (k : Int)).1 b = (sealed (nextG (D.read (k : Int)).1) b, 0) := by unfold sealS; rw [if_neg (by omega)]
  have hT := sealed_len (g := nextG (D.read (k : Int)).1) hb
  refine ⟨sealed (nextG (D.read (k : Int)).1) b, hT, ⟨_, rfl⟩, ?_⟩
  have hl : layG D (k : Int) b = D.write (k : Int) (sealed (nextG (D.read (k : Int)).1) b) := by
    unfold layG
    rw [if_neg (by rw [hr]; simp), hs, if_neg (by simp)]
  rw [hl]
  generalize sealed (nextG (D.read (k : Int)).1) b = T at hT
  have hc : ¬ (D.is (k : Int) = false ∨ (T.length : Int) ≠ 384) := by rw [his, hT]; simp
  unfold write step
  rw [if_neg hc, if_neg (by rw [ho]; simp)]
  by_cases hf : D.fuse = 1
  · rw [if_pos hf, if_pos rfl]
    exact .inl ⟨hf, rfl⟩
  · rw [if_neg hf, if_neg (by simp)]
    exact .inr ⟨hf, rfl⟩
end Dsk
/-- What is laid, block by block. -/
structure LaidG (a i : Nat) (l : List (List UInt8)) (Ts : List Wr) : Prop where
  len : Ts.length = l.length
  at' : ∀ j, j < l.length → (nth Ts j).sector = ((secN a (i + j) : Nat) : Int) ∧ (nth Ts j).text.length = 384 ∧ ∃ g, (nth Ts j).text = sealed g (nth l j)
namespace Dsk
theorem writes_on (a : Nat) (ha : a < 2) : ∀ (l : List (List UInt8)) (i : Nat) (D : Dsk), D.off = false → D.lasts.length = 32 → i + l.length ≤ 6 → (∀ b ∈ l, b.length ≤ 376) → 0 ≤ D.fuse →
    ∃ Ts, LaidG a i l Ts ∧
      ((∃ f : Int, (writesG a i l D).1 = 0 ∧ (D.fuse = 0 → f = 0) ∧ 0 ≤ f ∧ (writesG a i l D).2 = { lasts := putsL D.lasts (D.way ++ Ts), mark := putsM D.mark (D.way ++ Ts), way := [], off := false, steps := D.steps + l.length + 1, fuse := f }) ∨
       (∃ (n : Nat) (t : Int), (writesG a i l D).1 = 6 ∧ D.fuse ≠ 0 ∧ n ≤ l.length ∧ D.steps ≤ t ∧ t ≤ D.steps + l.length + 1 ∧ (writesG a i l D).2 = { D with way := D.way ++ Ts.take n, steps := t, fuse := 0, off := true }))
  | [], i, D, ho, _, _, _, hf0 => by
    refine ⟨[], ⟨rfl, fun j hj => by simp at hj⟩, ?_⟩
    have e : writesG a i [] D = D.flush := rfl
    rw [e]
    unfold flush step
    rw [if_neg (by rw [ho]; simp)]
    by_cases hf : D.fuse = 1
    · rw [if_pos hf, if_pos rfl]
      exact .inr ⟨0, D.steps + 1, rfl, by omega, by simp, by omega, by simp, by simp⟩
    · rw [if_neg hf, if_neg (by simp)]
      refine .inl ⟨max 0 (D.fuse - 1), rfl, by omega, by omega, ?_⟩
      simp only [List.append_nil, List.length_nil, puts_is, ho]
      simp
  | b :: l, i, D, ho, h32, hil, hb, hf0 => by
    simp only [List.length_cons] at hil
    obtain ⟨T, hT, ⟨g, hg⟩, h⟩ := lay_on ho (k := secN a i) (by unfold secN; omega) (hb b (by simp))
    rw [← secG_N] at h
    rcases h with ⟨hf, h⟩ | ⟨hf, h⟩
    · refine ⟨⟨secG a i, T⟩ :: (List.range l.length).map (fun j => (⟨secG a (i + 1 + j), sealed 0 (nth l j)⟩ : Wr)), ?_, .inr ⟨0, D.steps + 1, ?_, by omega, by simp, by omega, by (simp only [List.length_cons]; omega), ?_⟩⟩
      · refine ⟨by simp, fun j hj => ?_⟩
        cases j with
        | zero => exact ⟨secG_N a i, hT, g, hg⟩
        | succ j =>
          have hj2 : j < l.length := by simpa using hj
          have e : nth (⟨secG a i, T⟩ :: (List.range l.length).map (fun j => (⟨secG a (i + 1 + j), sealed 0 (nth l j)⟩ : Wr))) (j + 1) = ⟨secG a (i + 1 + j), sealed 0 (nth l j)⟩ := by
            unfold nth; simp [hj2]
          rw [e]
          have e2 : nth (b :: l) (j + 1) = nth l j := by unfold nth; simp
          refine ⟨?_, ?_, 0, ?_⟩
          · simp only [← secG_N]; unfold secG; omega
          · exact sealed_len (hb _ (by simp [nth, hj2]))
          · rw [e2]
      · show (writesG a i (b :: l) D).1 = 6
        unfold writesG
        rw [h]; simp
      · unfold writesG
        rw [h]; simp
    · have e : writesG a i (b :: l) D = writesG a (i + 1) l { D with steps := D.steps + 1, fuse := max 0 (D.fuse - 1), way := D.way ++ [⟨secG a i, T⟩] } := by
        rw [writesG]
        rw [h]; simp
      obtain ⟨Ts, hL, hW⟩ := writes_on a ha l (i + 1) { D with steps := D.steps + 1, fuse := max 0 (D.fuse - 1), way := D.way ++ [⟨secG a i, T⟩] } ho h32 (by omega) (fun x hx => hb x (by simp [hx])) (by show 0 ≤ max 0 _; omega)
      refine ⟨⟨secG a i, T⟩ :: Ts, ?_, ?_⟩
      · refine ⟨by simp [hL.len], fun j hj => ?_⟩
        cases j with
        | zero => exact ⟨secG_N a i, hT, g, hg⟩
        | succ j =>
          have hj2 : j < l.length := by simpa using hj
          have e1 : nth (⟨secG a i, T⟩ :: Ts) (j + 1) = nth Ts j := by unfold nth; simp
          have e2 : nth (b :: l) (j + 1) = nth l j := by unfold nth; simp
          rw [e1, e2]
          have := hL.at' j hj2
          rwa [show i + 1 + j = i + (j + 1) from by omega] at this
      · rw [e]
        rcases hW with ⟨f, h1, h2, h3, h4⟩ | ⟨n, t, h1, h2, h3, h4, h5, h6⟩
        · refine .inl ⟨f, h1, fun hz => h2 (by show max 0 _ = _; omega), h3, ?_⟩
          rw [h4]
          simp only [List.append_assoc, List.singleton_append, List.length_cons]
          congr 1
          simp only [Int.natCast_add, Int.natCast_one]
          omega
        · refine .inr ⟨n + 1, t, h1, ?_, by simp; omega, ?_, ?_, ?_⟩
          · intro hz; exact h2 (by show max 0 _ = _; omega)
          · have : D.steps + 1 ≤ t := h4
            omega
          · have : t ≤ D.steps + 1 + l.length + 1 := h5
            simp only [List.length_cons, Int.natCast_add, Int.natCast_one]; omega
          · rw [h6]; simp [List.append_assoc]
end Dsk
end Go.Cmp
