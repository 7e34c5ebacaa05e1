/-
  What is read of four copies of which three at most are bad, and of four of which all are; in plain lists.
-/
import Derived.Test.YtbfdnpahojoccaaSupFresh
set_option linter.unusedSimpArgs false
set_option linter.unusedVariables false
set_option linter.unusedSectionVars false
set_option maxRecDepth 100000
namespace Go.Cmp
open Go.RowKit
namespace Dsk
theorem Inv.swap {s t : Sup} {D : Dsk} (h : D.Inv s t) : D.Inv t s := ⟨h.ok, h.len, fun i hi => by
  rcases h.sec i hi with ⟨m0, g, x, hx, e⟩ | q
  · exact .inl ⟨m0, g, x, hx.symm, e⟩
  · exact .inr q⟩
theorem inv_read {s t : Sup} (hs : s.right = true) (hsu : s.U64) (ht : t.right = true) (htu : t.U64) (hst : s.seq < t.seq) {D : Dsk} (h : D.Inv s t) (ho : D.off = false) (hw : D.way = []) (hm : D.marks ≤ 3) :
    (readU D).2.2 = 0 ∧ ((readU D).1 = s ∨ (readU D).1 = t) ∧ ((∀ j, j < 4 → nth D.mark j = false → hasU (nth D.lasts j) = (t, true)) → (readU D).1 = t) := by
  have h1 : 1 ≤ s.seq := (sup_right.1 hs).seq.1
  have hml := h.ok.len
  have hl := h.len
  obtain ⟨k, hk, hk2⟩ := count_lt (l := D.mark) (by unfold marks at hm; omega)
  have hk4 : k < 4 := by omega
  have er : ∀ i : Nat, i < 4 → (D.read (i : Int)).1 = nth D.lasts i := fun i hi => by rw [read_lasts ho hw (by omega)]
  obtain ⟨r1, r2, r3⟩ := read_two (D := D) h1 hst ho (fun i hi hq => by
    rw [er i hi] at hq ⊢
    exact (inv_has hs hsu ht htu h hi).1 hq) hk4 (by
    rw [er k hk4]
    exact (inv_has hs hsu ht htu h hk4).2 hk2)
  exact ⟨r1, r2, fun hall => r3 ⟨k, hk4, by rw [er k hk4]; exact hall k hk4 hk2⟩⟩
theorem read_full {t : Sup} (ht : t.right = true) {D : Dsk} (hl : 4 ≤ D.lasts.length) (ho : D.off = false) (hw : D.way = []) (h : ∀ j, j < 4 → hasU (nth D.lasts j) = (t, true)) : readU D = (t, 4, 0) :=
  read_all (sup_right.1 ht).seq.1 ho (fun i hi => by rw [read_lasts ho hw (by omega)]; exact h i hi)
theorem read_none {D : Dsk} (hl : 4 ≤ D.lasts.length) (ho : D.off = false) (hw : D.way = []) (h : ∀ j, j < 4 → hasU (nth D.lasts j) = (zeroU, false)) : readU D = (zeroU, 0, 11) := by
  have g : ∀ i : Nat, i < 4 → hasU (D.read (i : Int)).1 = (zeroU, false) := fun i hi => by rw [read_lasts ho hw (by omega)]; exact h i hi
  have e : copies D 4 = [(zeroU, false), (zeroU, false), (zeroU, false), (zeroU, false)] := by
    have h0 := g 0 (by omega)
    have h1 := g 1 (by omega)
    have h2 := g 2 (by omega)
    have h3 := g 3 (by omega)
    show [hasU (D.read ((0 : Nat) : Int)).1, hasU (D.read ((1 : Nat) : Int)).1, hasU (D.read ((2 : Nat) : Int)).1, hasU (D.read ((3 : Nat) : Int)).1] = [_, _, _, _]
    rw [h0, h1, h2, h3]
  unfold readU
  rw [if_neg (by rw [ho]; simp), e]
  rfl
/-- The disk on which it was written first. -/
def full (s : Sup) : Dsk := ⟨[sealed 1 (supB s), sealed 1 (supB s), sealed 1 (supB s), sealed 1 (supB s)], [false, false, false, false], [], false, 0, 8⟩
theorem full_len (s : Sup) : (sealed 1 (supB s)).length = 384 := sealed_len (by rw [supB_len]; omega)
theorem full_ok (s : Sup) : (full s).Ok := by
  refine ⟨rfl, by show 4 ≤ 64; omega, ?_, by intro x hx; simp [full] at hx, by show 0 ≤ 1000000; omega, by show (0 : Int) ≤ 0; omega, by show (0 : Int) ≤ _; omega, by show (0 : Int) ≤ 8; omega, by show (8 : Int) ≤ _; omega⟩
  intro x hx
  simp only [full, List.mem_cons, List.not_mem_nil, or_false, or_self] at hx
  rw [hx]
  exact full_len s
theorem full_inv (s t : Sup) : (full s).Inv s t ∧ (full s).marks = 0 := by
  refine ⟨⟨full_ok s, rfl, fun i hi => ?_⟩, rfl⟩
  match i, hi with
  | 0, _ => exact .inl ⟨rfl, 1, s, .inl rfl, rfl⟩
  | 1, _ => exact .inl ⟨rfl, 1, s, .inl rfl, rfl⟩
  | 2, _ => exact .inl ⟨rfl, 1, s, .inl rfl, rfl⟩
  | 3, _ => exact .inl ⟨rfl, 1, s, .inl rfl, rfl⟩
theorem full_read {s : Sup} (hr : s.right = true) (hu : s.U64) : readU (full s) = (s, 4, 0) :=
  read_full hr (by show 4 ≤ 4; omega) rfl rfl (fun j hj => by
    have e : nth (full s).lasts j = sealed 1 (supB s) := by
      match j, hj with
      | 0, _ => rfl
      | 1, _ => rfl
      | 2, _ => rfl
      | 3, _ => rfl
    rw [e]
    exact hasU_of 1 hr hu)
/-- A copy that was not marked rots: it is bad. -/
theorem rot_bad {s : Sup} {D : Dsk} (h : D.Inv s s) (hw : D.way = []) {i : Nat} {at' mask : Int} (hi : i < 4) (hm0 : nth D.mark i = false) (ha : 0 ≤ at') (ha2 : at' < 384) (hm : 1 ≤ mask) (hm2 : mask ≤ 255) :
    openS (nth (D.rot (i : Int) at' mask).2.lasts i) = ([], false) ∧ ∀ j, j ≠ i → nth (D.rot (i : Int) at' mask).2.lasts j = nth D.lasts j ∧ nth (D.rot (i : Int) at' mask).2.mark j = nth D.mark j := by
  obtain ⟨k1, _, _, _, _, k6⟩ := rot_inv h hw (i := (i : Int)) (by omega) (by omega) ha ha2 hm hm2
  have his : D.is (i : Int) = true := by unfold is; rw [h.len]; simp; omega
  have hc : ¬ (D.is (i : Int) = false ∨ at' < 0 ∨ 384 ≤ at' ∨ mask < 1 ∨ 255 < mask) := by rw [his]; simp; omega
  have hwa : ¬ (D.way.any (fun x => x.sector == (i : Int)) = true) := by rw [hw]; simp
  have hml := h.ok.len
  have hl := h.len
  have er : (D.rot (i : Int) at' mask).2 = { D with lasts := D.lasts.set i (turn (nth D.lasts i) at'.toNat mask), mark := D.mark.set i true } := by
    unfold rot
    rw [if_neg hc, if_neg hwa, Int.toNat_natCast, if_neg (by rw [hm0]; simp)]
  have e1 : nth (D.rot (i : Int) at' mask).2.mark i = true := by rw [er]; simp only; rw [nth_set_n, if_pos ⟨rfl, by omega⟩]
  refine ⟨?_, fun j hj => ?_⟩
  · rcases k1.sec i hi with ⟨m0, _⟩ | ⟨_, q⟩
    · rw [e1] at m0; simp at m0
    · exact q
  · rw [er]
    simp only
    rw [nth_set_n, nth_set_n, if_neg (fun q => hj q.1.symm), if_neg (fun q => hj q.1.symm)]
    exact ⟨rfl, rfl⟩
end Dsk
end Go.Cmp
