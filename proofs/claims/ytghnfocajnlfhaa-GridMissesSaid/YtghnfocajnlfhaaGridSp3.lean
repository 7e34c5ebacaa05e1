/-
  Texts in blocks: what an area holds, and what Load then gives.
-/
import Derived.Test.YtghnfocajnlfhaaGridSp2
import Derived.Test.YtghnfocajnlfhaaSlotP
set_option linter.unusedSimpArgs false
set_option linter.unusedVariables false
set_option linter.unusedSectionVars false
set_option maxRecDepth 100000
namespace Go.Cmp
open Go.RowKit
theorem nth_setG {α : Type} [Inhabited α] {p : List α} {i j : Nat} {x : α} (h : i ≠ j) : nth (p.set i x) j = nth p j := by
  unfold nth
  rw [List.getD_eq_getElem?_getD, List.getD_eq_getElem?_getD, List.getElem?_set_ne h]
theorem nth_setE {α : Type} [Inhabited α] {p : List α} {i : Nat} {x : α} (h : i < p.length) : nth (p.set i x) i = x := by
  unfold nth
  rw [List.getD_eq_getElem?_getD, List.getElem?_set_self h]
  rfl
theorem putsL_len : ∀ (l : List Wr) (ls : List (List UInt8)), (putsL ls l).length = ls.length
  | [], _ => rfl
  | x :: l, ls => by
    show (putsL (ls.set x.sector.toNat x.text) l).length = _
    rw [putsL_len l, List.length_set]
theorem putsL_out : ∀ (l : List Wr) (ls : List (List UInt8)) (k : Nat), (∀ x ∈ l, x.sector.toNat ≠ k) → nth (putsL ls l) k = nth ls k
  | [], _, _, _ => rfl
  | x :: l, ls, k, h => by
    show nth (putsL (ls.set x.sector.toNat x.text) l) k = _
    rw [putsL_out l _ k (fun y hy => h y (by simp [hy])), nth_setG (h x (by simp))]
theorem LaidG.tail {a i : Nat} {b : List UInt8} {l : List (List UInt8)} {x : Wr} {Ts : List Wr} (h : LaidG a i (b :: l) (x :: Ts)) : LaidG a (i + 1) l Ts := by
  refine ⟨by have := h.len; simpa using this, fun j hj => ?_⟩
  have := h.at' (j + 1) (by simp; omega)
  have e1 : nth (x :: Ts) (j + 1) = nth Ts j := by unfold nth; simp
  have e2 : nth (b :: l) (j + 1) = nth l j := by unfold nth; simp
  rw [e1, e2] at this
  rwa [show i + 1 + j = i + (j + 1) from by omega]
theorem LaidG.mem {a i : Nat} {l : List (List UInt8)} {Ts : List Wr} (h : LaidG a i l Ts) {x : Wr} (hx : x ∈ Ts) : ∃ j, j < l.length ∧ x = nth Ts j ∧ x.sector.toNat = secN a (i + j) := by
  obtain ⟨j, hj, rfl⟩ := List.getElem_of_mem hx
  have hl := h.len
  have e : nth Ts j = Ts[j] := by unfold nth; simp [hj]
  refine ⟨j, by omega, e.symm, ?_⟩
  have := (h.at' j (by omega)).1
  rw [← e, this]
  rfl
theorem putsL_at (a : Nat) : ∀ (l : List (List UInt8)) (i : Nat) (Ts : List Wr) (ls : List (List UInt8)), LaidG a i l Ts → secN a (i + l.length) ≤ ls.length → ∀ j, j < l.length → ∃ g, nth (putsL ls Ts) (secN a (i + j)) = sealed g (nth l j)
  | [], _, _, _, _, _, j, hj => absurd hj (by simp)
  | b :: l, i, [], ls, h, _, _, _ => absurd h.len (by simp)
  | b :: l, i, x :: Ts, ls, h, hk, j, hj => by
    have h0 := h.at' 0 (by simp)
    have e0 : nth (x :: Ts) 0 = x := rfl
    have e1 : nth (b :: l) 0 = b := rfl
    rw [e0, e1] at h0
    obtain ⟨hs, _, g, hg⟩ := h0
    have hsn : x.sector.toNat = secN a (i + 0) := by rw [hs]; rfl
    simp only [List.length_cons] at hk hj
    show ∃ g, nth (putsL (ls.set x.sector.toNat x.text) Ts) _ = _
    cases j with
    | zero =>
      refine ⟨g, ?_⟩
      rw [putsL_out Ts _ _ ?_, hsn, nth_setE (by unfold secN at hk ⊢; omega), hg]
      · rfl
      · intro y hy
        obtain ⟨j, _, _, hj2⟩ := h.tail.mem hy
        rw [hj2]; unfold secN; omega
    | succ j =>
      obtain ⟨g2, h2⟩ := putsL_at a l (i + 1) Ts (ls.set x.sector.toNat x.text) h.tail (by rw [List.length_set]; unfold secN at hk ⊢; omega) j (by omega)
      refine ⟨g2, ?_⟩
      rw [show i + (j + 1) = i + 1 + j from by omega, h2]
      have e2 : nth (b :: l) (j + 1) = nth l j := by unfold nth; simp
      rw [e2]
theorem settle_out {D : Dsk} {x : Wr} {p : Int} {k : Nat} (h : x.sector.toNat ≠ k) : nth (D.settle x p).lasts k = nth D.lasts k := by
  unfold Dsk.settle
  split
  · rfl
  · exact nth_setG h
theorem settle_fix {D : Dsk} {x : Wr} {p : Int} : (D.settle x p).lasts.length = D.lasts.length ∧ (D.settle x p).way = D.way ∧ (D.settle x p).steps = D.steps ∧ (D.settle x p).fuse = D.fuse := by
  unfold Dsk.settle
  split
  · exact ⟨rfl, rfl, rfl, rfl⟩
  · exact ⟨by simp, rfl, rfl, rfl⟩
theorem settles_fix {P : List Int} : ∀ (l : List Wr) (n : Nat) (D : Dsk), (D.settles P n l).lasts.length = D.lasts.length ∧ (D.settles P n l).way = D.way ∧ (D.settles P n l).steps = D.steps ∧ (D.settles P n l).fuse = D.fuse
  | [], _, _ => ⟨rfl, rfl, rfl, rfl⟩
  | x :: l, n, D => by
    have := settles_fix (P := P) l (n + 1) (D.settle x (Dsk.pickAt P n))
    have h2 := @settle_fix D x (Dsk.pickAt P n)
    unfold Dsk.settles
    exact ⟨this.1.trans h2.1, this.2.1.trans h2.2.1, this.2.2.1.trans h2.2.2.1, this.2.2.2.trans h2.2.2.2⟩
theorem settles_out {P : List Int} : ∀ (l : List Wr) (n : Nat) (D : Dsk) (k : Nat), (∀ x ∈ l, x.sector.toNat ≠ k) → nth (D.settles P n l).lasts k = nth D.lasts k
  | [], _, _, _, _ => rfl
  | x :: l, n, D, k, h => by
    unfold Dsk.settles
    rw [settles_out l _ _ k (fun y hy => h y (by simp [hy])), settle_out (h x (by simp))]
/-- What an area holds. -/
structure HoldsG (E : Dsk) (a : Nat) (s : List UInt8) : Prop where
  off : E.off = false
  way : E.way = []
  len : E.lasts.length = 32
  has : ∀ i, i < cntG s.length → openS (nth E.lasts (secN a i)) = (piece s i, true)
theorem read_is {E : Dsk} (ho : E.off = false) (hw : E.way = []) (hl : E.lasts.length = 32) {a i : Nat} (ha : a < 2) (hi : i < 6) : E.read (secG a i) = (nth E.lasts (secN a i), 0) := by
  have his : E.is (secG a i) = true := by unfold Dsk.is secG; rw [hl]; simp; omega
  unfold Dsk.read
  rw [if_neg (by rw [his]; simp), if_neg (by rw [ho]; simp), hw, secG_N]
  rfl
theorem sumN_nth {s : List UInt8} {i : Nat} (h : i < 6) : nth ((List.range 6).map (sumG s)) i = sumG s i := by
  unfold nth; simp [h]
def sumsN (s : List UInt8) : List Nat := (List.range 6).map (sumG s)
theorem partL_holds {E : Dsk} {a : Nat} {s : List UInt8} (h : HoldsG E a s) (ha : a < 2) (hs : s.length ≤ 1920) {i : Nat} (hi : i < cntG s.length) : partL E a (sumsN s) i = (piece s i, true) := by
  have h6 : i < 6 := by unfold cntG at hi; omega
  have hl := piece_len s i
  unfold partL sumsN
  rw [read_is h.off h.way h.len ha h6, sumN_nth h6]
  unfold hasG
  simp only [h.has i hi]
  rw [if_neg (by simp only [sumG, if_pos hi]; simp; omega)]
theorem pieces_text (s : List UInt8) : ∀ n, (List.range n).flatMap (piece s) = s.take (320 * n)
  | 0 => by simp
  | n + 1 => by
    rw [List.range_succ, List.flatMap_append, pieces_text s n]
    simp only [List.flatMap_cons, List.flatMap_nil, List.append_nil]
    unfold piece
    rw [show 320 * (n + 1) = 320 * n + 320 from by omega, List.take_add]
theorem load_holds {E : Dsk} {a : Nat} {s : List UInt8} (h : HoldsG E a s) (ha : a < 2) (hs : s.length ≤ 1920) : loadG E a s.length (sumsN s) = (s, []) := by
  have hm : missL E a s.length (sumsN s) (cntG s.length) = [] := by
    unfold missL
    rw [List.filter_eq_nil_iff]
    intro i hi
    have hi2 := List.mem_range.1 hi
    unfold goodL
    rw [partL_holds h ha hs hi2]
    have := piece_len s i
    simp [wantL, this]
  unfold loadG
  rw [if_pos hm]
  have : textL E a (sumsN s) (cntG s.length) = s := by
    unfold textL
    rw [show ((List.range (cntG s.length)).flatMap fun i => (partL E a (sumsN s) i).1) = (List.range (cntG s.length)).flatMap (piece s) from ?_, pieces_text, List.take_of_length_le (by unfold cntG; omega)]
    rw [List.flatMap_def, List.flatMap_def]
    congr 1
    apply List.map_congr_left
    intro i hi
    rw [partL_holds h ha hs (List.mem_range.1 hi)]
  rw [this]
end Go.Cmp
