/-
  Texts in blocks: some sectors rot, then they are put anew: in plain lists.
-/
import Derived.Test.YtghnfocajnlfhaaTears14S
set_option linter.unusedSimpArgs false
set_option linter.unusedVariables false
set_option linter.unusedSectionVars false
set_option maxRecDepth 100000
namespace Go.Cmp
open Go.RowKit
/-- Some blocks of a text that was written have rotted. -/
structure RotG (D : Dsk) (a : Nat) (s : List UInt8) (B : List Bool) : Prop where
  on : On14 D
  fuse : D.fuse = 0
  steps : D.steps ≤ 7
  len : B.length = 6
  out : ∀ i, cntG s.length ≤ i → nth B i = false
  bad : ∀ i, i < cntG s.length → nth B i = true → nth D.mark (secN a i) = true ∧ openS (nth D.lasts (secN a i)) = ([], false)
  good : ∀ i, i < cntG s.length → nth B i = false → openS (nth D.lasts (secN a i)) = (piece s i, true)
def noneB : List Bool := [false, false, false, false, false, false]
theorem noneB_nth (i : Nat) : nth noneB i = false := by
  match i with
  | 0 => rfl
  | 1 => rfl
  | 2 => rfl
  | 3 => rfl
  | 4 => rfl
  | 5 => rfl
  | n + 6 => rfl
theorem rotG_start {D : Dsk} {a : Nat} {s : List UInt8} (h : HoldsG D a s) (ok : D.Ok) (hf : D.fuse = 0) (hst : D.steps ≤ 7) : RotG D a s noneB :=
  ⟨h.on ok, hf, hst, rfl, fun i _ => noneB_nth i, fun i _ hb => absurd hb (by rw [noneB_nth]; simp), fun i hi _ => h.has i hi⟩
theorem nth_setB {B : List Bool} {i j : Nat} {x : Bool} (h : i < B.length) : nth (B.set i x) j = if i = j then x else nth B j := by
  by_cases e : i = j
  · subst e; rw [if_pos rfl, nth_setE h]
  · rw [if_neg e, nth_setG e]
theorem mask_ne {m : Int} (h1 : 1 ≤ m) (h2 : m ≤ 255) : UInt8.ofNat m.toNat ≠ 0 := by
  intro e
  have := congrArg UInt8.toNat e
  simp at this
  omega
theorem rotG_step {D : Dsk} {a : Nat} {s : List UInt8} {B : List Bool} (h : RotG D a s B) (ha : a < 2) (hs : s.length ≤ 1920) {k : Nat} (hk : k < cntG s.length) {c m : Int} (h1 : 0 ≤ c) (h2 : c < 384) (h3 : 1 ≤ m) (h4 : m ≤ 255) :
    ∃ e E, D.rot ((secN a k : Nat) : Int) c m = (e, E) ∧ E.Ok ∧ ((e = 0 ∧ RotG E a s (B.set k true)) ∨ (e ≠ 0 ∧ RotG E a s B)) := by
  have hk6 : k < 6 := by unfold cntG at hk; omega
  have hl := h.on.len
  have hml : D.mark.length = 32 := h.on.ok.len.trans hl
  have his : D.is ((secN a k : Nat) : Int) = true := by unfold Dsk.is secN; rw [hl]; simp; omega
  have ok := (Dsk.rot_next h.on.ok ((secN a k : Nat) : Int) c m).ok
  have hsec : secN a k < 32 := by unfold secN; omega
  unfold Dsk.rot at ok ⊢
  rw [if_neg (by rw [his]; simp; omega), if_neg (by rw [h.on.way]; simp)] at ok ⊢
  rw [Int.toNat_natCast] at ok ⊢
  by_cases hm : nth D.mark (secN a k) = true
  · rw [if_pos hm]
    exact ⟨7, D, rfl, h.on.ok, .inr ⟨by decide, h⟩⟩
  · rw [if_neg hm] at ok ⊢
    refine ⟨0, _, rfl, ok, .inl ⟨rfl, ⟨⟨ok, h.on.off, h.on.way, by simpa using hl⟩, h.fuse, h.steps, by simpa using h.len, fun i hi => ?_, fun i hi hb => ?_, fun i hi hb => ?_⟩⟩⟩
    · rw [nth_setB (by rw [h.len]; omega), if_neg (by omega)]
      exact h.out i hi
    · rw [nth_setB (by rw [h.len]; omega)] at hb
      simp only
      by_cases e : k = i
      · subst e
        rw [nth_setE (by omega), nth_setE (by omega)]
        refine ⟨rfl, ?_⟩
        have hB : nth B k = false := by
          cases hB : nth B k
          · rfl
          · exact absurd (h.bad k hi hB).1 hm
        have ho := h.good k hi hB
        unfold Dsk.turn
        exact openS_turned (by rw [ho]) (by omega) (mask_ne h3 h4)
      · rw [if_neg e] at hb
        rw [nth_setG (by unfold secN; omega), nth_setG (by unfold secN; omega)]
        exact h.bad i hi hb
    · rw [nth_setB (by rw [h.len]; omega)] at hb
      by_cases e : k = i
      · rw [if_pos e] at hb; exact absurd hb (by simp)
      · rw [if_neg e] at hb
        simp only
        rw [nth_setG (by unfold secN; omega)]
        exact h.good i hi hb
/-- Which blocks are bad. -/
def wantB (B : List Bool) (n : Nat) : List Nat := (List.range n).filter fun i => nth B i
theorem wantB_snoc (B : List Bool) (n : Nat) : wantB B (n + 1) = if nth B n = true then wantB B n ++ [n] else wantB B n := by
  unfold wantB
  rw [List.range_succ, List.filter_append]
  by_cases h : nth B n = true
  · rw [if_pos h, List.filter_cons_of_pos h]; rfl
  · rw [if_neg h, List.filter_cons_of_neg h]; simp
theorem wantB_out {B : List Bool} {c : Nat} (h : ∀ i, c ≤ i → nth B i = false) : ∀ k, wantB B (c + k) = wantB B c
  | 0 => rfl
  | k + 1 => by
    rw [show c + (k + 1) = c + k + 1 from by omega, wantB_snoc, if_neg (by rw [h _ (by omega)]; simp), wantB_out h k]
theorem wantB_len (B : List Bool) (n : Nat) : (wantB B n).length ≤ n := by
  have := List.length_filter_le (fun i => nth B i) (List.range n)
  rw [List.length_range] at this
  exact this
theorem hasG_bad {x : List UInt8} {i m : Nat} (h : openS x = ([], false)) : hasG x i m = ([], false) := by unfold hasG; rw [h]; simp
theorem rotG_part {D : Dsk} {a : Nat} {s : List UInt8} {B : List Bool} (h : RotG D a s B) (ha : a < 2) (hs : s.length ≤ 1920) {i : Nat} (hi : i < cntG s.length) :
    partL D a (sumsN s) i = if nth B i = true then ([], false) else (piece s i, true) := by
  have h6 : i < 6 := by unfold cntG at hi; omega
  have hl := piece_len s i
  unfold partL sumsN
  rw [read_is h.on.off h.on.way h.on.len ha h6, sumN_nth h6]
  cases hb : nth B i
  · rw [if_neg (by simp)]
    unfold hasG
    simp only [h.good i hi hb]
    rw [if_neg (by simp only [sumG, if_pos hi]; simp; omega)]
  · rw [if_pos rfl]
    exact hasG_bad (h.bad i hi hb).2
theorem rotG_load {D : Dsk} {a : Nat} {s : List UInt8} {B : List Bool} (h : RotG D a s B) (ha : a < 2) (hs : s.length ≤ 1920) :
    loadG D a s.length (sumsN s) = (if wantB B 6 = [] then s else [], wantB B 6) := by
  have hc : cntG s.length ≤ 6 := by unfold cntG; omega
  have hw : wantB B 6 = wantB B (cntG s.length) := by
    have := wantB_out h.out (6 - cntG s.length)
    rwa [show cntG s.length + (6 - cntG s.length) = 6 from by omega] at this
  have hm : missL D a s.length (sumsN s) (cntG s.length) = wantB B 6 := by
    rw [hw]
    unfold missL wantB
    apply List.filter_congr
    intro i hi
    have hi2 := List.mem_range.1 hi
    unfold goodL
    rw [rotG_part h ha hs hi2]
    have := piece_len s i
    cases nth B i
    · simp [wantL, this]
    · simp
  by_cases he : wantB B 6 = []
  · have hh : HoldsG D a s := by
      refine ⟨h.on.off, h.on.way, h.on.len, fun i hi => h.good i hi ?_⟩
      cases hb : nth B i
      · rfl
      · have : i ∈ wantB B 6 := by
          unfold wantB
          rw [List.mem_filter]
          exact ⟨List.mem_range.2 (by omega), hb⟩
        rw [he] at this
        exact absurd this (by simp)
    rw [load_holds hh ha hs, if_pos he, he]
  · unfold loadG
    rw [hm, if_neg he, if_neg he]
theorem wantB_lt {D : Dsk} {a : Nat} {s : List UInt8} {B : List Bool} (h : RotG D a s B) : ∀ i ∈ wantB B 6, i < cntG s.length := by
  intro i hi
  unfold wantB at hi
  rw [List.mem_filter] at hi
  rcases Nat.lt_or_ge i (cntG s.length) with hl | hl
  · exact hl
  · have := h.out i hl
    rw [this] at hi
    exact absurd hi.2 (by simp)
/-- The first j of the bad blocks are put anew. -/
structure PutG (D : Dsk) (a : Nat) (s : List UInt8) (W : List Nat) (j : Nat) : Prop where
  on : On14 D
  fuse : D.fuse = 0
  steps : D.steps ≤ 7 + 2 * j
  has : ∀ i, i < cntG s.length → i ∉ W.drop j → openS (nth D.lasts (secN a i)) = (piece s i, true)
theorem putG_start {D : Dsk} {a : Nat} {s : List UInt8} {B : List Bool} (h : RotG D a s B) : PutG D a s (wantB B 6) 0 := by
  refine ⟨h.on, h.fuse, by have := h.steps; omega, fun i hi hn => h.good i hi ?_⟩
  cases hb : nth B i
  · rfl
  · refine absurd ?_ hn
    rw [List.drop_zero]
    unfold wantB
    rw [List.mem_filter]
    refine ⟨List.mem_range.2 ?_, hb⟩
    rcases Nat.lt_or_ge i 6 with h6 | h6
    · exact h6
    · have : nth B i = false := by
        unfold nth
        rw [List.getD_eq_getElem?_getD, List.getElem?_eq_none (by rw [h.len]; exact h6)]
        rfl
      rw [this] at hb
      exact absurd hb (by simp)
theorem gPut_writes {D : Dsk} {a i : Nat} {b : List UInt8} (hb : b.length ≤ 320) : gPut D a i b = writesG a i [b] D := by
  unfold gPut writesG
  rw [if_neg (by omega)]
  by_cases h : (layG D (secG a i) b).1 ≠ 0
  · rw [if_pos h, if_pos h]
  · rw [if_neg h, if_neg h]; rfl
theorem putG_step {D : Dsk} {a : Nat} {s : List UInt8} {W : List Nat} {j : Nat} (h : PutG D a s W j) (ha : a < 2) (hs : s.length ≤ 1920) (hj : j < W.length) (hj6 : j ≤ 6) (hW : ∀ i ∈ W, i < cntG s.length) :
    ∃ E, gPut D a (nth W j) (piece s (nth W j)) = (0, E) ∧ PutG E a s W (j + 1) := by
  have hk := hW _ (nth_mem hj)
  have hdrop : W.drop j = nth W j :: W.drop (j + 1) := by
    have : W[j]? = some (nth W j) := get_lt hj
    rw [List.getElem?_eq_some_iff] at this
    obtain ⟨_, e⟩ := this
    rw [← e, List.drop_eq_getElem_cons hj]
  generalize nth W j = k at hk hdrop
  have hc : cntG s.length ≤ 6 := by unfold cntG; omega
  have hl := piece_len s k
  have hst := h.steps
  rw [gPut_writes (by omega)]
  have ok := (writesG_ok a [piece s k] k D h.on.ok (by rw [h.on.way]; simp) (by simp; omega)).1
  obtain ⟨Ts, hL, q | q⟩ := Dsk.writes_on a ha [piece s k] k D h.on.off h.on.len (by simp; omega) (by intro b hb; simp at hb; subst hb; omega) (by rw [h.fuse]; decide)
  · obtain ⟨f, h1, h2, h3, h4⟩ := q
    obtain ⟨e, E, hE⟩ : ∃ e E, writesG a k [piece s k] D = (e, E) := ⟨_, _, rfl⟩
    rw [hE] at h1 h4 ok ⊢
    simp only at h1 h4 ok
    subst h1
    refine ⟨E, rfl, ?_⟩
    rw [h4] at ok ⊢
    rw [h.on.way] at ok ⊢
    simp only [List.nil_append] at ok ⊢
    have hlen : (putsL D.lasts Ts).length = 32 := by rw [putsL_len]; exact h.on.len
    refine ⟨⟨ok, rfl, rfl, hlen⟩, h2 h.fuse, by simp; omega, fun i hi hn => ?_⟩
    simp only
    by_cases e : i = k
    · subst e
      obtain ⟨g, hg⟩ := putsL_at a [piece s i] i Ts D.lasts hL (by rw [h.on.len]; unfold secN; simp; omega) 0 (by simp)
      have e0 : nth [piece s i] 0 = piece s i := rfl
      rw [Nat.add_zero, e0] at hg
      rw [hg, openS_sealed (by omega)]
    · rw [putsL_out]
      · exact h.has i hi (by rw [hdrop]; simp; exact ⟨e, hn⟩)
      · intro x hx
        obtain ⟨jj, hjj, _, hj2⟩ := hL.mem hx
        simp at hjj
        rw [hj2]; unfold secN; omega
  · exact absurd h.fuse q.choose_spec.choose_spec.2.1
theorem putG_end {D : Dsk} {a : Nat} {s : List UInt8} {W : List Nat} (h : PutG D a s W W.length) : HoldsG D a s :=
  ⟨h.on.off, h.on.way, h.on.len, fun i hi => h.has i hi (by rw [List.drop_length]; simp)⟩
end Go.Cmp
