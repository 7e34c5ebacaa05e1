/-
  A journal's disk, in plain lists: a sector is made anew, and the power may go in that.
  A journal's slots, as their sectors read: what is laid, and what comes of it when the power goes.
  A journal's calls, as what they lay into one slot.
-/
import Derived.Test.YtnjboimjlbgdiaaJrnSpec
set_option linter.unusedSimpArgs false
set_option linter.unusedVariables false
set_option linter.unusedSectionVars false
set_option maxRecDepth 100000
namespace Go.Cmp
open Go.RowKit
/-- A disk of 32 sectors that is on, with nothing under way. -/
structure OnJ (D : Dsk) : Prop where
  ok : D.Ok
  off : D.off = false
  way : D.way = []
  len : D.lasts.length = 32
theorem nth_setN {α : Type} [Inhabited α] {p : List α} {i j : Nat} {x : α} (h : i < p.length) : nth (p.set i x) j = if i = j then x else nth p j := by
  unfold nth
  rw [List.getD_eq_getElem?_getD, List.getD_eq_getElem?_getD]
  by_cases e : i = j
  · subst e; rw [if_pos rfl, List.getElem?_set_self h]; rfl
  · rw [if_neg e, List.getElem?_set_ne e]
theorem OnJ.is {D : Dsk} (h : OnJ D) {i : Nat} (hi : i < 32) : D.is (i : Int) = true := by unfold Dsk.is; rw [h.len]; simp; omega
theorem OnJ.read {D : Dsk} (h : OnJ D) {i : Nat} (hi : i < 32) : D.read (i : Int) = (nth D.lasts i, 0) := by
  unfold Dsk.read
  rw [if_neg (by rw [h.is hi]; simp), if_neg (by rw [h.off]; simp), h.way]
  rfl
theorem OnJ.text {D : Dsk} (h : OnJ D) {i : Nat} (hi : i < 32) : (nth D.lasts i).length = 384 := h.ok.size _ (nth_mem (by rw [h.len]; exact hi))
theorem nextG_ne {p : List UInt8} (h : p.length = 384) : nextG p ≠ nth p 383 := by
  unfold nextG
  rw [if_neg (fun e => by rw [e] at h; simp at h), h]
  show UInt8.ofNat (((nth p 383).toNat + 1) % 256) ≠ nth p 383
  intro e
  have e2 := congrArg UInt8.toNat e
  rw [UInt8.toNat_ofNat'] at e2
  have := (nth p 383).toNat_lt
  omega
theorem mixS_mid {x p : List UInt8} (hx : x.length = 384) (hp : p.length = 384) (h : nth x 0 ≠ nth p 383) (k : Nat) (h0 : 0 < k) (h1 : k < 384) : openS (mixS x p k) = ([], false) := by
  refine open_bad fun ho => ?_
  obtain ⟨_, h2, _⟩ := open_facts ho
  have e0 : nth (mixS x p k) 0 = nth x 0 := by
    apply nth_eq
    unfold mixS
    rw [List.getElem?_append_left (by rw [List.length_take]; omega), List.getElem?_take_of_lt (by omega), get_lt (by omega)]
  have e1 : nth (mixS x p k) 383 = nth p 383 := by
    apply nth_eq
    unfold mixS
    rw [List.getElem?_append_right (by rw [List.length_take]; omega), List.length_take, List.getElem?_drop, show k + (383 - min k x.length) = 383 by omega, get_lt (by omega)]
  rw [e0, e1] at h2
  exact h h2
/-- What lasts in G is what lasts in D. -/
def SameC (D G : Dsk) : Prop := G.lasts = D.lasts ∧ G.mark = D.mark
/-- .. but for one sector. -/
def SetC (D G : Dsk) (i : Nat) (T : List UInt8) (m : Bool) : Prop := G.lasts = D.lasts.set i T ∧ G.mark = D.mark.set i m
/-- What comes of a sector that is made anew. -/
structure LayDone (D : Dsk) (i : Nat) (T : List UInt8) (E : Dsk) : Prop where
  on : OnJ E
  set : SetC D E i T false
  steps : E.steps = D.steps + 2
  fuse : D.fuse = 0 → E.fuse = 0
/-- The power went: whatever lasts of what was under way, so it is when it is back. -/
structure CutTo (E : Dsk) (Q : Dsk → Prop) : Prop where
  ok : E.Ok
  off : E.off = true
  len : E.lasts.length = 32
  fuse : E.fuse = 0
  way : E.way = [] ∨ ∃ (i : Nat) (T : List UInt8), i < 32 ∧ T.length = 384 ∧ E.way = [⟨(i : Int), T⟩]
  then' : ∀ P, (E.start P).1 = 0 ∧ OnJ (E.start P).2 ∧ (E.start P).2.fuse = 0 ∧ (E.start P).2.steps = E.steps ∧ Q (E.start P).2
theorem CutTo.mono {E : Dsk} {Q R : Dsk → Prop} (h : CutTo E Q) (k : ∀ G, OnJ G → G.fuse = 0 → Q G → R G) : CutTo E R :=
  ⟨h.ok, h.off, h.len, h.fuse, h.way, fun P => by obtain ⟨a, b, c, d, e⟩ := h.then' P; exact ⟨a, b, c, d, k _ b c e⟩⟩
/-- After a cut: as it was, or the sector is the new one, or none. -/
def LayCut (D : Dsk) (i : Nat) (T : List UInt8) (G : Dsk) : Prop := SameC D G ∨ SetC D G i T false ∨ ∃ B, openS B = ([], false) ∧ SetC D G i B true
theorem start_none {E : Dsk} (ok : E.Ok) (ho : E.off = true) (hl : E.lasts.length = 32) (hf : E.fuse = 0) (hw : E.way = []) (P : List Int) : (E.start P).1 = 0 ∧ OnJ (E.start P).2 ∧ (E.start P).2.fuse = 0 ∧ (E.start P).2.steps = E.steps ∧ SameC E (E.start P).2 := by
  have n := (Dsk.start_next ok P).ok
  unfold Dsk.start at n ⊢
  rw [if_neg (by rw [ho]; simp)] at n ⊢
  rw [hw] at n ⊢
  exact ⟨rfl, ⟨n, rfl, rfl, hl⟩, hf, rfl, rfl, rfl⟩
theorem start_one {E : Dsk} (ok : E.Ok) (ho : E.off = true) (hl : E.lasts.length = 32) (hf : E.fuse = 0) {i : Nat} (hi : i < 32) {T : List UInt8} (hT : T.length = 384) (hw : E.way = [⟨(i : Int), T⟩]) (hg : nth T 0 ≠ nth (nth E.lasts i) 383) (P : List Int) :
    (E.start P).1 = 0 ∧ OnJ (E.start P).2 ∧ (E.start P).2.fuse = 0 ∧ (E.start P).2.steps = E.steps ∧ LayCut E i T (E.start P).2 := by
  have n := (Dsk.start_next ok P).ok
  have hp : (nth E.lasts i).length = 384 := ok.size _ (nth_mem (by rw [hl]; exact hi))
  unfold Dsk.start at n ⊢
  rw [if_neg (by rw [ho]; simp)] at n ⊢
  rw [hw] at n ⊢
  simp only [Dsk.settles] at n ⊢
  unfold Dsk.settle at n ⊢
  generalize Dsk.pickAt P 0 = pk at n ⊢
  have hk := Dsk.kept_le' pk
  by_cases h0 : Dsk.kept pk = 0
  · rw [if_pos h0] at n ⊢
    exact ⟨by trivial, ⟨n, rfl, rfl, hl⟩, hf, by trivial, .inl ⟨rfl, rfl⟩⟩
  · rw [if_neg h0] at n ⊢
    simp only [Int.toNat_natCast] at n ⊢
    refine ⟨trivial, ⟨n, rfl, rfl, by simpa using hl⟩, hf, trivial, ?_⟩
    by_cases h1 : Dsk.kept pk < 384
    · exact .inr (.inr ⟨_, mixS_mid hT hp hg _ (by omega) h1, rfl, by simp only; rw [decide_eq_true (by omega)]⟩)
    · refine .inr (.inl ⟨?_, ?_⟩)
      · simp only
        rw [List.take_of_length_le (by omega), List.drop_eq_nil_of_le (by omega), List.append_nil]
      · simp only; rw [decide_eq_false (by omega)]
theorem lay_cases {D : Dsk} (h : OnJ D) (hst : D.steps + 10 ≤ 1000000000) {i : Nat} (hi : i < 32) {mk : List UInt8 → List UInt8} {T : List UInt8} (hm : mk (nth D.lasts i) = T) (hT : T.length = 384) (hg : nth T 0 ≠ nth (nth D.lasts i) 383) :
    ((layD D (i : Int) mk).1 = 0 ∧ LayDone D i T (layD D (i : Int) mk).2) ∨
    (D.fuse ≠ 0 ∧ (layD D (i : Int) mk).1 = 6 ∧ (layD D (i : Int) mk).2.steps ≤ D.steps + 2 ∧ CutTo (layD D (i : Int) mk).2 (LayCut D i T)) := by
  have hr := h.read hi
  have f0 := h.ok.fuse0
  have f1 := h.ok.fuse1
  have s0 := h.ok.steps0
  have nw := Dsk.write_next h.ok (i : Int) T (by rw [h.way]; decide) (by omega)
  have hc : ¬ (D.is (i : Int) = false ∨ (T.length : Int) ≠ 384) := by rw [h.is hi, hT]; simp
  unfold layD
  rw [hr]
  simp only
  rw [if_neg (by simp), hm]
  have wok := nw.ok
  by_cases hf : D.fuse = 1
  · have e : D.write (i : Int) T = (6, { D with steps := D.steps + 1, fuse := 0, off := true }) := by
      unfold Dsk.write Dsk.step
      rw [if_neg hc, if_neg (by rw [h.off]; simp), if_pos hf, if_pos rfl]
    rw [e] at wok ⊢
    rw [if_pos (by exact (by decide : (6 : Int) ≠ 0))]
    refine .inr ⟨by omega, rfl, by simp only; omega, wok, rfl, h.len, rfl, .inl h.way, fun P => ?_⟩
    obtain ⟨a, b, c, d, q⟩ := start_none wok rfl h.len rfl h.way P
    exact ⟨a, b, c, d, .inl q⟩
  · have e : D.write (i : Int) T = (0, { D with steps := D.steps + 1, fuse := max 0 (D.fuse - 1), way := [⟨(i : Int), T⟩] }) := by
      unfold Dsk.write Dsk.step
      rw [if_neg hc, if_neg (by rw [h.off]; simp), if_neg hf, if_neg (by simp), h.way]
      rfl
    rw [e] at wok ⊢
    rw [if_neg (by simp)]
    have nf := (Dsk.flush_next wok (by show D.steps + 1 < _; omega)).ok
    simp only at nf ⊢
    unfold Dsk.flush Dsk.step at nf ⊢
    simp only at nf ⊢
    rw [if_neg (by rw [h.off]; simp)] at nf ⊢
    by_cases hf2 : max 0 (D.fuse - 1) = 1
    · rw [if_pos hf2] at nf ⊢
      simp only [if_true] at nf ⊢
      refine .inr ⟨by omega, trivial, by omega, nf, rfl, h.len, rfl, .inr ⟨i, T, hi, hT, rfl⟩, fun P => ?_⟩
      exact start_one nf rfl h.len rfl hi hT rfl hg P
    · rw [if_neg hf2] at nf ⊢
      simp only [Bool.true_eq_false, if_false] at nf ⊢
      refine .inl ⟨trivial, ⟨nf, h.off, rfl, ?_⟩, ⟨rfl, rfl⟩, ?_, fun h0 => ?_⟩
      · show (D.lasts.set _ _).length = 32
        rw [List.length_set]; exact h.len
      · show D.steps + 1 + 1 = _; omega
      · show max 0 (max 0 (D.fuse - 1) - 1) = 0; omega
theorem cut_cutTo {D : Dsk} (h : OnJ D) : D.cut.1 = 0 ∧ CutTo D.cut.2 (SameC D) ∧ D.cut.2.steps = D.steps := by
  have n := (Dsk.cut_next h.ok).ok
  unfold Dsk.cut at n ⊢
  rw [if_neg (by rw [h.off]; simp)] at n ⊢
  exact ⟨rfl, ⟨n, rfl, h.len, rfl, .inl h.way, fun P => start_none n rfl h.len rfl h.way P⟩, rfl⟩
end Go.Cmp
namespace Go.Cmp
open Go.RowKit
abbrev RdE := En × Bool × Bool
abbrev RdB := Stb × Bool × Bool
/-- What a slot's sectors read as, and which of them are marked. -/
structure Sl where
  p : RdE
  h : RdB
  mp : Bool
  mh : Bool
def badE : RdE := (zeroE, false, false)
def badB : RdB := (zeroB, false, false)
def voidE : RdE := (zeroE, false, true)
def voidB : RdB := (zeroB, false, true)
def slAt (D : Dsk) (s : Nat) : Sl := ⟨entP (nth D.lasts (4 + s)), stbP (nth D.lasts (12 + s)), nth D.mark (4 + s), nth D.mark (12 + s)⟩
/-- A sector that is marked can't be read; one that is not can. -/
structure Sl.Ok (x : Sl) : Prop where
  p1 : x.mp = true → x.p = badE
  p0 : x.mp = false → x.p.2.2 = true
  h1 : x.mh = true → x.h = badB
  h0 : x.mh = false → x.h.2.2 = true
inductive Wt where
  | p (r : RdE)
  | h (r : RdB)
def Wt.full : Wt → Sl → Sl
  | .p r, x => { x with p := r, mp := false }
  | .h r, x => { x with h := r, mh := false }
def Wt.torn : Wt → Sl → Sl
  | .p _, x => { x with p := badE, mp := true }
  | .h _, x => { x with h := badB, mh := true }
def Wt.fine : Wt → Prop
  | .p r => r.2.2 = true
  | .h r => r.2.2 = true
def runs (l : List Wt) (x : Sl) : Sl := l.foldl (fun x a => a.full x) x
/-- What a slot may be when the power goes as these are laid. -/
def CutIn : List Wt → Sl → Sl → Prop
  | [], _, _ => False
  | a :: l, x, y => (y = x ∨ y = a.full x ∨ y = a.torn x) ∨ CutIn l (a.full x) y
theorem CutIn.app : ∀ {l m : List Wt} {x y : Sl}, CutIn l x y → CutIn (l ++ m) x y
  | [], _, _, _, h => absurd h id
  | a :: l, m, x, y, h => by
    rcases h with h | h
    · exact .inl h
    · exact .inr (CutIn.app h)
theorem CutIn.app2 : ∀ {l m : List Wt} {x y : Sl}, CutIn m (runs l x) y → CutIn (l ++ m) x y
  | [], _, _, _, h => h
  | a :: l, m, x, y, h => .inr (CutIn.app2 (l := l) h)
theorem runs_app (l m : List Wt) (x : Sl) : runs (l ++ m) x = runs m (runs l x) := by unfold runs; rw [List.foldl_append]
theorem Sl.Ok.full {x : Sl} (h : x.Ok) {a : Wt} (ha : a.fine) : (a.full x).Ok := by
  cases a with
  | p r => exact ⟨fun h => absurd h (by simp [Wt.full]), fun _ => ha, h.h1, h.h0⟩
  | h r => exact ⟨h.p1, h.p0, fun h => absurd h (by simp [Wt.full]), fun _ => ha⟩
theorem Sl.Ok.torn {x : Sl} (h : x.Ok) {a : Wt} : (a.torn x).Ok := by
  cases a with
  | p r => exact ⟨fun _ => rfl, fun h => absurd h (by simp [Wt.torn]), h.h1, h.h0⟩
  | h r => exact ⟨h.p1, h.p0, fun _ => rfl, fun h => absurd h (by simp [Wt.torn])⟩
theorem Sl.Ok.runs {l : List Wt} : ∀ {x : Sl}, x.Ok → (∀ a ∈ l, a.fine) → (runs l x).Ok := by
  induction l with
  | nil => intro x h _; exact h
  | cons a l ih => intro x h hl; exact ih (h.full (hl a (by simp))) (fun b hb => hl b (by simp [hb]))
theorem Sl.Ok.cut : ∀ {l : List Wt} {x y : Sl}, x.Ok → (∀ a ∈ l, a.fine) → CutIn l x y → y.Ok
  | [], _, _, _, _, h => absurd h id
  | a :: l, x, y, hx, hl, h => by
    rcases h with (rfl | rfl | rfl) | h
    · exact hx
    · exact hx.full (hl a (by simp))
    · exact hx.torn
    · exact Sl.Ok.cut (hx.full (hl a (by simp))) (fun b hb => hl b (by simp [hb])) h
/-- One slot changes. -/
def Upd (D : Dsk) (s : Nat) (y : Sl) (G : Dsk) : Prop := ∀ k, k < 8 → slAt G k = if k = s then y else slAt D k
theorem Upd.refl (D : Dsk) (s : Nat) : Upd D s (slAt D s) D := fun k _ => by
  by_cases e : k = s
  · rw [if_pos e, e]
  · rw [if_neg e]
theorem same_sl {D G : Dsk} (h : SameC D G) (k : Nat) : slAt G k = slAt D k := by unfold slAt; rw [h.1, h.2]
theorem SameC.upd {D G : Dsk} (h : SameC D G) (s : Nat) : Upd D s (slAt D s) G := fun k hk => by rw [same_sl h]; exact Upd.refl D s k hk
theorem setP_sl {D G : Dsk} (h : OnJ D) {s : Nat} (hs : s < 8) {T : List UInt8} {m : Bool} (hG : SetC D G (4 + s) T m) : Upd D s { slAt D s with p := entP T, mp := m } G := by
  intro k hk
  have hm : D.mark.length = 32 := h.ok.len.trans h.len
  unfold slAt
  rw [hG.1, hG.2, nth_setN (by rw [h.len]; omega), nth_setN (by rw [h.len]; omega), nth_setN (by rw [hm]; omega), nth_setN (by rw [hm]; omega)]
  by_cases e : k = s
  · subst e
    rw [if_pos rfl, if_pos rfl, if_pos rfl, if_neg (by omega), if_neg (by omega)]
  · rw [if_neg e, if_neg (by omega), if_neg (by omega), if_neg (by omega), if_neg (by omega)]
theorem setH_sl {D G : Dsk} (h : OnJ D) {s : Nat} (hs : s < 8) {T : List UInt8} {m : Bool} (hG : SetC D G (12 + s) T m) : Upd D s { slAt D s with h := stbP T, mh := m } G := by
  intro k hk
  have hm : D.mark.length = 32 := h.ok.len.trans h.len
  unfold slAt
  rw [hG.1, hG.2, nth_setN (by rw [h.len]; omega), nth_setN (by rw [h.len]; omega), nth_setN (by rw [hm]; omega), nth_setN (by rw [hm]; omega)]
  by_cases e : k = s
  · subst e
    rw [if_pos rfl, if_pos rfl, if_pos rfl, if_neg (by omega), if_neg (by omega)]
  · rw [if_neg e, if_neg (by omega), if_neg (by omega), if_neg (by omega), if_neg (by omega)]
theorem setO_sl {D G : Dsk} (h : OnJ D) {i : Nat} (hi : i < 4 ∨ 20 ≤ i) (hi2 : i < 32) {T : List UInt8} {m : Bool} (hG : SetC D G i T m) (k : Nat) (hk : k < 8) : slAt G k = slAt D k := by
  have hm : D.mark.length = 32 := h.ok.len.trans h.len
  unfold slAt
  rw [hG.1, hG.2, nth_setN (by rw [h.len]; omega), nth_setN (by rw [h.len]; omega), nth_setN (by rw [hm]; omega), nth_setN (by rw [hm]; omega)]
  rw [if_neg (by omega), if_neg (by omega), if_neg (by omega), if_neg (by omega)]
/-- What comes of sectors of one slot that are laid one behind the other. -/
def Acts (D : Dsk) (s : Nat) (l : List Wt) (r : Int × Dsk) : Prop :=
  (r.1 = 0 ∧ OnJ r.2 ∧ Upd D s (runs l (slAt D s)) r.2 ∧ D.steps ≤ r.2.steps ∧ r.2.steps ≤ D.steps + 2 * l.length ∧ (D.fuse = 0 → r.2.fuse = 0) ∧ (l = [] → r.2 = D)) ∨
  (D.fuse ≠ 0 ∧ r.1 = 6 ∧ r.2.steps ≤ D.steps + 2 * l.length ∧ CutTo r.2 fun G => ∃ y, CutIn l (slAt D s) y ∧ Upd D s y G)
theorem Acts.nil {D : Dsk} (h : OnJ D) (s : Nat) : Acts D s [] (0, D) := .inl ⟨rfl, h, Upd.refl D s, Int.le_refl _, by simp, id, fun _ => rfl⟩
theorem Acts.then' {D : Dsk} {s : Nat} (hs : s < 8) {l m : List Wt} {r : Int × Dsk} {k : Dsk → Int × Dsk} (h : Acts D s l r) (hk : ∀ E, OnJ E → slAt E s = runs l (slAt D s) → E.steps ≤ D.steps + 2 * l.length → Acts E s m (k E)) : Acts D s (l ++ m) (thenD r k) := by
  rcases h with ⟨h1, h2, h3, h4, h5, h6, h7⟩ | ⟨h1, h2, h3, h4⟩
  · unfold thenD
    rw [if_neg (by rw [h1]; simp)]
    have e := h3 s hs
    rw [if_pos rfl] at e
    rcases hk r.2 h2 e h5 with ⟨k1, k2, k3, k4, k5, k6, k7⟩ | ⟨k1, k2, k3, k4⟩
    · refine .inl ⟨k1, k2, fun q hq => ?_, Int.le_trans h4 k4, ?_, fun h0 => k6 (h6 h0), fun hlm => ?_⟩
      · rw [k3 q hq, e, runs_app]
        by_cases e2 : q = s
        · rw [if_pos e2, if_pos e2]
        · rw [if_neg e2, if_neg e2, h3 q hq, if_neg e2]
      · rw [List.length_append]; omega
      · obtain ⟨a, b⟩ := List.append_eq_nil_iff.1 hlm
        rw [k7 b, h7 a]
    · refine .inr ⟨fun h0 => k1 (h6 h0), k2, by rw [List.length_append]; omega, k4.mono fun G _ _ ⟨y, hy, hu⟩ => ⟨y, ?_, fun q hq => ?_⟩⟩
      · rw [e] at hy; exact CutIn.app2 hy
      · rw [hu q hq]
        by_cases e2 : q = s
        · rw [if_pos e2, if_pos e2]
        · rw [if_neg e2, if_neg e2, h3 q hq, if_neg e2]
  · unfold thenD
    rw [if_pos (by rw [h2]; decide)]
    exact .inr ⟨h1, h2, by rw [List.length_append]; omega, h4.mono fun G _ _ ⟨y, hy, hu⟩ => ⟨y, hy.app, hu⟩⟩
theorem layP_acts {D : Dsk} (h : OnJ D) (hst : D.steps + 10 ≤ 1000000000) {s : Nat} (hs : s < 8) {mk : List UInt8 → List UInt8} {r : RdE} (hm : ∀ o : List UInt8, o.length = 384 → (mk o).length = 384 ∧ nth (mk o) 0 = nextG o ∧ entP (mk o) = r) :
    Acts D s [.p r] (layD D ((4 + s : Nat) : Int) mk) := by
  have hi : 4 + s < 32 := by omega
  obtain ⟨a, b, c⟩ := hm _ (h.text hi)
  rcases lay_cases h hst hi (mk := mk) rfl a (by rw [b]; exact nextG_ne (h.text hi)) with ⟨q1, q2⟩ | ⟨q1, q2, q3, q4⟩
  · refine .inl ⟨q1, q2.on, ?_, by have := q2.steps; omega, by have := q2.steps; have e : (([Wt.p r]).length : Int) = 1 := rfl; omega, q2.fuse, fun h => absurd h (by simp)⟩
    have := setP_sl h hs q2.set
    rw [c] at this
    exact this
  · refine .inr ⟨q1, q2, by have e : (([Wt.p r]).length : Int) = 1 := rfl; omega, q4.mono fun G _ _ hG => ?_⟩
    rcases hG with hG | hG | ⟨B, hB, hG⟩
    · exact ⟨_, .inl (.inl rfl), hG.upd s⟩
    · have := setP_sl h hs hG
      rw [c] at this
      exact ⟨_, .inl (.inr (.inl rfl)), this⟩
    · have := setP_sl h hs hG
      rw [entP_bad hB] at this
      exact ⟨_, .inl (.inr (.inr rfl)), this⟩
theorem layH_acts {D : Dsk} (h : OnJ D) (hst : D.steps + 10 ≤ 1000000000) {s : Nat} (hs : s < 8) {mk : List UInt8 → List UInt8} {r : RdB} (hm : ∀ o : List UInt8, o.length = 384 → (mk o).length = 384 ∧ nth (mk o) 0 = nextG o ∧ stbP (mk o) = r) :
    Acts D s [.h r] (layD D ((12 + s : Nat) : Int) mk) := by
  have hi : 12 + s < 32 := by omega
  obtain ⟨a, b, c⟩ := hm _ (h.text hi)
  rcases lay_cases h hst hi (mk := mk) rfl a (by rw [b]; exact nextG_ne (h.text hi)) with ⟨q1, q2⟩ | ⟨q1, q2, q3, q4⟩
  · refine .inl ⟨q1, q2.on, ?_, by have := q2.steps; omega, by have := q2.steps; have e : (([Wt.h r]).length : Int) = 1 := rfl; omega, q2.fuse, fun h => absurd h (by simp)⟩
    have := setH_sl h hs q2.set
    rw [c] at this
    exact this
  · refine .inr ⟨q1, q2, by have e : (([Wt.h r]).length : Int) = 1 := rfl; omega, q4.mono fun G _ _ hG => ?_⟩
    rcases hG with hG | hG | ⟨B, hB, hG⟩
    · exact ⟨_, .inl (.inl rfl), hG.upd s⟩
    · have := setH_sl h hs hG
      rw [c] at this
      exact ⟨_, .inl (.inr (.inl rfl)), this⟩
    · have := setH_sl h hs hG
      rw [stbP_bad hB] at this
      exact ⟨_, .inl (.inr (.inr rfl)), this⟩
theorem voidP_acts {D : Dsk} (h : OnJ D) (hst : D.steps + 10 ≤ 1000000000) {s : Nat} (hs : s < 8) : Acts D s [.p voidE] (layV D ((4 + s : Nat) : Int)) :=
  layP_acts h hst hs fun o _ => by rw [voidS_eq]; exact ⟨sealed_len (by simp), nth_sealed0 _ _, entP_void⟩
theorem voidH_acts {D : Dsk} (h : OnJ D) (hst : D.steps + 10 ≤ 1000000000) {s : Nat} (hs : s < 8) : Acts D s [.h voidB] (layV D ((12 + s : Nat) : Int)) :=
  layH_acts h hst hs fun o _ => by rw [voidS_eq]; exact ⟨sealed_len (by simp), nth_sealed0 _ _, stbP_void⟩
theorem layE_acts {D : Dsk} (h : OnJ D) (hst : D.steps + 10 ≤ 1000000000) {s : Nat} (hs : s < 8) {e : En} (hr : e.right = true) (hp : e.parent < 18446744073709551616) : Acts D s [.p (e, true, true)] (layE e ((4 + s : Nat) : Int) D) :=
  layP_acts h hst hs fun o _ => ⟨prep_len hr, by rw [prepS_right hr]; exact nth_sealed0 _ _, prep_ent hr hp⟩
theorem layS_acts {D : Dsk} (h : OnJ D) (hst : D.steps + 10 ≤ 1000000000) {s : Nat} (hs : s < 8) {b : Stb} (hr : b.right = true) (hp : b.parent < 18446744073709551616) (hq : b.sum < 18446744073709551616) : Acts D s [.h (b, true, true)] (layS b ((12 + s : Nat) : Int) D) :=
  layH_acts h hst hs fun o _ => by
    rw [hdrS_right hr]
    exact ⟨sealed_len (by rw [stubB_len]; omega), nth_sealed0 _ _, stbP_sealed hr hp hq⟩
end Go.Cmp
namespace Go.Cmp
open Go.RowKit
/-- What two sectors say, by what they read as. -/
def judgeX (E : RdE) (T : RdB) (n : Int) : It :=
  if T.2.2 = true then
    if T.2.1 = false ∨ T.1.op ≠ n then zeroI
    else if E.2.1 = true ∧ stubE E.1 = T.1 then ⟨1, T.1, E.1⟩
    else ⟨2, T.1, zeroE⟩
  else if E.2.2 = false then ⟨3, zeroB, zeroE⟩
  else if E.2.1 = true ∧ E.1.op = n then ⟨1, stubE E.1, E.1⟩
  else zeroI
theorem judge_X (p h : List UInt8) (n : Int) : judgeS p h n = judgeX (entP p) (stbP h) n := rfl
def dirtyP (x : Sl) (n : Int) : Bool := !x.p.2.2 || (x.p.2.1 && decide (x.p.1.op = n))
def dirtyH (x : Sl) (n : Int) : Bool := !x.h.2.2 || (x.h.2.1 && decide (x.h.1.op = n))
def cleanA (x : Sl) (n : Int) : List Wt := (if dirtyP x n = true then [.p voidE] else []) ++ (if dirtyH x n = true then [.h voidB] else [])
theorem slot_reads {D : Dsk} (h : OnJ D) (J : Jrn) {s : Nat} (hs : s < 8) : D.read (prepN (J.opAt s)) = (nth D.lasts (4 + s), 0) ∧ D.read (hdrN (J.opAt s)) = (nth D.lasts (12 + s), 0) := by
  obtain ⟨e1, e2⟩ := prepN_opAt J hs
  rw [e1, e2, h.read (by omega), h.read (by omega)]
  exact ⟨rfl, rfl⟩
theorem clean_acts {D : Dsk} (h : OnJ D) (hst : D.steps + 20 ≤ 1000000000) (J : Jrn) {s : Nat} (hs : s < 8) :
    Acts D s (cleanA (slAt D s) (J.opAt s)) (cleanJ D (J.opAt s) (D.read (prepN (J.opAt s))).1 (D.read (hdrN (J.opAt s))).1) := by
  obtain ⟨r1, r2⟩ := slot_reads h J hs
  obtain ⟨e1, e2⟩ := prepN_opAt J hs
  rw [r1, r2]
  unfold cleanJ cleanA
  rw [e1, e2]
  have d1 : dirtyP (slAt D s) (J.opAt s) = cleanP (J.opAt s) (nth D.lasts (4 + s)) := rfl
  have d2 : dirtyH (slAt D s) (J.opAt s) = cleanH (J.opAt s) (nth D.lasts (12 + s)) := rfl
  rw [d1, d2]
  refine Acts.then' hs ?_ fun E hE _ hst2 => ?_
  · by_cases c : cleanP (J.opAt s) (nth D.lasts (4 + s)) = true
    · rw [if_pos c, if_pos c]; exact voidP_acts h (by omega) hs
    · rw [if_neg c, if_neg c]; exact Acts.nil h s
  · have hl : ((if cleanP (J.opAt s) (nth D.lasts (4 + s)) = true then [Wt.p voidE] else []).length : Int) ≤ 1 := by split <;> simp
    by_cases c : cleanH (J.opAt s) (nth D.lasts (12 + s)) = true
    · rw [if_pos c, if_pos c]; exact voidH_acts hE (by omega) hs
    · rw [if_neg c, if_neg c]; exact Acts.nil hE s
/-- What a stub must be to be laid. -/
structure Stb.Fit (b : Stb) : Prop where
  right : b.right = true
  parent : b.parent < 18446744073709551616
  sum : b.sum < 18446744073709551616
def openA (x : Sl) (n : Int) : List Wt :=
  if (judgeX x.p x.h n).kind = 0 then cleanA x n else if (judgeX x.p x.h n).kind = 1 ∧ x.h.2.2 = false then [.h ((judgeX x.p x.h n).stub, true, true)] else []
theorem judge_fit {p h : List UInt8} {n : Int} (hk : (judgeS p h n).kind = 1) : (judgeS p h n).stub.Fit := by
  have fe := entP_facts p
  have fs := stbP_facts h
  unfold judgeS at hk ⊢
  split
  · rename_i c1
    rw [if_pos c1] at hk
    split
    · rename_i c2
      rw [if_pos c2] at hk
      exact absurd hk (by decide)
    · rename_i c2
      simp only [not_or, ne_eq, Bool.not_eq_false, Decidable.not_not] at c2
      rw [if_neg (by simp only [not_or, ne_eq, Bool.not_eq_false, Decidable.not_not]; exact c2)] at hk
      split
      · exact ⟨(fs.1 c2.1).2, fs.2.1, fs.2.2.1⟩
      · rename_i c3
        rw [if_neg c3] at hk
        exact absurd hk (by show (2 : Int) ≠ 1; decide)
  · rename_i c1
    rw [if_neg c1] at hk
    split
    · rename_i c2
      rw [if_pos c2] at hk
      exact absurd hk (by decide)
    · rename_i c2
      rw [if_neg c2] at hk
      split
      · rename_i c3
        have hr := (fe.1 c3.1).2
        have f := stubE_facts fe.2.1
        exact ⟨stubE_right hr, f.1, f.2⟩
      · rename_i c3
        rw [if_neg c3] at hk
        exact absurd hk (by decide)
theorem openAt_X {D : Dsk} (h : OnJ D) (J : Jrn) {s : Nat} (hs : s < 8) : openAt D (J.opAt s) = judgeX (slAt D s).p (slAt D s).h (J.opAt s) := by
  obtain ⟨r1, r2⟩ := slot_reads h J hs
  unfold openAt
  rw [r1, r2]
  rfl
theorem open_acts {D : Dsk} (h : OnJ D) (hst : D.steps + 20 ≤ 1000000000) (J : Jrn) {s : Nat} (hs : s < 8) : Acts D s (openA (slAt D s) (J.opAt s)) (openDo D (J.opAt s)) := by
  obtain ⟨r1, r2⟩ := slot_reads h J hs
  obtain ⟨e1, e2⟩ := prepN_opAt J hs
  have hX := openAt_X h J hs
  unfold openDo openA
  rw [← hX]
  by_cases c : (openAt D (J.opAt s)).kind = 0
  · rw [if_pos c, if_pos c]; exact clean_acts h hst J hs
  · rw [if_neg c, if_neg c]
    have e : (stbP (D.read (hdrN (J.opAt s))).1).2.2 = (slAt D s).h.2.2 := by rw [r2]; rfl
    rw [e]
    by_cases c2 : (openAt D (J.opAt s)).kind = 1 ∧ (slAt D s).h.2.2 = false
    · rw [if_pos c2, if_pos c2, e2]
      have f := judge_fit (show (judgeS _ _ _).kind = 1 from c2.1)
      exact layS_acts h (by omega) hs f.right f.parent f.sum
    · rw [if_neg c2, if_neg c2]; exact Acts.nil h s
def putA (x : Sl) (t : It) (e : En) : List Wt :=
  (if Jrn.kept t = true ∧ ¬ (t.kind = 2 ∧ t.stub = stubE e) then [.h voidB] else []) ++ [.p (e, true, true)] ++ (if t.kind = 2 ∧ t.stub = stubE e then [] else [.h (stubE e, true, true)])
theorem put_acts {D : Dsk} (h : OnJ D) (hst : D.steps + 20 ≤ 1000000000) (J : Jrn) {e : En} (hr : e.right = true) (hp : e.parent < 18446744073709551616) (hin : J.has e.op = true) :
    Acts D (e.op % 8).toNat (putA (slAt D (e.op % 8).toNat) (J.item e.op) e) (putDo D J e) := by
  obtain ⟨h0, hs, ho⟩ := J.opAt_of hin
  obtain ⟨e1, e2⟩ := prepN_opAt J hs
  rw [ho] at e1 e2
  generalize (e.op % 8).toNat = s at hs ho e1 e2
  unfold putDo putA
  rw [e1, e2]
  have f := stubE_facts hp
  have hsame : ∀ b : Bool, (sameJ J e = b) ↔ ((J.item e.op).kind = 2 ∧ (J.item e.op).stub = stubE e ↔ b = true) := by
    intro b
    unfold sameJ
    cases b
    · simp
    · simp
  by_cases c : (J.item e.op).kind = 2 ∧ (J.item e.op).stub = stubE e
  · have hb : sameJ J e = true := (hsame true).2 (by simp [c])
    rw [if_neg (fun q => q.2 c), if_pos c, hb, if_neg (by simp)]
    simp only [if_true, List.append_nil, List.nil_append]
    have a1 := Acts.then' hs (Acts.nil h s) (m := [.p (e, true, true)]) (k := layE e ((4 + s : Nat) : Int)) fun E hE _ hst2 => layE_acts hE (by simp at hst2; omega) hs hr hp
    have a2 := Acts.then' hs a1 (m := []) (k := fun D => (0, D)) fun E hE _ _ => Acts.nil hE s
    simpa using a2
  · have hb : sameJ J e = false := (hsame false).2 (by simp [c])
    rw [hb, if_neg c]
    have a1 : Acts D s (if Jrn.kept (J.item e.op) = true ∧ ¬((J.item e.op).kind = 2 ∧ (J.item e.op).stub = stubE e) then [Wt.h voidB] else []) (if Jrn.kept (J.item e.op) = true ∧ false = false then layV D ((12 + s : Nat) : Int) else (0, D)) := by
      by_cases c2 : Jrn.kept (J.item e.op) = true
      · rw [if_pos ⟨c2, c⟩, if_pos ⟨c2, rfl⟩]; exact voidH_acts h (by omega) hs
      · rw [if_neg (fun q => c2 q.1), if_neg (fun q => c2 q.1)]; exact Acts.nil h s
    have hl : ((if Jrn.kept (J.item e.op) = true ∧ ¬((J.item e.op).kind = 2 ∧ (J.item e.op).stub = stubE e) then [Wt.h voidB] else []).length : Int) ≤ 1 := by split <;> simp
    have a2 := Acts.then' hs a1 (m := [.p (e, true, true)]) (k := layE e ((4 + s : Nat) : Int)) fun E hE _ hst2 => layE_acts hE (by omega) hs hr hp
    have hl2 : (([Wt.p (e, true, true)]).length : Int) = 1 := rfl
    have a3 := Acts.then' hs a2 (m := [.h (stubE e, true, true)]) (k := fun D => if false = true then (0, D) else layS (stubE e) ((12 + s : Nat) : Int) D) fun E hE _ hst2 => by
      rw [if_neg (by simp)]
      rw [List.length_append, Int.natCast_add] at hst2
      exact layS_acts hE (by omega) hs (stubE_right hr) f.1 f.2
    exact a3
def voidA (t : It) : List Wt := if t.kind = 3 then [.p voidE, .h voidB] else [.h voidB, .p voidE]
theorem void_acts {D : Dsk} (h : OnJ D) (hst : D.steps + 20 ≤ 1000000000) (J : Jrn) {n : Int} (hin : J.has n = true) : Acts D (n % 8).toNat (voidA (J.item n)) (voidDo D J n) := by
  obtain ⟨h0, hs, ho⟩ := J.opAt_of hin
  obtain ⟨e1, e2⟩ := prepN_opAt J hs
  rw [ho] at e1 e2
  generalize (n % 8).toNat = s at hs ho e1 e2
  unfold voidDo voidA
  rw [e1, e2]
  by_cases c : (J.item n).kind = 3
  · rw [if_pos c, if_pos c]
    exact Acts.then' hs (voidP_acts h (by omega) hs) fun E hE _ hst2 => voidH_acts hE (by simp at hst2; omega) hs
  · rw [if_neg c, if_neg c]
    exact Acts.then' hs (voidH_acts h (by omega) hs) fun E hE _ hst2 => voidP_acts hE (by simp at hst2; omega) hs
def scrubX (x : Sl) (t : It) : It := if t.kind = 1 ∧ (x.p.2.1 = false ∨ stubE x.p.1 ≠ t.stub) then ⟨2, t.stub, zeroE⟩ else t
def scrubA (x : Sl) (t : It) (n : Int) : List Wt :=
  if (scrubX x t).kind = 0 then cleanA x n else if (scrubX x t).kind ≠ 3 ∧ (x.h.2.1 = false ∨ x.h.1 ≠ (scrubX x t).stub) then [.h ((scrubX x t).stub, true, true)] else []
theorem scrubAt_X {D : Dsk} (h : OnJ D) (J : Jrn) {s : Nat} (hs : s < 8) : scrubAt D J s = scrubX (slAt D s) (nth J.items s) := by
  obtain ⟨r1, r2⟩ := slot_reads h J hs
  unfold scrubAt scrubX
  rw [r1]
  rfl
theorem scrub_acts {D : Dsk} (h : OnJ D) (hst : D.steps + 20 ≤ 1000000000) (J : Jrn) {s : Nat} (hs : s < 8) (hf : (scrubX (slAt D s) (nth J.items s)).kind ≠ 0 → (scrubX (slAt D s) (nth J.items s)).kind ≠ 3 → (scrubX (slAt D s) (nth J.items s)).stub.Fit) :
    Acts D s (scrubA (slAt D s) (nth J.items s) (J.opAt s)) (scrubDo D J s) := by
  obtain ⟨r1, r2⟩ := slot_reads h J hs
  obtain ⟨e1, e2⟩ := prepN_opAt J hs
  unfold scrubDo scrubA
  rw [scrubAt_X h J hs]
  by_cases c : (scrubX (slAt D s) (nth J.items s)).kind = 0
  · rw [if_pos c, if_pos c]; exact clean_acts h hst J hs
  · rw [if_neg c, if_neg c]
    have e : stbP (D.read (hdrN (J.opAt s))).1 = (slAt D s).h := by rw [r2]; rfl
    rw [e]
    by_cases c2 : (scrubX (slAt D s) (nth J.items s)).kind ≠ 3 ∧ ((slAt D s).h.2.1 = false ∨ (slAt D s).h.1 ≠ (scrubX (slAt D s) (nth J.items s)).stub)
    · rw [if_pos c2, if_pos c2, e2]
      have f := hf c c2.1
      exact layS_acts h (by omega) hs f.right f.parent f.sum
    · rw [if_neg c2, if_neg c2]; exact Acts.nil h s
end Go.Cmp
