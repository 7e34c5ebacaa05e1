/-
  A journal's slots: what opening and scrubbing make of all of them.
  A journal's disk that was laid void, in plain lists.
  A journal: the chapter's example, in plain lists.
  A disk with a journal on it: what is done, and the answer, in plain lists.
  A journal's slots and what is known of them, in plain lists.
  A journal's calls keep what is kept slot by slot, in plain lists.
  A journal's calls keep what is kept slot by slot, in plain lists: another checkpoint, a look, a scrub.
  A sector rots, in plain lists: on, and off.
  A sector rots while there is no power, in plain lists.
  A disk with a journal on it: what every act keeps, in plain lists.
  A disk with a journal on it: the slots' invariant, and what was kept, in plain lists.
  A disk with a journal on it, where nothing rots, in plain lists.
  A journal behind a scrub, in plain lists.
-/
import Derived.Test.YtnjboimjlbgdiaaJrnP
import Derived.Test.YtnjboimjlbgdiaaJrnB
set_option linter.unusedSimpArgs false
set_option linter.unusedVariables false
set_option linter.unusedSectionVars false
set_option maxRecDepth 100000
namespace Go.Cmp
open Go.RowKit
theorem cleanA_len (x : Sl) (n : Int) : (cleanA x n).length ≤ 2 := by unfold cleanA; split <;> split <;> simp
theorem openA_len (x : Sl) (n : Int) : (openA x n).length ≤ 2 := by
  unfold openA
  split
  · exact cleanA_len x n
  · split <;> simp
theorem scrubA_len (x : Sl) (t : It) (n : Int) : (scrubA x t n).length ≤ 2 := by
  unfold scrubA
  split
  · exact cleanA_len x n
  · split <;> simp
theorem putA_len (x : Sl) (t : It) (e : En) : (putA x t e).length ≤ 3 := by unfold putA; split <;> split <;> simp
theorem voidA_len (t : It) : (voidA t).length = 2 := by unfold voidA; split <;> rfl
theorem Acts.on {D : Dsk} {s : Nat} {l : List Wt} {r : Int × Dsk} (h : Acts D s l r) (h0 : r.1 = 0) : OnJ r.2 ∧ Upd D s (runs l (slAt D s)) r.2 ∧ D.steps ≤ r.2.steps ∧ r.2.steps ≤ D.steps + 2 * l.length ∧ (D.fuse = 0 → r.2.fuse = 0) ∧ (l = [] → r.2 = D) := by
  rcases h with ⟨_, a, b, c, d, e, f⟩ | ⟨_, b, _⟩
  · exact ⟨a, b, c, d, e, f⟩
  · rw [b] at h0; exact absurd h0 (by decide)
theorem Acts.full {D : Dsk} {s : Nat} {l : List Wt} {r : Int × Dsk} (h : Acts D s l r) (h0 : D.fuse = 0) : r.1 = 0 := by
  rcases h with ⟨a, _⟩ | ⟨b, _⟩
  · exact a
  · exact absurd h0 b
theorem openA_fine {x : Sl} {n : Int} : ∀ a ∈ openA x n, a.fine := by
  intro a ha
  unfold openA cleanA at ha
  split at ha
  · rcases List.mem_append.1 ha with h | h
    · split at h
      · simp at h; subst h; rfl
      · simp at h
    · split at h
      · simp at h; subst h; rfl
      · simp at h
  · split at ha
    · simp at ha; subst ha; rfl
    · simp at ha
/-- What a walk of Open needs: on, and so many steps. -/
structure OpnI (c : Nat) (B : Int) (s : Nat) (D : Dsk) (J : Jrn) : Prop where
  on : OnJ D
  steps : D.steps ≤ B + 4 * s
  len : J.items.length = 8
  check : J.check = c
theorem opnI_step {c : Nat} {B : Int} (hB : B + 100 ≤ 1000000000) {s : Nat} {D : Dsk} {J : Jrn} (h : OpnI c B s D J) (hs : s < 8) : J.items.length = 8 ∧ OnJ D ∧ D.steps + 8 < 1000000000 ∧ ((openDo D (J.opAt s)).1 = 0 → OpnI c B (s + 1) (openDo D (J.opAt s)).2 { J with items := J.items.set s (openAt D (J.opAt s)) }) := by
  have hst := h.steps
  refine ⟨h.len, h.on, by omega, fun h0 => ?_⟩
  obtain ⟨a, _, _, d, _⟩ := (open_acts h.on (by omega) J hs).on h0
  have := openA_len (slAt D s) (J.opAt s)
  exact ⟨a, by omega, by simpa using h.len, h.check⟩
theorem openFrom_all {P : Nat → Sl → It → Prop} {F : Nat → Sl → Prop} (hstep : ∀ n x, F n x → P n (runs (openA x (n : Int)) x) (judgeX x.p x.h (n : Int))) :
    ∀ (k s : Nat) (D : Dsk) (J : Jrn), s + k = 8 → OnJ D → D.fuse = 0 → D.steps + 4 * k + 20 ≤ 1000000000 → J.items.length = 8 → (∀ i, i < s → P (J.opAt i) (slAt D i) (nth J.items i)) → (∀ i, s ≤ i → i < 8 → F (J.opAt i) (slAt D i)) →
      (openFrom J k s D).1 = 0 ∧ OnJ (openFrom J k s D).2.2 ∧ (openFrom J k s D).2.2.fuse = 0 ∧ (openFrom J k s D).2.2.steps ≤ D.steps + 4 * k ∧ (openFrom J k s D).2.1.items.length = 8 ∧ (openFrom J k s D).2.1.check = J.check ∧ ∀ i, i < 8 → P ((openFrom J k s D).2.1.opAt i) (slAt (openFrom J k s D).2.2 i) (nth (openFrom J k s D).2.1.items i)
  | 0, s, D, J, hsk, hD, hf, _, hl, hP, _ => ⟨rfl, hD, hf, by simp [openFrom], hl, rfl, fun i hi => hP i (by omega)⟩
  | k + 1, s, D, J, hsk, hD, hf, hst, hl, hP, hF => by
    have hs : s < 8 := by omega
    have ha := open_acts hD (by omega) J hs
    have h0 := ha.full hf
    obtain ⟨a, b, c, d, e, _⟩ := ha.on h0
    have hal := openA_len (slAt D s) (J.opAt s)
    have hX := openAt_X hD J hs
    have e1 : openFrom J (k + 1) s D = openFrom { J with items := J.items.set s (openAt D (J.opAt s)) } k (s + 1) (openDo D (J.opAt s)).2 := by
      have : openFrom J (k + 1) s D = if (openDo D (J.opAt s)).1 ≠ 0 then ((openDo D (J.opAt s)).1, J, (openDo D (J.opAt s)).2) else openFrom { J with items := J.items.set s (openAt D (J.opAt s)) } k (s + 1) (openDo D (J.opAt s)).2 := rfl
      rw [this, if_neg (by rw [h0]; simp)]
    rw [e1]
    obtain ⟨q1, q2, q3, q4, q5, q6, q7⟩ := openFrom_all hstep k (s + 1) (openDo D (J.opAt s)).2 { J with items := J.items.set s (openAt D (J.opAt s)) } (by omega) a (e hf) (by push_cast at hst ⊢; omega) (by simpa using hl) (fun i hi => by
      rw [b i (by omega)]
      show P (J.opAt i) _ (nth (J.items.set s (openAt D (J.opAt s))) i)
      rw [nth_setN (by omega)]
      by_cases he : i = s
      · subst he
        rw [if_pos rfl, if_pos rfl, hX]
        exact hstep _ _ (hF i (Nat.le_refl _) hs)
      · rw [if_neg he, if_neg (fun h => he h.symm)]
        exact hP i (by omega)) (fun i h1 h2 => by
      rw [b i h2, if_neg (by omega)]
      exact hF i (by omega) h2)
    exact ⟨q1, q2, q3, by push_cast; omega, q5, q6, q7⟩
/-- .. where nothing is to be laid, nothing is. -/
theorem openFrom_same : ∀ (k s : Nat) (D : Dsk) (J : Jrn), s + k = 8 → OnJ D → D.steps + 20 ≤ 1000000000 → J.items.length = 8 → (∀ i, s ≤ i → i < 8 → openA (slAt D i) (J.opAt i) = []) →
      (openFrom J k s D).1 = 0 ∧ (openFrom J k s D).2.2 = D ∧ (openFrom J k s D).2.1.items.length = 8 ∧ (openFrom J k s D).2.1.check = J.check ∧ ∀ i, i < 8 → nth (openFrom J k s D).2.1.items i = if i < s then nth J.items i else judgeX (slAt D i).p (slAt D i).h (J.opAt i)
  | 0, s, D, J, hsk, hD, _, hl, _ => ⟨rfl, rfl, hl, rfl, fun i hi => by rw [if_pos (by omega)]; rfl⟩
  | k + 1, s, D, J, hsk, hD, hst, hl, hF => by
    have hs : s < 8 := by omega
    have ha := open_acts hD (by omega) J hs
    rw [hF s (Nat.le_refl _) hs] at ha
    have hX := openAt_X hD J hs
    have h01 : (openDo D (J.opAt s)).1 = 0 ∧ (openDo D (J.opAt s)).2 = D := by
      rcases ha with ⟨a, _, _, _, _, _, b⟩ | ⟨_, _, _, q⟩
      · exact ⟨a, b rfl⟩
      · have := (q.then' []).2.2.2.2
        obtain ⟨y, hy, _⟩ := this
        exact absurd hy id
    have e1 : openFrom J (k + 1) s D = openFrom { J with items := J.items.set s (openAt D (J.opAt s)) } k (s + 1) D := by
      have : openFrom J (k + 1) s D = if (openDo D (J.opAt s)).1 ≠ 0 then ((openDo D (J.opAt s)).1, J, (openDo D (J.opAt s)).2) else openFrom { J with items := J.items.set s (openAt D (J.opAt s)) } k (s + 1) (openDo D (J.opAt s)).2 := rfl
      rw [this, if_neg (by rw [h01.1]; simp), h01.2]
    rw [e1]
    obtain ⟨q1, q2, q3, q4, q5⟩ := openFrom_same k (s + 1) D { J with items := J.items.set s (openAt D (J.opAt s)) } (by omega) hD hst (by simpa using hl) (fun i h1 h2 => hF i (by omega) h2)
    refine ⟨q1, q2, q3, q4, fun i hi => ?_⟩
    rw [q5 i hi]
    by_cases h1 : i < s
    · rw [if_pos (by omega), if_pos h1]
      show nth (J.items.set s _) i = _
      rw [nth_setN (by omega), if_neg (by omega)]
    · by_cases h2 : i = s
      · subst h2
        rw [if_pos (by omega), if_neg h1]
        show nth (J.items.set i _) i = _
        rw [nth_setN (by omega), if_pos rfl, hX]
      · rw [if_neg (by omega), if_neg h1]
        rfl
/-! ### A disk that was laid void -/
def voidSl : Sl := ⟨voidE, voidB, false, false⟩
theorem voidX_judge (n : Int) : judgeX voidE voidB n = zeroI := rfl
theorem void_openA (n : Int) : openA voidSl n = [] := rfl
end Go.Cmp
namespace Go.Cmp
open Go.RowKit
theorem puts_get {Q : List UInt8 → Prop} (i : Nat) (hi : i < 32) : ∀ (W : List Wr) (D : Dsk), D.lasts.length = 32 → D.mark.length = 32 → (∀ x ∈ W, Q x.text) →
    ((Q (nth D.lasts i) ∧ nth D.mark i = false) ∨ ∃ x ∈ W, x.sector.toNat = i) → Q (nth (D.puts W).lasts i) ∧ nth (D.puts W).mark i = false
  | [], D, _, _, _, h => by
    rcases h with h | ⟨x, hx, _⟩
    · exact h
    · exact absurd hx (by simp)
  | x :: W, D, hl, hm, hq, h => by
    have e : D.puts (x :: W) = (D.put x).puts W := rfl
    rw [e]
    refine puts_get i hi W (D.put x) (by simpa [Dsk.put] using hl) (by simpa [Dsk.put] using hm) (fun y hy => hq y (by simp [hy])) ?_
    by_cases hx : x.sector.toNat = i
    · left
      unfold Dsk.put
      simp only
      rw [nth_setN (by omega), if_pos hx, nth_setN (by omega), if_pos hx]
      exact ⟨hq x (by simp), rfl⟩
    · rcases h with h | ⟨y, hy, hy2⟩
      · left
        unfold Dsk.put
        simp only
        rw [nth_setN' hx, nth_setN' hx]
        exact h
      · right
        rcases List.mem_cons.1 hy with rfl | hy
        · exact absurd hy2 hx
        · exact ⟨y, hy, hy2⟩
where
  nth_setN' {α : Type} [Inhabited α] {p : List α} {i j : Nat} {x : α} (h : i ≠ j) : nth (p.set i x) j = nth p j := by
    unfold nth
    rw [List.getD_eq_getElem?_getD, List.getD_eq_getElem?_getD, List.getElem?_set_ne h]
theorem fmtFrom_void : ∀ (l : List Int) (D : Dsk) (n : Nat), FmtI D n → n + l.length < 90 → (∀ i ∈ l, 0 ≤ i ∧ i < 32) →
    ∃ W : List Wr, W.map (fun x => x.sector) = D.way.map (fun x => x.sector) ++ l ∧ (∀ x ∈ W, x ∈ D.way ∨ ∃ g, x.text = sealed g []) ∧
      (fmtFrom l D).1 = 0 ∧ OnJ (fmtFrom l D).2 ∧ (fmtFrom l D).2.fuse = 0 ∧ (fmtFrom l D).2.steps ≤ 1001 + (n + l.length : Nat) ∧ (fmtFrom l D).2.lasts = (D.puts W).lasts ∧ (fmtFrom l D).2.mark = (D.puts W).mark
  | [], D, n, h, hn, _ => by
    obtain ⟨a, b, c, d, e, f, g⟩ := fmt_flush h (by omega)
    refine ⟨D.way, by simp, fun x hx => .inl hx, ?_⟩
    rw [b]
    exact ⟨a, c, d, by simpa using e, f, g⟩
  | i :: l, D, n, h, hn, hl => by
    obtain ⟨h0, h1⟩ := hl i (by simp)
    simp only [List.length_cons] at hn
    obtain ⟨a, b, c, d⟩ := fmt_step h (by omega) h0 h1 l
    have hw : (D.write i (voidS (D.read i).1)).2.way = D.way ++ [⟨i, voidS (D.read i).1⟩] ∧ (D.write i (voidS (D.read i).1)).2.lasts = D.lasts ∧ (D.write i (voidS (D.read i).1)).2.mark = D.mark := by
      have his : D.is i = true := by unfold Dsk.is; rw [h.len]; simp; omega
      have hl2 : (voidS (D.read i).1).length = 384 := by rw [voidS_eq]; exact sealed_len (by simp)
      unfold Dsk.write
      rw [if_neg (by rw [his, hl2]; simp), if_neg (by rw [h.off]; simp), fmt_stp h.fuse]
      exact ⟨rfl, rfl, rfl⟩
    obtain ⟨W, w1, w2, w3, w4, w5, w6, w7, w8⟩ := fmtFrom_void l _ (n + 1) c (by omega) (fun j hj => hl j (by simp [hj]))
    rw [d]
    have hp : ∀ (V : List Wr) (E F : Dsk), E.lasts = F.lasts → E.mark = F.mark → (E.puts V).lasts = (F.puts V).lasts ∧ (E.puts V).mark = (F.puts V).mark := by
      intro V
      induction V with
      | nil => intro E F a b; exact ⟨a, b⟩
      | cons x V ih => intro E F a b; exact ih (E.put x) (F.put x) (by simp [Dsk.put, a]) (by simp [Dsk.put, b])
    obtain ⟨p1, p2⟩ := hp W _ D hw.2.1 hw.2.2
    refine ⟨W, ?_, fun x hx => ?_, w3, w4, w5, ?_, w7.trans p1, w8.trans p2⟩
    · rw [w1, hw.1]; simp
    · rcases w2 x hx with h | h
      · rw [hw.1] at h
        rcases List.mem_append.1 h with h | h
        · exact .inl h
        · simp only [List.mem_singleton] at h
          subst h
          exact .inr ⟨_, voidS_eq _⟩
      · exact .inr h
    · simp only [List.length_cons]
      rw [show n + (l.length + 1) = n + 1 + l.length from by omega]
      exact w6
/-- A disk that was laid void. -/
structure VoidD (D : Dsk) : Prop where
  on : OnJ D
  fuse : D.fuse = 0
  steps : D.steps ≤ 1017
  sl : ∀ s, s < 8 → slAt D s = voidSl
theorem fmt_void {D : Dsk} (h : FmtI D 0) : (fmtJ D).1 = 0 ∧ VoidD (fmtJ D).2 := by
  have hway : D.way = [] := List.length_eq_zero_iff.1 h.way
  have hm : D.mark.length = 32 := h.ok.len.trans h.len
  have hmem : ∀ i ∈ fmtL, 0 ≤ i ∧ i < 32 := by decide
  obtain ⟨W, w1, w2, w3, w4, w5, w6, w7, w8⟩ := fmtFrom_void fmtL D 0 h (by decide) hmem
  rw [hway] at w1 w2
  simp only [List.map_nil, List.nil_append] at w1
  have e : fmtJ D = fmtFrom fmtL D := rfl
  rw [e]
  refine ⟨w3, w4, w5, by have e16 : (0 + fmtL.length) = 16 := by decide
                         rw [e16] at w6; omega, fun s hs => ?_⟩
  have hq : ∀ x ∈ W, ∃ g, x.text = sealed g [] := fun x hx => (w2 x hx).resolve_left (by simp)
  have hin : ∀ i : Nat, (i : Int) ∈ fmtL → ∃ x ∈ W, x.sector.toNat = i := by
    intro i hi
    rw [← w1] at hi
    obtain ⟨x, hx, hxe⟩ := List.mem_map.1 hi
    exact ⟨x, hx, by rw [hxe]; rfl⟩
  have hs4 : ((4 + s : Nat) : Int) ∈ fmtL ∧ ((12 + s : Nat) : Int) ∈ fmtL := by
    have : ∀ s, s < 8 → ((4 + s : Nat) : Int) ∈ fmtL ∧ ((12 + s : Nat) : Int) ∈ fmtL := by decide
    exact this s hs
  obtain ⟨⟨g1, t1⟩, m1⟩ := puts_get (Q := fun t => ∃ g, t = sealed g []) (4 + s) (by omega) W D h.len hm hq (.inr (hin _ hs4.1))
  obtain ⟨⟨g2, t2⟩, m2⟩ := puts_get (Q := fun t => ∃ g, t = sealed g []) (12 + s) (by omega) W D h.len hm hq (.inr (hin _ hs4.2))
  unfold slAt
  rw [w7, w8, t1, t2, m1, m2, entP_void, stbP_void]
  rfl
end Go.Cmp
namespace Go.Proofs.Ytnjboimjlbgdiaa
open Go.RowKit Go.Cmp
theorem newDsk_fmt : FmtI (newDsk 32) 0 :=
  ⟨newDsk_ok 32 (by omega), rfl, rfl, by simp [newDsk], rfl, by show (0 : Int) ≤ _; decide⟩
end Go.Proofs.Ytnjboimjlbgdiaa
namespace Go.Cmp
open Go.RowKit
def awE : En := ⟨0, 1, 0, 0, 1, 0, 0, 1, []⟩
theorem awE_right : awE.right = true := by decide
theorem headTo_none {J : Jrn} : ∀ k, (∀ i, 1 ≤ i → i ≤ k → Jrn.kept (J.item ((J.check + i : Nat) : Int)) = false) → J.headTo k = J.check
  | 0, _ => rfl
  | k + 1, h => by
    unfold Jrn.headTo
    rw [h (k + 1) (by omega) (by omega), if_neg (by simp)]
    exact headTo_none k (fun i h1 h2 => h i h1 (by omega))
theorem headTo_at {J : Jrn} {m : Nat} (hm : 1 ≤ m) (hk : Jrn.kept (J.item ((J.check + m : Nat) : Int)) = true) : ∀ k, m ≤ k → (∀ i, m < i → i ≤ k → Jrn.kept (J.item ((J.check + i : Nat) : Int)) = false) → J.headTo k = J.check + m
  | 0, h, _ => absurd h (by omega)
  | k + 1, h, hn => by
    unfold Jrn.headTo
    by_cases e : m = k + 1
    · subst e
      rw [hk, if_pos rfl]
    · rw [hn (k + 1) (by omega) (Nat.le_refl _), if_neg (by simp)]
      exact headTo_at hm hk k (by omega) (fun i h1 h2 => hn i h1 (by omega))
/-- A journal of a void disk. -/
structure FreshJ (J : Jrn) : Prop where
  check : J.check = 0
  len : J.items.length = 8
  zero : ∀ i, i < 8 → nth J.items i = zeroI
theorem fresh_open {D : Dsk} (h : VoidD D) : (openJ D 0).1 = 0 ∧ (openJ D 0).2.2 = D ∧ FreshJ (openJ D 0).2.1 := by
  have hst := h.steps
  obtain ⟨a, b, c, d, e⟩ := openFrom_same 8 0 D ⟨0, List.replicate 8 zeroI⟩ (by omega) h.on (by omega) (by simp) (fun i _ hi => by rw [h.sl i hi]; exact void_openA _)
  refine ⟨a, b, ⟨d, c, fun i hi => ?_⟩⟩
  have := e i hi
  rw [if_neg (by omega), h.sl i hi] at this
  exact this.trans (voidX_judge _)
theorem fresh_item {J : Jrn} (h : FreshJ J) (n : Int) : J.item n = zeroI := by
  unfold Jrn.item
  exact h.zero _ (by omega)
theorem fresh_head {J : Jrn} (h : FreshJ J) : J.head = 0 := by
  unfold Jrn.head
  rw [headTo_none 8 (fun i _ _ => by rw [fresh_item h]; rfl), h.check]
theorem fresh_put {D : Dsk} {J : Jrn} (h : VoidD D) (hJ : FreshJ J) :
    ∃ J2 D2, putJ D J awE = (0, J2, D2) ∧ OnJ D2 ∧ D2.steps ≤ 1100 ∧ J2.items.length = 8 ∧ J2.check = 0 ∧ J2.head = 1 ∧ (judgeS (nth D2.lasts 5) (nth D2.lasts 13) 1).kind = 1 := by
  have hst := h.steps
  have hin : J.has awE.op = true := by unfold Jrn.has; rw [hJ.check]; decide
  have ha := put_acts h.on (by omega) J awE_right (by decide) hin
  have hs1 : (awE.op % 8).toNat = 1 := by decide
  rw [hs1, fresh_item hJ] at ha
  have h0 := ha.full h.fuse
  obtain ⟨a, b, c, d, _, _⟩ := ha.on h0
  have hp : putJ D J awE = (0, J.put awE.op ⟨1, stubE awE, awE⟩, (putDo D J awE).2) := by
    unfold putJ
    rw [if_neg (by rw [awE_right]; simp), if_neg (by rw [hin]; simp), fresh_item hJ, if_neg (fun h => absurd h.1 (by decide)), if_neg (by rw [h0]; simp)]
  have hput : J.put awE.op ⟨1, stubE awE, awE⟩ = { J with items := J.items.set 1 ⟨1, stubE awE, awE⟩ } := by unfold Jrn.put; rw [hs1]
  rw [hput] at hp
  have hl : (putA (slAt D 1) zeroI awE).length ≤ 3 := putA_len _ _ _
  refine ⟨_, _, hp, a, by omega, by simpa using hJ.len, hJ.check, ?_, ?_⟩
  · unfold Jrn.head
    have hnth : ∀ i : Nat, i < 9 → Jrn.item { J with items := J.items.set 1 ⟨1, stubE awE, awE⟩ } ((J.check + i : Nat) : Int) = if i = 1 then ⟨1, stubE awE, awE⟩ else zeroI := by
      intro i hi
      unfold Jrn.item
      rw [hJ.check]
      rw [show ((((0 + i : Nat) : Int)) % 8).toNat = i % 8 from by omega, nth_setN (by rw [hJ.len]; omega)]
      by_cases e : i = 1
      · subst e; rfl
      · rw [if_neg e]
        rw [if_neg (by omega)]
        exact hJ.zero _ (by omega)
    have := headTo_at (J := { J with items := J.items.set 1 ⟨1, stubE awE, awE⟩ }) (m := 1) (Nat.le_refl 1) (by rw [hnth 1 (by omega), if_pos rfl]; rfl) 8 (by omega) (fun i h1 h2 => by rw [hnth i (by omega), if_neg (by omega)]; rfl)
    rw [this]
    show J.check + 1 = 1
    rw [hJ.check]
  · rw [judge_X]
    have e := b 1 (by omega)
    rw [if_pos rfl, h.sl 1 (by omega)] at e
    have e1 : entP (nth (putDo D J awE).2.lasts 5) = (slAt (putDo D J awE).2 1).p := rfl
    have e2 : stbP (nth (putDo D J awE).2.lasts 13) = (slAt (putDo D J awE).2 1).h := rfl
    rw [e1, e2, e]
    have hr := awE_right
    have hpa : putA voidSl zeroI awE = [.p (awE, true, true), .h (stubE awE, true, true)] := by
      unfold putA
      rw [if_neg (fun h => absurd h.1 (by decide)), if_neg (fun h => absurd h.1 (by decide))]
      rfl
    rw [hpa]
    show (judgeX (awE, true, true) (stubE awE, true, true) 1).kind = 1
    have ho := stubE_op hr
    unfold judgeX
    rw [if_pos rfl, if_neg (by rw [ho]; exact fun h => h.elim (by simp) (fun h => h rfl)), if_pos ⟨rfl, rfl⟩]
end Go.Cmp
namespace Go.Cmp
open Go.RowKit
structure JAct where
  kind : Int
  e : En
  n : Int
  i : Int
  pos : Int
  mask : Int
  picks : List Int
deriving Inhabited
def JAct.cells (x : JAct) (v : Value) : List Value := .int .i64 x.kind :: (x.e.cells ++ [.int .i64 x.n, .int .i64 x.i, .int .i64 x.pos, .int .i64 x.mask, v])
def jactCells (x : JAct × Value) : List Value := x.1.cells x.2
structure JActOk (w : World) (X : JAct × Value) : Prop where
  par : X.1.e.parent < 18446744073709551616
  op : X.1.e.op ≤ 9223372036854775807
  n1 : -9223372036854775808 ≤ X.1.n
  n2 : X.1.n ≤ 9223372036854775807
  picks : ∀ p ∈ X.1.picks, p ≤ 9223372036854775807
  rd : Rd w 1 X.2 X.1.picks.length (X.1.picks.flatMap num)
theorem jact_len (x : JAct) (v : Value) : (x.cells v).length = 15 := rfl
/-- A disk, a journal if one is there, the checkpoint. -/
structure Wd where
  D : Dsk
  J : Option Jrn
  c : Nat
/-- A journal's call. -/
def callJ (D : Dsk) (J : Jrn) (x : JAct) : Int × Jrn × Dsk :=
  if x.kind = 1 then putJ D J x.e else if x.kind = 2 then voidJ D J x.n else if x.kind = 3 then ((shiftJ J x.n).1, (shiftJ J x.n).2, D) else if x.kind = 4 then ((readJ D J x.n).2.1, (readJ D J x.n).2.2, D) else if x.kind = 5 then scrubJ D J else (0, J, D)
/-- What happens to the disk. -/
def dskJ (W : Wd) (x : JAct) : Int × Wd :=
  if x.kind = 6 then ((W.D.setFuse x.n).1, { W with D := (W.D.setFuse x.n).2 })
  else if x.kind = 7 then (W.D.cut.1, { W with D := W.D.cut.2 })
  else if x.kind = 8 then
    if (W.D.start x.picks).1 ≠ 0 then ((W.D.start x.picks).1, { W with D := (W.D.start x.picks).2 })
    else ((openJ (W.D.start x.picks).2 W.c).1, ⟨(openJ (W.D.start x.picks).2 W.c).2.2, if (openJ (W.D.start x.picks).2 W.c).1 = 0 then some (openJ (W.D.start x.picks).2 W.c).2.1 else none, W.c⟩)
  else if x.kind = 9 then ((W.D.rot x.i x.pos x.mask).1, { W with D := (W.D.rot x.i x.pos x.mask).2 })
  else (0, W)
/-- Behind it: the checkpoint is noted; without power no journal is there. -/
def endW (W : Wd) : Wd := ⟨W.D, if W.D.off = true then none else W.J, match W.J with | some J => J.check | none => W.c⟩
def deedW (W : Wd) (x : JAct) : Int × Wd :=
  if x.kind < 6 then
    match W.J with
    | none => (0, W)
    | some J => ((callJ W.D J x).1, endW ⟨(callJ W.D J x).2.2, some (callJ W.D J x).2.1, W.c⟩)
  else ((dskJ W x).1, endW (dskJ W x).2)
/-- A stub that is laid may be. -/
def ItFit (t : It) : Prop := (t.kind = 1 ∨ t.kind = 2 → t.stub.Fit) ∧ t.stub.parent < 18446744073709551616 ∧ t.stub.sum < 18446744073709551616
/-- What may be of a world. -/
structure WdOk (W : Wd) (B : Int) : Prop where
  ok : W.D.Ok
  len : W.D.lasts.length = 32
  steps : W.D.steps ≤ B
  check : W.c ≤ 72057594037927927
  on : W.D.off = false → W.D.way = []
  off : W.D.off = true → CutTo W.D fun _ => True
  jon : ∀ J, W.J = some J → W.D.off = false ∧ J.items.length = 8 ∧ J.check = W.c ∧ ∀ s, s < 8 → ItFit (nth J.items s)
theorem WdOk.onJ {W : Wd} {B : Int} (h : WdOk W B) (ho : W.D.off = false) : OnJ W.D := ⟨h.ok, ho, h.on ho, h.len⟩
end Go.Cmp
namespace Go.Cmp
open Go.RowKit
/-- What is known of a slot of an open journal. -/
inductive SI (n : Nat) (x : Sl) : It → Prop where
  | lacks : SI n x zeroI
  | holds (e : En) (hr : e.right = true) (ho : e.op = (n : Int)) (hp : e.parent < 18446744073709551616) (p : x.p = (e, true, true) ∨ x.p = badE) (h : x.h = (stubE e, true, true) ∨ x.h = badB) : SI n x ⟨1, stubE e, e⟩
  | faulty (b : Stb) (hf : b.Fit) (ho : b.op = (n : Int)) (h : x.h = (b, true, true) ∨ x.h = badB) (p : ¬ (x.p.2.1 = true ∧ stubE x.p.1 = b)) : SI n x ⟨2, b, zeroE⟩
  | unsure (p : x.p = badE) (h : x.h = badB) : SI n x ⟨3, zeroB, zeroE⟩
theorem stubE_fit {e : En} (hr : e.right = true) (hp : e.parent < 18446744073709551616) : (stubE e).Fit := ⟨stubE_right hr, (stubE_facts hp).1, (stubE_facts hp).2⟩
theorem SI.fit {n : Nat} {x : Sl} {t : It} (h : SI n x t) : ItFit t ∧ (t.kind ≠ 0 → t.kind ≠ 3 → t.stub.Fit) := by
  have z : (0 : Nat) < 18446744073709551616 := by decide
  cases h with
  | lacks => exact ⟨⟨fun h => by rcases h with h | h <;> exact absurd h (by decide), z, z⟩, fun h => absurd rfl h⟩
  | holds e hr ho hp p h =>
    have f := stubE_fit hr hp
    exact ⟨⟨fun _ => f, f.parent, f.sum⟩, fun _ _ => f⟩
  | faulty b hf ho h p => exact ⟨⟨fun _ => hf, hf.parent, hf.sum⟩, fun _ _ => hf⟩
  | unsure p h => exact ⟨⟨fun h => by rcases h with h | h <;> exact absurd h (by decide), z, z⟩, fun _ h => absurd rfl h⟩
/-- A reading of a prepare sector: an entry that is there may be. -/
def PFit (r : RdE) : Prop := r.2.1 = true → r.2.2 = true ∧ r.1.right = true ∧ r.1.parent < 18446744073709551616
def HFit (r : RdB) : Prop := r.2.1 = true → r.2.2 = true ∧ r.1.Fit
theorem slAt_fit (D : Dsk) (s : Nat) : PFit (slAt D s).p ∧ HFit (slAt D s).h := by
  have a := entP_facts (nth D.lasts (4 + s))
  have b := stbP_facts (nth D.lasts (12 + s))
  exact ⟨fun h => ⟨(a.1 h).1, (a.1 h).2, a.2.1⟩, fun h => ⟨(b.1 h).1, (b.1 h).2, b.2.1, b.2.2.1⟩⟩
theorem Sl.Ok.badP {x : Sl} (h : x.Ok) (hp : x.p.2.2 = false) : x.p = badE := by
  cases hm : x.mp
  · have := h.p0 hm
    rw [hp] at this; exact absurd this (by simp)
  · exact h.p1 hm
theorem Sl.Ok.badH {x : Sl} (h : x.Ok) (hp : x.h.2.2 = false) : x.h = badB := by
  cases hm : x.mh
  · have := h.h0 hm
    rw [hp] at this; exact absurd this (by simp)
  · exact h.h1 hm
theorem SI_open {n : Nat} {x : Sl} (hx : x.Ok) (hp : PFit x.p) (hh : HFit x.h) : SI n (runs (openA x (n : Int)) x) (judgeX x.p x.h (n : Int)) := by
  obtain ⟨⟨e, has, read⟩, ⟨b, says, known⟩, mp, mh⟩ := x
  unfold openA
  simp only
  simp only at hp hh
  have hbP := hx.badP
  have hbH := hx.badH
  simp only at hbP hbH
  cases known
  · cases read
    · have e1 : judgeX (e, has, false) (b, says, false) (n : Int) = ⟨3, zeroB, zeroE⟩ := rfl
      rw [e1, if_neg (by show ¬ (3 : Int) = 0; decide), if_neg (fun h => absurd h.1 (by show ¬ (3 : Int) = 1; decide))]
      exact .unsure (hbP rfl) (hbH rfl)
    · by_cases hc : has = true ∧ e.op = (n : Int)
      · obtain ⟨rfl, ho⟩ := hc
        obtain ⟨_, hr, hpp⟩ := hp rfl
        have e1 : judgeX (e, true, true) (b, says, false) (n : Int) = ⟨1, stubE e, e⟩ := by
          unfold judgeX
          rw [if_neg (by simp), if_neg (by simp), if_pos ⟨rfl, ho⟩]
        rw [e1, if_neg (by show ¬ (1 : Int) = 0; decide), if_pos ⟨rfl, rfl⟩]
        exact .holds e hr ho hpp (.inl rfl) (.inl rfl)
      · have e1 : judgeX (e, has, true) (b, says, false) (n : Int) = zeroI := by
          unfold judgeX
          rw [if_neg (by simp), if_neg (by simp), if_neg hc]
        rw [e1]
        exact .lacks
  · by_cases hc : says = false ∨ b.op ≠ (n : Int)
    · have e1 : judgeX (e, has, read) (b, says, true) (n : Int) = zeroI := by
        unfold judgeX
        rw [if_pos rfl, if_pos hc]
      rw [e1]
      exact .lacks
    · simp only [not_or, ne_eq, Bool.not_eq_false, Decidable.not_not] at hc
      obtain ⟨rfl, ho⟩ := hc
      by_cases hq : has = true ∧ stubE e = b
      · obtain ⟨rfl, rfl⟩ := hq
        obtain ⟨h1, hr, hpp⟩ := hp rfl
        simp only at h1 hr hpp
        subst h1
        have e1 : judgeX (e, true, true) (stubE e, true, true) (n : Int) = ⟨1, stubE e, e⟩ := by
          unfold judgeX
          rw [if_pos rfl, if_neg (by simp [ho]), if_pos ⟨rfl, rfl⟩]
        rw [e1, if_neg (by show ¬ (1 : Int) = 0; decide), if_neg (fun h => absurd h.2 (by simp))]
        exact .holds e hr (by rw [← stubE_op hr]; exact ho) hpp (.inl rfl) (.inl rfl)
      · have e1 : judgeX (e, has, read) (b, true, true) (n : Int) = ⟨2, b, zeroE⟩ := by
          unfold judgeX
          rw [if_pos rfl, if_neg (by simp [ho]), if_neg hq]
        rw [e1, if_neg (by show ¬ (2 : Int) = 0; decide), if_neg (fun h => absurd h.1 (by show ¬ (2 : Int) = 1; decide))]
        exact .faulty b (hh rfl).2 ho (.inl rfl) hq
theorem SI_put {n : Nat} {x : Sl} {t : It} (h : SI n x t) {e : En} (hr : e.right = true) (ho : e.op = (n : Int)) (hp : e.parent < 18446744073709551616) : SI n (runs (putA x t e) x) ⟨1, stubE e, e⟩ := by
  unfold putA
  by_cases c : t.kind = 2 ∧ t.stub = stubE e
  · rw [if_neg (fun q => q.2 c), if_pos c]
    refine .holds e hr ho hp (.inl rfl) ?_
    cases h with
    | lacks => exact absurd c.1 (by decide)
    | holds e2 _ _ _ _ _ => exact absurd c.1 (by show ¬ (1 : Int) = 2; decide)
    | faulty b hf ho2 hh hpp =>
      have : b = stubE e := c.2
      subst this
      exact hh
    | unsure _ _ => exact absurd c.1 (by show ¬ (3 : Int) = 2; decide)
  · rw [if_neg c, runs_app]
    exact .holds e hr ho hp (.inl (by
      rw [runs_app]
      rfl)) (.inl rfl)
theorem SI_turn {n : Nat} {x : Sl} {t : It} (h : SI n x t) (hk : t.kind = 1) (hm : x.p.2.1 = false ∨ stubE x.p.1 ≠ t.stub) : SI n x ⟨2, t.stub, zeroE⟩ := by
  cases h with
  | lacks => exact absurd hk (by decide)
  | holds e hr ho hp p h =>
    refine .faulty (stubE e) (stubE_fit hr hp) ((stubE_op hr).trans ho) h ?_
    rintro ⟨a, b⟩
    rcases hm with hm | hm
    · rw [a] at hm; exact absurd hm (by simp)
    · exact hm b
  | faulty b hf ho2 hh hpp => exact absurd hk (by show ¬ (2 : Int) = 1; decide)
  | unsure _ _ => exact absurd hk (by show ¬ (3 : Int) = 1; decide)
theorem SI_X {n : Nat} {x : Sl} {t : It} (h : SI n x t) : SI n x (scrubX x t) := by
  unfold scrubX
  split
  · rename_i c; exact SI_turn h c.1 c.2
  · exact h
theorem SI_seth {n : Nat} {x : Sl} {t : It} (h : SI n x t) (h0 : t.kind ≠ 0) (h3 : t.kind ≠ 3) : SI n (Wt.full (.h (t.stub, true, true)) x) t := by
  cases h with
  | lacks => exact absurd rfl h0
  | holds e hr ho hp p h => exact .holds e hr ho hp p (.inl rfl)
  | faulty b hf ho2 hh hpp => exact .faulty b hf ho2 (.inl rfl) hpp
  | unsure _ _ => exact absurd rfl h3
theorem SI_scrub {n : Nat} {x : Sl} {t : It} (h : SI n x t) : SI n (runs (scrubA x t (n : Int)) x) (scrubX x t) := by
  have hX := SI_X h
  unfold scrubA
  by_cases k0 : (scrubX x t).kind = 0
  · rw [if_pos k0]
    generalize scrubX x t = t2 at hX k0
    cases hX with
    | lacks => exact .lacks
    | holds e hr ho hp p h => exact absurd k0 (by show ¬ (1 : Int) = 0; decide)
    | faulty b hf ho2 hh hpp => exact absurd k0 (by show ¬ (2 : Int) = 0; decide)
    | unsure _ _ => exact absurd k0 (by show ¬ (3 : Int) = 0; decide)
  · rw [if_neg k0]
    split
    · rename_i c
      exact SI_seth hX k0 c.1
    · exact hX
end Go.Cmp
namespace Go.Cmp
open Go.RowKit
variable (PS : Nat → Nat → Sl → It → Prop) (FS : Nat → Nat → Sl → Prop)
/-- On, with a journal. -/
structure OnW (D : Dsk) (J : Jrn) (B : Int) : Prop where
  on : OnJ D
  len : J.items.length = 8
  check : J.check ≤ 72057594037927927
  steps : D.steps ≤ B
  ok : ∀ s, s < 8 → (slAt D s).Ok
  ps : ∀ s, s < 8 → PS s (J.opAt s) (slAt D s) (nth J.items s)
/-- A disk that is on, to be opened with a checkpoint. -/
structure FreeW (c : Nat) (D : Dsk) : Prop where
  ok : ∀ s, s < 8 → (slAt D s).Ok
  fs : ∀ s, s < 8 → FS s ((⟨c, []⟩ : Jrn).opAt s) (slAt D s)
theorem opAt_check (J : Jrn) (s : Nat) : (⟨J.check, []⟩ : Jrn).opAt s = J.opAt s := rfl
variable {PS FS}
theorem OnW.free {D : Dsk} {J : Jrn} {B : Int} (h : OnW PS D J B) (hf : ∀ s n x t, PS s n x t → FS s n x) : FreeW FS J.check D :=
  ⟨h.ok, fun s hs => hf _ _ _ _ (h.ps s hs)⟩
/-- What comes of sectors of one slot that are laid: all is well, or the power went. -/
theorem acts_keep {D : Dsk} {J : Jrn} {B : Int} (h : OnW PS D J B) (hf : ∀ s n x t, PS s n x t → FS s n x) {s : Nat} (hs : s < 8) {l : List Wt} {r : Int × Dsk} (ha : Acts D s l r) (hl : ∀ a ∈ l, a.fine)
    (hc : ∀ y, CutIn l (slAt D s) y → FS s (J.opAt s) y) :
    (r.1 = 0 ∧ OnJ r.2 ∧ Upd D s (runs l (slAt D s)) r.2 ∧ r.2.steps ≤ D.steps + 2 * l.length ∧ (∀ k, k < 8 → (slAt r.2 k).Ok) ∧ (D.fuse = 0 → r.2.fuse = 0)) ∨
    (D.fuse ≠ 0 ∧ r.1 = 6 ∧ r.2.off = true ∧ r.2.steps ≤ D.steps + 2 * l.length ∧ CutTo r.2 (FreeW FS J.check)) := by
  rcases ha with ⟨a, b, c, d, e, f, g⟩ | ⟨a, b, c, d⟩
  · refine .inl ⟨a, b, c, e, fun k hk => ?_, f⟩
    rw [c k hk]
    split
    · exact (h.ok s hs).runs hl
    · exact h.ok k hk
  · refine .inr ⟨a, b, d.off, c, d.mono fun G _ _ ⟨y, hy, hu⟩ => ⟨fun k hk => ?_, fun k hk => ?_⟩⟩
    · rw [hu k hk]
      split
      · exact (h.ok s hs).cut hl hy
      · exact h.ok k hk
    · rw [hu k hk]
      split
      · rename_i e
        subst e
        exact hc y hy
      · exact hf _ _ _ _ (h.ps k hk)
/-- All is well behind a journal's call, or the power went. -/
def Kept3 (PS : Nat → Nat → Sl → It → Prop) (FS : Nat → Nat → Sl → Prop) (D : Dsk) (J : Jrn) (B : Int) (r : Int × Jrn × Dsk) : Prop :=
  (OnW PS r.2.2 r.2.1 B ∧ r.2.1.check = J.check ∧ (D.fuse = 0 → r.2.2.fuse = 0)) ∨ (D.fuse ≠ 0 ∧ r.1 = 6 ∧ r.2.2.off = true ∧ r.2.2.steps ≤ B ∧ CutTo r.2.2 (FreeW FS J.check))
theorem OnW.more {D : Dsk} {J : Jrn} {B C : Int} (h : OnW PS D J B) (hc : B ≤ C) : OnW PS D J C := ⟨h.on, h.len, h.check, Int.le_trans h.steps hc, h.ok, h.ps⟩
theorem OnW.setItem {D E : Dsk} {J : Jrn} {B C : Int} (h : OnW PS D J B) {s : Nat} (hs : s < 8) {y : Sl} {t : It} (hE : OnJ E) (hu : Upd D s y E) (hok : ∀ k, k < 8 → (slAt E k).Ok) (hst : E.steps ≤ C) (hp : PS s (J.opAt s) y t) : OnW PS E { J with items := J.items.set s t } C := by
  refine ⟨hE, by simpa using h.len, h.check, hst, hok, fun k hk => ?_⟩
  rw [hu k hk]
  show PS k (J.opAt k) _ (nth (J.items.set s t) k)
  rw [nth_setN (by rw [h.len]; exact hs)]
  by_cases e : k = s
  · subst e
    rw [if_pos rfl, if_pos rfl]
    exact hp
  · rw [if_neg e, if_neg (fun q => e q.symm)]
    exact h.ps k hk
theorem putA_fine {x : Sl} {t : It} {e : En} : ∀ a ∈ putA x t e, a.fine := by
  intro a ha
  unfold putA at ha
  rcases List.mem_append.1 ha with ha | ha
  · rcases List.mem_append.1 ha with ha | ha
    · split at ha
      · simp at ha; subst ha; rfl
      · simp at ha
    · simp at ha; subst ha; rfl
  · split at ha
    · simp at ha
    · simp at ha; subst ha; rfl
theorem voidA_fine {t : It} : ∀ a ∈ voidA t, a.fine := by
  intro a ha
  unfold voidA at ha
  split at ha
  · simp at ha; rcases ha with rfl | rfl <;> rfl
  · simp at ha; rcases ha with rfl | rfl <;> rfl
theorem put_keep {D : Dsk} {J : Jrn} {B : Int} (h : OnW PS D J B) (hB : B + 100 ≤ 1000000000) (hf : ∀ s n x t, PS s n x t → FS s n x) {e : En} (hp : e.parent < 18446744073709551616)
    (hput : e.right = true → J.has e.op = true → ¬ ((J.item e.op).kind = 1 ∧ (J.item e.op).ent = e) → ∀ s x, s = (e.op % 8).toNat → x = slAt D s → PS s (J.opAt s) x (J.item e.op) →
      PS s (J.opAt s) (runs (putA x (J.item e.op) e) x) ⟨1, stubE e, e⟩ ∧ ∀ y, CutIn (putA x (J.item e.op) e) x y → FS s (J.opAt s) y) :
    Kept3 PS FS D J (B + 6) (putJ D J e) := by
  have same : Kept3 PS FS D J (B + 6) ((4 : Int), J, D) := .inl ⟨h.more (by omega), rfl, id⟩
  unfold putJ
  by_cases hr : e.right = false
  · rw [if_pos hr]; exact same
  rw [if_neg hr]
  have hr : e.right = true := by simpa using hr
  by_cases hh : J.has e.op = false
  · rw [if_pos hh]; exact .inl ⟨h.more (by omega), rfl, id⟩
  rw [if_neg hh]
  have hh : J.has e.op = true := by simpa using hh
  by_cases hs : (J.item e.op).kind = 1 ∧ (J.item e.op).ent = e
  · rw [if_pos hs]; exact .inl ⟨h.more (by omega), rfl, id⟩
  rw [if_neg hs]
  obtain ⟨_, hs8, _⟩ := J.opAt_of hh
  have hst := h.steps
  have hps := h.ps _ hs8
  obtain ⟨k1, k2⟩ := hput hr hh hs _ _ rfl rfl hps
  have ha := put_acts h.on (by omega) J hr hp hh
  have hl : ((putA (slAt D (e.op % 8).toNat) (J.item e.op) e).length : Int) ≤ 3 := by have := putA_len (slAt D (e.op % 8).toNat) (J.item e.op) e; omega
  rcases acts_keep h hf hs8 ha putA_fine k2 with ⟨a, b, c, d, f, g⟩ | ⟨a, b, c, d, f⟩
  · rw [if_neg (by rw [a]; simp)]
    exact .inl ⟨h.setItem hs8 b c f (by show (putDo D J e).2.steps ≤ _; omega) k1, rfl, g⟩
  · rw [if_pos (by rw [b]; decide)]
    exact .inr ⟨a, b, c, by show (putDo D J e).2.steps ≤ _; omega, f⟩
theorem void_keep {D : Dsk} {J : Jrn} {B : Int} (h : OnW PS D J B) (hB : B + 100 ≤ 1000000000) (hf : ∀ s n x t, PS s n x t → FS s n x) {n : Int}
    (hv : J.has n = true → (J.item n).kind ≠ 0 → ∀ s x, s = (n % 8).toNat → x = slAt D s → PS s (J.opAt s) x (J.item n) →
      PS s (J.opAt s) (runs (voidA (J.item n)) x) zeroI ∧ ∀ y, CutIn (voidA (J.item n)) x y → FS s (J.opAt s) y) :
    Kept3 PS FS D J (B + 6) (voidJ D J n) := by
  unfold voidJ
  by_cases hh : J.has n = false
  · rw [if_pos hh]; exact .inl ⟨h.more (by omega), rfl, id⟩
  rw [if_neg hh]
  have hh : J.has n = true := by simpa using hh
  by_cases k0 : (J.item n).kind = 0
  · rw [if_pos k0]; exact .inl ⟨h.more (by omega), rfl, id⟩
  rw [if_neg k0]
  obtain ⟨_, hs8, _⟩ := J.opAt_of hh
  have hst := h.steps
  obtain ⟨k1, k2⟩ := hv hh k0 _ _ rfl rfl (h.ps _ hs8)
  have ha := void_acts h.on (by omega) J hh
  have hl : ((voidA (J.item n)).length : Int) = 2 := by have := voidA_len (J.item n); omega
  rcases acts_keep h hf hs8 ha voidA_fine k2 with ⟨a, b, c, d, f, g⟩ | ⟨a, b, c, d, f⟩
  · rw [if_neg (by rw [a]; simp)]
    exact .inl ⟨h.setItem hs8 b c f (by show (voidDo D J n).2.steps ≤ _; omega) k1, rfl, g⟩
  · rw [if_pos (by rw [b]; decide)]
    exact .inr ⟨a, b, c, by show (voidDo D J n).2.steps ≤ _; omega, f⟩
end Go.Cmp
namespace Go.Cmp
open Go.RowKit
variable {PS : Nat → Nat → Sl → It → Prop} {FS : Nat → Nat → Sl → Prop}
theorem shiftTo_nth {J : Jrn} {c : Int} {s : Nat} (hs : s < 8) : nth (shiftTo J c 8) s = if (J.opAt s : Int) ≤ c then zeroI else nth J.items s := by
  unfold shiftTo nth
  rw [List.getD_eq_getElem?_getD, List.getElem?_map, List.getElem?_range hs]
  simp only [Option.map_some, Option.getD_some]
  by_cases h : (J.opAt s : Int) ≤ c
  · rw [if_pos ⟨hs, h⟩, if_pos h]
  · rw [if_neg (fun q => h q.2), if_neg h]
    first | done | rfl
theorem shift_keep {D : Dsk} {J : Jrn} {B : Int} (h : OnW PS D J B) (hz : ∀ s n m x t, PS s n x t → n < m → PS s m x zeroI) {c : Int} :
    OnW PS D (shiftJ J c).2 B ∧ J.check ≤ (shiftJ J c).2.check := by
  unfold shiftJ
  by_cases hc : c < J.check ∨ 72057594037927927 < c
  · rw [if_pos hc]; exact ⟨h, Nat.le_refl _⟩
  · rw [if_neg hc]
    simp only [not_or, Int.not_lt] at hc
    have hle : J.check ≤ c.toNat := by omega
    refine ⟨⟨h.on, by simp [shiftTo], by show c.toNat ≤ _; omega, h.steps, h.ok, fun s hs => ?_⟩, hle⟩
    show PS s ((⟨c.toNat, shiftTo J c 8⟩ : Jrn).opAt s) _ (nth (shiftTo J c 8) s)
    rw [shiftTo_nth hs]
    have hps := h.ps s hs
    by_cases hk : (J.opAt s : Int) ≤ c
    · rw [if_pos hk]
      refine hz _ _ _ _ _ hps ?_
      unfold Jrn.opAt at hk ⊢
      simp only
      omega
    · rw [if_neg hk]
      have e : (⟨c.toNat, shiftTo J c 8⟩ : Jrn).opAt s = J.opAt s := by
        unfold Jrn.opAt at hk ⊢
        simp only
        omega
      rw [e]
      exact hps
theorem read_keep {D : Dsk} {J : Jrn} {B : Int} (h : OnW PS D J B) (hk : ∀ s n x t, PS s n x t → t.kind = 0 ∨ t.kind = 1 ∨ t.kind = 2 ∨ t.kind = 3) (ht : ∀ s n x t, PS s n x t → t.kind = 1 → (x.p.2.1 = false ∨ stubE x.p.1 ≠ t.stub) → PS s n x ⟨2, t.stub, zeroE⟩) {n : Int} :
    OnW PS D (readJ D J n).2.2 B ∧ (readJ D J n).2.2.check = J.check := by
  unfold readJ
  by_cases hh : J.has n = false
  · rw [if_pos hh]; exact ⟨h, rfl⟩
  rw [if_neg hh]
  have hh : J.has n = true := by simpa using hh
  obtain ⟨_, hs8, ho⟩ := J.opAt_of hh
  have hr := (slot_reads h.on J hs8).1
  rw [ho] at hr
  rw [hr]
  have hps := h.ps _ hs8
  by_cases k0 : (J.item n).kind = 0
  · rw [if_pos k0]; exact ⟨h, rfl⟩
  rw [if_neg k0]
  by_cases k2 : (J.item n).kind = 2 ∨ (J.item n).kind = 3
  · rw [if_pos k2]; exact ⟨h, rfl⟩
  rw [if_neg k2, if_neg (by simp)]
  have k1 : (J.item n).kind = 1 := by
    have := hk _ _ _ _ hps
    have e : nth J.items (n % 8).toNat = J.item n := rfl
    rw [e] at this
    omega
  by_cases hm : (entP (nth D.lasts (4 + (n % 8).toNat))).2.1 = false ∨ stubE (entP (nth D.lasts (4 + (n % 8).toNat))).1 ≠ (J.item n).stub
  · rw [if_pos hm]
    refine ⟨?_, rfl⟩
    exact h.setItem hs8 h.on (Upd.refl D _) h.ok h.steps (ht _ _ _ _ hps k1 hm)
  · rw [if_neg hm]; exact ⟨h, rfl⟩
theorem scrubA_fine {x : Sl} {t : It} {n : Int} : ∀ a ∈ scrubA x t n, a.fine := by
  intro a ha
  unfold scrubA cleanA at ha
  split at ha
  · rcases List.mem_append.1 ha with h | h
    · split at h
      · simp at h; subst h; rfl
      · simp at h
    · split at h
      · simp at h; subst h; rfl
      · simp at h
  · split at ha
    · simp at ha; subst ha; rfl
    · simp at ha
theorem scrub_keep (hf : ∀ s n x t, PS s n x t → FS s n x) (hfit : ∀ s n x t, PS s n x t → t.kind ≠ 0 → t.kind ≠ 3 → t.stub.Fit) (hX : ∀ s n x t, PS s n x t → PS s n x (scrubX x t))
    (hs : ∀ s n x t, x.Ok → PS s n x t → PS s n (runs (scrubA x t (n : Int)) x) (scrubX x t) ∧ ∀ y, CutIn (scrubA x t (n : Int)) x y → FS s n y) :
    ∀ (k s : Nat) (D : Dsk) (J : Jrn) (B : Int), s + k = 8 → OnW PS D J B → B + 4 * k + 100 ≤ 1000000000 →
      Kept3 PS FS D J (B + 4 * k) (scrubFrom J k s D) ∧ ((scrubFrom J k s D).1 = 0 ∨ (scrubFrom J k s D).2.2.off = true) ∧ (D.fuse = 0 → (scrubFrom J k s D).1 = 0)
  | 0, s, D, J, B, _, h, _ => ⟨.inl ⟨h.more (by simp), rfl, id⟩, .inl rfl, fun _ => rfl⟩
  | k + 1, s, D, J, B, hsk, h, hB => by
    have hs8 : s < 8 := by omega
    have hst := h.steps
    have hps := h.ps s hs8
    have ha := scrub_acts h.on (by push_cast at hB; omega) J hs8 (hfit _ _ _ _ (hX _ _ _ _ hps))
    obtain ⟨k1, k2⟩ := hs _ _ _ _ (h.ok s hs8) hps
    have hl : ((scrubA (slAt D s) (nth J.items s) (J.opAt s)).length : Int) ≤ 2 := by have := scrubA_len (slAt D s) (nth J.items s) (J.opAt s); omega
    have e1 : scrubFrom J (k + 1) s D = if (scrubDo D J s).1 ≠ 0 then ((scrubDo D J s).1, { J with items := J.items.set s (scrubAt D J s) }, (scrubDo D J s).2) else scrubFrom { J with items := J.items.set s (scrubAt D J s) } k (s + 1) (scrubDo D J s).2 := rfl
    rw [e1, scrubAt_X h.on J hs8]
    rcases acts_keep h hf hs8 ha scrubA_fine k2 with ⟨a, b, c, d, f, g⟩ | ⟨a, b, c, d, f⟩
    · rw [if_neg (by rw [a]; simp)]
      have h2 : OnW PS (scrubDo D J s).2 { J with items := J.items.set s (scrubX (slAt D s) (nth J.items s)) } (B + 4) := h.setItem hs8 b c f (by omega) k1
      obtain ⟨q1, q2, q3⟩ := scrub_keep hf hfit hX hs k (s + 1) _ _ (B + 4) (by omega) h2 (by push_cast at hB; omega)
      refine ⟨?_, q2, fun h0 => q3 (g h0)⟩
      rcases q1 with ⟨r1, r2, r3⟩ | ⟨r1, r2, r3, r4, r5⟩
      · exact .inl ⟨r1.more (by push_cast; omega), r2, fun h0 => r3 (g h0)⟩
      · exact .inr ⟨fun h0 => r1 (g h0), r2, r3, by push_cast; omega, r5⟩
    · rw [if_pos (by rw [b]; decide)]
      refine ⟨.inr ⟨a, b, c, by show (scrubDo D J s).2.steps ≤ _; push_cast; omega, f⟩, .inr c, fun h0 => absurd h0 a⟩
end Go.Cmp
namespace Go.Cmp
open Go.RowKit
theorem mask_neJ {m : Int} (h1 : 1 ≤ m) (h2 : m ≤ 255) : UInt8.ofNat m.toNat ≠ 0 := by
  intro e
  have := congrArg UInt8.toNat e
  simp at this
  omega
/-- What rots: nothing, or one sector that was not marked. -/
def RotC (D G : Dsk) : Prop := SameC D G ∨ ∃ k, k < 32 ∧ nth D.mark k = false ∧ ∃ T, ((openS (nth D.lasts k)).2 = true → openS T = ([], false)) ∧ SetC D G k T true
theorem rot_on {D : Dsk} (h : OnJ D) (i p m : Int) : OnJ (D.rot i p m).2 ∧ (D.rot i p m).2.fuse = D.fuse ∧ (D.rot i p m).2.steps = D.steps ∧ RotC D (D.rot i p m).2 := by
  have ok := (Dsk.rot_next h.ok i p m).ok
  unfold Dsk.rot at ok ⊢
  by_cases c1 : D.is i = false ∨ p < 0 ∨ 384 ≤ p ∨ m < 1 ∨ 255 < m
  · rw [if_pos c1]; exact ⟨h, rfl, rfl, .inl ⟨rfl, rfl⟩⟩
  rw [if_neg c1, if_neg (by rw [h.way]; simp)] at ok ⊢
  simp only [not_or, Bool.not_eq_false, Int.not_lt, Int.not_le] at c1
  obtain ⟨d1, d2, d3, d4, d5⟩ := c1
  have hi : 0 ≤ i ∧ i < 32 := by
    have := Dsk.is_lt d1
    rw [h.len] at this
    omega
  by_cases hm : nth D.mark i.toNat = true
  · rw [if_pos hm]; exact ⟨h, rfl, rfl, .inl ⟨rfl, rfl⟩⟩
  · rw [if_neg hm] at ok ⊢
    refine ⟨⟨ok, h.off, h.way, by simpa using h.len⟩, rfl, rfl, .inr ⟨i.toNat, by omega, by simpa using hm, _, fun ho => ?_, rfl, rfl⟩⟩
    unfold Dsk.turn
    exact openS_turned ho (by omega) (mask_neJ d4 d5)
/-- A slot of which a sector rots. -/
inductive RotS (x : Sl) : Sl → Prop where
  | same : RotS x x
  | p : x.mp = false → RotS x { x with p := badE, mp := true }
  | h : x.mh = false → RotS x { x with h := badB, mh := true }
theorem readE_open {p : List UInt8} (h : (entP p).2.2 = true) : (openS p).2 = true := by
  unfold entP at h
  split at h
  · simp at h
  · rename_i c; simpa using c
theorem readB_open {p : List UInt8} (h : (stbP p).2.2 = true) : (openS p).2 = true := by
  unfold stbP at h
  split at h
  · simp at h
  · rename_i c; simpa using c
theorem rot_sl {D G : Dsk} (h : OnJ D) (hok : ∀ s, s < 8 → (slAt D s).Ok) (hr : RotC D G) : ∀ s, s < 8 → RotS (slAt D s) (slAt G s) := by
  intro s hs
  rcases hr with hr | ⟨k, hk, hm, T, ht, hG⟩
  · rw [same_sl hr]; exact .same
  · by_cases h1 : 4 ≤ k ∧ k < 12
    · obtain ⟨q, rfl⟩ : ∃ q, k = 4 + q := ⟨k - 4, by omega⟩
      have hu := setP_sl h (by omega) hG
      rw [hu s hs]
      by_cases e : s = q
      · subst e
        rw [if_pos rfl, entP_bad (ht (readE_open ((hok s hs).p0 hm)))]
        exact .p hm
      · rw [if_neg e]; exact .same
    · by_cases h2 : 12 ≤ k ∧ k < 20
      · obtain ⟨q, rfl⟩ : ∃ q, k = 12 + q := ⟨k - 12, by omega⟩
        have hu := setH_sl h (by omega) hG
        rw [hu s hs]
        by_cases e : s = q
        · subst e
          rw [if_pos rfl, stbP_bad (ht (readB_open ((hok s hs).h0 hm)))]
          exact .h hm
        · rw [if_neg e]; exact .same
      · rw [setO_sl h (by omega) hk hG s hs]; exact .same
theorem RotS.ok {x y : Sl} (h : RotS x y) (hx : x.Ok) : y.Ok := by
  cases h with
  | same => exact hx
  | p hm => exact ⟨fun _ => rfl, fun h => absurd h (by simp), hx.h1, hx.h0⟩
  | h hm => exact ⟨hx.p1, hx.p0, fun _ => rfl, fun h => absurd h (by simp)⟩
end Go.Cmp
namespace Go.Cmp
open Go.RowKit
theorem set_comm2 {α : Type} {l : List α} {i j : Nat} {x y : α} (h : i ≠ j) : (l.set i x).set j y = (l.set j y).set i x := List.set_comm _ _ h
theorem rot_off {E : Dsk} {Q : Dsk → Prop} (h : CutTo E Q) (i p m : Int) : CutTo (E.rot i p m).2 (fun G => ∃ G0, OnJ G0 ∧ G0.fuse = 0 ∧ Q G0 ∧ RotC G0 G) ∧ (E.rot i p m).2.steps = E.steps := by
  have same : CutTo E (fun G => ∃ G0, OnJ G0 ∧ G0.fuse = 0 ∧ Q G0 ∧ RotC G0 G) := h.mono fun G a b c => ⟨G, a, b, c, .inl ⟨rfl, rfl⟩⟩
  have ok := (Dsk.rot_next h.ok i p m).ok
  unfold Dsk.rot at ok ⊢
  by_cases c1 : E.is i = false ∨ p < 0 ∨ 384 ≤ p ∨ m < 1 ∨ 255 < m
  · rw [if_pos c1]; exact ⟨same, rfl⟩
  rw [if_neg c1] at ok ⊢
  by_cases c2 : E.way.any (fun x => x.sector == i) = true
  · rw [if_pos c2]; exact ⟨same, rfl⟩
  rw [if_neg c2] at ok ⊢
  by_cases hm : nth E.mark i.toNat = true
  · rw [if_pos hm]; exact ⟨same, rfl⟩
  rw [if_neg hm] at ok ⊢
  simp only [not_or, Bool.not_eq_false, Int.not_lt, Int.not_le] at c1
  obtain ⟨d1, d2, d3, d4, d5⟩ := c1
  have hi : 0 ≤ i ∧ i < 32 := by
    have := Dsk.is_lt d1
    rw [h.len] at this
    omega
  have hturn : (openS (nth E.lasts i.toNat)).2 = true → openS (Dsk.turn (nth E.lasts i.toNat) p.toNat m) = ([], false) := fun ho => by
    unfold Dsk.turn
    exact openS_turned ho (by omega) (mask_neJ d4 d5)
  generalize Dsk.turn (nth E.lasts i.toNat) p.toNat m = T at ok hturn ⊢
  refine ⟨⟨ok, h.off, by simpa using h.len, h.fuse, h.way, fun P => ?_⟩, rfl⟩
  obtain ⟨a, b, c, d, e⟩ := h.then' P
  have hml : E.mark.length = 32 := h.ok.len.trans h.len
  have nok := (Dsk.start_next ok P).ok
  have hk : i.toNat < 32 := by omega
  have hmk : nth E.mark i.toNat = false := by simpa using hm
  generalize hkk : i.toNat = k at *
  rcases h.way with hw | ⟨j, U, hj, hU, hw⟩
  · unfold Dsk.start at a b c d e nok ⊢
    rw [if_neg (by rw [h.off]; simp)] at a b c d e
    simp only at nok ⊢
    rw [if_neg (by rw [h.off]; simp)] at nok ⊢
    rw [hw] at a b c d e nok ⊢
    exact ⟨rfl, ⟨nok, rfl, rfl, by simpa [Dsk.settles] using h.len⟩, h.fuse, rfl, _, b, c, e, .inr ⟨k, hk, hmk, T, hturn, rfl, rfl⟩⟩
  · have hjk : j ≠ k := by
      intro q
      apply c2
      rw [hw]
      simp only [List.any_cons, List.any_nil, Bool.or_false, beq_iff_eq]
      omega
    unfold Dsk.start at a b c d e nok ⊢
    rw [if_neg (by rw [h.off]; simp)] at a b c d e
    simp only at nok ⊢
    rw [if_neg (by rw [h.off]; simp)] at nok ⊢
    rw [hw] at a b c d e nok ⊢
    simp only [Dsk.settles, Dsk.settle, Int.toNat_natCast] at a b c d e nok ⊢
    generalize Dsk.pickAt P 0 = pk at a b c d e nok ⊢
    by_cases h0 : Dsk.kept pk = 0
    · simp only [if_pos h0] at b c e nok ⊢
      exact ⟨trivial, ⟨nok, rfl, rfl, by simpa using h.len⟩, h.fuse, trivial, _, b, c, e, .inr ⟨k, hk, hmk, T, hturn, rfl, rfl⟩⟩
    · simp only [if_neg h0] at b c e nok ⊢
      have hn : nth (E.lasts.set k T) j = nth E.lasts j := by rw [nth_setN (by rw [h.len]; exact hk), if_neg (fun q => hjk q.symm)]
      simp only [hn] at nok ⊢
      refine ⟨trivial, ⟨nok, rfl, rfl, by simpa using h.len⟩, h.fuse, trivial, _, b, c, e, .inr ⟨k, hk, ?_, T, ?_, ?_, ?_⟩⟩
      · simp only; rw [nth_setN (by rw [hml]; exact hj), if_neg hjk]; exact hmk
      · simp only; rw [nth_setN (by rw [h.len]; exact hj), if_neg hjk]; exact hturn
      · exact set_comm2 (fun q => hjk q.symm)
      · exact set_comm2 (fun q => hjk q.symm)
end Go.Cmp
namespace Go.Cmp
open Go.RowKit
/-- What is known of each slot, on and off, is kept by what a journal does by itself. -/
structure Keeps (PS : Nat → Nat → Sl → It → Prop) (FS : Nat → Nat → Sl → Prop) : Prop where
  free : ∀ s n x t, PS s n x t → FS s n x
  opens : ∀ s n x, x.Ok → PFit x.p → HFit x.h → FS s n x → PS s n (runs (openA x (n : Int)) x) (judgeX x.p x.h (n : Int))
  zero : ∀ s n m x t, PS s n x t → n < m → PS s m x zeroI
  kinds : ∀ s n x t, PS s n x t → t.kind = 0 ∨ t.kind = 1 ∨ t.kind = 2 ∨ t.kind = 3
  turn : ∀ s n x t, PS s n x t → t.kind = 1 → (x.p.2.1 = false ∨ stubE x.p.1 ≠ t.stub) → PS s n x ⟨2, t.stub, zeroE⟩
  fit : ∀ s n x t, PS s n x t → ItFit t ∧ (t.kind ≠ 0 → t.kind ≠ 3 → t.stub.Fit)
  scrub : ∀ s n x t, x.Ok → PS s n x t → PS s n (runs (scrubA x t (n : Int)) x) (scrubX x t) ∧ ∀ y, CutIn (scrubA x t (n : Int)) x y → FS s n y
/-- .. and by an act that comes. -/
structure KeptBy (PS : Nat → Nat → Sl → It → Prop) (FS : Nat → Nat → Sl → Prop) (al : Bool) (c : Nat) (a : JAct) : Prop where
  put : al = true → a.kind = 1 → ∀ (s n : Nat) (x : Sl) (t : It), s = (a.e.op % 8).toNat → (n : Int) = a.e.op → c < n → n ≤ c + 8 → x.Ok → PS s n x t → a.e.right = true → ¬ (t.kind = 1 ∧ t.ent = a.e) →
    PS s n (runs (putA x t a.e) x) ⟨1, stubE a.e, a.e⟩ ∧ ∀ y, CutIn (putA x t a.e) x y → FS s n y
  void : al = true → a.kind = 2 → ∀ (s n : Nat) (x : Sl) (t : It), s = (a.n % 8).toNat → (n : Int) = a.n → c < n → n ≤ c + 8 → x.Ok → PS s n x t → t.kind ≠ 0 → PS s n (runs (voidA t) x) zeroI ∧ ∀ y, CutIn (voidA t) x y → FS s n y
  rotOn : a.kind = 9 → ∀ s n x y t, RotS x y → x.Ok → PS s n x t → PS s n y t
  rotOff : a.kind = 9 → ∀ s n x y, RotS x y → x.Ok → FS s n x → FS s n y
variable {PS : Nat → Nat → Sl → It → Prop} {FS : Nat → Nat → Sl → Prop}
theorem Keeps.X (k : Keeps PS FS) (s n : Nat) (x : Sl) (t : It) (h : PS s n x t) : PS s n x (scrubX x t) := by
  unfold scrubX
  split
  · rename_i c; exact k.turn _ _ _ _ h c.1 c.2
  · exact h
/-- A world of which that is known. -/
inductive WI (PS : Nat → Nat → Sl → It → Prop) (FS : Nat → Nat → Sl → Prop) (B : Int) : Wd → Prop where
  | on (D : Dsk) (J : Jrn) (h : OnW PS D J B) : WI PS FS B ⟨D, some J, J.check⟩
  | off (D : Dsk) (c : Nat) (hc : c ≤ 72057594037927927) (hs : D.steps ≤ B) (h : CutTo D (FreeW FS c)) : WI PS FS B ⟨D, none, c⟩
theorem WI.more {B C : Int} {V : Wd} (h : WI PS FS B V) (hC : B ≤ C) : WI PS FS C V := by
  cases h with
  | on D J h => exact .on D J (h.more hC)
  | off D c hc hs h => exact .off D c hc (by omega) h
theorem end_on {D : Dsk} {J : Jrn} {B : Int} {c : Nat} (h : OnW PS D J B) : WI PS FS B (endW ⟨D, some J, c⟩) := by
  have e : endW ⟨D, some J, c⟩ = ⟨D, some J, J.check⟩ := by
    unfold endW
    rw [if_neg (by rw [h.on.off]; simp)]
  rw [e]
  exact .on D J h
theorem end_cut {D : Dsk} {J : Jrn} {B : Int} {c : Nat} (hc : J.check ≤ 72057594037927927) (hs : D.steps ≤ B) (h : CutTo D (FreeW FS J.check)) : WI PS FS B (endW ⟨D, some J, c⟩) := by
  have e : endW ⟨D, some J, c⟩ = ⟨D, none, J.check⟩ := by
    unfold endW
    rw [if_pos h.off]
  rw [e]
  exact .off D _ hc hs h
theorem end_off {D : Dsk} {B : Int} {c : Nat} (hc : c ≤ 72057594037927927) (hs : D.steps ≤ B) (h : CutTo D (FreeW FS c)) : WI PS FS B (endW ⟨D, none, c⟩) := by
  have e : endW ⟨D, none, c⟩ = ⟨D, none, c⟩ := by
    unfold endW
    rw [if_pos h.off]
  rw [e]
  exact .off D _ hc hs h
theorem putJ_check (D : Dsk) (J : Jrn) (e : En) : (putJ D J e).2.1.check = J.check := by
  unfold putJ
  split; · rfl
  split; · rfl
  split; · rfl
  split <;> rfl
theorem voidJ_check (D : Dsk) (J : Jrn) (n : Int) : (voidJ D J n).2.1.check = J.check := by
  unfold voidJ
  split; · rfl
  split; · rfl
  split <;> rfl
theorem scrubFrom_check : ∀ (k s : Nat) (D : Dsk) (J : Jrn), (scrubFrom J k s D).2.1.check = J.check
  | 0, _, _, _ => rfl
  | k + 1, s, D, J => by
    have e1 : scrubFrom J (k + 1) s D = if (scrubDo D J s).1 ≠ 0 then ((scrubDo D J s).1, { J with items := J.items.set s (scrubAt D J s) }, (scrubDo D J s).2) else scrubFrom { J with items := J.items.set s (scrubAt D J s) } k (s + 1) (scrubDo D J s).2 := rfl
    rw [e1]
    split
    · rfl
    · exact scrubFrom_check k (s + 1) _ _
theorem end_kept {D : Dsk} {J : Jrn} {B : Int} {c : Nat} {r : Int × Jrn × Dsk} (hc : J.check ≤ 72057594037927927) (h : Kept3 PS FS D J B r) (hr : r.2.1.check = J.check) : WI PS FS B (endW ⟨r.2.2, some r.2.1, c⟩) := by
  rcases h with ⟨a, _, _⟩ | ⟨_, _, _, a, b⟩
  · exact end_on a
  · exact end_cut (by rw [hr]; exact hc) a (by rw [hr]; exact b)
theorem OnW.sl {D E : Dsk} {J : Jrn} {B : Int} (h : OnW PS D J B) (hE : OnJ E) (hs : E.steps ≤ B) (hsl : ∀ s, s < 8 → slAt E s = slAt D s) : OnW PS E J B :=
  ⟨hE, h.len, h.check, hs, fun s hs => by rw [hsl s hs]; exact h.ok s hs, fun s hs => by rw [hsl s hs]; exact h.ps s hs⟩
/-- The disk's power is back: it is opened. -/
theorem open_keep (K : Keeps PS FS) {D : Dsk} {c : Nat} (hD : OnJ D) (hf : D.fuse = 0) (hc : c ≤ 72057594037927927) (hst : D.steps + 100 ≤ 1000000000) (h : FreeW FS c D) :
    (openJ D c).1 = 0 ∧ (openJ D c).2.1.check = c ∧ (openJ D c).2.2.fuse = 0 ∧ OnW PS (openJ D c).2.2 (openJ D c).2.1 (D.steps + 32) := by
  have hm : ∀ s, s < 8 → (⟨c, []⟩ : Jrn).opAt s % 8 = s := fun s hs => ((⟨c, []⟩ : Jrn).opAt_mod hs).1
  obtain ⟨a, b, d, e, f, g, k⟩ := openFrom_all (P := fun n x t => x.Ok ∧ PS (n % 8) n x t) (F := fun n x => x.Ok ∧ PFit x.p ∧ HFit x.h ∧ FS (n % 8) n x)
    (fun n x ⟨h1, h2, h3, h4⟩ => ⟨h1.runs openA_fine, K.opens _ n x h1 h2 h3 h4⟩) 8 0 D ⟨c, List.replicate 8 zeroI⟩ (by omega) hD hf (by omega) (by simp) (fun i hi => absurd hi (by omega)) (fun i _ hi => by
      have f := slAt_fit D i
      have e : (⟨c, List.replicate 8 zeroI⟩ : Jrn).opAt i = (⟨c, []⟩ : Jrn).opAt i := rfl
      rw [e, hm i hi]
      exact ⟨h.ok i hi, f.1, f.2, h.fs i hi⟩)
  have ej : openFrom ⟨c, List.replicate 8 zeroI⟩ 8 0 D = openJ D c := rfl
  rw [ej] at a b d e f g k
  refine ⟨a, g, d, ⟨b, f, by rw [g]; exact hc, by omega, fun s hs => (k s hs).1, fun s hs => ?_⟩⟩
  have := (k s hs).2
  rw [((openJ D c).2.1.opAt_mod hs).1] at this
  exact this
theorem fuse_on {D : Dsk} (h : OnJ D) (n : Int) (hn : n ≤ 9223372036854775807) : OnJ (D.setFuse n).2 ∧ (D.setFuse n).2.steps = D.steps ∧ SameC D (D.setFuse n).2 ∧ (D.setFuse n).2.fuse = max 0 n := by
  have ok := (Dsk.fuse_next h.ok n hn).ok
  unfold Dsk.setFuse at ok ⊢
  rw [if_neg (by rw [h.off]; simp)] at ok ⊢
  exact ⟨⟨ok, h.off, h.way, h.len⟩, rfl, ⟨rfl, rfl⟩, rfl⟩
/-- Every act keeps what is known. -/
theorem deed_keep (K : Keeps PS FS) {B : Int} {W : Wd} (h : WI PS FS B W) (hB : B + 300 ≤ 1000000000) {x : JAct} (hx : KeptBy PS FS W.J.isSome W.c x) (hp : x.e.parent < 18446744073709551616) (hn : x.n ≤ 9223372036854775807) : WI PS FS (B + 40) (deedW W x).2 := by
  have more : ∀ {V : Wd} {C : Int}, WI PS FS C V → C ≤ B + 40 → WI PS FS (B + 40) V := fun h hC => h.more hC
  cases h with
  | on D J h =>
    have hst := h.steps
    have same : WI PS FS (B + 40) (endW ⟨D, some J, J.check⟩) := end_on (h.more (by omega))
    unfold deedW
    by_cases k6 : x.kind < 6
    · rw [if_pos k6]
      simp only
      unfold callJ
      by_cases k1 : x.kind = 1
      · rw [if_pos k1]
        refine more (end_kept h.check (put_keep h (by omega) K.free hp fun hr hh hne s y hs hy hps => ?_) (putJ_check _ _ _)) (by omega)
        obtain ⟨_, hs8, ho⟩ := J.opAt_of hh
        subst hs
        exact hx.put rfl k1 _ _ _ _ rfl ho (J.opAt_mod hs8).2.1 (J.opAt_mod hs8).2.2 (by rw [hy]; exact h.ok _ hs8) hps hr hne
      rw [if_neg k1]
      by_cases k2 : x.kind = 2
      · rw [if_pos k2]
        refine more (end_kept h.check (void_keep h (by omega) K.free fun hh hne s y hs hy hps => ?_) (voidJ_check _ _ _)) (by omega)
        obtain ⟨_, hs8, ho⟩ := J.opAt_of hh
        subst hs
        exact hx.void rfl k2 _ _ _ _ rfl ho (J.opAt_mod hs8).2.1 (J.opAt_mod hs8).2.2 (by rw [hy]; exact h.ok _ hs8) hps hne
      rw [if_neg k2]
      by_cases k3 : x.kind = 3
      · rw [if_pos k3]
        exact more (end_on (shift_keep h K.zero).1) (by omega)
      rw [if_neg k3]
      by_cases k4 : x.kind = 4
      · rw [if_pos k4]
        exact more (end_on (read_keep h K.kinds K.turn).1) (by omega)
      rw [if_neg k4]
      by_cases k5 : x.kind = 5
      · rw [if_pos k5]
        exact more (end_kept h.check (scrub_keep K.free (fun s n y t q => (K.fit s n y t q).2) K.X K.scrub 8 0 D J B (by omega) h (by omega)).1 (scrubFrom_check 8 0 D J)) (by omega)
      rw [if_neg k5]
      exact same
    rw [if_neg k6]
    simp only
    unfold dskJ
    simp only
    by_cases k7 : x.kind = 6
    · rw [if_pos k7]
      obtain ⟨a, b, c, _⟩ := fuse_on h.on x.n hn
      exact more (end_on (h.sl a (by omega) fun s _ => same_sl c s)) (by omega)
    rw [if_neg k7]
    by_cases k8 : x.kind = 7
    · rw [if_pos k8]
      obtain ⟨_, b, c⟩ := cut_cutTo h.on
      refine more (end_cut (J := J) h.check (by show D.cut.2.steps ≤ B; omega) (b.mono fun G _ _ hG => ?_)) (by omega)
      have f := h.free K.free
      exact ⟨fun s hs => by rw [same_sl hG]; exact f.ok s hs, fun s hs => by rw [same_sl hG]; exact f.fs s hs⟩
    rw [if_neg k8]
    by_cases k9 : x.kind = 8
    · rw [if_pos k9]
      have e : D.start x.picks = (10, D) := by unfold Dsk.start; rw [if_pos h.on.off]
      rw [e, if_pos (by show (10 : Int) ≠ 0; decide)]
      exact same
    rw [if_neg k9]
    by_cases k10 : x.kind = 9
    · rw [if_pos k10]
      obtain ⟨a, _, c, d⟩ := rot_on h.on x.i x.pos x.mask
      have hr := rot_sl h.on h.ok d
      exact more (end_on (B := B) ⟨a, h.len, h.check, by omega, fun s hs => (hr s hs).ok (h.ok s hs), fun s hs => hx.rotOn k10 _ _ _ _ _ (hr s hs) (h.ok s hs) (h.ps s hs)⟩) (by omega)
    rw [if_neg k10]
    exact same
  | off D c hc hs h =>
    have same : WI PS FS (B + 40) (endW ⟨D, none, c⟩) := end_off hc (by omega) h
    unfold deedW
    by_cases k6 : x.kind < 6
    · rw [if_pos k6]
      exact .off D c hc (by omega) h
    rw [if_neg k6]
    simp only
    unfold dskJ
    simp only
    by_cases k7 : x.kind = 6
    · rw [if_pos k7]
      have e : D.setFuse x.n = (6, D) := by unfold Dsk.setFuse; rw [if_pos h.off]
      rw [e]; exact same
    rw [if_neg k7]
    by_cases k8 : x.kind = 7
    · rw [if_pos k8]
      have e : D.cut = (6, D) := by unfold Dsk.cut; rw [if_pos h.off]
      rw [e]; exact same
    rw [if_neg k8]
    by_cases k9 : x.kind = 8
    · rw [if_pos k9]
      obtain ⟨a, b, d, e, f⟩ := h.then' x.picks
      rw [if_neg (by rw [a]; simp)]
      obtain ⟨g1, g2, g3, g4⟩ := open_keep K b d hc (by omega) f
      rw [if_pos g1]
      exact more (end_on g4) (by omega)
    rw [if_neg k9]
    by_cases k10 : x.kind = 9
    · rw [if_pos k10]
      obtain ⟨a, b⟩ := rot_off h x.i x.pos x.mask
      refine end_off hc (by show (D.rot x.i x.pos x.mask).2.steps ≤ _; omega) (a.mono fun G _ _ ⟨G0, q1, q2, q3, q4⟩ => ?_)
      have hr := rot_sl q1 q3.ok q4
      exact ⟨fun s hs => (hr s hs).ok (q3.ok s hs), fun s hs => hx.rotOff k10 _ _ _ _ (hr s hs) (q3.ok s hs) (q3.fs s hs)⟩
    rw [if_neg k10]
    exact same
/-- What a walk needs of a world. -/
theorem WI.start_open (K : Keeps PS FS) {D : Dsk} {c : Nat} {B : Int} (h : WI PS FS B ⟨D, none, c⟩) (hB : B + 300 ≤ 1000000000) (P : List Int) :
    (D.start P).1 = 0 → OnJ (D.start P).2 ∧ (D.start P).2.steps + 200 ≤ 1000000000 ∧ (openJ (D.start P).2 c).1 = 0 := by
  intro _
  cases h with
  | off _ _ hc hs h =>
    obtain ⟨a, b, d, e, f⟩ := h.then' P
    exact ⟨b, by omega, (open_keep K b d hc (by omega) f).1⟩
end Go.Cmp
namespace Go.Cmp
open Go.RowKit
theorem SI_rot {n : Nat} {x y : Sl} {t : It} (hr : RotS x y) (h : SI n x t) : SI n y t := by
  cases hr with
  | same => exact h
  | p hm =>
    cases h with
    | lacks => exact .lacks
    | holds e hr ho hp p h => exact .holds e hr ho hp (.inr rfl) h
    | faulty b hf ho h p => exact .faulty b hf ho h (fun q => absurd q.1 (by show ¬ (false = true); simp))
    | unsure p h => exact .unsure rfl h
  | h hm =>
    cases h with
    | lacks => exact .lacks
    | holds e hr ho hp p h => exact .holds e hr ho hp p (.inr rfl)
    | faulty b hf ho h p => exact .faulty b hf ho (.inr rfl) p
    | unsure p h => exact .unsure p rfl
theorem SI.kinds {n : Nat} {x : Sl} {t : It} (h : SI n x t) : t.kind = 0 ∨ t.kind = 1 ∨ t.kind = 2 ∨ t.kind = 3 := by
  cases h with
  | lacks => exact .inl rfl
  | holds => exact .inr (.inl rfl)
  | faulty => exact .inr (.inr (.inl rfl))
  | unsure => exact .inr (.inr (.inr rfl))
def PS0 (_ : Nat) (n : Nat) (x : Sl) (t : It) : Prop := SI n x t
def FS0 (_ : Nat) (_ : Nat) (_ : Sl) : Prop := True
theorem keeps0 : Keeps PS0 FS0 where
  free _ _ _ _ _ := trivial
  opens _ _ _ h1 h2 h3 _ := SI_open h1 h2 h3
  zero _ _ _ _ _ _ _ := .lacks
  kinds _ _ _ _ h := SI.kinds h
  turn _ _ _ _ h h1 h2 := SI_turn h h1 h2
  fit _ _ _ _ h := SI.fit h
  scrub _ _ _ _ _ h := ⟨SI_scrub h, fun _ _ => trivial⟩
theorem keptBy0 (al : Bool) (c : Nat) (a : JAct) (hp : a.e.parent < 18446744073709551616) : KeptBy PS0 FS0 al c a where
  put _ _ _ _ _ _ _ ho _ _ _ h hr _ := ⟨SI_put h hr ho.symm hp, fun _ _ => trivial⟩
  void _ _ _ _ _ _ _ _ _ _ _ _ _ := ⟨.lacks, fun _ _ => trivial⟩
  rotOn _ _ _ _ _ _ hr _ h := SI_rot hr h
  rotOff _ _ _ _ _ _ _ _ := trivial
/-! ### What was kept -/
/-- An entry that was kept: its sectors, unless its time is over. -/
def KF (E : En) (n : Nat) (x : Sl) : Prop :=
  E.op < (n : Int) ∨ (E.op = (n : Int) ∧ (x.p = (E, true, true) ∨ x.p = badE) ∧ (x.h = (stubE E, true, true) ∨ x.h = badB))
def KT (E : En) (n : Nat) (t : It) : Prop := E.op < (n : Int) ∨ t = ⟨1, stubE E, E⟩ ∨ t = ⟨2, stubE E, zeroE⟩ ∨ t = ⟨3, zeroB, zeroE⟩
def PSK (K : Nat → En) (s : Nat) (n : Nat) (x : Sl) (t : It) : Prop := SI n x t ∧ KF (K s) n x ∧ KT (K s) n t
def FSK (K : Nat → En) (s : Nat) (n : Nat) (x : Sl) : Prop := KF (K s) n x
theorem KF_setp {E : En} {n : Nat} {x : Sl} {r : RdE} {m : Bool} (h : KF E n x) (hr : r = (E, true, true) ∨ r = badE) : KF E n { x with p := r, mp := m } := by
  rcases h with h | ⟨a, b, c⟩
  · exact .inl h
  · exact .inr ⟨a, hr, c⟩
theorem KF_seth {E : En} {n : Nat} {x : Sl} {r : RdB} {m : Bool} (h : KF E n x) (hr : r = (stubE E, true, true) ∨ r = badB) : KF E n { x with h := r, mh := m } := by
  rcases h with h | ⟨a, b, c⟩
  · exact .inl h
  · exact .inr ⟨a, b, hr⟩
theorem stub_op_fit {e : En} (h : (stubE e).Fit) : (stubE e).op = e.op := by
  by_cases hr : e.right = true
  · exact stubE_op hr
  · have e1 : stubE e = zeroB := by unfold stubE; rw [if_pos (by simpa using hr)]
    have := h.right
    rw [e1] at this
    exact absurd this (by decide)
theorem KF_open {E : En} {n : Nat} {x : Sl} (hh : HFit x.h) (h : KF E n x) : KF E n (runs (openA x (n : Int)) x) ∧ KT E n (judgeX x.p x.h (n : Int)) := by
  rcases h with h | ⟨a, b, c⟩
  · exact ⟨.inl h, .inl h⟩
  · obtain ⟨⟨e, has, read⟩, ⟨q, says, known⟩, mp, mh⟩ := x
    simp only at b c hh
    unfold openA
    simp only
    rcases b with b | b
    · obtain ⟨rfl, rfl, rfl⟩ := Prod.mk.inj b |>.imp id Prod.mk.inj
      rcases c with c | c
      · obtain ⟨rfl, rfl, rfl⟩ := Prod.mk.inj c |>.imp id Prod.mk.inj
        have hf := (hh rfl).2
        have ho : (stubE e).op = (n : Int) := by rw [← a]; exact stub_op_fit hf
        have e1 : judgeX (e, true, true) (stubE e, true, true) (n : Int) = ⟨1, stubE e, e⟩ := by
          unfold judgeX
          rw [if_pos rfl, if_neg (by simp [ho]), if_pos ⟨rfl, rfl⟩]
        rw [e1, if_neg (by show ¬ (1 : Int) = 0; decide), if_neg (fun h => absurd h.2 (by simp))]
        exact ⟨.inr ⟨a, .inl rfl, .inl rfl⟩, .inr (.inl rfl)⟩
      · obtain ⟨rfl, rfl, rfl⟩ := Prod.mk.inj c |>.imp id Prod.mk.inj
        have e1 : judgeX (e, true, true) (zeroB, false, false) (n : Int) = ⟨1, stubE e, e⟩ := by
          unfold judgeX
          rw [if_neg (by simp), if_neg (by simp), if_pos ⟨rfl, a⟩]
        rw [e1, if_neg (by show ¬ (1 : Int) = 0; decide), if_pos ⟨rfl, rfl⟩]
        exact ⟨.inr ⟨a, .inl rfl, .inl rfl⟩, .inr (.inl rfl)⟩
    · obtain ⟨rfl, rfl, rfl⟩ := Prod.mk.inj b |>.imp id Prod.mk.inj
      rcases c with c | c
      · obtain ⟨rfl, rfl, rfl⟩ := Prod.mk.inj c |>.imp id Prod.mk.inj
        have hf := (hh rfl).2
        have ho : (stubE E).op = (n : Int) := by rw [← a]; exact stub_op_fit hf
        have e1 : judgeX (zeroE, false, false) (stubE E, true, true) (n : Int) = ⟨2, stubE E, zeroE⟩ := by
          unfold judgeX
          rw [if_pos rfl, if_neg (by simp [ho]), if_neg (by simp)]
        rw [e1, if_neg (by show ¬ (2 : Int) = 0; decide), if_neg (fun h => absurd h.2 (by simp))]
        exact ⟨.inr ⟨a, .inr rfl, .inl rfl⟩, .inr (.inr (.inl rfl))⟩
      · obtain ⟨rfl, rfl, rfl⟩ := Prod.mk.inj c |>.imp id Prod.mk.inj
        have e1 : judgeX (zeroE, false, false) (zeroB, false, false) (n : Int) = ⟨3, zeroB, zeroE⟩ := rfl
        rw [e1, if_neg (by show ¬ (3 : Int) = 0; decide), if_neg (fun h => absurd h.1 (by show ¬ (3 : Int) = 1; decide))]
        exact ⟨.inr ⟨a, .inr rfl, .inr rfl⟩, .inr (.inr (.inr rfl))⟩
theorem KF_scrub {E : En} {n : Nat} {x : Sl} {t : It} (h : KF E n x) (ht : KT E n t) : KF E n (runs (scrubA x t (n : Int)) x) ∧ KT E n (scrubX x t) ∧ ∀ y, CutIn (scrubA x t (n : Int)) x y → KF E n y := by
  have hlt : E.op < (n : Int) → KF E n (runs (scrubA x t (n : Int)) x) ∧ KT E n (scrubX x t) ∧ ∀ y, CutIn (scrubA x t (n : Int)) x y → KF E n y := fun h => ⟨.inl h, .inl h, fun _ _ => .inl h⟩
  rcases ht with ht | ht
  · exact hlt ht
  have hX : scrubX x t = ⟨1, stubE E, E⟩ ∨ scrubX x t = ⟨2, stubE E, zeroE⟩ ∨ scrubX x t = ⟨3, zeroB, zeroE⟩ := by
    unfold scrubX
    split
    · rename_i c
      rcases ht with rfl | rfl | rfl
      · exact .inr (.inl rfl)
      · exact absurd c.1 (by show ¬ (2 : Int) = 1; decide)
      · exact absurd c.1 (by show ¬ (3 : Int) = 1; decide)
    · exact ht
  refine ⟨?_, .inr hX, ?_⟩
  · unfold scrubA
    generalize scrubX x t = u at hX
    rcases hX with rfl | rfl | rfl
    · rw [if_neg (by show ¬ (1 : Int) = 0; decide)]
      split
      · exact KF_seth h (.inl rfl)
      · exact h
    · rw [if_neg (by show ¬ (2 : Int) = 0; decide)]
      split
      · exact KF_seth h (.inl rfl)
      · exact h
    · rw [if_neg (by show ¬ (3 : Int) = 0; decide), if_neg (fun h => absurd rfl h.1)]
      exact h
  · intro y hy
    unfold scrubA at hy
    generalize scrubX x t = u at hX hy
    have one : ∀ {l : List Wt}, (l = [.h (stubE E, true, true)] ∨ l = []) → CutIn l x y → KF E n y := by
      intro l hl hc
      rcases hl with rfl | rfl
      · rcases hc with (rfl | rfl | rfl) | hc
        · exact h
        · exact KF_seth h (.inl rfl)
        · exact KF_seth h (.inr rfl)
        · exact absurd hc id
      · exact absurd hc id
    rcases hX with rfl | rfl | rfl
    · rw [if_neg (by show ¬ (1 : Int) = 0; decide)] at hy
      refine one ?_ hy
      split
      · exact .inl rfl
      · exact .inr rfl
    · rw [if_neg (by show ¬ (2 : Int) = 0; decide)] at hy
      refine one ?_ hy
      split
      · exact .inl rfl
      · exact .inr rfl
    · rw [if_neg (by show ¬ (3 : Int) = 0; decide), if_neg (fun h => absurd rfl h.1)] at hy
      exact absurd hy id
theorem KF_rot {E : En} {n : Nat} {x y : Sl} (hr : RotS x y) (h : KF E n x) : KF E n y := by
  cases hr with
  | same => exact h
  | p hm => exact KF_setp h (.inr rfl)
  | h hm => exact KF_seth h (.inr rfl)
theorem KF_put {E : En} {n : Nat} {x : Sl} {t : It} (ho : E.op = (n : Int)) (h : KF E n x) (ht : KT E n t) (hne : ¬ (t.kind = 1 ∧ t.ent = E)) :
    KF E n (runs (putA x t E) x) ∧ ∀ y, CutIn (putA x t E) x y → KF E n y := by
  have h1 := KF_setp (r := (E, true, true)) (m := false) h (.inl rfl)
  have h2 := KF_seth (r := (stubE E, true, true)) (m := false) h1 (.inl rfl)
  have h3 := KF_setp (r := badE) (m := true) h (.inr rfl)
  have h4 := KF_seth (r := badB) (m := true) h1 (.inr rfl)
  rcases ht with ht | rfl | rfl | rfl
  · omega
  · exact absurd ⟨rfl, rfl⟩ hne
  · have e : putA x ⟨2, stubE E, zeroE⟩ E = [.p (E, true, true)] := by
      unfold putA
      rw [if_neg (fun q => q.2 ⟨rfl, rfl⟩), if_pos ⟨rfl, rfl⟩]
      rfl
    rw [e]
    refine ⟨h1, fun y hy => ?_⟩
    rcases hy with (rfl | rfl | rfl) | hy
    · exact h
    · exact h1
    · exact h3
    · exact absurd hy id
  · have e : putA x ⟨3, zeroB, zeroE⟩ E = [.p (E, true, true), .h (stubE E, true, true)] := by
      unfold putA
      rw [if_neg (fun q => absurd q.1 (by decide)), if_neg (fun q => absurd q.1 (by show ¬ (3 : Int) = 2; decide))]
      rfl
    rw [e]
    refine ⟨h2, fun y hy => ?_⟩
    rcases hy with (rfl | rfl | rfl) | (rfl | rfl | rfl) | hy
    · exact h
    · exact h1
    · exact h3
    · exact h1
    · exact h2
    · exact h4
    · exact absurd hy id
theorem keepsK (K : Nat → En) : Keeps (PSK K) (FSK K) where
  free _ _ _ _ h := h.2.1
  opens _ _ _ h1 h2 h3 h := ⟨SI_open h1 h2 h3, KF_open h3 h⟩
  zero s n m _ _ h hm := by
    have : (K s).op < (m : Int) := by
      rcases h.2.1 with q | q
      · omega
      · have := q.1; omega
    exact ⟨.lacks, .inl this, .inl this⟩
  kinds _ _ _ _ h := h.1.kinds
  turn _ _ _ t h h1 h2 := by
    refine ⟨SI_turn h.1 h1 h2, h.2.1, ?_⟩
    rcases h.2.2 with q | rfl | rfl | rfl
    · exact .inl q
    · exact .inr (.inr (.inl rfl))
    · exact absurd h1 (by show ¬ (2 : Int) = 1; decide)
    · exact absurd h1 (by show ¬ (3 : Int) = 1; decide)
  fit _ _ _ _ h := h.1.fit
  scrub _ _ _ _ _ h := by
    obtain ⟨a, b, c⟩ := KF_scrub h.2.1 h.2.2
    exact ⟨⟨SI_scrub h.1, a, b⟩, c⟩
/-- What is noted ahead of an act lets go what it puts over. -/
theorem keptByK (K : Nat → En) (al : Bool) (c : Nat) (a : JAct) (hp : a.e.parent < 18446744073709551616)
    (h1 : al = true → a.kind = 1 → (c : Int) < a.e.op → a.e.op ≤ c + 8 → a.e.right = true → K (a.e.op % 8).toNat = a.e ∨ (K (a.e.op % 8).toNat).op ≤ 0)
    (h2 : al = true → a.kind = 2 → (c : Int) < a.n → a.n ≤ c + 8 → (K (a.n % 8).toNat).op ≤ 0) : KeptBy (PSK K) (FSK K) al c a where
  put ha k s n x t hs ho hc1 hc2 _ h hr hne := by
    subst hs
    rcases h1 ha k (by omega) (by omega) hr with q | q
    · obtain ⟨ha1, hb, hd⟩ := h
      unfold FSK
      unfold PSK
      rw [q] at hb hd ⊢
      obtain ⟨f1, f2⟩ := KF_put ho.symm hb hd hne
      exact ⟨⟨SI_put ha1 hr ho.symm hp, f1, .inr (.inl rfl)⟩, f2⟩
    · exact ⟨⟨SI_put h.1 hr ho.symm hp, .inl (by omega), .inl (by omega)⟩, fun _ _ => .inl (by omega)⟩
  void ha k s n x t hs ho hc1 hc2 _ h _ := by
    subst hs
    have q := h2 ha k (by omega) (by omega)
    exact ⟨⟨.lacks, .inl (by omega), .inl (by omega)⟩, fun _ _ => .inl (by omega)⟩
  rotOn _ _ _ _ _ _ hr _ h := ⟨SI_rot hr h.1, KF_rot hr h.2.1, h.2.2⟩
  rotOff _ _ _ _ _ hr _ h := KF_rot hr h
/-- What is told of an entry that is kept. -/
theorem KT_told {E : En} {n : Nat} {t : It} (h : KT E n t) (ho : E.op = (n : Int)) : t.kind ≠ 0 ∧ (t.kind = 1 → t.ent = E) ∧ (t.kind = 2 → t.stub = stubE E) := by
  rcases h with h | rfl | rfl | rfl
  · omega
  · exact ⟨by show (1 : Int) ≠ 0; decide, fun _ => rfl, fun h => absurd h (by show ¬ (1 : Int) = 2; decide)⟩
  · exact ⟨by show (2 : Int) ≠ 0; decide, fun h => absurd h (by show ¬ (2 : Int) = 1; decide), fun _ => rfl⟩
  · exact ⟨by show (3 : Int) ≠ 0; decide, fun h => absurd h (by show ¬ (3 : Int) = 1; decide), fun h => absurd h (by show ¬ (3 : Int) = 2; decide)⟩
theorem SI.is {n : Nat} {x : Sl} {t : It} (h : SI n x t) (hk : t.kind = 1) : t.ent.op = (n : Int) ∧ (x.p = (t.ent, true, true) ∨ x.p = badE) ∧ (x.h = (stubE t.ent, true, true) ∨ x.h = badB) := by
  cases h with
  | lacks => exact absurd hk (by decide)
  | holds e hr ho hp p h => exact ⟨ho, p, h⟩
  | faulty b => exact absurd hk (by show ¬ (2 : Int) = 1; decide)
  | unsure => exact absurd hk (by show ¬ (3 : Int) = 1; decide)
/-- Notes that are forgotten. -/
theorem WI.forget {K L : Nat → En} {B : Int} {W : Wd} (h : WI (PSK K) (FSK K) B W) (hl : ∀ s, s < 8 → L s = K s ∨ (L s).op ≤ W.c) : WI (PSK L) (FSK L) B W := by
  have hf : ∀ {s n : Nat} {x : Sl}, s < 8 → W.c < n → KF (K s) n x → KF (L s) n x := by
    intro s n x hs hn q
    rcases hl s hs with e | e
    · rw [e]; exact q
    · exact .inl (by omega)
  cases h with
  | on D J h =>
    refine .on D J ⟨h.on, h.len, h.check, h.steps, h.ok, fun s hs => ?_⟩
    have q := h.ps s hs
    have hn := (J.opAt_mod hs).2.1
    refine ⟨q.1, hf hs hn q.2.1, ?_⟩
    rcases hl s hs with e | e
    · rw [e]; exact q.2.2
    · exact .inl (by simp only at e; omega)
  | off D c hc hs h =>
    exact .off D c hc hs (h.mono fun G _ _ q => ⟨q.ok, fun s hs => hf hs ((⟨c, []⟩ : Jrn).opAt_mod hs).2.1 (q.fs s hs)⟩)
/-- A note that is made. -/
theorem WI.note {K : Nat → En} {B : Int} {D : Dsk} {J : Jrn} {c : Nat} (h : WI (PSK K) (FSK K) B ⟨D, some J, c⟩) {e : En} {s0 : Nat} (hs0 : s0 < 8) (hi : nth J.items s0 = ⟨1, stubE e, e⟩) : WI (PSK fun s => if s = s0 then e else K s) (FSK fun s => if s = s0 then e else K s) B ⟨D, some J, c⟩ := by
  cases h with
  | on D J h =>
    refine .on D J ⟨h.on, h.len, h.check, h.steps, h.ok, fun s hs => ?_⟩
    have q := h.ps s hs
    by_cases e1 : s = s0
    · subst e1
      unfold PSK
      simp only [if_true]
      refine ⟨q.1, ?_, .inr (.inl hi)⟩
      have q1 := q.1
      rw [hi] at q1
      exact .inr (q1.is rfl)
    · unfold PSK
      simp only [if_neg e1]
      exact q
end Go.Cmp
namespace Go.Cmp
open Go.RowKit
/-- On: both sectors can be read, and the slot holds its operation, or lacks it. -/
def PSC (_ : Nat) (n : Nat) (x : Sl) (t : It) : Prop :=
  x.mp = false ∧ x.mh = false ∧ ((t = zeroI ∧ (x.h.2.1 = true → x.h.1.op < (n : Int))) ∨ ∃ e : En, t = ⟨1, stubE e, e⟩ ∧ e.right = true ∧ e.op = (n : Int) ∧ e.parent < 18446744073709551616 ∧ x.p = (e, true, true) ∧ x.h = (stubE e, true, true))
/-- Off: not both are torn, and what the header tells is there. -/
def FSC (_ : Nat) (n : Nat) (x : Sl) : Prop :=
  ¬ (x.mp = true ∧ x.mh = true) ∧ (x.h.2.1 = true → x.h.1.op < (n : Int) ∨ (x.h.1.op = (n : Int) ∧ x.p.2.1 = true ∧ stubE x.p.1 = x.h.1))
theorem FSC_old {s n : Nat} {x : Sl} (h1 : x.mh = false) (h2 : x.h.2.1 = true → x.h.1.op < (n : Int)) : FSC s n x := ⟨fun q => by rw [h1] at q; exact absurd q.2 (by simp), fun q => .inl (h2 q)⟩
theorem FSC_none {s n : Nat} {x : Sl} (h1 : x.mp = false ∨ x.mh = false) (h2 : x.h.2.1 = false) : FSC s n x := ⟨fun q => by rcases h1 with h | h <;> rw [h] at q <;> simp at q, fun q => by rw [h2] at q; exact absurd q (by simp)⟩
theorem FSC_is {s n : Nat} {x : Sl} {e : En} (hr : e.right = true) (ho : e.op = (n : Int)) (h1 : x.mh = false) (hp : x.p = (e, true, true)) (hh : x.h = (stubE e, true, true)) : FSC s n x :=
  ⟨fun q => by rw [h1] at q; exact absurd q.2 (by simp), fun _ => .inr ⟨by rw [hh]; exact (stubE_op hr).trans ho, by rw [hp], by rw [hp, hh]⟩⟩
theorem PSC_free {s n : Nat} {x : Sl} {t : It} (h : PSC s n x t) : FSC s n x := by
  obtain ⟨a, b, h | ⟨e, h1, hr, ho, hp, p, q⟩⟩ := h
  · exact FSC_old b h.2
  · exact FSC_is hr ho b p q
theorem PSC_is {s n : Nat} {x : Sl} {e : En} (hr : e.right = true) (ho : e.op = (n : Int)) (hpp : e.parent < 18446744073709551616) (h0 : x.mp = false) (h1 : x.mh = false) (hp : x.p = (e, true, true)) (hh : x.h = (stubE e, true, true)) : PSC s n x ⟨1, stubE e, e⟩ :=
  ⟨h0, h1, .inr ⟨e, rfl, hr, ho, hpp, hp, hh⟩⟩
theorem PSC_open {s n : Nat} {x : Sl} (hx : x.Ok) (hp : PFit x.p) (_ : HFit x.h) (h : FSC s n x) : PSC s n (runs (openA x (n : Int)) x) (judgeX x.p x.h (n : Int)) := by
  obtain ⟨⟨e, has, read⟩, ⟨b, says, known⟩, mp, mh⟩ := x
  obtain ⟨f1, f2⟩ := h
  have p1 := hx.p1
  have p0 := hx.p0
  have q1 := hx.h1
  have q0 := hx.h0
  unfold PFit at hp
  simp only at f1 f2 p1 p0 q1 q0 hp
  unfold openA
  simp only
  cases mh
  · have hk := q0 rfl
    subst hk
    by_cases hc : says = false ∨ b.op ≠ (n : Int)
    · have e1 : judgeX (e, has, read) (b, says, true) (n : Int) = zeroI := by
        unfold judgeX
        rw [if_pos rfl, if_pos hc]
      rw [e1, if_pos (show zeroI.kind = 0 from rfl)]
      have d2 : dirtyH ⟨(e, has, read), (b, says, true), mp, false⟩ (n : Int) = false := by
        unfold dirtyH
        rcases hc with rfl | hc
        · rfl
        · simp [hc]
      have hlt : says = true → b.op < (n : Int) := by
        intro hs
        rcases f2 hs with q | q
        · exact q
        · rcases hc with hc | hc
          · rw [hc] at hs; exact absurd hs (by simp)
          · exact absurd q.1 hc
      unfold cleanA
      rw [d2]
      by_cases d1 : dirtyP ⟨(e, has, read), (b, says, true), mp, false⟩ (n : Int) = true
      · rw [if_pos d1, if_neg (by simp)]
        exact ⟨rfl, rfl, .inl ⟨rfl, hlt⟩⟩
      · rw [if_neg d1, if_neg (by simp)]
        refine ⟨?_, rfl, .inl ⟨rfl, hlt⟩⟩
        cases mp
        · rfl
        · exfalso
          apply d1
          have := p1 rfl
          unfold badE at this
          obtain ⟨_, _, rfl⟩ := Prod.mk.inj this |>.imp id Prod.mk.inj
          rfl
    · simp only [not_or, ne_eq, Bool.not_eq_false, Decidable.not_not] at hc
      obtain ⟨rfl, ho⟩ := hc
      rcases f2 rfl with q | ⟨_, hh, hst⟩
      · omega
      · subst hh
        subst hst
        obtain ⟨hr2, hr, hpp⟩ := hp rfl
        subst hr2
        have e1 : judgeX (e, true, true) (stubE e, true, true) (n : Int) = ⟨1, stubE e, e⟩ := by
          unfold judgeX
          rw [if_pos rfl, if_neg (by simp [ho]), if_pos ⟨rfl, rfl⟩]
        rw [e1, if_neg (by show ¬ (1 : Int) = 0; decide), if_neg (fun h => absurd h.2 (by simp))]
        refine PSC_is hr (by rw [← stubE_op hr]; exact ho) hpp ?_ rfl rfl rfl
        show mp = false
        cases mp
        · rfl
        · have := p1 rfl
          unfold badE at this
          exact absurd (Prod.mk.inj (Prod.mk.inj this).2).1 (by simp)
  · have hk := q1 rfl
    unfold badB at hk
    obtain ⟨rfl, rfl, rfl⟩ := Prod.mk.inj hk |>.imp id Prod.mk.inj
    have hm : mp = false := by
      cases mp
      · rfl
      · exact absurd ⟨rfl, rfl⟩ f1
    subst hm
    have hrd := p0 rfl
    subst hrd
    by_cases hc : has = true ∧ e.op = (n : Int)
    · obtain ⟨rfl, ho⟩ := hc
      obtain ⟨_, hr, hpp⟩ := hp rfl
      have e1 : judgeX (e, true, true) (zeroB, false, false) (n : Int) = ⟨1, stubE e, e⟩ := by
        unfold judgeX
        rw [if_neg (by simp), if_neg (by simp), if_pos ⟨rfl, ho⟩]
      rw [e1, if_neg (by show ¬ (1 : Int) = 0; decide), if_pos ⟨rfl, rfl⟩]
      exact PSC_is hr ho hpp rfl rfl rfl rfl
    · have e1 : judgeX (e, has, true) (zeroB, false, false) (n : Int) = zeroI := by
        unfold judgeX
        rw [if_neg (by simp), if_neg (by simp), if_neg hc]
      rw [e1, if_pos (show zeroI.kind = 0 from rfl)]
      have d1 : dirtyP ⟨(e, has, true), (zeroB, false, false), false, true⟩ (n : Int) = false := by
        unfold dirtyP
        simp only [Bool.not_true, Bool.false_or]
        cases has
        · rfl
        · simp only [Bool.true_and, decide_eq_false_iff_not]
          exact fun q => hc ⟨rfl, q⟩
      have d2 : dirtyH ⟨(e, has, true), (zeroB, false, false), false, true⟩ (n : Int) = true := rfl
      unfold cleanA
      rw [d1, d2]
      exact ⟨rfl, rfl, .inl ⟨rfl, fun h => absurd h (by show ¬ (false = true); simp)⟩⟩
theorem PSC_scrub {s n : Nat} {x : Sl} {t : It} (hx : x.Ok) (h : PSC s n x t) : PSC s n (runs (scrubA x t (n : Int)) x) (scrubX x t) ∧ ∀ y, CutIn (scrubA x t (n : Int)) x y → FSC s n y := by
  have hfree := PSC_free h
  obtain ⟨a, b, ⟨rfl, h⟩ | ⟨e, rfl, hr, ho, hpp, p, q⟩⟩ := h
  · have hX : scrubX x zeroI = zeroI := by unfold scrubX; rw [if_neg (fun q => absurd q.1 (by show ¬ (0 : Int) = 1; decide))]
    unfold scrubA
    rw [hX, if_pos (show zeroI.kind = 0 from rfl)]
    have d2 : dirtyH x (n : Int) = false := by
      unfold dirtyH
      rw [hx.h0 b]
      simp only [Bool.not_true, Bool.false_or]
      cases hs : x.h.2.1
      · rfl
      · have := h hs
        simp only [Bool.true_and, decide_eq_false_iff_not]
        omega
    unfold cleanA
    rw [d2]
    by_cases d1 : dirtyP x (n : Int) = true
    · rw [if_pos d1, if_neg (by simp)]
      refine ⟨⟨rfl, b, .inl ⟨rfl, h⟩⟩, fun y hy => ?_⟩
      rcases hy with (rfl | rfl | rfl) | hy
      · exact hfree
      · exact FSC_old b h
      · exact FSC_old b h
      · exact absurd hy id
    · rw [if_neg d1, if_neg (by simp)]
      exact ⟨⟨a, b, .inl ⟨rfl, h⟩⟩, fun y hy => absurd hy id⟩
  · have hX : scrubX x ⟨1, stubE e, e⟩ = ⟨1, stubE e, e⟩ := by
      unfold scrubX
      rw [if_neg]
      rintro ⟨_, q | q⟩
      · rw [p] at q; exact absurd q (by simp)
      · rw [p] at q; exact absurd rfl q
    unfold scrubA
    rw [hX, if_neg (by show ¬ (1 : Int) = 0; decide), if_neg]
    · exact ⟨⟨a, b, .inr ⟨e, rfl, hr, ho, hpp, p, q⟩⟩, fun y hy => absurd hy id⟩
    · rintro ⟨_, w | w⟩
      · rw [q] at w; exact absurd w (by simp)
      · rw [q] at w; exact absurd rfl w
theorem PSC_put {s n : Nat} {x : Sl} {t : It} (h : PSC s n x t) {e : En} (hr : e.right = true) (ho : e.op = (n : Int)) (hp : e.parent < 18446744073709551616) :
    PSC s n (runs (putA x t e) x) ⟨1, stubE e, e⟩ ∧ ∀ y, CutIn (putA x t e) x y → FSC s n y := by
  have hfree := PSC_free h
  obtain ⟨a, b, ⟨rfl, h⟩ | ⟨e0, rfl, hr0, ho0, hpp0, p, q⟩⟩ := h
  · have e1 : putA x zeroI e = [.p (e, true, true), .h (stubE e, true, true)] := by
      unfold putA
      rw [if_neg (fun q => absurd q.1 (by decide)), if_neg (fun q => absurd q.1 (by show ¬ (0 : Int) = 2; decide))]
      rfl
    rw [e1]
    refine ⟨PSC_is hr ho hp rfl rfl rfl rfl, fun y hy => ?_⟩
    rcases hy with (rfl | rfl | rfl) | (rfl | rfl | rfl) | hy
    · exact hfree
    · exact FSC_old b h
    · exact FSC_old b h
    · exact FSC_old b h
    · exact FSC_is hr ho rfl rfl rfl
    · exact FSC_none (.inl rfl) rfl
    · exact absurd hy id
  · have e1 : putA x ⟨1, stubE e0, e0⟩ e = [.h voidB, .p (e, true, true), .h (stubE e, true, true)] := by
      unfold putA
      rw [if_pos ⟨by show ((1 : Int) == 1 || (1 : Int) == 2) = true; decide, fun q => absurd q.1 (by show ¬ (1 : Int) = 2; decide)⟩, if_neg (fun q => absurd q.1 (by show ¬ (1 : Int) = 2; decide))]
      rfl
    rw [e1]
    refine ⟨PSC_is hr ho hp rfl rfl rfl rfl, fun y hy => ?_⟩
    rcases hy with (rfl | rfl | rfl) | (rfl | rfl | rfl) | (rfl | rfl | rfl) | hy
    · exact hfree
    · exact FSC_none (.inr rfl) rfl
    · exact FSC_none (.inl a) rfl
    · exact FSC_none (.inr rfl) rfl
    · exact FSC_none (.inr rfl) rfl
    · exact FSC_none (.inr rfl) rfl
    · exact FSC_none (.inr rfl) rfl
    · exact FSC_is hr ho rfl rfl rfl
    · exact FSC_none (.inl rfl) rfl
    · exact absurd hy id
theorem PSC_void {s n : Nat} {x : Sl} {t : It} (h : PSC s n x t) (h0 : t.kind ≠ 0) : PSC s n (runs (voidA t) x) zeroI ∧ ∀ y, CutIn (voidA t) x y → FSC s n y := by
  have hfree := PSC_free h
  obtain ⟨a, b, ⟨rfl, h⟩ | ⟨e0, rfl, hr0, ho0, hpp0, p, q⟩⟩ := h
  · exact absurd rfl h0
  · have e1 : voidA ⟨1, stubE e0, e0⟩ = [.h voidB, .p voidE] := by
      unfold voidA
      rw [if_neg (by show ¬ (1 : Int) = 3; decide)]
    rw [e1]
    refine ⟨⟨rfl, rfl, .inl ⟨rfl, fun h => absurd h (by show ¬ (false = true); simp)⟩⟩, fun y hy => ?_⟩
    rcases hy with (rfl | rfl | rfl) | (rfl | rfl | rfl) | hy
    · exact hfree
    · exact FSC_none (.inr rfl) rfl
    · exact FSC_none (.inl a) rfl
    · exact FSC_none (.inr rfl) rfl
    · exact FSC_none (.inr rfl) rfl
    · exact FSC_none (.inr rfl) rfl
    · exact absurd hy id
theorem keepsC : Keeps PSC FSC where
  free _ _ _ _ h := PSC_free h
  opens _ _ _ h1 h2 h3 h := PSC_open h1 h2 h3 h
  zero _ n m x t h hm := by
    obtain ⟨a, b, ⟨_, h⟩ | ⟨e, _, hr, ho, _, _, q⟩⟩ := h
    · exact ⟨a, b, .inl ⟨rfl, fun hs => by have := h hs; omega⟩⟩
    · refine ⟨a, b, .inl ⟨rfl, fun _ => ?_⟩⟩
      rw [q]
      show (stubE e).op < (m : Int)
      rw [stubE_op hr, ho]
      omega
  kinds _ _ _ _ h := by
    obtain ⟨a, b, ⟨rfl, h⟩ | ⟨e, rfl, _⟩⟩ := h
    · exact .inl rfl
    · exact .inr (.inl rfl)
  turn _ _ _ t h h1 h2 := by
    obtain ⟨a, b, ⟨rfl, h⟩ | ⟨e, rfl, hr, ho, _, p, q⟩⟩ := h
    · exact absurd h1 (by show ¬ (0 : Int) = 1; decide)
    · rw [p] at h2
      rcases h2 with h2 | h2
      · exact absurd h2 (by simp)
      · exact absurd rfl h2
  fit _ _ _ _ h := by
    have z : (0 : Nat) < 18446744073709551616 := by decide
    obtain ⟨a, b, ⟨rfl, h⟩ | ⟨e, rfl, hr, ho, hp, p, q⟩⟩ := h
    · exact ⟨⟨fun h => by rcases h with h | h <;> exact absurd h (by decide), z, z⟩, fun h => absurd rfl h⟩
    · have f := stubE_fit hr hp
      exact ⟨⟨fun _ => f, f.parent, f.sum⟩, fun _ _ => f⟩
  scrub _ _ _ _ hx h := PSC_scrub hx h
theorem keptByC (al : Bool) (c : Nat) (a : JAct) (hp : a.e.parent < 18446744073709551616) (h9 : a.kind ≠ 9) : KeptBy PSC FSC al c a where
  put _ _ _ _ _ _ _ ho _ _ _ h hr _ := PSC_put h hr ho.symm hp
  void _ _ _ _ _ _ _ _ _ _ _ h h0 := PSC_void h h0
  rotOn h := absurd h h9
  rotOff h := absurd h h9
/-- What is told of each operation of the window. -/
theorem clean_told {D : Dsk} {J : Jrn} {B : Int} (h : OnW PSC D J B) {n : Int} (hn : J.has n = true) :
    ((J.item n).kind = 1 ∧ readJ D J n = ((J.item n).ent, 0, J)) ∨ (J.item n = zeroI ∧ readJ D J n = (zeroE, 8, J)) := by
  obtain ⟨_, hs8, ho⟩ := J.opAt_of hn
  have hr := (slot_reads h.on J hs8).1
  rw [ho] at hr
  obtain ⟨a, b, ⟨e, _⟩ | ⟨e, e1, e2, e3, e4, p, q⟩⟩ := h.ps _ hs8
  · have ei : J.item n = zeroI := e
    right
    refine ⟨ei, ?_⟩
    unfold readJ
    rw [if_neg (by rw [hn]; simp), ei, if_pos (show zeroI.kind = 0 from rfl)]
  · have ei : J.item n = ⟨1, stubE e, e⟩ := e1
    left
    rw [ei]
    refine ⟨rfl, ?_⟩
    have hp : entP (nth D.lasts (4 + (n % 8).toNat)) = (e, true, true) := p
    unfold readJ
    rw [if_neg (by rw [hn]; simp), ei, hr]
    simp only
    rw [hp, if_neg (by decide), if_neg (by decide), if_neg (by simp), if_neg (by simp)]
/-- A put that is well. -/
theorem putJ_told {D : Dsk} {J : Jrn} {e : En} (hl : J.items.length = 8) (hs : ∀ s, s < 8 → (nth J.items s).kind = 1 → (nth J.items s).stub = stubE (nth J.items s).ent) (h : (putJ D J e).1 = 0) :
    e.right = true ∧ J.has e.op = true ∧ nth (putJ D J e).2.1.items (e.op % 8).toNat = ⟨1, stubE e, e⟩ := by
  unfold putJ at h ⊢
  by_cases hr : e.right = false
  · rw [if_pos hr] at h; exact absurd h (by show ¬ (4 : Int) = 0; decide)
  rw [if_neg hr] at h ⊢
  by_cases hh : J.has e.op = false
  · rw [if_pos hh] at h; exact absurd h (by show ¬ (1 : Int) = 0; decide)
  rw [if_neg hh] at h ⊢
  have hh2 : J.has e.op = true := by simpa using hh
  obtain ⟨_, hs8, ho⟩ := J.opAt_of hh2
  refine ⟨by simpa using hr, hh2, ?_⟩
  by_cases c : (J.item e.op).kind = 1 ∧ (J.item e.op).ent = e
  · rw [if_pos c]
    have q := hs _ hs8
    have e1 : nth J.items (e.op % 8).toNat = J.item e.op := rfl
    rw [e1] at q ⊢
    have q2 := q c.1
    obtain ⟨c1, c2⟩ := c
    rw [c2] at q2
    generalize J.item e.op = t at c1 c2 q2
    obtain ⟨a, b, d⟩ := t
    simp only at c1 c2 q2
    subst c1
    subst c2
    subst q2
    rfl
  rw [if_neg c] at h ⊢
  by_cases f : (putDo D J e).1 ≠ 0
  · rw [if_pos f] at h; exact absurd h f
  rw [if_neg f]
  show nth (J.items.set _ _) _ = _
  rw [nth_setN (by rw [hl]; exact hs8), if_pos rfl]
theorem putJ_on {D : Dsk} {J : Jrn} {e : En} (h : OnJ D) (hst : D.steps + 20 ≤ 1000000000) (hp : e.parent < 18446744073709551616) (h0 : (putJ D J e).1 = 0) : (putJ D J e).2.2.off = false := by
  unfold putJ at h0 ⊢
  by_cases hr : e.right = false
  · rw [if_pos hr]; exact h.off
  rw [if_neg hr] at h0 ⊢
  by_cases hh : J.has e.op = false
  · rw [if_pos hh]; exact h.off
  rw [if_neg hh] at h0 ⊢
  by_cases c : (J.item e.op).kind = 1 ∧ (J.item e.op).ent = e
  · rw [if_pos c]; exact h.off
  rw [if_neg c] at h0 ⊢
  have ha := put_acts h hst J (by simpa using hr) hp (by simpa using hh)
  by_cases f : (putDo D J e).1 ≠ 0
  · rw [if_pos f] at h0; exact absurd h0 f
  · rw [if_neg f]
    exact (ha.on (by simpa using f)).1.off
theorem SI.stub {n : Nat} {x : Sl} {t : It} (h : SI n x t) : t.kind = 1 → t.stub = stubE t.ent := by
  intro hk
  cases h with
  | lacks => exact absurd hk (by decide)
  | holds => rfl
  | faulty b => exact absurd hk (by show ¬ (2 : Int) = 1; decide)
  | unsure => exact absurd hk (by show ¬ (3 : Int) = 1; decide)
theorem PSC_stub {s n : Nat} {x : Sl} {t : It} (h : PSC s n x t) : t.kind = 1 → t.stub = stubE t.ent := by
  obtain ⟨a, b, ⟨rfl, _⟩ | ⟨e, rfl, _⟩⟩ := h
  · exact fun h => absurd h (by show ¬ (0 : Int) = 1; decide)
  · exact fun _ => rfl
end Go.Cmp
namespace Go.Cmp
open Go.RowKit
theorem scrubFrom_all {P Q : Nat → Sl → It → Prop} (hfit : ∀ n x t, Q n x t → (scrubX x t).kind ≠ 0 → (scrubX x t).kind ≠ 3 → (scrubX x t).stub.Fit) (hstep : ∀ n x t, Q n x t → P n (runs (scrubA x t (n : Int)) x) (scrubX x t)) :
    ∀ (k s : Nat) (D : Dsk) (J : Jrn), s + k = 8 → OnJ D → D.fuse = 0 → D.steps + 4 * k + 20 ≤ 1000000000 → J.items.length = 8 → (∀ i, i < s → P (J.opAt i) (slAt D i) (nth J.items i)) → (∀ i, s ≤ i → i < 8 → Q (J.opAt i) (slAt D i) (nth J.items i)) →
      (scrubFrom J k s D).1 = 0 ∧ OnJ (scrubFrom J k s D).2.2 ∧ (scrubFrom J k s D).2.2.steps ≤ D.steps + 4 * k ∧ (scrubFrom J k s D).2.1.items.length = 8 ∧ (scrubFrom J k s D).2.1.check = J.check ∧ ∀ i, i < 8 → P ((scrubFrom J k s D).2.1.opAt i) (slAt (scrubFrom J k s D).2.2 i) (nth (scrubFrom J k s D).2.1.items i)
  | 0, s, D, J, hsk, hD, hf, _, hl, hP, _ => ⟨rfl, hD, by simp [scrubFrom], hl, rfl, fun i hi => hP i (by omega)⟩
  | k + 1, s, D, J, hsk, hD, hf, hst, hl, hP, hQ => by
    have hs : s < 8 := by omega
    have hq := hQ s (Nat.le_refl _) hs
    have ha := scrub_acts hD (by omega) J hs (hfit _ _ _ hq)
    have h0 := ha.full hf
    obtain ⟨a, b, c, d, e, _⟩ := ha.on h0
    have hal := scrubA_len (slAt D s) (nth J.items s) (J.opAt s)
    have e1 : scrubFrom J (k + 1) s D = scrubFrom { J with items := J.items.set s (scrubX (slAt D s) (nth J.items s)) } k (s + 1) (scrubDo D J s).2 := by
      have : scrubFrom J (k + 1) s D = if (scrubDo D J s).1 ≠ 0 then ((scrubDo D J s).1, { J with items := J.items.set s (scrubAt D J s) }, (scrubDo D J s).2) else scrubFrom { J with items := J.items.set s (scrubAt D J s) } k (s + 1) (scrubDo D J s).2 := rfl
      rw [this, if_neg (by rw [h0]; simp), scrubAt_X hD J hs]
    rw [e1]
    obtain ⟨q1, q2, q4, q5, q6, q7⟩ := scrubFrom_all hfit hstep k (s + 1) (scrubDo D J s).2 { J with items := J.items.set s (scrubX (slAt D s) (nth J.items s)) } (by omega) a (e hf) (by push_cast at hst ⊢; omega) (by simpa using hl) (fun i hi => by
      rw [b i (by omega)]
      show P (J.opAt i) _ (nth (J.items.set s _) i)
      rw [nth_setN (by omega)]
      by_cases he : i = s
      · subst he
        rw [if_pos rfl, if_pos rfl]
        exact hstep _ _ _ hq
      · rw [if_neg he, if_neg (fun h => he h.symm)]
        exact hP i (by omega)) (fun i h1 h2 => by
      rw [b i h2, if_neg (by omega)]
      show Q (J.opAt i) _ (nth (J.items.set s _) i)
      rw [nth_setN (by omega), if_neg (by omega)]
      exact hQ i (by omega) h2)
    exact ⟨q1, q2, by push_cast; omega, q5, q6, q7⟩
/-- Behind a scrub a slot is read as what it is, and nothing is to be laid. -/
def Done (n : Nat) (x : Sl) (t : It) : Prop := judgeX x.p x.h (n : Int) = t ∧ openA x (n : Int) = []
theorem done_scrub {n : Nat} {x : Sl} {t : It} (hx : x.Ok) (h : SI n x t) : Done n (runs (scrubA x t (n : Int)) x) (scrubX x t) := by
  have hX := SI_X h
  have hm : (scrubX x t).kind = 1 → x.p.2.1 = true ∧ stubE x.p.1 = (scrubX x t).stub := by
    unfold scrubX
    split
    · exact fun h => absurd h (by show ¬ (2 : Int) = 1; decide)
    · rename_i c
      intro hk
      simp only [not_and, not_or, Bool.not_eq_false, ne_eq, Decidable.not_not] at c
      exact c hk
  unfold scrubA
  generalize scrubX x t = u at hX hm
  cases hX with
  | lacks =>
    rw [if_pos (show zeroI.kind = 0 from rfl)]
    obtain ⟨⟨e, has, read⟩, ⟨b, says, known⟩, mp, mh⟩ := x
    have z : ∀ (r : RdE) (q : RdB) (mp mh : Bool), r.2.2 = true → q.2.2 = true → (r.2.1 = true → r.1.op ≠ (n : Int)) → (q.2.1 = true → q.1.op ≠ (n : Int)) → Done n ⟨r, q, mp, mh⟩ zeroI := by
      rintro ⟨e, has, read⟩ ⟨b, says, known⟩ mp mh h1 h2 h3 h4
      simp only at h1 h2 h3 h4
      subst h1
      subst h2
      have e1 : judgeX (e, has, true) (b, says, true) (n : Int) = zeroI := by
        unfold judgeX
        rw [if_pos rfl, if_pos]
        cases says
        · exact .inl rfl
        · exact .inr (h4 rfl)
      refine ⟨e1, ?_⟩
      unfold openA
      simp only
      rw [e1, if_pos (show zeroI.kind = 0 from rfl)]
      have d1 : dirtyP ⟨(e, has, true), (b, says, true), mp, mh⟩ (n : Int) = false := by
        unfold dirtyP
        cases has
        · rfl
        · simpa using h3 rfl
      have d2 : dirtyH ⟨(e, has, true), (b, says, true), mp, mh⟩ (n : Int) = false := by
        unfold dirtyH
        cases says
        · rfl
        · simpa using h4 rfl
      unfold cleanA
      rw [d1, d2]
      rfl
    have n1 : ∀ {b : Bool} {o : Int} {r : Bool}, ¬ ((!r || (b && decide (o = (n : Int)))) = true) → r = true ∧ (b = true → o ≠ (n : Int)) := by
      intro b o r hc
      cases r
      · exact absurd rfl hc
      · refine ⟨rfl, fun hb ho => hc ?_⟩
        rw [hb, ho]
        simp
    unfold cleanA
    by_cases d1 : dirtyP ⟨(e, has, read), (b, says, known), mp, mh⟩ (n : Int) = true
    · rw [if_pos d1]
      by_cases d2 : dirtyH ⟨(e, has, read), (b, says, known), mp, mh⟩ (n : Int) = true
      · rw [if_pos d2]
        exact z voidE voidB _ _ rfl rfl (fun h => absurd h (by simp [voidE])) (fun h => absurd h (by simp [voidB]))
      · rw [if_neg d2]
        obtain ⟨a1, a2⟩ := n1 d2
        exact z voidE _ _ _ rfl a1 (fun h => absurd h (by simp [voidE])) a2
    · rw [if_neg d1]
      obtain ⟨b1, b2⟩ := n1 d1
      by_cases d2 : dirtyH ⟨(e, has, read), (b, says, known), mp, mh⟩ (n : Int) = true
      · rw [if_pos d2]
        exact z _ voidB _ _ b1 rfl b2 (fun h => absurd h (by simp [voidB]))
      · rw [if_neg d2]
        obtain ⟨a1, a2⟩ := n1 d2
        exact z _ _ _ _ b1 a1 b2 a2
  | holds e hr ho hp p h =>
    rw [if_neg (by show ¬ (1 : Int) = 0; decide)]
    have hp1 : x.p = (e, true, true) := by
      rcases p with p | p
      · exact p
      · have := (hm rfl).1
        rw [p] at this
        exact absurd this (by simp [badE])
    have fin : ∀ y : Sl, y.p = (e, true, true) → y.h = (stubE e, true, true) → Done n y ⟨1, stubE e, e⟩ := by
      rintro ⟨yp, yh, mp, mh⟩ h1 h2
      simp only at h1 h2
      subst h1
      subst h2
      have ho2 : (stubE e).op = (n : Int) := (stubE_op hr).trans ho
      have e1 : judgeX (e, true, true) (stubE e, true, true) (n : Int) = ⟨1, stubE e, e⟩ := by
        unfold judgeX
        rw [if_pos rfl, if_neg (by simp [ho2]), if_pos ⟨rfl, rfl⟩]
      refine ⟨e1, ?_⟩
      unfold openA
      simp only
      rw [e1, if_neg (by show ¬ (1 : Int) = 0; decide), if_neg (fun h => absurd h.2 (by simp))]
    by_cases c : (1 : Int) ≠ 3 ∧ (x.h.2.1 = false ∨ x.h.1 ≠ stubE e)
    · rw [if_pos c]
      exact fin _ hp1 rfl
    · rw [if_neg c]
      refine fin _ hp1 ?_
      rcases h with h | h
      · exact h
      · exfalso
        apply c
        rw [h]
        exact ⟨by decide, .inl rfl⟩
  | faulty b hf ho h p =>
    rw [if_neg (by show ¬ (2 : Int) = 0; decide)]
    have fin : ∀ y : Sl, y.p = x.p → y.h = (b, true, true) → Done n y ⟨2, b, zeroE⟩ := by
      rintro ⟨yp, yh, mp, mh⟩ h1 h2
      simp only at h1 h2
      subst h1
      subst h2
      have e1 : judgeX x.p (b, true, true) (n : Int) = ⟨2, b, zeroE⟩ := by
        unfold judgeX
        rw [if_pos rfl, if_neg (by simp [ho]), if_neg p]
      refine ⟨e1, ?_⟩
      unfold openA
      simp only
      rw [e1, if_neg (by show ¬ (2 : Int) = 0; decide), if_neg (fun h => absurd h.2 (by simp))]
    by_cases c : (2 : Int) ≠ 3 ∧ (x.h.2.1 = false ∨ x.h.1 ≠ b)
    · rw [if_pos c]
      exact fin _ rfl rfl
    · rw [if_neg c]
      refine fin _ rfl ?_
      rcases h with h | h
      · exact h
      · exfalso
        apply c
        rw [h]
        exact ⟨by decide, .inl rfl⟩
  | unsure p q =>
    clear hx h hm
    rw [if_neg (by show ¬ (3 : Int) = 0; decide), if_neg (fun q => absurd rfl q.1)]
    obtain ⟨xp, xh, mp, mh⟩ := x
    simp only at p q
    subst p
    subst q
    exact ⟨rfl, rfl⟩
theorem list_ext_nth {α : Type} [Inhabited α] {a b : List α} {k : Nat} (ha : a.length = k) (hb : b.length = k) (h : ∀ i, i < k → nth a i = nth b i) : a = b := by
  apply List.ext_getElem (by rw [ha, hb])
  intro i h1 h2
  have := h i (by omega)
  rw [nth_eq (get_lt h1), nth_eq (get_lt h2)] at this
  have g1 := get_lt h1
  have g2 := get_lt h2
  rw [List.getElem?_eq_getElem h1] at g1
  rw [List.getElem?_eq_getElem h2] at g2
  exact (Option.some.inj g1).trans (this.trans (Option.some.inj g2).symm)
/-- Whoever opens the disk behind a scrub finds the journal as it is. -/
theorem scrub_open {D : Dsk} {J : Jrn} {B : Int} (h : OnW PS0 D J B) (hf : D.fuse = 0) (hB : B + 200 ≤ 1000000000) :
    (scrubJ D J).1 = 0 ∧ (scrubJ D J).2.1.check = J.check ∧ (scrubJ D J).2.1.items.length = 8 ∧ OnJ (scrubJ D J).2.2 ∧ (scrubJ D J).2.2.steps ≤ D.steps + 32 ∧ openJ (scrubJ D J).2.2 J.check = (0, (scrubJ D J).2.1, (scrubJ D J).2.2) := by
  have hst := h.steps
  obtain ⟨a, b, c, d, e, f⟩ := scrubFrom_all (P := Done) (Q := fun n x t => x.Ok ∧ SI n x t) (fun n x t q => (SI_X q.2).fit.2) (fun n x t q => done_scrub q.1 q.2) 8 0 D J (by omega) h.on hf (by omega) h.len (fun i hi => absurd hi (by omega)) (fun i _ hi => ⟨h.ok i hi, h.ps i hi⟩)
  have es : scrubFrom J 8 0 D = scrubJ D J := rfl
  rw [es] at a b c d e f
  refine ⟨a, e, d, b, by omega, ?_⟩
  generalize scrubJ D J = R at a b c d e f
  obtain ⟨r0, J2, D2⟩ := R
  simp only at a b c d e f ⊢
  have ho : ∀ i, (⟨J.check, List.replicate 8 zeroI⟩ : Jrn).opAt i = J2.opAt i := by
    intro i
    unfold Jrn.opAt
    rw [e]
  obtain ⟨q1, q2, q3, q4, q5⟩ := openFrom_same 8 0 D2 ⟨J.check, List.replicate 8 zeroI⟩ (by omega) b (by omega) (by simp) (fun i _ hi => by rw [ho]; exact (f i hi).2)
  have eo : openFrom ⟨J.check, List.replicate 8 zeroI⟩ 8 0 D2 = openJ D2 J.check := rfl
  rw [eo] at q1 q2 q3 q4 q5
  generalize openJ D2 J.check = Q at q1 q2 q3 q4 q5
  obtain ⟨z0, J3, D3⟩ := Q
  simp only at q1 q2 q3 q4 q5
  subst q1
  subst q2
  have hJ : J3 = J2 := by
    obtain ⟨c3, l3⟩ := J3
    obtain ⟨c2, l2⟩ := J2
    simp only at q3 q4 q5 d e f
    have : l3 = l2 := list_ext_nth q3 d (fun i hi => by
      rw [q5 i hi, if_neg (by omega), ho]
      exact (f i hi).1)
    rw [this, q4, e]
  rw [hJ]
end Go.Cmp
