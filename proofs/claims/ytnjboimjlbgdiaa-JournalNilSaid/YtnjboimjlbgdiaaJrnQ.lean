/-
  A journal's slots: what opening and scrubbing make of all of them.
  A journal's disk that was laid void, in plain lists.
  A journal: the chapter's example, in plain lists.
-/
import Derived.Test.YtnjboimjlbgdiaaJrnP
import Derived.Test.YtnjboimjlbgdiaaJrnB
set_option linter.unusedSimpArgs false
set_option linter.unusedVariables false
set_option linter.unusedSectionVars false
set_option maxRecDepth 100000
namespace Go.Cmp
open Go.RowKit
theorem cleanA_len (x : Sl) (n : Int) : (cleanA x n).length ≤ 2 := by unfold cleanA; split <;> split <;> simp
theorem openA_len (x : Sl) (n : Int) : (openA x n).length ≤ 2 := by
  unfold openA
  split
  · exact cleanA_len x n
  · split <;> simp
theorem scrubA_len (x : Sl) (t : It) (n : Int) : (scrubA x t n).length ≤ 2 := by
  unfold scrubA
  split
  · exact cleanA_len x n
  · split <;> simp
theorem putA_len (x : Sl) (t : It) (e : En) : (putA x t e).length ≤ 3 := by unfold putA; split <;> split <;> simp
theorem voidA_len (t : It) : (voidA t).length = 2 := by unfold voidA; split <;> rfl
theorem Acts.on {D : Dsk} {s : Nat} {l : List Wt} {r : Int × Dsk} (h : Acts D s l r) (h0 : r.1 = 0) : OnJ r.2 ∧ Upd D s (runs l (slAt D s)) r.2 ∧ D.steps ≤ r.2.steps ∧ r.2.steps ≤ D.steps + 2 * l.length ∧ (D.fuse = 0 → r.2.fuse = 0) ∧ (l = [] → r.2 = D) := by
  rcases h with ⟨_, a, b, c, d, e, f⟩ | ⟨_, b, _⟩
  · exact ⟨a, b, c, d, e, f⟩
  · rw [b] at h0; exact absurd h0 (by decide)
theorem Acts.full {D : Dsk} {s : Nat} {l : List Wt} {r : Int × Dsk} (h : Acts D s l r) (h0 : D.fuse = 0) : r.1 = 0 := by
  rcases h with ⟨a, _⟩ | ⟨b, _⟩
  · exact a
  · exact absurd h0 b
theorem openA_fine {x : Sl} {n : Int} : ∀ a ∈ openA x n, a.fine := by
  intro a ha
  unfold openA cleanA at ha
  split at ha
  · rcases List.mem_append.1 ha with h | h
    · split at h
      · simp at h; subst h; rfl
      · simp at h
    · split at h
      · simp at h; subst h; rfl
      · simp at h
  · split at ha
    · simp at ha; subst ha; rfl
    · simp at ha
/-- What a walk of Open needs: on, and so many steps. -/
structure OpnI (c : Nat) (B : Int) (s : Nat) (D : Dsk) (J : Jrn) : Prop where
  on : OnJ D
  steps : D.steps ≤ B + 4 * s
  len : J.items.length = 8
  check : J.check = c
theorem opnI_step {c : Nat} {B : Int} (hB : B + 100 ≤ 1000000000) {s : Nat} {D : Dsk} {J : Jrn} (h : OpnI c B s D J) (hs : s < 8) : J.items.length = 8 ∧ OnJ D ∧ D.steps + 8 < 1000000000 ∧ ((openDo D (J.opAt s)).1 = 0 → OpnI c B (s + 1) (openDo D (J.opAt s)).2 { J with items := J.items.set s (openAt D (J.opAt s)) }) := by
  have hst := h.steps
  refine ⟨h.len, h.on, by omega, fun h0 => ?_⟩
  obtain ⟨a, _, _, d, _⟩ := (open_acts h.on (by omega) J hs).on h0
  have := openA_len (slAt D s) (J.opAt s)
  exact ⟨a, by omega, by simpa using h.len, h.check⟩
theorem openFrom_all {P : Nat → Sl → It → Prop} {F : Nat → Sl → Prop} (hstep : ∀ n x, F n x → P n (runs (openA x (n : Int)) x) (judgeX x.p x.h (n : Int))) :
    ∀ (k s : Nat) (D : Dsk) (J : Jrn), s + k = 8 → OnJ D → D.fuse = 0 → D.steps + 4 * k + 20 ≤ 1000000000 → J.items.length = 8 → (∀ i, i < s → P (J.opAt i) (slAt D i) (nth J.items i)) → (∀ i, s ≤ i → i < 8 → F (J.opAt i) (slAt D i)) →
      (openFrom J k s D).1 = 0 ∧ OnJ (openFrom J k s D).2.2 ∧ (openFrom J k s D).2.2.fuse = 0 ∧ (openFrom J k s D).2.2.steps ≤ D.steps + 4 * k ∧ (openFrom J k s D).2.1.items.length = 8 ∧ (openFrom J k s D).2.1.check = J.check ∧ ∀ i, i < 8 → P ((openFrom J k s D).2.1.opAt i) (slAt (openFrom J k s D).2.2 i) (nth (openFrom J k s D).2.1.items i)
  | 0, s, D, J, hsk, hD, hf, _, hl, hP, _ => ⟨rfl, hD, hf, by simp [openFrom], hl, rfl, fun i hi => hP i (by omega)⟩
  | k + 1, s, D, J, hsk, hD, hf, hst, hl, hP, hF => by
    have hs : s < 8 := by omega
    have ha := open_acts hD (by omega) J hs
    have h0 := ha.full hf
    obtain ⟨a, b, c, d, e, _⟩ := ha.on h0
    have hal := openA_len (slAt D s) (J.opAt s)
    have hX := openAt_X hD J hs
    have e1 : openFrom J (k + 1) s D = openFrom { J with items := J.items.set s (openAt D (J.opAt s)) } k (s + 1) (openDo D (J.opAt s)).2 := by
      have : openFrom J (k + 1) s D = if (openDo D (J.opAt s)).1 ≠ 0 then ((openDo D (J.opAt s)).1, J, (openDo D (J.opAt s)).2) else openFrom { J with items := J.items.set s (openAt D (J.opAt s)) } k (s + 1) (openDo D (J.opAt s)).2 := rfl
      rw [this, if_neg (by rw [h0]; simp)]
    rw [e1]
    obtain ⟨q1, q2, q3, q4, q5, q6, q7⟩ := openFrom_all hstep k (s + 1) (openDo D (J.opAt s)).2 { J with items := J.items.set s (openAt D (J.opAt s)) } (by omega) a (e hf) (by push_cast at hst ⊢; omega) (by simpa using hl) (fun i hi => by
      rw [b i (by omega)]
      show P (J.opAt i) _ (nth (J.items.set s (openAt D (J.opAt s))) i)
      rw [nth_setN (by omega)]
      by_cases he : i = s
      · subst he
        rw [if_pos rfl, if_pos rfl, hX]
        exact hstep _ _ (hF i (Nat.le_refl _) hs)
      · rw [if_neg he, if_neg (fun h => he h.symm)]
        exact hP i (by omega)) (fun i h1 h2 => by
      rw [b i h2, if_neg (by omega)]
      exact hF i (by omega) h2)
    exact ⟨q1, q2, q3, by push_cast; omega, q5, q6, q7⟩
/-- .. where nothing is to be laid, nothing is. -/
theorem openFrom_same : ∀ (k s : Nat) (D : Dsk) (J : Jrn), s + k = 8 → OnJ D → D.steps + 20 ≤ 1000000000 → J.items.length = 8 → (∀ i, s ≤ i → i < 8 → openA (slAt D i) (J.opAt i) = []) →
      (openFrom J k s D).1 = 0 ∧ (openFrom J k s D).2.2 = D ∧ (openFrom J k s D).2.1.items.length = 8 ∧ (openFrom J k s D).2.1.check = J.check ∧ ∀ i, i < 8 → nth (openFrom J k s D).2.1.items i = if i < s then nth J.items i else judgeX (slAt D i).p (slAt D i).h (J.opAt i)
  | 0, s, D, J, hsk, hD, _, hl, _ => ⟨rfl, rfl, hl, rfl, fun i hi => by rw [if_pos (by omega)]; rfl⟩
  | k + 1, s, D, J, hsk, hD, hst, hl, hF => by
    have hs : s < 8 := by omega
    have ha := open_acts hD (by omega) J hs
    rw [hF s (Nat.le_refl _) hs] at ha
    have hX := openAt_X hD J hs
    have h01 : (openDo D (J.opAt s)).1 = 0 ∧ (openDo D (J.opAt s)).2 = D := by
      rcases ha with ⟨a, _, _, _, _, _, b⟩ | ⟨_, _, _, q⟩
      · exact ⟨a, b rfl⟩
      · have := (q.then' []).2.2.2.2
        obtain ⟨y, hy, _⟩ := this
        exact absurd hy id
    have e1 : openFrom J (k + 1) s D = openFrom { J with items := J.items.set s (openAt D (J.opAt s)) } k (s + 1) D := by
      have : openFrom J (k + 1) s D = if (openDo D (J.opAt s)).1 ≠ 0 then ((openDo D (J.opAt s)).1, J, (openDo D (J.opAt s)).2) else openFrom { J with items := J.items.set s (openAt D (J.opAt s)) } k (s + 1) (openDo D (J.opAt s)).2 := rfl
      rw [this, if_neg (by rw [h01.1]; simp), h01.2]
    rw [e1]
    obtain ⟨q1, q2, q3, q4, q5⟩ := openFrom_same k (s + 1) D { J with items := J.items.set s (openAt D (J.opAt s)) } (by omega) hD hst (by simpa using hl) (fun i h1 h2 => hF i (by omega) h2)
    refine ⟨q1, q2, q3, q4, fun i hi => ?_⟩
    rw [q5 i hi]
    by_cases h1 : i < s
    · rw [if_pos (by omega), if_pos h1]
      show nth (J.items.set s _) i = _
      rw [nth_setN (by omega), if_neg (by omega)]
    · by_cases h2 : i = s
      · subst h2
        rw [if_pos (by omega), if_neg h1]
        show nth (J.items.set i _) i = _
        rw [nth_setN (by omega), if_pos rfl, hX]
      · rw [if_neg (by omega), if_neg h1]
        rfl
/-! ### A disk that was laid void -/
def voidSl : Sl := ⟨voidE, voidB, false, false⟩
theorem voidX_judge (n : Int) : judgeX voidE voidB n = zeroI := rfl
theorem void_openA (n : Int) : openA voidSl n = [] := rfl
end Go.Cmp
namespace Go.Cmp
open Go.RowKit
theorem puts_get {Q : List UInt8 → Prop} (i : Nat) (hi : i < 32) : ∀ (W : List Wr) (D : Dsk), D.lasts.length = 32 → D.mark.length = 32 → (∀ x ∈ W, Q x.text) →
    ((Q (nth D.lasts i) ∧ nth D.mark i = false) ∨ ∃ x ∈ W, x.sector.toNat = i) → Q (nth (D.puts W).lasts i) ∧ nth (D.puts W).mark i = false
  | [], D, _, _, _, h => by
    rcases h with h | ⟨x, hx, _⟩
    · exact h
    · exact absurd hx (by simp)
  | x :: W, D, hl, hm, hq, h => by
    have e : D.puts (x :: W) = (D.put x).puts W := rfl
    rw [e]
    refine puts_get i hi W (D.put x) (by simpa [Dsk.put] using hl) (by simpa [Dsk.put] using hm) (fun y hy => hq y (by simp [hy])) ?_
    by_cases hx : x.sector.toNat = i
    · left
      unfold Dsk.put
      simp only
      rw [nth_setN (by omega), if_pos hx, nth_setN (by omega), if_pos hx]
      exact ⟨hq x (by simp), rfl⟩
    · rcases h with h | ⟨y, hy, hy2⟩
      · left
        unfold Dsk.put
        simp only
        rw [nth_setN' hx, nth_setN' hx]
        exact h
      · right
        rcases List.mem_cons.1 hy with rfl | hy
        · exact absurd hy2 hx
        · exact ⟨y, hy, hy2⟩
where
  nth_setN' {α : Type} [Inhabited α] {p : List α} {i j : Nat} {x : α} (h : i ≠ j) : nth (p.set i x) j = nth p j := by
    unfold nth
    rw [List.getD_eq_getElem?_getD, List.getD_eq_getElem?_getD, List.getElem?_set_ne h]
theorem fmtFrom_void : ∀ (l : List Int) (D : Dsk) (n : Nat), FmtI D n → n + l.length < 90 → (∀ i ∈ l, 0 ≤ i ∧ i < 32) →
    ∃ W : List Wr, W.map (fun x => x.sector) = D.way.map (fun x => x.sector) ++ l ∧ (∀ x ∈ W, x ∈ D.way ∨ ∃ g, x.text = sealed g []) ∧
      (fmtFrom l D).1 = 0 ∧ OnJ (fmtFrom l D).2 ∧ (fmtFrom l D).2.fuse = 0 ∧ (fmtFrom l D).2.steps ≤ 1001 + (n + l.length : Nat) ∧ (fmtFrom l D).2.lasts = (D.puts W).lasts ∧ (fmtFrom l D).2.mark = (D.puts W).mark
  | [], D, n, h, hn, _ => by
    obtain ⟨a, b, c, d, e, f, g⟩ := fmt_flush h (by omega)
    refine ⟨D.way, by simp, fun x hx => .inl hx, ?_⟩
    rw [b]
    exact ⟨a, c, d, by simpa using e, f, g⟩
  | i :: l, D, n, h, hn, hl => by
    obtain ⟨h0, h1⟩ := hl i (by simp)
    simp only [List.length_cons] at hn
    obtain ⟨a, b, c, d⟩ := fmt_step h (by omega) h0 h1 l
    have hw : (D.write i (voidS (D.read i).1)).2.way = D.way ++ [⟨i, voidS (D.read i).1⟩] ∧ (D.write i (voidS (D.read i).1)).2.lasts = D.lasts ∧ (D.write i (voidS (D.read i).1)).2.mark = D.mark := by
      have his : D.is i = true := by unfold Dsk.is; rw [h.len]; simp; omega
      have hl2 : (voidS (D.read i).1).length = 384 := by rw [voidS_eq]; exact sealed_len (by simp)
      unfold Dsk.write
      rw [if_neg (by rw [his, hl2]; simp), if_neg (by rw [h.off]; simp), fmt_stp h.fuse]
      exact ⟨rfl, rfl, rfl⟩
    obtain ⟨W, w1, w2, w3, w4, w5, w6, w7, w8⟩ := fmtFrom_void l _ (n + 1) c (by omega) (fun j hj => hl j (by simp [hj]))
    rw [d]
    have hp : ∀ (V : List Wr) (E F : Dsk), E.lasts = F.lasts → E.mark = F.mark → (E.puts V).lasts = (F.puts V).lasts ∧ (E.puts V).mark = (F.puts V).mark := by
      intro V
      induction V with
      | nil => intro E F a b; exact ⟨a, b⟩
      | cons x V ih => intro E F a b; exact ih (E.put x) (F.put x) (by simp [Dsk.put, a]) (by simp [Dsk.put, b])
    obtain ⟨p1, p2⟩ := hp W _ D hw.2.1 hw.2.2
    refine ⟨W, ?_, fun x hx => ?_, w3, w4, w5, ?_, w7.trans p1, w8.trans p2⟩
    · rw [w1, hw.1]; simp
    · rcases w2 x hx with h | h
      · rw [hw.1] at h
        rcases List.mem_append.1 h with h | h
        · exact .inl h
        · simp only [List.mem_singleton] at h
          subst h
          exact .inr ⟨_, voidS_eq _⟩
      · exact .inr h
    · simp only [List.length_cons]
      rw [show n + (l.length + 1) = n + 1 + l.length from by omega]
      exact w6
/-- A disk that was laid void. -/
structure VoidD (D : Dsk) : Prop where
  on : OnJ D
  fuse : D.fuse = 0
  steps : D.steps ≤ 1017
  sl : ∀ s, s < 8 → slAt D s = voidSl
theorem fmt_void {D : Dsk} (h : FmtI D 0) : (fmtJ D).1 = 0 ∧ VoidD (fmtJ D).2 := by
  have hway : D.way = [] := List.length_eq_zero_iff.1 h.way
  have hm : D.mark.length = 32 := h.ok.len.trans h.len
  have hmem : ∀ i ∈ fmtL, 0 ≤ i ∧ i < 32 := by decide
  obtain ⟨W, w1, w2, w3, w4, w5, w6, w7, w8⟩ := fmtFrom_void fmtL D 0 h (by decide) hmem
  rw [hway] at w1 w2
  simp only [List.map_nil, List.nil_append] at w1
  have e : fmtJ D = fmtFrom fmtL D := rfl
  rw [e]
  refine ⟨w3, w4, w5, by have e16 : (0 + fmtL.length) = 16 := by decide
                         rw [e16] at w6; omega, fun s hs => ?_⟩
  have hq : ∀ x ∈ W, ∃ g, x.text = sealed g [] := fun x hx => (w2 x hx).resolve_left (by simp)
  have hin : ∀ i : Nat, (i : Int) ∈ fmtL → ∃ x ∈ W, x.sector.toNat = i := by
    intro i hi
    rw [← w1] at hi
    obtain ⟨x, hx, hxe⟩ := List.mem_map.1 hi
    exact ⟨x, hx, by rw [hxe]; rfl⟩
  have hs4 : ((4 + s : Nat) : Int) ∈ fmtL ∧ ((12 + s : Nat) : Int) ∈ fmtL := by
    have : ∀ s, s < 8 → ((4 + s : Nat) : Int) ∈ fmtL ∧ ((12 + s : Nat) : Int) ∈ fmtL := by decide
    exact this s hs
  obtain ⟨⟨g1, t1⟩, m1⟩ := puts_get (Q := fun t => ∃ g, t = sealed g []) (4 + s) (by omega) W D h.len hm hq (.inr (hin _ hs4.1))
  obtain ⟨⟨g2, t2⟩, m2⟩ := puts_get (Q := fun t => ∃ g, t = sealed g []) (12 + s) (by omega) W D h.len hm hq (.inr (hin _ hs4.2))
  unfold slAt
  rw [w7, w8, t1, t2, m1, m2, entP_void, stbP_void]
  rfl
end Go.Cmp
namespace Go.Proofs.Ytnjboimjlbgdiaa
open Go.RowKit Go.Cmp
theorem newDsk_fmt : FmtI (newDsk 32) 0 :=
  ⟨newDsk_ok 32 (by omega), rfl, rfl, by simp [newDsk], rfl, by show (0 : Int) ≤ _; decide⟩
end Go.Proofs.Ytnjboimjlbgdiaa
namespace Go.Cmp
open Go.RowKit
def awE : En := ⟨0, 1, 0, 0, 1, 0, 0, 1, []⟩
theorem awE_right : awE.right = true := by decide
theorem headTo_none {J : Jrn} : ∀ k, (∀ i, 1 ≤ i → i ≤ k → Jrn.kept (J.item ((J.check + i : Nat) : Int)) = false) → J.headTo k = J.check
  | 0, _ => rfl
  | k + 1, h => by
    unfold Jrn.headTo
    rw [h (k + 1) (by omega) (by omega), if_neg (by simp)]
    exact headTo_none k (fun i h1 h2 => h i h1 (by omega))
theorem headTo_at {J : Jrn} {m : Nat} (hm : 1 ≤ m) (hk : Jrn.kept (J.item ((J.check + m : Nat) : Int)) = true) : ∀ k, m ≤ k → (∀ i, m < i → i ≤ k → Jrn.kept (J.item ((J.check + i : Nat) : Int)) = false) → J.headTo k = J.check + m
  | 0, h, _ => absurd h (by omega)
  | k + 1, h, hn => by
    unfold Jrn.headTo
    by_cases e : m = k + 1
    · subst e
      rw [hk, if_pos rfl]
    · rw [hn (k + 1) (by omega) (Nat.le_refl _), if_neg (by simp)]
      exact headTo_at hm hk k (by omega) (fun i h1 h2 => hn i h1 (by omega))
/-- A journal of a void disk. -/
structure FreshJ (J : Jrn) : Prop where
  check : J.check = 0
  len : J.items.length = 8
  zero : ∀ i, i < 8 → nth J.items i = zeroI
theorem fresh_open {D : Dsk} (h : VoidD D) : (openJ D 0).1 = 0 ∧ (openJ D 0).2.2 = D ∧ FreshJ (openJ D 0).2.1 := by
  have hst := h.steps
  obtain ⟨a, b, c, d, e⟩ := openFrom_same 8 0 D ⟨0, List.replicate 8 zeroI⟩ (by omega) h.on (by omega) (by simp) (fun i _ hi => by rw [h.sl i hi]; exact void_openA _)
  refine ⟨a, b, ⟨d, c, fun i hi => ?_⟩⟩
  have := e i hi
  rw [if_neg (by omega), h.sl i hi] at this
  exact this.trans (voidX_judge _)
theorem fresh_item {J : Jrn} (h : FreshJ J) (n : Int) : J.item n = zeroI := by
  unfold Jrn.item
  exact h.zero _ (by omega)
theorem fresh_head {J : Jrn} (h : FreshJ J) : J.head = 0 := by
  unfold Jrn.head
  rw [headTo_none 8 (fun i _ _ => by rw [fresh_item h]; rfl), h.check]
theorem fresh_put {D : Dsk} {J : Jrn} (h : VoidD D) (hJ : FreshJ J) :
    ∃ J2 D2, putJ D J awE = (0, J2, D2) ∧ OnJ D2 ∧ D2.steps ≤ 1100 ∧ J2.items.length = 8 ∧ J2.check = 0 ∧ J2.head = 1 ∧ (judgeS (nth D2.lasts 5) (nth D2.lasts 13) 1).kind = 1 := by
  have hst := h.steps
  have hin : J.has awE.op = true := by unfold Jrn.has; rw [hJ.check]; decide
  have ha := put_acts h.on (by omega) J awE_right (by decide) hin
  have hs1 : (awE.op % 8).toNat = 1 := by decide
  rw [hs1, fresh_item hJ] at ha
  have h0 := ha.full h.fuse
  obtain ⟨a, b, c, d, _, _⟩ := ha.on h0
  have hp : putJ D J awE = (0, J.put awE.op ⟨1, stubE awE, awE⟩, (putDo D J awE).2) := by
    unfold putJ
    rw [if_neg (by rw [awE_right]; simp), if_neg (by rw [hin]; simp), fresh_item hJ, if_neg (fun h => absurd h.1 (by decide)), if_neg (by rw [h0]; simp)]
  have hput : J.put awE.op ⟨1, stubE awE, awE⟩ = { J with items := J.items.set 1 ⟨1, stubE awE, awE⟩ } := by unfold Jrn.put; rw [hs1]
  rw [hput] at hp
  have hl : (putA (slAt D 1) zeroI awE).length ≤ 3 := putA_len _ _ _
  refine ⟨_, _, hp, a, by omega, by simpa using hJ.len, hJ.check, ?_, ?_⟩
  · unfold Jrn.head
    have hnth : ∀ i : Nat, i < 9 → Jrn.item { J with items := J.items.set 1 ⟨1, stubE awE, awE⟩ } ((J.check + i : Nat) : Int) = if i = 1 then ⟨1, stubE awE, awE⟩ else zeroI := by
      intro i hi
      unfold Jrn.item
      rw [hJ.check]
      rw [show ((((0 + i : Nat) : Int)) % 8).toNat = i % 8 from by omega, nth_setN (by rw [hJ.len]; omega)]
      by_cases e : i = 1
      · subst e; rfl
      · rw [if_neg e]
        rw [if_neg (by omega)]
        exact hJ.zero _ (by omega)
    have := headTo_at (J := { J with items := J.items.set 1 ⟨1, stubE awE, awE⟩ }) (m := 1) (Nat.le_refl 1) (by rw [hnth 1 (by omega), if_pos rfl]; rfl) 8 (by omega) (fun i h1 h2 => by rw [hnth i (by omega), if_neg (by omega)]; rfl)
    rw [this]
    show J.check + 1 = 1
    rw [hJ.check]
  · rw [judge_X]
    have e := b 1 (by omega)
    rw [if_pos rfl, h.sl 1 (by omega)] at e
    have e1 : entP (nth (putDo D J awE).2.lasts 5) = (slAt (putDo D J awE).2 1).p := rfl
    have e2 : stbP (nth (putDo D J awE).2.lasts 13) = (slAt (putDo D J awE).2 1).h := rfl
    rw [e1, e2, e]
    have hr := awE_right
    have hpa : putA voidSl zeroI awE = [.p (awE, true, true), .h (stubE awE, true, true)] := by
      unfold putA
      rw [if_neg (fun h => absurd h.1 (by decide)), if_neg (fun h => absurd h.1 (by decide))]
      rfl
    rw [hpa]
    show (judgeX (awE, true, true) (stubE awE, true, true) 1).kind = 1
    have ho := stubE_op hr
    unfold judgeX
    rw [if_pos rfl, if_neg (by rw [ho]; exact fun h => h.elim (by simp) (fun h => h rfl)), if_pos ⟨rfl, rfl⟩]
end Go.Cmp
