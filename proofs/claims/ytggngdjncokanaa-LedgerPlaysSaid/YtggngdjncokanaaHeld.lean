/-
  Lemmas that hold for every program: a region that draws its order, of which a part of the heap is changed.
-/
import Derived.Test.YtggngdjncokanaaAuto
set_option linter.unusedSimpArgs false
set_option linter.unusedVariables false
set_option linter.unusedSectionVars false
namespace Go.Cmp
open Go.RowKit

section
variable {P : Program} {md : Region.Mode} {ops : Array Oper} {a : Act} {Q : Exit → Act → World → Prop} {w w0 : World} {S : List Nat} {M : List Ent} {C : World → Prop} {o : Oper}
/-- What A tells may change; what M tells can be read in whatever order. -/
theorem region_held (A M : List Ent) {id : Nat} (hS : St S w0 w (A ++ M)) (hm : P.follows .mixedOrders = true)
    (h : ∀ F w1, (∀ w', Mod F w1 w' → St S w0 w' M) → (∀ w' B, St F w1 w' B → St S w0 w' (B ++ M)) → St F w1 w1 A →
      wpAnyH P .any ops Q (fun W => Mod F w1 W) ops.size (Array.replicate ops.size false) a w1) : (Code.region id ops true).wp P Q a w := by
  obtain ⟨F, h1, h2, h3⟩ := St.split hS.drew
  exact wp_region_held hm (h F w.drew h2 h3 h1)
/-- From here on more holds of the worlds. -/
theorem held_mono {C' : World → Prop} (h : ∀ W, C' W → C W) : ∀ (fuel : Nat) (listed : Array Bool) (a : Act) (w : World), wpAnyH P md ops Q C' fuel listed a w → wpAnyH P md ops Q C fuel listed a w
  | 0, _, _, _, k => k
  | fuel + 1, _, _, _, k => ⟨k.1, fun i hi => wpOp_mono (fun a' w' k' => ⟨h _ k'.1, held_mono h fuel _ a' w' k'.2⟩) (k.2 i hi)⟩

theorem p_move {x : Operand} {v : Value} (ho : o.op = .move x) (hx : a.eval x = v) : (execOp a.eval o).run P w = .ok (.value v) w := by simp only [execOp, ho, hx]; rfl
theorem p_assign {x : Operand} {v : Value} (ho : o.op = .assign x) (hx : a.eval x = v) : (execOp a.eval o).run P w = .ok (.value v) w := by simp only [execOp, ho, hx]; rfl
theorem p_pickT {c x y : Operand} {v : Value} (ho : o.op = .pick c x y) (hc : a.eval c = .bool true) (hx : a.eval x = v) : (execOp a.eval o).run P w = .ok (.value v) w := by simp only [execOp, ho, hc, hx]; rfl
theorem p_pickF {c x y : Operand} {v : Value} (ho : o.op = .pick c x y) (hc : a.eval c = .bool false) (hx : a.eval y = v) : (execOp a.eval o).run P w = .ok (.value v) w := by simp only [execOp, ho, hc, hx]; rfl
theorem p_not {t : TypeId} {x : Operand} {b : Bool} (ho : o.op = .unOp .not t x) (hx : a.eval x = .bool b) : (execOp a.eval o).run P w = .ok (.value (.bool (!b))) w := by simp only [execOp, ho, hx]; rfl
theorem p_nil {x : Operand} {p : Addr} (ho : o.op = .nilCheck x) (hx : a.eval x = .pointer (some p)) : (execOp a.eval o).run P w = .ok (.value (.pointer (some p))) w := by simp only [execOp, ho, hx]; rfl
/-- A calm walk behind a name that no tactic opens. -/
structure Calm (P : Program) (S : List Nat) (w0 : World) (M : List Ent) (ops : Array Oper) (K : Act → Prop) (l : List Oper) (a : Act) : Prop where
  out : wpQuiet P ops (fun W => St S w0 W M) K l a
section
variable {Kq : Act → Prop} {rest : List Oper} {v : Value}
theorem region_calm {id : Nat} {l : List Oper} (hm : P.follows .mixedOrders = true) (hB : Region.lexB .any l.toArray = true) (hS : St S w0 w M)
    (h : Calm P S w0 M l.toArray (fun a' => ∀ w', St S w0 w' M → Q .normal a' w') l a) : (Code.region id l.toArray true).wp P Q a w := wp_region_calm hm hB hS h.out
theorem Calm.skip (hw : Region.wanted o (yielded ops a.tmps) = false) (h : Calm P S w0 M ops Kq rest (a.put o.dst undef)) : Calm P S w0 M ops Kq (o :: rest) a := ⟨wq_skip hw h.out⟩
theorem Calm.run (hw : Region.wanted o (yielded ops a.tmps) = true) (hr : ∀ W, St S w0 W M → (execOp a.eval o).run P W = .ok (.value v) W) (h : Calm P S w0 M ops Kq rest (a.put o.dst v)) : Calm P S w0 M ops Kq (o :: rest) a := ⟨wq_run hw hr h.out⟩
theorem Calm.pure (hw : Region.wanted o (yielded ops a.tmps) = true) (hr : ∀ W, St S w0 W M → (execOp a.eval o).run P W = .ok (.value v) W := by intro W hW; (go_simp; try with_reducible rfl)) (h : Calm P S w0 M ops Kq rest (a.put o.dst v)) : Calm P S w0 M ops Kq (o :: rest) a := ⟨wq_run hw hr h.out⟩
theorem Calm.read (hw : Region.wanted o (yielded ops a.tmps) = true) (hr : ∀ W, St S w0 W M → (execOp a.eval o).run P W = .ok (.value v) W := by intro W hW; (first | exact a_load1 hW rfl rfl rfl rfl (by (repeat (first | exact Ix.here | apply Ix.there))) (by rfl) | exact a_loadE rfl (by (first | exact St.rdx hW (by (repeat (first | exact Ix.here | apply Ix.there))) | exact Reads.at (by assumption) hW (by (repeat (first | exact List.Sublist.refl _ | apply List.Sublist.cons))) | exact St.old0 hW (by assumption))) rfl rfl rfl (by intro _; rfl) (by (first | assumption | exact get_lt (by first | omega | (simp; omega)))) (by rfl) | exact a_loadF rfl (by (first | exact St.rdx hW (by (repeat (first | exact Ix.here | apply Ix.there))) | exact Reads.at (by assumption) hW (by (repeat (first | exact List.Sublist.refl _ | apply List.Sublist.cons))) | exact St.old0 hW (by assumption))) rfl rfl rfl (by intro _; rfl) (by (first | assumption | exact get_lt (by first | omega | (simp; omega)))) (by rfl) | exact a_loadG (vs := [_, _]) rfl (by (first | exact St.rdx hW (by (repeat (first | exact Ix.here | apply Ix.there))) | exact Reads.at (by assumption) hW (by (repeat (first | exact List.Sublist.refl _ | apply List.Sublist.cons))) | exact St.old0 hW (by assumption))) rfl rfl rfl (by rfl) (by intro _; rfl) (by (first | assumption | exact get_lt (by first | omega | (simp; omega)))) (by rfl) | exact a_loadG (vs := [_, _, _]) rfl (by (first | exact St.rdx hW (by (repeat (first | exact Ix.here | apply Ix.there))) | exact Reads.at (by assumption) hW (by (repeat (first | exact List.Sublist.refl _ | apply List.Sublist.cons))) | exact St.old0 hW (by assumption))) rfl rfl rfl (by rfl) (by intro _; rfl) (by (first | assumption | exact get_lt (by first | omega | (simp; omega)))) (by rfl) | exact a_loadG (vs := [_, _, _, _]) rfl (by (first | exact St.rdx hW (by (repeat (first | exact Ix.here | apply Ix.there))) | exact Reads.at (by assumption) hW (by (repeat (first | exact List.Sublist.refl _ | apply List.Sublist.cons))) | exact St.old0 hW (by assumption))) rfl rfl rfl (by rfl) (by intro _; rfl) (by (first | assumption | exact get_lt (by first | omega | (simp; omega)))) (by rfl) | exact a_loadG (vs := [_, _, _, _, _]) rfl (by (first | exact St.rdx hW (by (repeat (first | exact Ix.here | apply Ix.there))) | exact Reads.at (by assumption) hW (by (repeat (first | exact List.Sublist.refl _ | apply List.Sublist.cons))) | exact St.old0 hW (by assumption))) rfl rfl rfl (by rfl) (by intro _; rfl) (by (first | assumption | exact get_lt (by first | omega | (simp; omega)))) (by rfl) | exact a_loadR hW rfl rfl rfl rfl (by (repeat (first | exact Ix.here | apply Ix.there))) (by rfl))) (h : Calm P S w0 M ops Kq rest (a.put o.dst v)) : Calm P S w0 M ops Kq (o :: rest) a := ⟨wq_run hw hr h.out⟩
theorem Calm.idx (hw : Region.wanted o (yielded ops a.tmps) = true) (hr : ∀ W, St S w0 W M → (execOp a.eval o).run P W = .ok (.value v) W := by intro W hW; (first | exact a_indexI 0 hW rfl rfl rfl rfl rfl (by rfl) (by omega) (by omega) | exact a_indexI 1 hW rfl rfl rfl rfl rfl (by rfl) (by omega) (by omega) | exact a_indexI 2 hW rfl rfl rfl rfl rfl (by rfl) (by omega) (by omega) | exact a_indexI 3 hW rfl rfl rfl rfl rfl (by rfl) (by omega) (by omega) | exact a_indexI 4 hW rfl rfl rfl rfl rfl (by rfl) (by omega) (by omega) | exact a_indexI 5 hW rfl rfl rfl rfl rfl (by rfl) (by omega) (by omega) | exact a_indexI 6 hW rfl rfl rfl rfl rfl (by rfl) (by omega) (by omega) | exact a_indexI 7 hW rfl rfl rfl rfl rfl (by rfl) (by omega) (by omega) | exact a_indexI 8 hW rfl rfl rfl rfl rfl (by rfl) (by omega) (by omega) | exact a_indexI 9 hW rfl rfl rfl rfl rfl (by rfl) (by omega) (by omega) | exact a_index rfl rfl rfl rfl (by (first | exact St.rdx hW (by (repeat (first | exact Ix.here | apply Ix.there))) | exact Reads.at (by assumption) hW (by (repeat (first | exact List.Sublist.refl _ | apply List.Sublist.cons))) | exact St.old0 hW (by assumption))) (by rfl) (by omega) (by omega))) (h : Calm P S w0 M ops Kq rest (a.put o.dst v)) : Calm P S w0 M ops Kq (o :: rest) a := ⟨wq_run hw hr h.out⟩
theorem Calm.len (hw : Region.wanted o (yielded ops a.tmps) = true) (hr : ∀ W, St S w0 W M → (execOp a.eval o).run P W = .ok (.value v) W := by intro W hW; exact a_len rfl rfl rfl (by (first | exact St.rdx hW (by (repeat (first | exact Ix.here | apply Ix.there))) | exact Reads.at (by assumption) hW (by (repeat (first | exact List.Sublist.refl _ | apply List.Sublist.cons))) | exact St.old0 hW (by assumption)))) (h : Calm P S w0 M ops Kq rest (a.put o.dst v)) : Calm P S w0 M ops Kq (o :: rest) a := ⟨wq_run hw hr h.out⟩
theorem Calm.fld (hw : Region.wanted o (yielded ops a.tmps) = true) (hr : ∀ W, St S w0 W M → (execOp a.eval o).run P W = .ok (.value v) W := by intro W hW; exact a_field rfl rfl (by (first | exact St.rdx hW (by (repeat (first | exact Ix.here | apply Ix.there))) | exact Reads.at (by assumption) hW (by (repeat (first | exact List.Sublist.refl _ | apply List.Sublist.cons))) | exact St.old0 hW (by assumption))) (by omega) rfl rfl rfl (by rfl)) (h : Calm P S w0 M ops Kq rest (a.put o.dst v)) : Calm P S w0 M ops Kq (o :: rest) a := ⟨wq_run hw hr h.out⟩
theorem Calm.call {f : FuncId} {args : Array Value} (hc : CalmC P S w0 M f args v) (hw : Region.wanted o (yielded ops a.tmps) = true) (hr : ∀ W, (execOp a.eval o).run P W = .ok (.enter f args) W := by intro W; go_simp) (h : Calm P S w0 M ops Kq rest (a.put o.dst v)) : Calm P S w0 M ops Kq (o :: rest) a := ⟨wq_call hw hr hc h.out⟩
theorem Calm.nil (h : Kq a) : Calm P S w0 M ops Kq [] a := ⟨wpQuiet_nil h⟩
end

/-- .. and operation m, for which every other one must have come up, may change whatever it likes. -/
def wpAnyE (P : Program) (md : Region.Mode) (ops : Array Oper) (Q : Exit → Act → World → Prop) (C : World → Prop) (m : Nat) : Nat → Array Bool → Act → World → Prop
  | 0, listed, a, w => Region.ready md ops listed = [] ∧ Q .normal a w
  | fuel + 1, listed, a, w =>
    (Region.ready md ops listed = [] → Q .normal a w) ∧
    ∀ i ∈ Region.ready md ops listed, wpOp P ops Q i (fun a' w' => (i ≠ m → C w') ∧ wpAnyE P md ops Q C m fuel (listed.setIfInBounds i true) a' w') a w
theorem wpAny_of_end {m : Nat} : ∀ (fuel : Nat) (listed : Array Bool) (a : Act) (w : World), wpAnyE P md ops Q C m fuel listed a w → wpAny P md ops Q fuel listed a w
  | 0, _, _, _, h => h
  | fuel + 1, _, _, _, h => ⟨h.1, fun i hi => wpOp_mono (fun a' w' h' => wpAny_of_end fuel _ a' w' h'.2) (h.2 i hi)⟩
/-- Operation m waits for i. -/
def waits (md : Region.Mode) (ops : Array Oper) (m i : Nat) : Bool := match ops[m]? with | some o => o.after.any (fun e => Region.binds md e && (e.on == i)) | none => true
theorem wpAnyE_first {m i : Nat} {oi : Oper} {v : Value} (hi : ops[i]? = some oi) (hsel : ∀ (j : Nat) (o : Oper) cs b, ops[j]? = some o → o.op ≠ .select cs b)
    (hQ : ∀ c a w, Q (.panic c) (a.put oi.dst v) w → Q (.panic c) a w) (hw : waits md ops m i = true) :
    ∀ (fuel : Nat) (listed : Array Bool) (a : Act) (w : World),
      (∀ j oj, ops[j]? = some oj → j ≠ i → listed.getD j true = false → (∀ e ∈ oj.after, Region.binds md e = true → e.on ≠ i) → oi.apart ops oj = true) →
      i ∈ Region.ready md ops listed → YieldsIf P ops C oi v a → C w →
      wpAnyE P md ops Q C m fuel (listed.setIfInBounds i true) (a.put oi.dst v) w → wpAnyE P md ops Q C m (fuel + 1) listed a w := by
  intro fuel
  induction fuel with
  | zero =>
    intro listed a w _ hr hy hS H
    refine ⟨fun h => (by rw [h] at hr; cases hr), fun j hj => ?_⟩
    by_cases hji : j = i
    · subst hji; exact hy.wpOp hi hS ⟨fun _ => hS, H⟩
    · have := ready_mono hj hji
      rw [H.1] at this
      cases this
  | succ fuel ih =>
    intro listed a w hfree hr hy hS H
    refine ⟨fun h => (by rw [h] at hr; cases hr), fun j hj => ?_⟩
    by_cases hji : j = i
    · subst hji; exact hy.wpOp hi hS ⟨fun _ => hS, H⟩
    · have h1 := H.2 j (ready_mono hj hji)
      obtain ⟨hjun, oj, hoj, hall⟩ := mem_ready.1 hj
      have hnot : ∀ e ∈ oj.after, Region.binds md e = true → e.on ≠ i := fun e he hb heq => by
        have h1 := hall e he hb
        have h0 := (mem_ready.1 hr).1
        rw [heq] at h1
        rcases Nat.lt_or_ge i listed.size with h' | h'
        · simp [h'] at h0 h1; rw [h0] at h1; cases h1
        · simp [Array.getElem?_eq_none h'] at h1
      have hjm : j ≠ m := by
        intro hjm
        subst hjm
        unfold waits at hw
        rw [hoj] at hw
        obtain ⟨e, he, hb⟩ := Array.any_eq_true'.1 hw
        rw [Bool.and_eq_true] at hb
        exact hnot e he hb.1 (by simpa using hb.2)
      have h2 := wpOp_putIf hoj (hfree j oj hoj hji hjun hnot) (fun cs b => hsel i oi cs b hi) (fun cs b => hsel j oj cs b hoj) hQ hy h1
      have hfree' : ∀ k ok, ops[k]? = some ok → k ≠ i → (listed.setIfInBounds j true).getD k true = false →
          (∀ e ∈ ok.after, Region.binds md e = true → e.on ≠ i) → oi.apart ops ok = true := fun k ok hk hki hun hno => by
        refine hfree k ok hk hki ?_ hno
        by_cases hjk : j = k
        · subst hjk; exact hjun
        · rw [getD_set_ne true hjk] at hun; exact hun
      refine wpOp_mono (fun a' w' h3 => ⟨fun _ => h3.2.1 hjm, ih (listed.setIfInBounds j true) a' w' hfree' (ready_mono hr (Ne.symm hji)) h3.1 (h3.2.1 hjm) ?_⟩) h2
      rw [Array.setIfInBounds_comm _ _ hji]
      exact h3.2.2
theorem we_take {m : Nat} (i : Nat) {d : Nat} {fuel : Nat} {listed : Array Bool} {v : Value} (hi : ops[i]? = some o) (hd : o.dst = some d) (hs : Region.noSelect ops = true) (hf : Region.free md ops listed i = true) (hr : (Region.ready md ops listed).contains i = true)
    (hQ : ∀ c a w, Q (.panic c) (a.put o.dst v) w → Q (.panic c) a w) (hm : waits md ops m i = true) (hw : Region.wanted o (yielded ops a.tmps) = true) (hy : ∀ W, C W → (execOp a.eval o).run P W = .ok (.value v) W) (hC : C w)
    (h : wpAnyE P md ops Q C m fuel (listed.setIfInBounds i true) (a.put (some d) v) w) : wpAnyE P md ops Q C m (fuel + 1) listed a w :=
  wpAnyE_first hi (Region.noSelect_spec hs) hQ hm fuel listed a w (Region.free_spec hi hf) (by simpa using hr) (.inl ⟨hw, hy⟩) hC (by rw [hd]; exact h)
theorem we_skip {m : Nat} (i : Nat) {d : Nat} {fuel : Nat} {listed : Array Bool} (hi : ops[i]? = some o) (hd : o.dst = some d) (hs : Region.noSelect ops = true) (hf : Region.free md ops listed i = true) (hr : (Region.ready md ops listed).contains i = true)
    (hQ : ∀ c a w, Q (.panic c) (a.put o.dst undef) w → Q (.panic c) a w) (hm : waits md ops m i = true) (hw : Region.wanted o (yielded ops a.tmps) = false) (hC : C w)
    (h : wpAnyE P md ops Q C m fuel (listed.setIfInBounds i true) (a.put (some d) undef) w) : wpAnyE P md ops Q C m (fuel + 1) listed a w :=
  wpAnyE_first hi (Region.noSelect_spec hs) hQ hm fuel listed a w (Region.free_spec hi hf) (by simpa using hr) (.inr ⟨hw, rfl⟩) hC (by rw [hd]; exact h)
theorem we_all {m : Nat} {rs : List Nat} {fuel : Nat} {listed : Array Bool} (hr : Region.ready md ops listed = rs) (hne : rs ≠ [])
    (h : ∀ i ∈ rs, wpOp P ops Q i (fun a' w' => (i ≠ m → C w') ∧ wpAnyE P md ops Q C m fuel (listed.setIfInBounds i true) a' w') a w) : wpAnyE P md ops Q C m (fuel + 1) listed a w :=
  ⟨fun h0 => absurd (hr ▸ h0) hne, hr ▸ h⟩
theorem we_done {m : Nat} {listed : Array Bool} (hr : Region.ready md ops listed = []) (h : Q .normal a w) : ∀ fuel, wpAnyE P md ops Q C m fuel listed a w
  | 0 => ⟨hr, h⟩
  | _ + 1 => ⟨fun _ => h, by rw [hr]; simp⟩
/-- What A tells may change, and the last operation (number m) may change all. -/
theorem region_end (m : Nat) (A M : List Ent) {id : Nat} (hS : St S w0 w (A ++ M)) (hm : P.follows .mixedOrders = true)
    (h : ∀ F w1, (∀ w', Mod F w1 w' → St S w0 w' M) → (∀ w' B, St F w1 w' B → St S w0 w' (B ++ M)) → St F w1 w1 A →
      wpAnyE P .any ops Q (fun W => Mod F w1 W) m ops.size (Array.replicate ops.size false) a w1) : (Code.region id ops true).wp P Q a w := by
  obtain ⟨F, h1, h2, h3⟩ := St.split hS.drew
  exact wp_region_any hm (wpAny_of_end _ _ _ _ (h F w.drew h2 h3 h1))
/-- Nothing that is known changes but by the last operation. -/
theorem region_end0 (m : Nat) {id : Nat} (hS : St S w0 w M) (hm : P.follows .mixedOrders = true)
    (h : ∀ w1, (∀ w', Mod [] w1 w' → St S w0 w' M) → (∀ w' B, St [] w1 w' B → St S w0 w' (B ++ M)) → St [] w1 w1 [] →
      wpAnyE P .any ops Q (fun W => Mod [] w1 W) m ops.size (Array.replicate ops.size false) a w1) : (Code.region id ops true).wp P Q a w :=
  wp_region_any hm (wpAny_of_end _ _ _ _ (h w.drew (fun _ h => hS.drew.same h) (fun _ _ h => hS.drew.call h) (St.init _)))
end
end Go.Cmp
