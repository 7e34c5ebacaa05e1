/-
  Lemmas that hold for every program: a region that draws its order, in which calls that only make memory are taken first.
-/
import Derived.Test.YtnjboimjlbgdiaaGen
set_option linter.unusedSimpArgs false
set_option linter.unusedVariables false
set_option linter.unusedSectionVars false
set_option maxRecDepth 100000
namespace Go.Cmp
open Go.RowKit
section
variable {P : Program} {md : Region.Mode} {ops : Array Oper} {a : Act} {Q : Exit → Act → World → Prop} {w w0 : World} {S : List Nat} {M : List Ent} {C : World → Prop} {o : Oper}
/-- Behind each operation the world may drift: memory may be made. -/
def wpAnyD (P : Program) (md : Region.Mode) (ops : Array Oper) (Q : Exit → Act → World → Prop) (C : World → Prop) (m : Nat) : Nat → Array Bool → Act → World → Prop
  | 0, listed, a, w => Region.ready md ops listed = [] ∧ Q .normal a w
  | fuel + 1, listed, a, w =>
    (Region.ready md ops listed = [] → Q .normal a w) ∧
    ∀ i ∈ Region.ready md ops listed, wpOp P ops Q i (fun a' w' => (i ≠ m → C w') ∧ ∀ w3, Mod [] w' w3 → wpAnyD P md ops Q C m fuel (listed.setIfInBounds i true) a' w3) a w
structure Drift (P : Program) (md : Region.Mode) (ops : Array Oper) (Q : Exit → Act → World → Prop) (C : World → Prop) (m fuel : Nat) (listed : Array Bool) (a : Act) (w : World) : Prop where
  out : ∀ w3, Mod [] w w3 → wpAnyD P md ops Q C m fuel listed a w3
theorem wpAny_of_drift {m : Nat} : ∀ (fuel : Nat) (listed : Array Bool) (a : Act) (w : World), wpAnyD P md ops Q C m fuel listed a w → wpAny P md ops Q fuel listed a w
  | 0, _, _, _, h => h
  | fuel + 1, _, _, _, h => ⟨h.1, fun i hi => wpOp_mono (fun a' w' h' => wpAny_of_drift fuel _ a' w' (h'.2 w' (Mod.refl _ _))) (h.2 i hi)⟩
/-- What an operation does in every world that meets C: it reads, or it calls what only makes memory; or it is skipped. -/
def Quiet1 (P : Program) (ops : Array Oper) (C : World → Prop) (o : Oper) (v : Value) (a : Act) : Prop :=
  (Region.wanted o (yielded ops a.tmps) = true ∧ ∀ W, C W → (execOp a.eval o).run P W = .ok (.value v) W ∨ ∃ f args, (execOp a.eval o).run P W = .ok (.enter f args) W ∧ Calls P f args W fun e w' => e = .returned v ∧ Mod [] W w') ∨
  (Region.wanted o (yielded ops a.tmps) = false ∧ v = undef)
theorem Quiet1.of_same {v : Value} {a a' : Act} (hy : Quiet1 P ops C o v a) (he : execOp a'.eval o = execOp a.eval o) (hw : Region.wanted o (yielded ops a'.tmps) = Region.wanted o (yielded ops a.tmps)) : Quiet1 P ops C o v a' := by
  unfold Quiet1 at *
  rw [he, hw]
  exact hy
theorem Quiet1.wpOp {i : Nat} {v : Value} (hi : ops[i]? = some o) (hy : Quiet1 P ops C o v a) {K : Act → World → Prop} (hC : C w) (h : ∀ w', Mod [] w w' → K (a.put o.dst v) w') : Go.wpOp P ops Q i K a w := by
  unfold Go.wpOp
  simp only [hi]
  rcases hy with ⟨hw, hv⟩ | ⟨hw, rfl⟩
  · simp only [hw, if_true]
    refine .inl ?_
    rcases hv w hC with hv | ⟨f, args, hv, hc⟩
    · simp only [Oper.wp, hv, Oper.upon]
      exact h w (Mod.refl _ _)
    · refine wp_call hv hc ?_
      rintro e w' ⟨rfl, hm⟩
      exact ⟨v, rfl, h w' hm⟩
  · simp only [hw, Bool.false_eq_true, if_false]
    exact h w (Mod.refl _ _)
/-- An operation apart from another one, whose value may already be there; Y does not see it. -/
theorem wpOp_putY {Y : Act → Prop} {j : Nat} {oi oj : Oper} {v : Value} (hj : ops[j]? = some oj) (hap : oi.apart ops oj = true)
    (keep : ∀ a, Y a → ∀ u, Y (a.put oj.dst u)) (keepD : ∀ (a : Act) d, Y a → Y { a with defers := d :: a.defers }) (hsj : ∀ cs b, oj.op ≠ .select cs b)
    (hQ : ∀ c a w, Q (.panic c) (a.put oi.dst v) w → Q (.panic c) a w) {K : Act → World → Prop} {a : Act} {w : World}
    (hy : Y a) (h : wpOp P ops Q j K (a.put oi.dst v) w) :
    wpOp P ops Q j (fun a' w' => Y a' ∧ K (a'.put oi.dst v) w') a w := by
  obtain ⟨h1, h2, _⟩ := Oper.apart_spec hap
  unfold wpOp at *
  simp only [hj] at *
  rw [wanted_put oj a oi.dst v h1] at h
  split
  · rename_i hw
    simp only [hw, if_true] at h
    rcases h with h | ⟨hasks, hlets⟩
    case inr => exact .inr ⟨by unfold Oper.asks at *; rw [execOp_put oj hsj a oi.dst v h1] at hasks; exact hasks, hlets⟩
    refine .inl ?_
    unfold Oper.wp at *
    rw [execOp_put oj hsj a oi.dst v h1] at h
    generalize (execOp a.eval oj).run P w = r at *
    cases r with
    | ok n w' =>
      cases n <;> simp only [Oper.upon] at h ⊢
      case value u => exact ⟨keep a hy u, by rw [← Act.put_comm a v u h2]; exact h⟩
      case skip => exact ⟨keep a hy _, by rw [← Act.put_comm a v undef h2]; exact h⟩
      case defer d =>
        refine ⟨keep _ (keepD _ d hy) _, ?_⟩
        rw [← Act.put_comm _ v undef h2, ← Act.put_defers]
        exact h
      case enter f args =>
        refine Calls.mono h fun e w'' he => ?_
        cases e with
        | returned u => exact ⟨keep a hy u, by rw [← Act.put_comm a v u h2]; exact he⟩
        | panicked c => exact hQ _ _ _ he
        | outgrown => exact he
      case row row args => exact Rows.mono h fun u w'' he => ⟨keep a hy u, by rw [← Act.put_comm a v u h2]; exact he⟩
    | halt x w' =>
      cases x <;> simp only [Oper.upon] at h ⊢
      case panic u => exact hQ _ _ _ h
  · rename_i hw
    simp only [hw] at h
    exact ⟨keep a hy _, by rw [← Act.put_comm a v undef h2]; exact h⟩
theorem drift_first {m i : Nat} {oi : Oper} {v : Value} (hCm : ∀ W W', C W → Mod [] W W' → C W') (hi : ops[i]? = some oi) (hsel : ∀ (j : Nat) (o : Oper) cs b, ops[j]? = some o → o.op ≠ .select cs b)
    (hQ : ∀ c a w, Q (.panic c) (a.put oi.dst v) w → Q (.panic c) a w) (hw : waits md ops m i = true) :
    ∀ (fuel : Nat) (listed : Array Bool) (a : Act) (w : World),
      (∀ j oj, ops[j]? = some oj → j ≠ i → listed.getD j true = false → (∀ e ∈ oj.after, Region.binds md e = true → e.on ≠ i) → oi.apart ops oj = true) →
      i ∈ Region.ready md ops listed → Quiet1 P ops C oi v a → C w →
      Drift P md ops Q C m fuel (listed.setIfInBounds i true) (a.put oi.dst v) w → wpAnyD P md ops Q C m (fuel + 1) listed a w := by
  intro fuel
  induction fuel with
  | zero =>
    intro listed a w _ hr hy hS H
    refine ⟨fun h => (by rw [h] at hr; cases hr), fun j hj => ?_⟩
    by_cases hji : j = i
    · subst hji; exact hy.wpOp hi hS fun w' hm => ⟨fun _ => hCm _ _ hS hm, fun w3 h3 => H.out w3 (hm.trans h3)⟩
    · have := ready_mono hj hji
      rw [(H.out w (Mod.refl _ _)).1] at this
      cases this
  | succ fuel ih =>
    intro listed a w hfree hr hy hS H
    refine ⟨fun h => (by rw [h] at hr; cases hr), fun j hj => ?_⟩
    by_cases hji : j = i
    · subst hji; exact hy.wpOp hi hS fun w' hm => ⟨fun _ => hCm _ _ hS hm, fun w3 h3 => H.out w3 (hm.trans h3)⟩
    · have h1 := (H.out w (Mod.refl _ _)).2 j (ready_mono hj hji)
      obtain ⟨hjun, oj, hoj, hall⟩ := mem_ready.1 hj
      have hnot : ∀ e ∈ oj.after, Region.binds md e = true → e.on ≠ i := fun e he hb heq => by
        have h1 := hall e he hb
        have h0 := (mem_ready.1 hr).1
        rw [heq] at h1
        rcases Nat.lt_or_ge i listed.size with h' | h'
        · simp [h'] at h0 h1; rw [h0] at h1; cases h1
        · simp [Array.getElem?_eq_none h'] at h1
      have hjm : j ≠ m := by
        intro hjm
        subst hjm
        unfold waits at hw
        rw [hoj] at hw
        obtain ⟨e, he, hb⟩ := Array.any_eq_true'.1 hw
        rw [Bool.and_eq_true] at hb
        exact hnot e he hb.1 (by simpa using hb.2)
      have hap := hfree j oj hoj hji hjun hnot
      obtain ⟨_, _, h3⟩ := Oper.apart_spec hap
      have h2 := wpOp_putY (Y := Quiet1 P ops C oi v) hoj hap (fun a hy u => hy.of_same (execOp_put oi (fun cs b => hsel i oi cs b hi) a oj.dst u h3) (wanted_put oi a oj.dst u h3)) (fun a d hy => hy.of_same rfl rfl) (fun cs b => hsel j oj cs b hoj) hQ hy h1
      have hfree' : ∀ k ok, ops[k]? = some ok → k ≠ i → (listed.setIfInBounds j true).getD k true = false →
          (∀ e ∈ ok.after, Region.binds md e = true → e.on ≠ i) → oi.apart ops ok = true := fun k ok hk hki hun hno => by
        refine hfree k ok hk hki ?_ hno
        by_cases hjk : j = k
        · subst hjk; exact hjun
        · rw [getD_set_ne true hjk] at hun; exact hun
      refine wpOp_mono (fun a' w' h3 => ⟨fun _ => h3.2.1 hjm, fun w3 hm => ih (listed.setIfInBounds j true) a' w3 hfree' (ready_mono hr (Ne.symm hji)) h3.1 (hCm _ _ (h3.2.1 hjm) hm) ⟨fun w4 hm4 => ?_⟩⟩) h2
      rw [Array.setIfInBounds_comm _ _ hji]
      exact h3.2.2 w4 (hm.trans hm4)
section
variable {F : List Nat} {w1 : World} {m : Nat}
theorem d_take (i : Nat) {d : Nat} {fuel : Nat} {listed : Array Bool} {v : Value} (hi : ops[i]? = some o) (hd : o.dst = some d) (hs : Region.noSelect ops = true) (hf : Region.free md ops listed i = true) (hr : (Region.ready md ops listed).contains i = true)
    (hQ : ∀ c a w, Q (.panic c) (a.put o.dst v) w → Q (.panic c) a w) (hm : waits md ops m i = true) (hw : Region.wanted o (yielded ops a.tmps) = true) (hy : ∀ W, Mod F w1 W → (execOp a.eval o).run P W = .ok (.value v) W) (hC : Mod F w1 w)
    (h : Drift P md ops Q (fun W => Mod F w1 W) m fuel (listed.setIfInBounds i true) (a.put (some d) v) w) : Drift P md ops Q (fun W => Mod F w1 W) m (fuel + 1) listed a w :=
  ⟨fun w3 h3 => drift_first (fun _ _ h k => h.trans k.nil) hi (Region.noSelect_spec hs) hQ hm fuel listed a w3 (Region.free_spec hi hf) (by simpa using hr) (.inl ⟨hw, fun W hW => .inl (hy W hW)⟩) (hC.trans h3.nil) (by rw [hd]; exact ⟨fun w4 h4 => h.out w4 (h3.trans h4)⟩)⟩
theorem d_skip (i : Nat) {d : Nat} {fuel : Nat} {listed : Array Bool} (hi : ops[i]? = some o) (hd : o.dst = some d) (hs : Region.noSelect ops = true) (hf : Region.free md ops listed i = true) (hr : (Region.ready md ops listed).contains i = true)
    (hQ : ∀ c a w, Q (.panic c) (a.put o.dst undef) w → Q (.panic c) a w) (hm : waits md ops m i = true) (hw : Region.wanted o (yielded ops a.tmps) = false) (hC : Mod F w1 w)
    (h : Drift P md ops Q (fun W => Mod F w1 W) m fuel (listed.setIfInBounds i true) (a.put (some d) undef) w) : Drift P md ops Q (fun W => Mod F w1 W) m (fuel + 1) listed a w :=
  ⟨fun w3 h3 => drift_first (fun _ _ h k => h.trans k.nil) hi (Region.noSelect_spec hs) hQ hm fuel listed a w3 (Region.free_spec hi hf) (by simpa using hr) (.inr ⟨hw, rfl⟩) (hC.trans h3.nil) (by rw [hd]; exact ⟨fun w4 h4 => h.out w4 (h3.trans h4)⟩)⟩
theorem d_call (i : Nat) {d : Nat} {fuel : Nat} {listed : Array Bool} {v : Value} {f : FuncId} {args : Array Value} (hi : ops[i]? = some o) (hd : o.dst = some d) (hs : Region.noSelect ops = true) (hf : Region.free md ops listed i = true) (hr : (Region.ready md ops listed).contains i = true)
    (hQ : ∀ c a w, Q (.panic c) (a.put o.dst v) w → Q (.panic c) a w) (hm : waits md ops m i = true) (hw : Region.wanted o (yielded ops a.tmps) = true) (hy : ∀ W, (execOp a.eval o).run P W = .ok (.enter f args) W) (hC : Mod F w1 w)
    (hc : ∀ W, Mod F w1 W → Calls P f args W fun e w' => e = .returned v ∧ St [] W w' [])
    (h : Drift P md ops Q (fun W => Mod F w1 W) m fuel (listed.setIfInBounds i true) (a.put (some d) v) w) : Drift P md ops Q (fun W => Mod F w1 W) m (fuel + 1) listed a w :=
  ⟨fun w3 h3 => drift_first (fun _ _ h k => h.trans k.nil) hi (Region.noSelect_spec hs) hQ hm fuel listed a w3 (Region.free_spec hi hf) (by simpa using hr) (.inl ⟨hw, fun W hW => .inr ⟨f, args, hy W, (hc W hW).mono fun e w' k => ⟨k.1, k.2.base⟩⟩⟩) (hC.trans h3.nil) (by rw [hd]; exact ⟨fun w4 h4 => h.out w4 (h3.trans h4)⟩)⟩
theorem d_all {rs : List Nat} {fuel : Nat} {listed : Array Bool} (hr : Region.ready md ops listed = rs) (hne : rs ≠ [])
    (h : ∀ w, Mod [] w0 w → ∀ i ∈ rs, wpOp P ops Q i (fun a' w' => (i ≠ m → Mod F w1 w') ∧ Drift P md ops Q (fun W => Mod F w1 W) m fuel (listed.setIfInBounds i true) a' w') a w) : Drift P md ops Q (fun W => Mod F w1 W) m (fuel + 1) listed a w0 :=
  ⟨fun w3 h3 => ⟨fun h0 => absurd (hr ▸ h0) hne, hr ▸ fun i hi => wpOp_mono (fun _ _ k => ⟨k.1, k.2.out⟩) (h w3 h3 i hi)⟩⟩
theorem d_done {listed : Array Bool} (hr : Region.ready md ops listed = []) (h : ∀ w', Mod [] w w' → Q .normal a w') (fuel : Nat) : Drift P md ops Q C m fuel listed a w :=
  ⟨fun w3 h3 => match fuel with
    | 0 => ⟨hr, h w3 h3⟩
    | _ + 1 => ⟨fun _ => h w3 h3, by rw [hr]; simp⟩⟩
/-- What A tells may change, and the last operation (number m) may change all. -/
theorem region_drift (m : Nat) (A M : List Ent) {id : Nat} (hS : St S w0 w (A ++ M)) (hm : P.follows .mixedOrders = true)
    (h : ∀ F w1, (∀ w', Mod F w1 w' → St S w0 w' M) → (∀ w' B, St F w1 w' B → St S w0 w' (B ++ M)) → St F w1 w1 A →
      Drift P .any ops Q (fun W => Mod F w1 W) m ops.size (Array.replicate ops.size false) a w1) : (Code.region id ops true).wp P Q a w := by
  obtain ⟨F, h1, h2, h3⟩ := St.split hS.drew
  exact wp_region_any hm (wpAny_of_drift _ _ _ _ ((h F w.drew h2 h3 h1).out _ (Mod.refl _ _)))
/-- Nothing that is known changes but by the last operation. -/
theorem region_drift0 (m : Nat) {id : Nat} (hS : St S w0 w M) (hm : P.follows .mixedOrders = true)
    (h : ∀ w1, (∀ w', Mod [] w1 w' → St S w0 w' M) → (∀ w' B, St [] w1 w' B → St S w0 w' (B ++ M)) → St [] w1 w1 [] →
      Drift P .any ops Q (fun W => Mod [] w1 W) m ops.size (Array.replicate ops.size false) a w1) : (Code.region id ops true).wp P Q a w :=
  wp_region_any hm (wpAny_of_drift _ _ _ _ ((h w.drew (fun _ h => hS.drew.same h) (fun _ _ h => hS.drew.call h) (St.init _)).out _ (Mod.refl _ _)))
end
end
end Go.Cmp
