/-
  Lemmas that hold for every program: a region that draws its order, of which all worlds tell the same entries.
-/
import Derived.Test.YtjjiibcnknljfaaGreatGen
set_option linter.unusedSimpArgs false
set_option linter.unusedVariables false
set_option linter.unusedSectionVars false
set_option maxRecDepth 100000
namespace Go.Cmp
open Go.RowKit
/-- What an operation writes, looks at, waits for. -/
def smOf (ops : Array Oper) (o : Oper) : Option Nat × List Nat × List Nat := (o.dst, o.looksAt ops, (o.after.toList.filter (fun e => Region.binds .any e)).map (fun e => e.on))
def apart2 (x y : Option Nat × List Nat × List Nat) : Bool :=
  (match x.1 with | some d => !(y.2.1.contains d) && y.1 != some d | none => true) && (match y.1 with | some d => !(x.2.1.contains d) | none => true)
theorem apart2_eq (ops : Array Oper) (x y : Oper) : apart2 (smOf ops x) (smOf ops y) = x.apart ops y := rfl
def free2go (x : Option Nat × List Nat × List Nat) (i : Nat) : Nat → List (Option Nat × List Nat × List Nat) → List Bool → Bool
  | j, y :: T, b :: L => (b || j == i || y.2.2.contains i || apart2 x y) && free2go x i (j + 1) T L
  | _, _, _ => true
theorem free2go_spec (x : Option Nat × List Nat × List Nat) (i : Nat) : ∀ (T : List (Option Nat × List Nat × List Nat)) (L : List Bool) (j : Nat), free2go x i j T L = true → ∀ k y, T[k]? = some y → L.getD k true = true ∨ j + k = i ∨ y.2.2.contains i = true ∨ apart2 x y = true
  | [], _, _, _, k, y, hk => by simp at hk
  | _ :: _, [], _, _, k, y, _ => .inl (by simp)
  | z :: T, b :: L, j, h, 0, y, hk => by
    simp only [List.getElem?_cons_zero, Option.some.injEq] at hk
    subst hk
    unfold free2go at h
    rw [Bool.and_eq_true, Bool.or_eq_true, Bool.or_eq_true, Bool.or_eq_true] at h
    rcases h.1 with ((h | h) | h) | h
    · exact .inl (by simpa using h)
    · exact .inr (.inl (by simpa using h))
    · exact .inr (.inr (.inl h))
    · exact .inr (.inr (.inr h))
  | z :: T, b :: L, j, h, k + 1, y, hk => by
    simp only [List.getElem?_cons_succ] at hk
    unfold free2go at h
    rw [Bool.and_eq_true] at h
    have := free2go_spec x i T L (j + 1) h.2 k y hk
    rw [show j + 1 + k = j + (k + 1) by omega] at this
    simpa using this
def free2 (T : List (Option Nat × List Nat × List Nat)) (L : List Bool) (i : Nat) : Bool := match T[i]? with | none => false | some x => free2go x i 0 T L
theorem free2_spec {l : List Oper} {L : List Bool} {T : List (Option Nat × List Nat × List Nat)} (hT : l.map (smOf l.toArray) = T) {i : Nat} (h : free2 T L i = true) : Region.free .any l.toArray L.toArray i = true := by
  subst hT
  unfold free2 at h
  unfold Region.free
  rw [List.getElem?_map] at h
  rw [List.getElem?_toArray]
  cases hi : l[i]? with
  | none => rw [hi] at h; simp at h
  | some oi =>
    rw [hi] at h
    simp only [Option.map_some] at h
    simp only [List.all_eq_true, List.mem_range]
    intro j hj
    rw [List.getElem?_toArray]
    cases ho : l[j]? with
    | none => simp
    | some oj =>
      have k := free2go_spec _ i _ L 0 h j (smOf l.toArray oj) (by rw [List.getElem?_map, ho]; rfl)
      rw [Nat.zero_add, apart2_eq] at k
      simp only [Bool.or_eq_true, beq_iff_eq]
      rcases k with k | k | k | k
      · exact .inl (.inr (by simpa using k))
      · exact .inl (.inl k)
      · refine .inr (.inl ?_)
        have k := List.contains_iff_mem.1 k
        obtain ⟨e, he, hon⟩ := List.mem_map.1 k
        obtain ⟨h1, h2⟩ := List.mem_filter.1 he
        exact Array.any_eq_true'.2 ⟨e, by simpa using h1, by rw [h2, hon]; simp⟩
      · exact .inr (.inr k)
section
variable {P : Program} {md : Region.Mode} {ops : Array Oper} {a : Act} {Q : Exit → Act → World → Prop} {w w0 : World} {S : List Nat} {M : List Ent} {fuel : Nat} {listed : Array Bool}
theorem held_st {A : List Ent} (hS : St S w0 w A) (h : wpAnyH P md ops Q (fun W => St S w0 W A) fuel listed a w) : wpAnyH P md ops Q (fun W => Mod S w0 W) fuel listed a w :=
  held_mono (fun _ k => k.base) _ _ _ _ h
theorem held_un {α : Type} {p : α → Prop} {l : α → List Ent} (hS : St S w0 w (pack p l :: M)) (h : ∀ x, p x → St S w0 w (l x ++ M) → wpAnyH P md ops Q (fun W => St S w0 W (l x ++ M)) fuel listed a w) : wpAnyH P md ops Q (fun W => St S w0 W (pack p l :: M)) fuel listed a w := by
  obtain ⟨x, hx, h2⟩ := hS.unpack
  exact held_mono (fun W k => St.pack x hx k) _ _ _ _ (h x hx h2)
theorem put_lit {l l' : List Value} {d : Nat} {v : Value} {ds : List Deferred} (h : l.set d v = l') : (⟨l.toArray, ds⟩ : Act).put (some d) v = ⟨l'.toArray, ds⟩ := by
  simp only [Act.put, List.setIfInBounds_toArray, h]
theorem whd_take2 {C : World → Prop} {o : Oper} (i : Nat) {d : Nat} {v : Value} {a' : Act} (hi : ops[i]? = some o) (hd : o.dst = some d) (hs : Region.noSelect ops = true) (hf : Region.free md ops listed i = true) (hr : (Region.ready md ops listed).contains i = true)
    (hQ : ∀ c a w, Q (.panic c) (a.put o.dst v) w → Q (.panic c) a w) (hw : Region.wanted o (yielded ops a.tmps) = true) (hy : ∀ w, C w → (execOp a.eval o).run P w = .ok (.value v) w) (hC : C w) (ha : a.put (some d) v = a')
    (h : wpAnyH P md ops Q C fuel (listed.setIfInBounds i true) a' w) : wpAnyH P md ops Q C (fuel + 1) listed a w :=
  whd_take i hi hd hs hf hr hQ hw hy hC (by rw [ha]; exact h)
theorem whd_take3 {C : World → Prop} {o : Oper} {l : List Oper} {L L' : List Bool} (i : Nat) {d : Nat} {v : Value} {a' : Act} (hi : l[i]? = some o) (hd : o.dst = some d) (hs : Region.noSelect l.toArray = true) (hf : Region.free md l.toArray L.toArray i = true) (hr : (Region.ready md l.toArray L.toArray).contains i = true)
    (hQ : ∀ c a w, Q (.panic c) (a.put o.dst v) w → Q (.panic c) a w) (hw : Region.wanted o (yielded l.toArray a.tmps) = true) (hy : ∀ w, C w → (execOp a.eval o).run P w = .ok (.value v) w) (hC : C w) (ha : a.put (some d) v = a') (hl : L.set i true = L')
    (h : wpAnyH P md l.toArray Q C fuel L'.toArray a' w) : wpAnyH P md l.toArray Q C (fuel + 1) L.toArray a w :=
  whd_take2 i (by simpa using hi) hd hs hf hr hQ hw hy hC ha (by rw [List.setIfInBounds_toArray, hl]; exact h)
theorem whd_take4 {C : World → Prop} {o : Oper} {l : List Oper} {L L' : List Bool} {T : List (Option Nat × List Nat × List Nat)} (i : Nat) {d : Nat} {v : Value} {a' : Act} (hi : l[i]? = some o) (hd : o.dst = some d) (hs : Region.noSelect l.toArray = true) (hT : l.map (smOf l.toArray) = T) (hf : free2 T L i = true) (hL : L[i]? = some false) (haf : (o.after.toList.all fun e => !(Region.binds .any e) || L.getD e.on false) = true)
    (hQ : ∀ c a w, Q (.panic c) (a.put o.dst v) w → Q (.panic c) a w) (hw : Region.wanted o (yielded l.toArray a.tmps) = true) (hy : ∀ w, C w → (execOp a.eval o).run P w = .ok (.value v) w) (hC : C w) (ha : a.put (some d) v = a') (hl : L.set i true = L')
    (h : wpAnyH P .any l.toArray Q C fuel L'.toArray a' w) : wpAnyH P .any l.toArray Q C (fuel + 1) L.toArray a w :=
  whd_take3 i hi hd hs (free2_spec hT hf) (by
    rw [List.contains_iff_mem, mem_ready]
    refine ⟨by simp [hL], o, by simpa using hi, fun e he hb => ?_⟩
    have := List.all_eq_true.1 haf e (by simpa using he)
    rw [hb] at this
    simpa using this) hQ hw hy hC ha hl h
theorem held_tab {C : World → Prop} {l : List Oper} {L : Array Bool} (T : List (Option Nat × List Nat × List Nat)) (h : l.map (smOf l.toArray) = T) (k : RowKit.Hid (l.map (smOf l.toArray) = T) → wpAnyH P md l.toArray Q C fuel L a w) : wpAnyH P md l.toArray Q C fuel L a w := k h
theorem held_lit {C : World → Prop} {n : Nat} (L : List Bool) (h : (Array.replicate n false : Array Bool) = L.toArray) (k : wpAnyH P md ops Q C fuel L.toArray a w) : wpAnyH P md ops Q C fuel (Array.replicate n false) a w := by rw [h]; exact k
theorem held_ns {C : World → Prop} (h : Region.noSelect ops = true) (k : RowKit.Hid (Region.noSelect ops = true) → wpAnyH P md ops Q C fuel listed a w) : wpAnyH P md ops Q C fuel listed a w := k (Lib.hid h)
theorem and_hold {X Y : Prop} (h : X) (k : X → Y) : X ∧ Y := ⟨h, k h⟩
end
end Go.Cmp
