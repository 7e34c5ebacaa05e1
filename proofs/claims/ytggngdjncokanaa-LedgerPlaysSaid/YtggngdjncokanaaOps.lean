/-
  Steps of a walk over a heap told by entries. Every lemma holds for every program.
-/
import Derived.Test.YtggngdjncokanaaBase
import Derived.StillTail
import Derived.Deep.Quiet
import Derived.OrdersHeld
set_option linter.unusedSimpArgs false
set_option linter.unusedVariables false
set_option linter.unusedSectionVars false
namespace Go.Cmp
open Go.RowKit
section
variable {P : Program} {ops : Array Oper} {rest : List Oper} {o : Oper} {a : Act} {K : Act → World → Prop} {Q : Exit → Act → World → Prop} {w w0 : World} {S : List Nat} {M : List Ent}

/-- One operation that yields a value. -/
theorem wl_run {v : Value} {w' : World} (hw : Region.wanted o (yielded ops a.tmps) = true) (hr : (execOp a.eval o).run P w = .ok (.value v) w') (h : wpList P ops Q rest (a.put o.dst v) w') : wpList P ops Q (o :: rest) a w := by
  unfold wpList
  rw [if_pos hw]
  refine .inl ?_
  unfold Oper.wp
  rw [hr]
  exact h
theorem wl_runS {w' : World} (hw : Region.wanted o (yielded ops a.tmps) = true) (hr : (execOp a.eval o).run P w = .ok .skip w') (h : wpList P ops Q rest (a.put o.dst undef) w') : wpList P ops Q (o :: rest) a w := by
  unfold wpList
  rw [if_pos hw]
  refine .inl ?_
  unfold Oper.wp
  rw [hr]
  exact h

theorem wl_guard (h : wpList P ops Q (o :: rest) a w) : wpList P ops Q (o :: rest) a w := h
/-! Guards: they look at the head operation alone. -/
theorem g_alloc {d : Option Tmp} {ty : TypeId} {pos : String} {af : Array Edge} {gd : Option (Nat × Bool)} {e : TypeId} (H : wpList P ops Q (⟨d, .alloc e, ty, pos, af, gd⟩ :: rest) a w) : wpList P ops Q (⟨d, .alloc e, ty, pos, af, gd⟩ :: rest) a w := H
theorem g_box {d : Option Tmp} {ty : TypeId} {pos : String} {af : Array Edge} {gd : Option (Nat × Bool)} {e : TypeId} {v : Operand} (H : wpList P ops Q (⟨d, .box e v, ty, pos, af, gd⟩ :: rest) a w) : wpList P ops Q (⟨d, .box e v, ty, pos, af, gd⟩ :: rest) a w := H
theorem g_load {d : Option Tmp} {ty : TypeId} {pos : String} {af : Array Edge} {gd : Option (Nat × Bool)} {t : TypeId} {x : Operand} (H : wpList P ops Q (⟨d, .load t x, ty, pos, af, gd⟩ :: rest) a w) : wpList P ops Q (⟨d, .load t x, ty, pos, af, gd⟩ :: rest) a w := H
theorem g_store {d : Option Tmp} {ty : TypeId} {pos : String} {af : Array Edge} {gd : Option (Nat × Bool)} {t : TypeId} {x : Operand} {y : Operand} (H : wpList P ops Q (⟨d, .store t x y, ty, pos, af, gd⟩ :: rest) a w) : wpList P ops Q (⟨d, .store t x y, ty, pos, af, gd⟩ :: rest) a w := H
theorem g_index {d : Option Tmp} {ty : TypeId} {pos : String} {af : Array Edge} {gd : Option (Nat × Bool)} {t : TypeId} {x : Operand} {y : Operand} (H : wpList P ops Q (⟨d, .indexAddr t x y, ty, pos, af, gd⟩ :: rest) a w) : wpList P ops Q (⟨d, .indexAddr t x y, ty, pos, af, gd⟩ :: rest) a w := H
theorem g_indexV {d : Option Tmp} {ty : TypeId} {pos : String} {af : Array Edge} {gd : Option (Nat × Bool)} {t : TypeId} {x : Operand} {y : Operand} (H : wpList P ops Q (⟨d, .index t x y, ty, pos, af, gd⟩ :: rest) a w) : wpList P ops Q (⟨d, .index t x y, ty, pos, af, gd⟩ :: rest) a w := H
theorem g_bs {d : Option Tmp} {ty : TypeId} {pos : String} {af : Array Edge} {gd : Option (Nat × Bool)} {t : TypeId} {n : Nat} {ps : Array (Nat × Operand)} (H : wpList P ops Q (⟨d, .buildSlice t n ps, ty, pos, af, gd⟩ :: rest) a w) : wpList P ops Q (⟨d, .buildSlice t n ps, ty, pos, af, gd⟩ :: rest) a w := H
theorem g_len {d : Option Tmp} {ty : TypeId} {pos : String} {af : Array Edge} {gd : Option (Nat × Bool)} {as' : Array Operand} {ts : Array TypeId} (H : wpList P ops Q (⟨d, .call ⟨.builtin .len, as', ts⟩, ty, pos, af, gd⟩ :: rest) a w) : wpList P ops Q (⟨d, .call ⟨.builtin .len, as', ts⟩, ty, pos, af, gd⟩ :: rest) a w := H
theorem g_append {d : Option Tmp} {ty : TypeId} {pos : String} {af : Array Edge} {gd : Option (Nat × Bool)} {as' : Array Operand} {ts : Array TypeId} (H : wpList P ops Q (⟨d, .call ⟨.builtin .append, as', ts⟩, ty, pos, af, gd⟩ :: rest) a w) : wpList P ops Q (⟨d, .call ⟨.builtin .append, as', ts⟩, ty, pos, af, gd⟩ :: rest) a w := H
theorem g_copy {d : Option Tmp} {ty : TypeId} {pos : String} {af : Array Edge} {gd : Option (Nat × Bool)} {as' : Array Operand} {ts : Array TypeId} (H : wpList P ops Q (⟨d, .call ⟨.builtin .copy, as', ts⟩, ty, pos, af, gd⟩ :: rest) a w) : wpList P ops Q (⟨d, .call ⟨.builtin .copy, as', ts⟩, ty, pos, af, gd⟩ :: rest) a w := H
theorem g_call {d : Option Tmp} {ty : TypeId} {pos : String} {af : Array Edge} {gd : Option (Nat × Bool)} {f : Operand} {as' : Array Operand} {ts : Array TypeId} (H : wpList P ops Q (⟨d, .call ⟨.value f, as', ts⟩, ty, pos, af, gd⟩ :: rest) a w) : wpList P ops Q (⟨d, .call ⟨.value f, as', ts⟩, ty, pos, af, gd⟩ :: rest) a w := H
theorem g_cut {d : Option Tmp} {ty : TypeId} {pos : String} {af : Array Edge} {gd : Option (Nat × Bool)} {t : TypeId} {x : Operand} {l : Option Operand} {h : Option Operand} {m : Option Operand} (H : wpList P ops Q (⟨d, .slice t x l h m, ty, pos, af, gd⟩ :: rest) a w) : wpList P ops Q (⟨d, .slice t x l h m, ty, pos, af, gd⟩ :: rest) a w := H
theorem g_conv {d : Option Tmp} {ty : TypeId} {pos : String} {af : Array Edge} {gd : Option (Nat × Bool)} {t : TypeId} {u : TypeId} {x : Operand} (H : wpList P ops Q (⟨d, .convert t u x, ty, pos, af, gd⟩ :: rest) a w) : wpList P ops Q (⟨d, .convert t u x, ty, pos, af, gd⟩ :: rest) a w := H
theorem g_make {d : Option Tmp} {ty : TypeId} {pos : String} {af : Array Edge} {gd : Option (Nat × Bool)} {t : TypeId} {x : Operand} {y : Operand} (H : wpList P ops Q (⟨d, .makeSlice t x y, ty, pos, af, gd⟩ :: rest) a w) : wpList P ops Q (⟨d, .makeSlice t x y, ty, pos, af, gd⟩ :: rest) a w := H
theorem g_field {d : Option Tmp} {ty : TypeId} {pos : String} {af : Array Edge} {gd : Option (Nat × Bool)} {t : TypeId} {x : Operand} {n : Nat} (H : wpList P ops Q (⟨d, .fieldAddr t x n, ty, pos, af, gd⟩ :: rest) a w) : wpList P ops Q (⟨d, .fieldAddr t x n, ty, pos, af, gd⟩ :: rest) a w := H
theorem wl_of (hw : Region.wanted o (yielded ops a.tmps) = true) (h : o.wp P a w (wpList P ops Q rest) Q) : wpList P ops Q (o :: rest) a w := by
  unfold wpList
  rw [if_pos hw]
  exact .inl h
theorem wo_of {i : Nat} (hi : ops[i]? = some o) (hw : Region.wanted o (yielded ops a.tmps) = true) (h : o.wp P a w K Q) : wpOp P ops Q i K a w := by
  unfold wpOp
  simp only [hi]
  rw [if_pos hw]
  exact .inl h
theorem wp_run {v : Value} {w' : World} (hr : (execOp a.eval o).run P w = .ok (.value v) w') (h : K (a.put o.dst v) w') : o.wp P a w K Q := by
  unfold Oper.wp
  rw [hr]
  exact h
theorem wp_runS {w' : World} (hr : (execOp a.eval o).run P w = .ok .skip w') (h : K (a.put o.dst undef) w') : o.wp P a w K Q := by
  unfold Oper.wp
  rw [hr]
  exact h
/-- A call of a function, met by its contract. -/
theorem wp_call {f : FuncId} {args : Array Value} (hr : (execOp a.eval o).run P w = .ok (.enter f args) w) {R : Ending → World → Prop} (hc : Calls P f args w R) (h : ∀ e w', R e w' → ∃ v, e = .returned v ∧ K (a.put o.dst v) w') : o.wp P a w K Q := by
  unfold Oper.wp
  rw [hr]
  refine hc.mono fun e w' hR => ?_
  obtain ⟨v, rfl, hk⟩ := h e w' hR
  exact hk
/-- In a region that draws its order: an operation that only reads is taken first. -/
theorem wh_take {md : Region.Mode} {C : World → Prop} (i : Nat) {fuel : Nat} {listed : Array Bool} {v : Value} (hi : ops[i]? = some o) (hs : Region.noSelect ops = true) (hf : Region.free md ops listed i = true) (hr : (Region.ready md ops listed).contains i = true)
    (hQ : ∀ c a w, Q (.panic c) (a.put o.dst v) w → Q (.panic c) a w) (hw : Region.wanted o (yielded ops a.tmps) = true) (hy : ∀ w, C w → (execOp a.eval o).run P w = .ok (.value v) w) (hC : C w)
    (h : wpAnyH P md ops Q C fuel (listed.setIfInBounds i true) (a.put o.dst v) w) : wpAnyH P md ops Q C (fuel + 1) listed a w :=
  wpAnyH_take hi hs hf hr hQ (.inl ⟨hw, hy⟩) hC h
theorem wh_skip {md : Region.Mode} {C : World → Prop} (i : Nat) {fuel : Nat} {listed : Array Bool} (hi : ops[i]? = some o) (hs : Region.noSelect ops = true) (hf : Region.free md ops listed i = true) (hr : (Region.ready md ops listed).contains i = true)
    (hQ : ∀ c a w, Q (.panic c) (a.put o.dst undef) w → Q (.panic c) a w) (hw : Region.wanted o (yielded ops a.tmps) = false) (hC : C w)
    (h : wpAnyH P md ops Q C fuel (listed.setIfInBounds i true) (a.put o.dst undef) w) : wpAnyH P md ops Q C (fuel + 1) listed a w :=
  wpAnyH_take hi hs hf hr hQ (.inr ⟨hw, rfl⟩) hC h
theorem ws_run {v : Value} {K : Act → Prop} (hw : Region.wanted o (yielded ops a.tmps) = true) (hr : (execOp a.eval o).run P w = .ok (.value v) w) (h : wpStill P ops w K rest (a.put o.dst v)) : wpStill P ops w K (o :: rest) a := by
  unfold wpStill
  rw [if_pos hw]
  unfold Oper.still
  rw [hr]
  exact ⟨rfl, h⟩
theorem wq_run {v : Value} {C : World → Prop} {K : Act → Prop} (hw : Region.wanted o (yielded ops a.tmps) = true) (hr : ∀ w, C w → (execOp a.eval o).run P w = .ok (.value v) w) (h : wpQuiet P ops C K rest (a.put o.dst v)) : wpQuiet P ops C K (o :: rest) a := by
  unfold wpQuiet
  rw [if_pos hw]
  refine ⟨v, fun w hC => ?_, h⟩
  unfold Oper.quietAt
  rw [hr w hC]
  exact ⟨rfl, rfl⟩
theorem wq_skip {C : World → Prop} {K : Act → Prop} (hw : Region.wanted o (yielded ops a.tmps) = false) (h : wpQuiet P ops C K rest (a.put o.dst undef)) : wpQuiet P ops C K (o :: rest) a := by
  unfold wpQuiet
  rw [hw]
  exact h
/-- A call in a region that draws its order: one value from every world of the class. -/
theorem wq_call {v : Value} {C : World → Prop} {K : Act → Prop} (hw : Region.wanted o (yielded ops a.tmps) = true) {f : FuncId} {args : Array Value} (hr : ∀ w, (execOp a.eval o).run P w = .ok (.enter f args) w) (hc : ∀ w, C w → Calls P f args w fun e w' => e = .returned v ∧ C w')
    (h : wpQuiet P ops C K rest (a.put o.dst v)) : wpQuiet P ops C K (o :: rest) a := by
  unfold wpQuiet
  rw [if_pos hw]
  refine ⟨v, fun w hC => ?_, h⟩
  unfold Oper.quietAt
  rw [hr w]
  exact ⟨rfl, hc w hC⟩
/-- A region that draws its order, whose operations read, and call what only makes. -/
theorem wp_region_grow {id : Nat} {l : List Oper} (hm : P.follows .mixedOrders = true) (hB : Region.lexB .any l.toArray = true) (hS : St S w0 w M)
    (h : wpQuiet P l.toArray (fun w' => Mod [] w w') (fun a' => ∀ w', St S w0 w' M → Q .normal a' w') l a) : (Code.region id l.toArray true).wp P Q a w := by
  refine wp_region_quiet (C := fun w' => Mod [] w w') hm hB ⟨rfl, rfl, rfl, Nat.le_refl _, fun _ _ _ => rfl⟩ ?_
  have e : l.toArray.toList = l := by simp
  rw [e]
  have hmono : ∀ (l' : List Oper) (a : Act), wpQuiet P l.toArray (fun w' => Mod [] w w') (fun a' => ∀ w', St S w0 w' M → Q .normal a' w') l' a → wpQuiet P l.toArray (fun w' => Mod [] w w') (fun a' => ∀ w', Mod [] w w' → Q .normal a' w') l' a := by
    intro l'
    induction l' with
    | nil => intro a h w' hw'; exact h w' (hS.same hw')
    | cons o r ih =>
      intro a h
      unfold wpQuiet at h ⊢
      split
      · rename_i hw; rw [if_pos hw] at h; exact Oper.quiet_mono (fun a' => ih a') h
      · rename_i hw; rw [if_neg hw] at h; exact ih _ h
  exact hmono l a h
/-- A region that draws its order, in which a tail in one order stands behind operations that only read. -/
theorem wp_region_tail {id : Nat} {l : List Oper} (n : Nat) (hm : P.follows .mixedOrders = true) (hB : Region.lexTailB .any l.toArray n = true) (hS : St S w0 w M)
    (h : ∀ w', St S w0 w' M → wpStill P l.toArray w' (fun a' => wpList P l.toArray Q (l.drop n) a' w') (l.take n) a) : (Code.region id l.toArray true).wp P Q a w :=
  wp_region_still_tail n hm hB (h _ (St.drew hS))

theorem wp_alloc (hS : St S w0 w M) {e : TypeId} (ho : o.op = .alloc e) {i : TypeInfo} (hi : P.info? e = some i) {z : Value} (hz : i.zero = some z) {cs : List Value} (hcs : z.cells = cs.toArray)
    (h : ∀ g w', St S w0 w' (.row g cs e (0, 0) :: M) → K (a.put o.dst (.pointer (some ⟨g, 0, none⟩))) w') : o.wp P a w K Q := by
  refine wp_run ?_ (h w.heap.size _ (hS.alloc cs e))
  simp [execOp, ho, Instr.alloc, zeroValue, typeInfo, hi, hz, newVar, newRow, hcs]

theorem wp_box (hS : St S w0 w M) {e : TypeId} {x : Operand} (ho : o.op = .box e x) {v : Value} (hx : a.eval x = v) {cs : List Value} (hcs : v.cells = cs.toArray)
    (h : ∀ g w', St S w0 w' (.row g cs e (0, 0) :: M) → K (a.put o.dst (.pointer (some ⟨g, 0, none⟩))) w') : o.wp P a w K Q := by
  refine wp_run ?_ (h w.heap.size _ (hS.alloc cs e))
  simp [execOp, ho, hx, Instr.box, newVar, newRow, hcs]

/-! ### Loads -/

theorem run_load1 {t : TypeId} {d : TypeDesc} (hd : P.underlying t = some d) (hn : (match d with | .struct _ | .array _ _ => true | _ => false) = false) {p : Addr} {v : Value} (hc : w.cell? p = some v) :
    (loadVar t p).run P w = .ok v w := by
  have : (isAgg t).run P w = .ok false w := by
    unfold isAgg
    rw [Sem.run_bind, run_underlying hd w]
    cases d <;> simp_all
  simp [loadVar, this, hc]
theorem run_loadA {t : TypeId} {d : TypeDesc} (hd : P.underlying t = some d) (hn : (match d with | .struct _ | .array _ _ => true | _ => false) = true) {i : TypeInfo} (hi : P.info? t = some i) {p : Addr} {cs : List Value} (hl : cs.length = i.size)
    (hc : ∀ (j : Nat) x, cs[j]? = some x → w.cell? (p.add j) = some x) : (loadVar t p).run P w = .ok (.agg cs.toArray) w := by
  have : (isAgg t).run P w = .ok true w := by
    unfold isAgg
    rw [Sem.run_bind, run_underlying hd w]
    cases d <;> simp_all
  have h2 := run_loadCells_list (P := P) w p cs hc
  rw [hl] at h2
  simp [loadVar, this, sizeOf, typeInfo, hi, h2]

/-- A load of one cell of a row. -/
theorem x_load1 (hS : St S w0 w M) {t : TypeId} {x : Operand} (ho : o.op = .load t x) {g off : Nat} (hx : a.eval x = .pointer (some ⟨g, off, none⟩))
    {d : TypeDesc} (hd : P.underlying t = some d) (hn : (match d with | .struct _ | .array _ _ => true | _ => false) = false) (i : Nat) {cs : List Value} {e : TypeId} {fr : Nat × Nat} (hM : M[i]? = some (.row g cs e fr))
    {v : Value} (hv : cs[off]? = some v) : (execOp a.eval o).run P w = .ok (.value v) w := by
  have := run_load1 (P := P) (w := w) hd hn (p := ⟨g, off, none⟩) ((row_cell (hS.row hM) off).trans hv)
  simp [execOp, ho, hx, Instr.loadAt, Instr.sureAddr, this]
/-- A load of a struct or an array out of a row. -/
theorem x_loadA (hS : St S w0 w M) {t : TypeId} {x : Operand} (ho : o.op = .load t x) {g off : Nat} (hx : a.eval x = .pointer (some ⟨g, off, none⟩))
    {d : TypeDesc} (hd : P.underlying t = some d) (hn : (match d with | .struct _ | .array _ _ => true | _ => false) = true) {ti : TypeInfo} (hi : P.info? t = some ti) (i : Nat) {cs : List Value} {e : TypeId} {fr : Nat × Nat} (hM : M[i]? = some (.row g cs e fr))
    {vs : List Value} (hv : (cs.drop off).take ti.size = vs) (hl : vs.length = ti.size) : (execOp a.eval o).run P w = .ok (.value (.agg vs.toArray)) w := by
  have := run_loadA (P := P) (w := w) hd hn hi (p := ⟨g, off, none⟩) hl (fun j y hy => by
    rw [add_lit, row_cell (hS.row hM)]
    rw [← hv, List.getElem?_take] at hy
    split at hy
    · rwa [List.getElem?_drop] at hy
    · cases hy)
  simp [execOp, ho, hx, Instr.loadAt, Instr.sureAddr, this]

theorem ptrAt_slice (p : Addr) (n cap off : Nat) : ptrAt (.slice (some p) n cap) off = .pointer (some (p.add off)) := rfl
theorem Rd.some {w : World} {k : Nat} {v : Value} {n : Nat} {xs : List Value} (h : Rd w k v n xs) (h0 : 0 < n) : ∃ p cap, v = .slice (some p) n cap := by
  obtain ⟨_, p, cap, rfl, h2, _, h4, _⟩ := h
  cases p with
  | none => have := h4 rfl; omega
  | some p => exact ⟨p, cap, rfl⟩

/-- A load of one cell through a slice. -/
theorem x_loadS1 {t : TypeId} {x : Operand} (ho : o.op = .load t x) {u : Value} {k n : Nat} {xs : List Value} (hR : Rd w k u n xs) {off : Nat} (hx : a.eval x = ptrAt u off)
    {d : TypeDesc} (hd : P.underlying t = some d) (hn : (match d with | .struct _ | .array _ _ => true | _ => false) = false)
    {v : Value} (hv : xs[off]? = some v) : (execOp a.eval o).run P w = .ok (.value v) w := by
  have hlt : off < xs.length := (List.getElem?_eq_some_iff.1 hv).1
  have h0 : 0 < n := by have := hR.1; rcases Nat.eq_zero_or_pos n with e | e; subst e; simp at this; simp [this] at hlt; exact e
  obtain ⟨p, cap, rfl⟩ := hR.some h0
  obtain ⟨_, p', cap', e, _, _, _, hc⟩ := hR
  simp only [Value.slice.injEq] at e
  have := run_load1 (P := P) (w := w) hd hn (p := p.add off) (hc p e.1.symm off v hv)
  simp [execOp, ho, hx, ptrAt, Instr.loadAt, Instr.sureAddr, this]
/-- A load of a struct through a slice. -/
theorem x_loadSA {t : TypeId} {x : Operand} (ho : o.op = .load t x) {u : Value} {k n : Nat} {xs : List Value} (hR : Rd w k u n xs) {off : Nat} (hx : a.eval x = ptrAt u off)
    {d : TypeDesc} (hd : P.underlying t = some d) (hn : (match d with | .struct _ | .array _ _ => true | _ => false) = true) {ti : TypeInfo} (hi : P.info? t = some ti)
    {vs : List Value} (hv : (xs.drop off).take ti.size = vs) (hl : vs.length = ti.size) (h0 : 0 < n) : (execOp a.eval o).run P w = .ok (.value (.agg vs.toArray)) w := by
  obtain ⟨p, cap, rfl⟩ := hR.some h0
  obtain ⟨_, p', cap', e, _, _, _, hc⟩ := hR
  simp only [Value.slice.injEq] at e
  have := run_loadA (P := P) (w := w) hd hn hi (p := p.add off) hl (fun j y hy => by
    rw [add_add]
    refine hc p e.1.symm _ _ ?_
    rw [← hv, List.getElem?_take] at hy
    split at hy
    · rwa [List.getElem?_drop] at hy
    · cases hy)
  simp [execOp, ho, hx, ptrAt, Instr.loadAt, Instr.sureAddr, this]

/-! ### Slices: length, address of an element, cut -/

theorem x_len {x : Operand} {t : TypeId} (ho : o.op = .call { callee := .builtin .len, args := #[x], argTypes := #[t] }) {u : Value} {k n : Nat} {xs : List Value} (hR : Rd w k u n xs) (hx : a.eval x = u)
    {e : TypeId} (ht : P.underlying t = some (.slice e)) : (execOp a.eval o).run P w = .ok (.value (.int .i64 (n : Int))) w := by
  obtain ⟨_, p, cap, rfl, _⟩ := hR
  simp [execOp, ho, resolve, invoke, builtin, hx, Builtin.len_, goInt, run_underlying ht]
theorem x_index {x i : Operand} {t : TypeId} (ho : o.op = .indexAddr t x i) {u : Value} {k n : Nat} {xs : List Value} (hR : Rd w k u n xs) (hx : a.eval x = u) {j : Int} {ik : IntKind} (hi : a.eval i = .int ik j)
    {e : TypeId} (ht : P.underlying t = some (.slice e)) {ti : TypeInfo} (he : P.info? e = some ti) (hk : ti.size = k) (h0 : 0 ≤ j) (hj : j < n) : (execOp a.eval o).run P w = .ok (.value (ptrAt u (j.toNat * k))) w := by
  obtain ⟨p, cap, rfl⟩ := hR.some (by omega)
  have hb : (0 ≤ j ∧ j < (n : Int)) := ⟨h0, hj⟩
  simp [execOp, ho, hx, hi, Instr.indexAt, asIntOf, run_underlying ht, sizeOf, typeInfo, he, hk, ptrAt, hb]

/-- x[l:h] of a slice. -/
theorem run_cut {t e : TypeId} (ht : P.underlying t = some (.slice e)) {ti : TypeInfo} (he : P.info? e = some ti) {u : Value} {n : Nat} {xs : List Value} (hR : Rd w ti.size u n xs) (l hi : Nat) (h1 : l ≤ hi) (h2 : hi ≤ n) :
    (Instr.slice t u (some (.int .i64 l)) (some (.int .i64 hi)) none).run P w = .ok (cutSl u ti.size l hi) w := by
  obtain ⟨_, p, cap, rfl, hc, _⟩ := hR
  have h3 : hi ≤ cap := by omega
  simp [Instr.slice, run_underlying ht, Instr.sliceBounds, Instr.sliceBound, asIntOf, h3, h1, sizeOf, typeInfo, he, cutSl]
theorem run_cutLo {t e : TypeId} (ht : P.underlying t = some (.slice e)) {ti : TypeInfo} (he : P.info? e = some ti) {u : Value} {n : Nat} {xs : List Value} (hR : Rd w ti.size u n xs) (l : Nat) (h1 : l ≤ n) :
    (Instr.slice t u (some (.int .i64 l)) none none).run P w = .ok (cutSl u ti.size l n) w := by
  obtain ⟨_, p, cap, rfl, hc, _⟩ := hR
  simp [Instr.slice, run_underlying ht, Instr.sliceBounds, Instr.sliceBound, asIntOf, h1, sizeOf, typeInfo, he, cutSl]
theorem run_cutHi {t e : TypeId} (ht : P.underlying t = some (.slice e)) {ti : TypeInfo} (he : P.info? e = some ti) {u : Value} {n : Nat} {xs : List Value} (hR : Rd w ti.size u n xs) (hi : Nat) (h2 : hi ≤ n) :
    (Instr.slice t u none (some (.int .i64 hi)) none).run P w = .ok (cutSl u ti.size 0 hi) w := by
  obtain ⟨_, p, cap, rfl, hc, _⟩ := hR
  have h3 : hi ≤ cap := by omega
  simp [Instr.slice, run_underlying ht, Instr.sliceBounds, Instr.sliceBound, asIntOf, h3, sizeOf, typeInfo, he, cutSl]
theorem not_array {t e : TypeId} (ht : P.underlying t = some (.slice e)) (x : Value) (lo hi mx : Option Value) : (Instr.sliceAt t x lo hi mx).run P w = (Instr.slice t x lo hi mx).run P w := by
  simp [Instr.sliceAt, run_underlying ht]
theorem x_cut {x lo hi : Operand} {t : TypeId} (ho : o.op = .slice t x (some lo) (some hi) none) {u : Value} {k n : Nat} {xs : List Value} (hR : Rd w k u n xs) (hx : a.eval x = u) {l h : Int} (hl : a.eval lo = .int .i64 l) (hh : a.eval hi = .int .i64 h)
    {e : TypeId} (ht : P.underlying t = some (.slice e)) {ti : TypeInfo} (he : P.info? e = some ti) (hk : ti.size = k) (h0 : 0 ≤ l) (h1 : l ≤ h) (h2 : h ≤ n) : (execOp a.eval o).run P w = .ok (.value (cutSl u k l.toNat h.toNat)) w := by
  subst hk
  obtain ⟨l, rfl⟩ := Int.eq_ofNat_of_zero_le h0
  obtain ⟨h, rfl⟩ := Int.eq_ofNat_of_zero_le (Int.le_trans h0 h1)
  simp [execOp, ho, hx, hl, hh, not_array ht, run_cut (P := P) ht he hR l h (by omega) (by omega)]
theorem x_cutLo {x lo : Operand} {t : TypeId} (ho : o.op = .slice t x (some lo) none none) {u : Value} {k n : Nat} {xs : List Value} (hR : Rd w k u n xs) (hx : a.eval x = u) {l : Int} (hl : a.eval lo = .int .i64 l)
    {e : TypeId} (ht : P.underlying t = some (.slice e)) {ti : TypeInfo} (he : P.info? e = some ti) (hk : ti.size = k) (h0 : 0 ≤ l) (h1 : l ≤ n) : (execOp a.eval o).run P w = .ok (.value (cutSl u k l.toNat n)) w := by
  subst hk
  obtain ⟨l, rfl⟩ := Int.eq_ofNat_of_zero_le h0
  simp [execOp, ho, hx, hl, not_array ht, run_cutLo (P := P) ht he hR l (by omega)]
theorem x_cutHi {x hi : Operand} {t : TypeId} (ho : o.op = .slice t x none (some hi) none) {u : Value} {k n : Nat} {xs : List Value} (hR : Rd w k u n xs) (hx : a.eval x = u) {h : Int} (hh : a.eval hi = .int .i64 h)
    {e : TypeId} (ht : P.underlying t = some (.slice e)) {ti : TypeInfo} (he : P.info? e = some ti) (hk : ti.size = k) (h0 : 0 ≤ h) (h2 : h ≤ n) : (execOp a.eval o).run P w = .ok (.value (cutSl u k 0 h.toNat)) w := by
  subst hk
  obtain ⟨h, rfl⟩ := Int.eq_ofNat_of_zero_le h0
  simp [execOp, ho, hx, hh, not_array ht, run_cutHi (P := P) ht he hR h (by omega)]

/-! ### Stores -/

theorem run_storeCells_nf (g off : Nat) (e : TypeId) (fr : Nat × Nat) : ∀ (vs : List Value) (i : Nat) (cur : List Value) (w : World), w.heap[g]? = some (.cells cur.toArray e fr) → off + i + vs.length ≤ cur.length →
    (∀ j, j < vs.length → notFrozen fr (off + i + j)) → (∀ v ∈ vs, v.oneCell' = true) →
    ∃ w', (storeCells ⟨g, off, none⟩ vs i).run P w = .ok () w' ∧ w'.heap[g]? = some (.cells (cur.take (off + i) ++ vs ++ cur.drop (off + i + vs.length)).toArray e fr) ∧ Mod [g] w w'
  | [], i, cur, w, h, _, _, _ => ⟨w, by simp [storeCells], by simpa using h, Mod.refl _ _⟩
  | v :: vs, i, cur, w, h, hl, hf, h1 => by
    simp only [List.length_cons] at hl hf
    have hlt : off + i < cur.length := by omega
    have hcell := (row_cell h (off + i)).trans (List.getElem?_eq_getElem hlt)
    have hfree := row_free h (i := off + i) (by simpa using hf 0 (by omega))
    have hset : (w.setCell ⟨g, off + i, none⟩ v).heap[g]? = some (.cells (cur.set (off + i) v).toArray e fr) := by
      simp [World.setCell, Array.getElem?_modify, h]
    obtain ⟨w', r1, r2, r3⟩ := run_storeCells_nf g off e fr vs (i + 1) (cur.set (off + i) v) (w.setCell ⟨g, off + i, none⟩ v) hset (by simp; omega)
      (fun j hj => by have := hf (j + 1) (by omega); rwa [show off + i + (j + 1) = off + (i + 1) + j by omega] at this) (fun u hu => h1 u (List.mem_cons_of_mem _ hu))
    refine ⟨w', ?_, ?_, (mod_setCell w ⟨g, off + i, none⟩ v).trans r3⟩
    · simp only [storeCells, Sem.run_bind, add_lit, run_store P w _ v _ (h1 v List.mem_cons_self), hcell, hfree]
      simpa using r1
    · rw [r2]
      have : (cur.set (off + i) v).take (off + (i + 1)) ++ vs ++ (cur.set (off + i) v).drop (off + (i + 1) + vs.length) = cur.take (off + i) ++ (v :: vs) ++ cur.drop (off + i + (vs.length + 1)) := by
        have := list_seg_step cur (off + i) v vs (by omega)
        rw [show off + (i + 1) = off + i + 1 by omega, show off + i + 1 + vs.length = off + i + 1 + vs.length from rfl]
        rw [this]
      rw [this]
      simp

/-- A store of one cell into a row. -/
theorem wp_store1 (hS : St S w0 w M) {t : TypeId} {x y : Operand} (ho : o.op = .store t x y) {g off : Nat} (hx : a.eval x = .pointer (some ⟨g, off, none⟩)) {v : Value} (hy : a.eval y = v)
    {ti : TypeInfo} (hi : P.info? t = some ti) (hs : v.cells.size = ti.size) (i : Nat) {cs : List Value} {e : TypeId} {fr : Nat × Nat} (hM : M[i]? = some (.row g cs e fr))
    (hoff : off + v.cells.size ≤ cs.length) (hf : ∀ j, j < v.cells.size → notFrozen fr (off + j)) (h1 : ∀ u ∈ v.cells.toList, u.oneCell' = true) {cs' : List Value} (hcs : cs.take off ++ v.cells.toList ++ cs.drop (off + v.cells.size) = cs')
    (h : ∀ w', St S w0 w' (M.set i (.row g cs' e fr)) → K (a.put o.dst undef) w') : o.wp P a w K Q := by
  obtain ⟨w', r1, r2, r3⟩ := run_storeCells_nf (P := P) g off e fr v.cells.toList 0 cs w (hS.row hM) (by simpa using hoff) (by simpa using hf) h1
  refine wp_runS ?_ (h w' (hS.chgRow i hM r3 ?_))
  · simp [execOp, ho, hx, hy, Instr.storeAt, Instr.sureAddr, storeVar, sizeOf, typeInfo, hi, hs, r1]
  · subst hcs
    simpa using r2
/-- A store through a slice of its own. -/
theorem wp_storeS (hS : St S w0 w M) {t : TypeId} {x y : Operand} (ho : o.op = .store t x y) {u : Value} {off : Nat} (hx : a.eval x = ptrAt u off) {v : Value} (hy : a.eval y = v)
    {ti : TypeInfo} (hi : P.info? t = some ti) (hs : v.cells.size = ti.size) (i : Nat) {e : TypeId} {k n : Nat} {xs : List Value} (hM : M[i]? = some (.vec u e k n xs)) (h0 : 0 < n)
    (hoff : off + v.cells.size ≤ xs.length) (h1 : ∀ u ∈ v.cells.toList, u.oneCell' = true) {xs' : List Value} (hxs : xs.take off ++ v.cells.toList ++ xs.drop (off + v.cells.size) = xs')
    (h : ∀ w', St S w0 w' (M.set i (.vec u e k n xs')) → K (a.put o.dst undef) w') : o.wp P a w K Q := by
  rcases hS.vec hM with ⟨e1, ⟨rfl, rfl⟩ | ⟨g, cap, rest', fr, rfl, hh, e2, e3, e4, e5⟩⟩
  · omega
  · obtain ⟨w', r1, r2, r3⟩ := run_storeCells_nf (P := P) g off e fr v.cells.toList 0 (xs ++ rest') w hh (by simp only [List.length_append, Array.length_toList]; omega) (by intro j hj; simp only [Array.length_toList] at hj; exact e5 _ (by have := Nat.mul_le_mul_right k e2; omega)) h1
    have hcat : (xs ++ rest').take (off + 0) ++ v.cells.toList ++ (xs ++ rest').drop (off + 0 + v.cells.toList.length) = xs' ++ rest' := by
      subst hxs
      simp only [Nat.add_zero, Array.length_toList]
      rw [List.take_append_of_le_length (by omega), List.drop_append_of_le_length (by omega)]
      simp
    rw [hcat] at r2
    have hl : xs'.length = xs.length := by subst hxs; simp; omega
    refine wp_runS ?_ (h w' (hS.chgVec i hM (by simpa [Value.ownBlock] using r3) (v' := .slice (some ⟨g, 0, none⟩) n cap) ?_ (fun _ hy => .inl hy)))
    · simp [execOp, ho, hx, hy, Instr.storeAt, Instr.sureAddr, ptrAt, add_lit, storeVar, sizeOf, typeInfo, hi, hs, r1]
    · exact ⟨by omega, .inr ⟨g, cap, rest', fr, rfl, r2, e2, e3, by simp only [List.length_append] at e4 ⊢; omega, e5⟩⟩

/-! ### Bytes and strings -/

def B (l : List UInt8) : List Value := l.map fun x => Value.int .u8 (x.toNat : Int)
theorem B_length (l : List UInt8) : (B l).length = l.length := by simp [B]
theorem B_append (l m : List UInt8) : B (l ++ m) = B l ++ B m := by simp [B]
theorem B_nil : B [] = [] := rfl
theorem B_cons (x : UInt8) (l : List UInt8) : B (x :: l) = Value.int .u8 (x.toNat : Int) :: B l := rfl
theorem B_get {l : List UInt8} {i : Nat} (h : i < l.length) : (B l)[i]? = some (Value.int .u8 (l[i].toNat : Int)) := by simp [B, h]
theorem B_take (l : List UInt8) (n : Nat) : B (l.take n) = (B l).take n := by simp [B, List.map_take]
theorem B_drop (l : List UInt8) (n : Nat) : B (l.drop n) = (B l).drop n := by simp [B, List.map_drop]
theorem B_one (l : List UInt8) : ∀ u ∈ B l, u.oneCell' = true := by
  intro u hu
  simp only [B, List.mem_map] at hu
  obtain ⟨x, _, rfl⟩ := hu
  rfl
theorem B_inj {l m : List UInt8} (h : B l = B m) : l = m := by
  induction l generalizing m with
  | nil => cases m with
    | nil => rfl
    | cons => simp [B] at h
  | cons x l ih => cases m with
    | nil => simp [B] at h
    | cons y m =>
      simp only [B_cons, List.cons.injEq, Value.int.injEq, true_and] at h
      rw [ih h.2, UInt8.toNat_inj.1 (by omega : x.toNat = y.toNat)]

/-- string(b). -/
theorem x_toString {src dst e : TypeId} {x : Operand} (ho : o.op = .convert src dst x) (hs : P.underlying src = some (.slice e)) (he : P.underlying e = some (.int .u8)) (hd : P.underlying dst = some .string)
    {u : Value} {n : Nat} {l : List UInt8} (hR : Rd w 1 u n (B l)) (hx : a.eval x = u) : (execOp a.eval o).run P w = .ok (.value (.string ⟨l.toArray⟩)) w := by
  obtain ⟨h1, p, cap, rfl, h2, h3, h4, h5⟩ := hR
  rw [B_length, Nat.mul_one] at h1
  subst h1
  cases p with
  | none =>
    have hc := h4 rfl
    obtain rfl : l = [] := List.eq_nil_of_length_eq_zero (by omega)
    have := run_convert_bytes_nil (P := P) (w := w) src e hs he 0 cap dst hd
    simp only [List.length_nil] at hx
    simp [execOp, ho, hx, this]
    rfl
  | some p =>
    have := run_convert_bytes_back (P := P) w src dst e p cap l hs he hd (fun j hj => h5 p rfl j _ (B_get hj))
    simp [execOp, ho, hx, this]

/-! ### append, copy, make -/

theorem VecAt.grown {w : World} {e : TypeId} {k : Nat} {n : Nat} {xs : List Value} (zs : Array Value) (hz : zs.size = k) (cap : Nat) (h1 : xs.length = n * k) (h2 : n ≤ cap) (h3 : cap ≤ maxLen) :
    VecAt (w.alloc (.cells (xs.toArray ++ Builtin.zeroCells zs (cap - n)) e)) (.slice (some ⟨w.heap.size, 0, none⟩) n cap) e k n xs := by
  refine ⟨h1, .inr ⟨w.heap.size, cap, (Builtin.zeroCells zs (cap - n)).toList, (0, 0), rfl, ?_, h2, h3, ?_, fun i _ => nf0 i⟩⟩
  · rw [heap_alloc_new]
    congr 2
    apply Array.ext'
    simp
  · simp only [List.length_append, h1, Array.length_toList, size_zeroCells, hz, ← Nat.add_mul]
    exact Nat.mul_le_mul_right _ (by omega)

theorem run_append_vec {t e : TypeId} (ty : TypeId) (ht : P.underlying t = some (.slice e)) {i : TypeInfo} (hi : P.info? e = some i) {z : Value} (hz : i.zero = some z) (hzs : z.cells.size = i.size) (hby : 0 < i.bytes)
    {v : Value} {n : Nat} {xs : List Value} (hv : VecAt w v e i.size n xs) {x : Value} {m : Nat} {news : List Value} (hR : Rd w i.size x m news) (h1 : ∀ u ∈ news, u.oneCell' = true) (hb : (n + m) * i.bytes ≤ 140737488355328) :
    ∃ v' w', (Builtin.append_ #[t, t] ty #[v, x]).run P w = .ok v' w' ∧ VecAt w' v' e i.size (n + m) (xs ++ news) ∧ Mod v.ownBlock.toList w w' ∧ (∀ g ∈ v'.ownBlock.toList, g ∈ v.ownBlock.toList ∨ w.heap.size ≤ g) ∧
      (v' = .slice none 0 0 ↔ v = .slice none 0 0 ∧ m = 0) := by
  have h47 : n + m ≤ 140737488355328 := Nat.le_trans (Nat.le_mul_of_pos_right _ hby) hb
  have hml : n + m ≤ maxLen := by unfold maxLen; omega
  obtain ⟨hnl, p, cx, rfl, hxc, hxm, hxn, hxx⟩ := hR
  have hlen : (xs ++ news).length = (n + m) * i.size := by rw [List.length_append, hv.1, hnl, Nat.add_mul]
  by_cases hm : m = 0
  · subst hm
    have hn : news = [] := List.eq_nil_of_length_eq_zero (by simpa using hnl)
    subst hn
    refine ⟨v, w, ?_, by simpa using hv, Mod.refl _ _, fun g hg => .inl hg, by simp⟩
    rcases hv.2 with ⟨rfl, rfl⟩ | ⟨g, cap, rest', fr, rfl, hh, e2, e3, e4, e5⟩
    · cases p <;> simp [Builtin.append_, run_underlying ht, sizeOf, typeInfo, hi, Builtin.lenOf, Builtin.firstCells, loadCells, loadCellsFrom]
    · cases p <;> simp [Builtin.append_, run_underlying ht, sizeOf, typeInfo, hi, Builtin.lenOf, Builtin.firstCells, loadCells, loadCellsFrom, e2, storeCells]
  · cases p with
    | none => have := hxn rfl; omega
    | some ax =>
      have hnews := hxx ax rfl
      rcases hv.2 with ⟨rfl, rfl⟩ | ⟨g, cap, rest', fr, rfl, hh, e2, e3, e4, e5⟩
      · have hx : xs = [] := List.eq_nil_of_length_eq_zero (by simpa using hv.1)
        subst hx
        have hr := run_append_nil (P := P) w t ty e i z ht hi hz ax m cx news hnl hnews (by omega) (by omega) (by have hb := hb; simp only [Nat.zero_add] at hb; omega)
        simp only [Nat.zero_add, List.nil_append] at hlen ⊢
        refine ⟨_, _, hr, VecAt.grown (w := w.drew) z.cells hzs _ hlen (grownCap_ge _ _ _ _) (grownCap_le_maxLen _ _ _ _ (by omega)), ?_, ?_, by simp [hm]⟩
        · exact (Mod.refl _ _).drew.trans (mod_alloc w.drew _).nil
        · intro g hg; simp [Value.ownBlock] at hg; exact .inr (by omega)
      · by_cases hroom : n + m ≤ cap
        · have hfc : n * i.size + news.length ≤ cap * i.size := by rw [hnl, ← Nat.add_mul]; exact Nat.mul_le_mul_right _ hroom
          have hfit : n * i.size + news.length ≤ (xs ++ rest').length := by omega
          obtain ⟨w', r1, r2, r3⟩ := run_storeCells_nf (P := P) g (n * i.size) e fr news 0 (xs ++ rest') w hh (by simpa using hfit) (by intro j hj; exact e5 _ (by omega)) h1
          have hcat : (xs ++ rest').take (n * i.size + 0) ++ news ++ (xs ++ rest').drop (n * i.size + 0 + news.length) = (xs ++ news) ++ rest'.drop news.length := by
            simp only [Nat.add_zero]
            rw [← hv.1, List.take_left, Nat.add_comm, List.drop_append, List.drop_eq_nil_of_le (by omega)]
            simp
          rw [hcat] at r2
          have hf := run_firstCells_some (P := P) w i.size m ax m cx news hnl hnews
          refine ⟨.slice (some ⟨g, 0, none⟩) (n + m) cap, w', ?_, ⟨hlen, .inr ⟨g, cap, _, fr, rfl, r2, hroom, e3, ?_, e5⟩⟩, by simpa [Value.ownBlock] using r3, fun y hy => .inl hy, by simp⟩
          · simp [Builtin.append_, run_underlying ht, sizeOf, typeInfo, hi, Builtin.lenOf, hroom, hf, add_lit, r1]
          · have hv1 := hv.1; simp only [List.length_append, List.length_drop] at e4 hfit ⊢; omega
        · have holds : ∀ (j : Nat) u, xs[j]? = some u → w.cell? ((⟨g, 0, none⟩ : Addr).add j) = some u := fun j u hu => by
            rw [add_lit, Nat.zero_add, row_cell hh, List.getElem?_append_left (List.getElem?_eq_some_iff.1 hu).1]; exact hu
          have hr := run_append_grow (P := P) w t ty e i z ht hi hz ⟨g, 0, none⟩ n cap xs hv.1 holds ax m cx news hnl hnews (by omega) (by omega) (growslice_fits (by omega) hb)
          refine ⟨_, _, hr, ?_, (Mod.refl _ _).drew.trans (mod_alloc w.drew _).nil, ?_, by simp⟩
          · have := VecAt.grown (w := w.drew) (e := e) z.cells hzs (grownCap w (n + m) cap e) hlen (grownCap_ge _ _ _ _) (grownCap_le_maxLen _ _ _ _ (by omega))
            rw [← List.append_toArray] at this
            exact this
          · intro y hy; simp [Value.ownBlock] at hy; exact .inr (by omega)

theorem wp_append (hS : St S w0 w M) {s x : Operand} {t : TypeId} (ho : o.op = .call { callee := .builtin .append, args := #[s, x], argTypes := #[t, t] })
    {v u : Value} {e : TypeId} {k : Nat} (i : Nat) {n : Nat} {xs : List Value} (hM : M[i]? = some (.vec v e k n xs)) {m : Nat} {news : List Value} (hR : Rd w k u m news) (hs : a.eval s = v) (hx : a.eval x = u) (ht : P.underlying t = some (.slice e)) {ti : TypeInfo} (hi : P.info? e = some ti) {z : Value} (hz : ti.zero = some z) (hzs : z.cells.size = ti.size) (hby : 0 < ti.bytes) (hk : ti.size = k)
    (h1 : ∀ u ∈ news, u.oneCell' = true) (hb : (n + m) * ti.bytes ≤ 140737488355328)
    (h : ∀ v' w', St S w0 w' (M.set i (.vec v' e k (n + m) (xs ++ news))) → (v' = .slice none 0 0 ↔ v = .slice none 0 0 ∧ m = 0) → K (a.put o.dst v') w') : o.wp P a w K Q := by
  subst hk
  obtain ⟨v', w', r1, r2, r3, r4, r5⟩ := run_append_vec (P := P) o.type ht hi hz hzs hby (hS.vec hM) hR h1 hb
  refine wp_run ?_ (h v' w' (hS.chgVec i hM r3 r2 r4) r5)
  simp [execOp, ho, resolve, invoke, builtin, hs, hx, r1]

theorem shape_of {w : World} {g : Nat} {cs : List Value} {e : TypeId} {fr : Nat × Nat} (h : w.heap[g]? = some (.cells cs.toArray e fr)) : w.shape? g = some (e, cs.length) := by simp [World.shape?, h]
theorem freeze_row {w : World} {g off : Nat} {cs : List Value} {e : TypeId} (h : w.heap[g]? = some (.cells cs.toArray e (0, 0))) : (w.freeze ⟨g, off, none⟩ 1).heap[g]? = some (.cells cs.toArray e (off, off + 1)) := by
  simp [World.freeze, Array.getElem?_modify, h]
theorem mod_freeze (w : World) (p : Addr) (n : Nat) : Mod [p.block] w (w.freeze p n) := by
  unfold World.freeze
  split
  · exact Mod.refl _ _
  · refine ⟨rfl, rfl, rfl, by simp, fun k _ hn => ?_⟩
    simp only [List.mem_singleton] at hn
    simp only [Array.getElem?_modify]
    rw [if_neg (fun e => hn e.symm)]

/-- []byte(s). -/
theorem wp_toBytes (hS : St S w0 w M) {src dst e : TypeId} {x : Operand} (ho : o.op = .convert src dst x) (hs : P.underlying src = some .string) (hd : P.underlying dst = some (.slice e)) (he : P.underlying e = some (.int .u8))
    {l : List UInt8} (hx : a.eval x = .string ⟨l.toArray⟩) (hl : l.length ≤ maxLen) (h : ∀ v w', St S w0 w' (.vec v e 1 l.length (B l) :: M) → K (a.put o.dst v) w') : o.wp P a w K Q := by
  obtain ⟨cap, hcap⟩ : ∃ cap, (Question.appendCap l.length 0 e).cut (w.tape w.drawn (Question.appendCap l.length 0 e)) = cap := ⟨_, rfl⟩
  have hge : l.length ≤ cap := by rw [← hcap]; simp [Question.cut]
  have hle : cap ≤ maxLen := by
    have hlt := Nat.mod_lt (w.tape w.drawn (.appendCap l.length 0 e)) (show 0 < 2 ^ 63 - l.length by simp only [maxLen] at hl; omega)
    rw [← hcap]
    simp only [Question.cut, maxLen] at hl ⊢
    omega
  have hcells : (Array.map (fun b : UInt8 => Value.int .u8 (b.toNat : Int)) l.toArray ++ Array.replicate (cap - l.length) (Value.int .u8 0)) = (B l ++ List.replicate (cap - l.length) (Value.int .u8 0)).toArray := by
    apply Array.ext'; simp [B]
  obtain ⟨cs, hcs⟩ : ∃ cs, B l ++ List.replicate (cap - l.length) (Value.int .u8 0) = cs := ⟨_, rfl⟩
  have hlen : cs.length = cap := by rw [← hcs, List.length_append, B_length, List.length_replicate]; omega
  rw [hcs] at hcells
  have hsz : (⟨l.toArray⟩ : ByteArray).size = l.length := by simp [ByteArray.size]
  have hrow : ((w.alloc (.cells cs.toArray e)).drew).heap[w.heap.size]? = some (.cells cs.toArray e (0, 0)) := heap_alloc_new w _
  have hrun : (convert src dst (.string ⟨l.toArray⟩)).run P w = .ok (.slice (some ⟨w.heap.size, 0, none⟩) l.length cap) (((w.alloc (.cells cs.toArray e)).drew).freeze ⟨w.heap.size, cap, none⟩ 1) := by
    simp only [convert, Sem.run_bind, run_underlying hs, run_underlying hd, run_underlying he, Result.andThen_ok]
    simp only [Conv.stringToBytes, Sem.run_bind, run_choose, Question.forced, Bool.false_eq_true, if_false, Result.andThen_ok, hsz, hcap, newRow, run_newObj, Sem.run_pure, markStringish, run_shape, hcells]
    have e1 : ({ heap := w.heap.push (.cells cs.toArray e), tape := w.tape, drawn := w.drawn + 1, os := w.os, output := w.output } : World) = (w.alloc (.cells cs.toArray e)).drew := rfl
    rw [e1, shape_of hrow]
    simp [hlen]
  refine wp_run (v := .slice (some ⟨w.heap.size, 0, none⟩) l.length cap) ?_ (h _ (((w.alloc (.cells cs.toArray e)).drew).freeze ⟨w.heap.size, cap, none⟩ 1) ?_)
  · simp [execOp, ho, hx, hrun]
  · refine hS.add ?_ (m := .vec (.slice (some ⟨w.heap.size, 0, none⟩) l.length cap) e 1 l.length (B l)) (F := [w.heap.size]) ⟨rfl, by rw [B_length, Nat.mul_one], .inr ⟨w.heap.size, cap, List.replicate (cap - l.length) (Value.int .u8 0), (cap, cap + 1), rfl, ?_, hge, hle, ?_, ?_⟩⟩ (by simp) (by simp)
    · have h1 : Mod [] w (w.alloc (.cells cs.toArray e)).drew := (mod_alloc w _).drew
      exact h1.comp (mod_freeze _ _ _) (by simp)
    · rw [hcs, freeze_row hrow]
    · rw [hcs, hlen, Nat.mul_one]; exact Nat.le_refl _
    · intro i hi; unfold notFrozen; omega

/-! ### A slice of written-out elements; make; copy -/

/-- The cells of '[]T{..}'. -/
def buildCells (zero : Option Value) (size len : Nat) (parts : List (Nat × Value)) : Option (List Value) :=
  match zero with
  | none => none
  | some z => (Instr.fill (fun i => some (i * size, size)) ((Array.range (len * size)).map ((if len * size = 0 then #[] else z.cells)[· % (if len * size = 0 then #[] else z.cells).size]!)) parts).map (·.toList)

theorem vec_of_row {w : World} {g : Nat} {cs : List Value} {e : TypeId} (h : w.heap[g]? = some (.cells cs.toArray e (0, 0))) (k n : Nat) (hl : cs.length = n * k) (hn : n ≤ maxLen) : VecAt w (.slice (some ⟨g, 0, none⟩) n n) e k n cs :=
  ⟨hl, .inr ⟨g, n, [], (0, 0), rfl, by simpa using h, Nat.le_refl _, hn, by simp [hl], fun i _ => nf0 i⟩⟩
theorem St.allocVec (hS : St S w0 w M) (cs : List Value) (e : TypeId) (k n : Nat) (hl : cs.length = n * k) (hn : n ≤ maxLen) : St S w0 (w.alloc (.cells cs.toArray e)) (.vec (.slice (some ⟨w.heap.size, 0, none⟩) n n) e k n cs :: M) :=
  hS.add (mod_alloc w _) (m := .vec (.slice (some ⟨w.heap.size, 0, none⟩) n n) e k n cs) (F := [w.heap.size]) ⟨rfl, vec_of_row (heap_alloc_new w _) k n hl hn⟩ (by simp) (by simp)

theorem wp_buildSlice (hS : St S w0 w M) {t : TypeId} {len : Nat} {parts : Array (Nat × Operand)} (ho : o.op = .buildSlice t len parts) {e : TypeId} (ht : P.underlying t = some (.slice e)) {ti : TypeInfo} (hi : P.info? e = some ti)
    {k : Nat} (hk : ti.size = k) {cs : List Value} (hf : buildCells ti.zero k len (parts.toList.map fun p => (p.1, a.eval p.2)) = some cs) (hl : cs.length = len * k) (hsmall : len * k ≤ 16777216) (hn : len ≤ 16777216)
    (h : ∀ v w', St S w0 w' (.vec v e k len cs :: M) → K (a.put o.dst v) w') : o.wp P a w K Q := by
  subst hk
  refine wp_run ?_ (h _ _ (hS.allocVec cs e ti.size len hl (by unfold maxLen; omega)))
  unfold buildCells at hf
  split at hf
  · cases hf
  · rename_i z hz
    obtain ⟨arr, harr, rfl⟩ := Option.map_eq_some_iff.1 hf
    have hs' : ¬ (16777216 < len * ti.size) := by omega
    have hparts : (parts.map fun p => (p.1, a.eval p.2)).toList = parts.toList.map fun p => (p.1, a.eval p.2) := by simp
    have hrun : (Instr.buildSlice t len (parts.map fun p => (p.1, a.eval p.2))).run P w = .ok (.slice (some ⟨w.heap.size, 0, none⟩) len len) (w.alloc (.cells arr e)) := by
      by_cases h0 : len * ti.size = 0
      · simp only [h0, if_true] at harr
        simp only [Instr.buildSlice, Sem.run_bind, run_underlying ht, Result.andThen_ok, sizeOf, typeInfo, run_program, hi, Sem.run_pure, h0, if_true, Nat.not_lt_zero, if_false, gt_iff_lt, hparts, harr, newRow, run_newObj]
        rfl
      · simp only [h0, if_false] at harr
        simp only [Instr.buildSlice, Sem.run_bind, run_underlying ht, Result.andThen_ok, sizeOf, typeInfo, run_program, hi, Sem.run_pure, h0, if_false, gt_iff_lt, hs', zeroValue, hz, hparts, harr, newRow, run_newObj]
        rfl
    simp [execOp, ho, hrun]

theorem fill_ones (vs : List Value) (h1 : ∀ v ∈ vs, v.cells = #[v]) : ∀ (k : Nat) (cells : Array Value), cells.size = k + vs.length →
    Instr.fill (fun i => some (i * 1, 1)) cells ((List.range' k vs.length).zip vs) = some (cells.toList.take k ++ vs).toArray := by
  induction vs with
  | nil =>
    intro k cells h
    simp only [List.length_nil, Nat.add_zero] at h
    subst h
    have : List.take cells.size cells.toList = cells.toList := List.take_of_length_le (by simp)
    simp [Instr.fill, this]
  | cons v vs ih =>
    intro k cells h
    simp only [List.length_cons] at h ⊢
    have hv := h1 v List.mem_cons_self
    have hlt : k < cells.size := by omega
    have := ih (fun u hu => h1 u (List.mem_cons_of_mem _ hu)) (k + 1) (cells.setIfInBounds k v) (by simp; omega)
    simp only [List.range'_succ, List.zip_cons_cons, Instr.fill, hv, Nat.mul_one]
    have hne : ¬ (#[v].size ≠ 1 ∨ k + #[v].size > cells.size) := by simp; omega
    have hf : ((#[v].zipIdx.foldl (fun cs (c, j) => cs.setIfInBounds (k + j) c) cells)) = cells.setIfInBounds k v := by simp
    simp only [ne_eq, List.size_toArray, List.length_cons, List.length_nil, Nat.zero_add, not_true_eq_false, gt_iff_lt, decide_eq_true_eq, false_or, decide_false, Bool.false_or] at hne ⊢
    rw [if_neg (by omega)]
    simp only [Nat.mul_one] at this
    rw [hf, this]
    congr 2
    simp only [Array.toList_setIfInBounds]
    rw [List.take_succ_eq_append_getElem (by simpa using hlt), List.take_set, List.set_eq_of_length_le (by simp; omega)]
    simp
/-- '[]T{..}', T of one cell. -/
theorem wp_buildSlice1 {vs : List Value} (hS : St S w0 w M) {t : TypeId} {len : Nat} {parts : Array (Nat × Operand)} (ho : o.op = .buildSlice t len parts) {e : TypeId} (ht : P.underlying t = some (.slice e)) {ti : TypeInfo} (hi : P.info? e = some ti) (hk : ti.size = 1)
    (hp : (parts.toList.map fun p => (p.1, a.eval p.2)) = (List.range' 0 vs.length).zip vs) (hl : vs.length = len) (hn : len ≤ 16777216) (h1 : ti.zero.isSome = true ∧ ∀ v ∈ vs, v.cells = #[v])
    (h : ∀ v w', St S w0 w' (.vec v e 1 len vs :: M) → K (a.put o.dst v) w') : o.wp P a w K Q := by
  obtain ⟨z, hz⟩ := Option.isSome_iff_exists.1 h1.1
  refine wp_buildSlice hS ho ht hi hk (cs := vs) ?_ (by omega) (by omega) hn h
  unfold buildCells
  rw [hz, hp]
  have := fill_ones vs h1.2 0 ((Array.range (len * 1)).map ((if len * 1 = 0 then #[] else z.cells)[· % (if len * 1 = 0 then #[] else z.cells).size]!)) (by simp; omega)
  simp only [] at this ⊢
  rw [this]
  simp
theorem Rd.cells {w : World} {k : Nat} {v : Value} {n : Nat} {xs : List Value} (h : Rd w k v n xs) : v.cells = #[v] := by
  obtain ⟨_, p, cap, rfl, _⟩ := h; rfl

/-- make([]T, n), T of one cell. -/
theorem wp_make (hS : St S w0 w M) {t : TypeId} {x y : Operand} (ho : o.op = .makeSlice t x y) {n : Int} (hx : a.eval x = .int .i64 n) (hy : a.eval y = .int .i64 n) {e : TypeId} (ht : P.underlying t = some (.slice e)) {ti : TypeInfo} (hi : P.info? e = some ti)
    (hk : ti.size = 1) {z : Value} (hz : ti.zero = some z) (hzc : z.cells = #[z]) (h0 : 0 ≤ n) (hb : n.toNat * ti.bytes ≤ 140737488355328) (hn : n ≤ 140737488355328)
    (h : ∀ v w', St S w0 w' (.vec v e 1 n.toNat (List.replicate n.toNat z) :: M) → K (a.put o.dst v) w') : o.wp P a w K Q := by
  obtain ⟨n, rfl⟩ := Int.eq_ofNat_of_zero_le h0
  simp only [Int.toNat_natCast] at *
  refine wp_run ?_ (h _ _ (hS.allocVec (List.replicate n z) e 1 n (by simp) (by unfold maxLen; omega)))
  have h1 : (IntKind.i64.wrap (n : Int)) = n := IntWalk.i64_in _ (by omega)
  have h2 : ¬ ((ti.bytes : Int) * (n : Int) > 281474976710656) := by
    have : (ti.bytes : Int) * (n : Int) = ((n * ti.bytes : Nat) : Int) := by rw [Int.natCast_mul, Int.mul_comm]
    omega
  have hcells : (Array.range n).map (fun i => (if n = 0 then (#[] : Array Value) else z.cells)[i % (if n = 0 then (#[] : Array Value) else z.cells).size]!) = (List.replicate n z).toArray := by
    apply Array.ext
    · simp
    · intro i h1 h2
      simp at h1
      have : ¬ n = 0 := by omega
      simp [this, hzc, Nat.mod_one]
  by_cases hn0 : n = 0
  · subst hn0
    have h10 : IntKind.i64.wrap 0 = 0 := rfl
    simp at hx hy
    simp [execOp, ho, hx, hy, Instr.makeSlice, run_underlying ht, typeInfo, hi, asInt, asIntOf, h10, sizeOf, newRow]
    have e0 : Array.range 0 = #[] := by apply Array.ext <;> simp
    simp [e0]
  · simp only [hn0, if_false] at hcells
    have h3 : ¬ (281474976710656 < (ti.bytes : Int) * (n : Int)) := by omega
    simp [execOp, ho, hx, hy, Instr.makeSlice, run_underlying ht, typeInfo, hi, asInt, asIntOf, h1, sizeOf, hk, newRow, h3, hn0, zeroValue, hz, hcells]
    intro h; omega

theorem run_firstCells_rd {w : World} {k : Nat} {x : Value} {n : Nat} {xs : List Value} (hR : Rd w k x n xs) (m : Nat) (hm : m ≤ n) : (Builtin.firstCells k m x).run P w = .ok (xs.take (m * k)).toArray w := by
  obtain ⟨h1, p, cap, rfl, _, _, h4, h5⟩ := hR
  have hle : m * k ≤ n * k := Nat.mul_le_mul_right _ hm
  cases p with
  | none =>
    have := h4 rfl
    have hn0 : m = 0 := by omega
    subst hn0
    simp [Builtin.firstCells]
  | some p =>
    have := run_firstCells_some (P := P) w k m p n cap (xs.take (m * k)) (by rw [List.length_take]; omega) (fun j v hv => by
      refine h5 p rfl j v ?_
      rw [List.getElem?_take] at hv
      split at hv
      · exact hv
      · cases hv)
    exact this

/-- copy(dst, src), dst over a part of a row. -/
theorem wp_copyRow (hS : St S w0 w M) {d s : Operand} {dT sT : TypeId} (ho : o.op = .call { callee := .builtin .copy, args := #[d, s], argTypes := #[dT, sT] }) {u : Value} {k n : Nat} {xs : List Value} (hR : Rd w k u n xs) {g off dl dc : Nat} (i : Nat) {cs : List Value} {fr : Nat × Nat} {e' : TypeId} (hM : M[i]? = some (.row g cs e' fr)) (hd : a.eval d = .slice (some ⟨g, off, none⟩) dl dc) (hs : a.eval s = u)
    {e : TypeId} (ht : P.underlying dT = some (.slice e)) {ti : TypeInfo} (hi : P.info? e = some ti) (hk : ti.size = k)
    (hfit : off + min n dl * k ≤ cs.length) (hf : ∀ j, j < min n dl * k → notFrozen fr (off + j)) (h1 : ∀ u ∈ xs, u.oneCell' = true) {cs' : List Value} (hcs : cs.take off ++ xs.take (min n dl * k) ++ cs.drop (off + min n dl * k) = cs')
    (h : ∀ w', St S w0 w' (M.set i (.row g cs' e' fr)) → K (a.put o.dst (.int .i64 (min n dl : Nat))) w') : o.wp P a w K Q := by
  subst hk
  have hxl : (xs.take (min n dl * ti.size)).length = min n dl * ti.size := by
    rw [List.length_take, hR.1]; exact Nat.min_eq_left (Nat.mul_le_mul_right _ (Nat.min_le_left _ _))
  obtain ⟨w', r1, r2, r3⟩ := run_storeCells_nf (P := P) g off e' fr (xs.take (min n dl * ti.size)) 0 cs w (hS.row hM) (by rw [hxl]; simpa using hfit) (by rw [hxl]; simpa using hf) (fun v hv => h1 v (List.mem_of_mem_take hv))
  rw [hxl] at r2
  have hfc := run_firstCells_rd (P := P) hR (min n dl) (Nat.min_le_left _ _)
  refine wp_run ?_ (h w' (hS.chgRow i hM r3 ?_))
  · obtain ⟨_, p, cap, rfl, _⟩ := hR
    simp only [Nat.min_def] at hfc r1 ⊢
    simp [execOp, ho, resolve, invoke, builtin, hd, hs, Builtin.copy_, run_underlying ht, Builtin.lenOf, sizeOf, typeInfo, hi, Nat.min_def, hfc, r1, goInt]
  · subst hcs; simpa using r2

/-- copy(dst, src), dst a slice of its own. -/
theorem wp_copyVec (hS : St S w0 w M) {d s : Operand} {dT sT : TypeId} (ho : o.op = .call { callee := .builtin .copy, args := #[d, s], argTypes := #[dT, sT] }) {u v : Value} {k n : Nat} {xs : List Value} (hR : Rd w k u n xs) (i : Nat) {e' : TypeId} {dl : Nat} {ds : List Value} (hM : M[i]? = some (.vec v e' k dl ds)) (hd : a.eval d = v) (hs : a.eval s = u)
    {e : TypeId} (ht : P.underlying dT = some (.slice e)) {ti : TypeInfo} (hi : P.info? e = some ti) (hk : ti.size = k)
    (h1 : ∀ u ∈ xs, u.oneCell' = true) {ds' : List Value} (hds : xs.take (min n dl * k) ++ ds.drop (min n dl * k) = ds')
    (h : ∀ w', St S w0 w' (M.set i (.vec v e' k dl ds')) → K (a.put o.dst (.int .i64 (min n dl : Nat))) w') : o.wp P a w K Q := by
  subst hk
  have hle : min n dl * ti.size ≤ dl * ti.size := Nat.mul_le_mul_right _ (Nat.min_le_right _ _)
  have hxl : (xs.take (min n dl * ti.size)).length = min n dl * ti.size := by
    rw [List.length_take, hR.1]; exact Nat.min_eq_left (Nat.mul_le_mul_right _ (Nat.min_le_left _ _))
  have hfc := run_firstCells_rd (P := P) hR (min n dl) (Nat.min_le_left _ _)
  rcases hS.vec hM with ⟨e1, ⟨rfl, rfl⟩ | ⟨g, cap, rest', fr, rfl, hh, e2, e3, e4, e5⟩⟩
  · have hds0 : ds = [] := List.eq_nil_of_length_eq_zero (by simpa using e1)
    have hw' : ds' = ds := by subst hds; simp [hds0]
    have hM' : M.set i (.vec (.slice none 0 0) e' ti.size 0 ds') = M := by
      rw [hw']
      apply List.ext_getElem?
      intro j
      rw [List.getElem?_set]
      split
      · rename_i ej; subst ej; rw [hM]; simp [(List.getElem?_eq_some_iff.1 hM).1]
      · rfl
    rw [hM'] at h
    refine wp_run ?_ (h w hS)
    obtain ⟨_, p, cap, rfl, _⟩ := hR
    simp at hfc
    simp [execOp, ho, resolve, invoke, builtin, hd, hs, Builtin.copy_, run_underlying ht, Builtin.lenOf, sizeOf, typeInfo, hi, hfc, goInt]
  · obtain ⟨w', r1, r2, r3⟩ := run_storeCells_nf (P := P) g 0 e' fr (xs.take (min n dl * ti.size)) 0 (ds ++ rest') w hh (by rw [hxl]; simp only [List.length_append]; omega) (by intro j hj; rw [hxl] at hj; exact e5 _ (by have := Nat.mul_le_mul_right ti.size e2; omega)) (fun v hv => h1 v (List.mem_of_mem_take hv))
    rw [hxl] at r2
    have hcat : (ds ++ rest').take (0 + 0) ++ xs.take (min n dl * ti.size) ++ (ds ++ rest').drop (0 + 0 + min n dl * ti.size) = ds' ++ rest' := by
      subst hds
      simp only [Nat.zero_add, List.take_zero, List.nil_append]
      rw [List.drop_append_of_le_length (by omega), List.append_assoc]
    rw [hcat] at r2
    have hl : ds'.length = ds.length := by subst hds; rw [List.length_append, hxl, List.length_drop]; omega
    refine wp_run ?_ (h w' (hS.chgVec i hM (by simpa [Value.ownBlock] using r3) (v' := .slice (some ⟨g, 0, none⟩) dl cap) ?_ (fun _ hy => .inl hy)))
    · obtain ⟨_, p, cap', rfl, _⟩ := hR
      simp only [Nat.min_def] at hfc r1 ⊢
      simp [execOp, ho, resolve, invoke, builtin, hd, hs, Builtin.copy_, run_underlying ht, Builtin.lenOf, sizeOf, typeInfo, hi, Nat.min_def, hfc, r1, goInt]
    · exact ⟨by omega, .inr ⟨g, cap, rest', fr, rfl, r2, e2, e3, by simp only [List.length_append] at e4 ⊢; omega, e5⟩⟩

/-- copy(v[lo:hi], src), v a slice of its own. -/
theorem wp_copyCut (hS : St S w0 w M) {d s : Operand} {dT sT : TypeId} (ho : o.op = .call { callee := .builtin .copy, args := #[d, s], argTypes := #[dT, sT] }) {u v : Value} {k n : Nat} {xs : List Value} (hR : Rd w k u n xs) (i : Nat) {e' : TypeId} {dl : Nat} {ds : List Value} (hM : M[i]? = some (.vec v e' k dl ds)) {lo hi : Nat} (hd : a.eval d = cutSl v k lo hi) (hs : a.eval s = u)
    {e : TypeId} (ht : P.underlying dT = some (.slice e)) {ti : TypeInfo} (hti : P.info? e = some ti) (hk : ti.size = k) (hlo : lo ≤ hi) (hhi : hi ≤ dl)
    (h1 : ∀ u ∈ xs, u.oneCell' = true) {ds' : List Value} (hds : ds.take (lo * k) ++ xs.take (min n (hi - lo) * k) ++ ds.drop ((lo + min n (hi - lo)) * k) = ds')
    (h : ∀ w', St S w0 w' (M.set i (.vec v e' k dl ds')) → K (a.put o.dst (.int .i64 (min n (hi - lo) : Nat))) w') : o.wp P a w K Q := by
  subst hk
  obtain ⟨m, hm⟩ : ∃ m, min n (hi - lo) = m := ⟨_, rfl⟩
  rw [hm] at hds h
  have hmn : m ≤ n := by omega
  have hxl : (xs.take (m * ti.size)).length = m * ti.size := by
    rw [List.length_take, hR.1]; exact Nat.min_eq_left (Nat.mul_le_mul_right _ hmn)
  have hfc := run_firstCells_rd (P := P) hR m hmn
  have hdl := (hS.vec hM).1
  have hle : (lo + m) * ti.size ≤ dl * ti.size := Nat.mul_le_mul_right _ (by omega)
  rw [Nat.add_mul] at hle hds
  have hmin : Nat.min n (hi - lo) = m := hm
  have hmin' : (if n ≤ hi - lo then n else hi - lo) = m := by rw [← hm, Nat.min_def]
  by_cases hm0 : m = 0
  · subst hm0
    have hds0 : ds' = ds := by subst hds; simp
    have hM' : M.set i (.vec v e' ti.size dl ds') = M := by
      rw [hds0]
      apply List.ext_getElem?
      intro j
      rw [List.getElem?_set]
      split
      · rename_i ej; subst ej; rw [hM]; simp [(List.getElem?_eq_some_iff.1 hM).1]
      · rfl
    rw [hM'] at h
    refine wp_run ?_ (h w hS)
    simp at hfc
    obtain ⟨_, p, cap, rfl, _⟩ := hR
    rcases (hS.vec hM).2 with ⟨rfl, _⟩ | ⟨g, cap', _, _, rfl, _⟩
    · simp [execOp, ho, resolve, invoke, builtin, hd, hs, cutSl, Builtin.copy_, run_underlying ht, Builtin.lenOf, sizeOf, typeInfo, hti, hfc, goInt, hmin]
    · simp only [cutSl] at hd
      by_cases hc : cap' = lo
      · simp only [hc, if_true] at hd
        simp [execOp, ho, resolve, invoke, builtin, hd, hs, Builtin.copy_, run_underlying ht, Builtin.lenOf, sizeOf, typeInfo, hti, hfc, goInt, storeCells, hmin]
      · simp only [hc, if_false, Option.map_some] at hd
        simp [execOp, ho, resolve, invoke, builtin, hd, hs, Builtin.copy_, run_underlying ht, Builtin.lenOf, sizeOf, typeInfo, hti, hfc, goInt, storeCells, hmin]
  · rcases hS.vec hM with ⟨e1, ⟨rfl, rfl⟩ | ⟨g, cap, rest', fr, rfl, hh, e2, e3, e4, e5⟩⟩
    · omega
    · have hcl : ¬ cap = lo := by omega
      simp only [cutSl, hcl, if_false, Option.map_some, add_lit, Nat.zero_add] at hd
      have hle2 : dl * ti.size ≤ cap * ti.size := Nat.mul_le_mul_right _ e2
      obtain ⟨w', r1, r2, r3⟩ := run_storeCells_nf (P := P) g (lo * ti.size) e' fr (xs.take (m * ti.size)) 0 (ds ++ rest') w hh (by rw [hxl]; simp only [List.length_append]; omega) (by intro j hj; rw [hxl] at hj; exact e5 _ (by omega)) (fun v hv => h1 v (List.mem_of_mem_take hv))
      rw [hxl] at r2
      have hcat : (ds ++ rest').take (lo * ti.size + 0) ++ xs.take (m * ti.size) ++ (ds ++ rest').drop (lo * ti.size + 0 + m * ti.size) = ds' ++ rest' := by
        subst hds
        simp only [Nat.add_zero]
        rw [List.take_append_of_le_length (by omega), List.drop_append_of_le_length (by omega)]
        simp
      rw [hcat] at r2
      have hl : ds'.length = ds.length := by subst hds; simp only [List.length_append, hxl, List.length_take, List.length_drop]; omega
      refine wp_run ?_ (h w' (hS.chgVec i hM (by simpa [Value.ownBlock] using r3) (v' := .slice (some ⟨g, 0, none⟩) dl cap) ?_ (fun _ hy => .inl hy)))
      · obtain ⟨_, p, cap', rfl, _⟩ := hR
        simp [execOp, ho, resolve, invoke, builtin, hd, hs, Builtin.copy_, run_underlying ht, Builtin.lenOf, sizeOf, typeInfo, hti, hmin, hfc, r1, goInt]
      · exact ⟨by omega, .inr ⟨g, cap, rest', fr, rfl, r2, e2, e3, by simp only [List.length_append] at e4 ⊢; omega, e5⟩⟩
  
/-- x[:h] of an array that a pointer leads to. -/
theorem x_cutArr {x hi : Operand} {t : TypeId} (ho : o.op = .slice t x none (some hi) none) {p : Addr} (hx : a.eval x = .pointer (some p)) {h : Int} (hh : a.eval hi = .int .i64 h) {n : Nat} {e : TypeId} (ht : P.underlying t = some (.array n e)) {ti : TypeInfo} (he : P.info? e = some ti) (h0 : 0 ≤ h) (h1 : h ≤ n) :
    (execOp a.eval o).run P w = .ok (.value (.slice (some p) h.toNat n)) w := by
  obtain ⟨h, rfl⟩ := Int.eq_ofNat_of_zero_le h0
  have h2 : h ≤ n := by omega
  simp [execOp, ho, hx, hh, Instr.sliceAt, run_underlying ht, Instr.sureAddr, Instr.sliceBounds, Instr.sliceBound, asIntOf, h2, sizeOf, typeInfo, he, Addr.add]

/-- v[:n:n], n its length. -/
theorem wp_clip (hS : St S w0 w M) {t : TypeId} {x hi mx : Operand} (ho : o.op = .slice t x none (some hi) (some mx)) (i : Nat) {v : Value} {e : TypeId} {k n : Nat} {xs : List Value} (hM : M[i]? = some (.vec v e k n xs)) (hx : a.eval x = v) (hh : a.eval hi = .int .i64 (n : Int)) (hm : a.eval mx = .int .i64 (n : Int))
    {e' : TypeId} (ht : P.underlying t = some (.slice e')) {ti : TypeInfo} (hti : P.info? e' = some ti)
    (h : ∀ v' , St S w0 w (M.set i (.vec v' e k n xs)) → K (a.put o.dst v') w) : o.wp P a w K Q := by
  rcases hS.vec hM with ⟨e1, ⟨rfl, rfl⟩ | ⟨g, cap, rest', fr, rfl, hh', e2, e3, e4, e5⟩⟩
  · refine wp_run (v := .slice none 0 0) ?_ (h (.slice none 0 0) (hS.chgVec i hM (Mod.refl _ _) (v' := .slice none 0 0) (n' := 0) ⟨e1, .inl ⟨rfl, rfl⟩⟩ (by simp [Value.ownBlock])))
    simp at hh hm
    simp [execOp, ho, hx, hh, hm, not_array ht, Instr.slice, run_underlying ht, Instr.sliceBounds, Instr.sliceBound, asIntOf, sizeOf, typeInfo, hti]
  · refine wp_run (v := .slice (some ⟨g, 0, none⟩) n n) ?_ (h (.slice (some ⟨g, 0, none⟩) n n) (hS.chgVec i hM (Mod.refl _ _) (v' := .slice (some ⟨g, 0, none⟩) n n) ?_ (fun _ hy => .inl hy)))
    · simp [execOp, ho, hx, hh, hm, not_array ht, Instr.slice, run_underlying ht, Instr.sliceBounds, Instr.sliceBound, asIntOf, e2, sizeOf, typeInfo, hti, Addr.add]
    · have := Nat.mul_le_mul_right k e2
      exact ⟨e1, .inr ⟨g, n, rest', fr, rfl, hh', Nat.le_refl _, by omega, by omega, fun j hj => e5 j (by omega)⟩⟩

/-- x[i] of an array that is a value. -/
theorem x_indexA {t : TypeId} {x i : Operand} (ho : o.op = .index t x i) {cs : List Value} (hx : a.eval x = .agg cs.toArray) {j : Int} {ik : IntKind} (hi : a.eval i = .int ik j) {n : Nat} {e : TypeId} (ht : P.underlying t = some (.array n e)) {d : TypeDesc} (hd : P.underlying e = some d) (hn : (match d with | .struct _ | .array _ _ => true | _ => false) = false)
    {ti : TypeInfo} (he : P.info? e = some ti) (hk : ti.size = 1) (h0 : 0 ≤ j) (hj : j < n) {v : Value} (hv : cs[j.toNat]? = some v) : (execOp a.eval o).run P w = .ok (.value v) w := by
  have ha : (isAgg e).run P w = .ok false w := by
    unfold isAgg
    rw [Sem.run_bind, run_underlying hd w]
    cases d <;> simp_all
  have hb : (0 ≤ j ∧ j < (n : Int)) := ⟨h0, hj⟩
  simp [execOp, ho, hx, hi, Instr.index, asIntOf, run_underlying ht, hb, sizeOf, typeInfo, he, hk, part, ha, hv]

theorem parts2 {v0 v1 : Value} {l0 l1 : List UInt8} (h0 : Rd w 1 v0 l0.length (B l0)) (h1 : Rd w 1 v1 l1.length (B l1)) : ∀ (i : Nat) v l, [v0, v1][i]? = some v → [l0, l1][i]? = some l → Rd w 1 v l.length (B l) := by
  intro i v l hv hl
  match i with
  | 0 => simp at hv hl; subst hv; subst hl; exact h0
  | 1 => simp at hv hl; subst hv; subst hl; exact h1
  | i + 2 => simp at hv
theorem parts3 {v0 v1 v2 : Value} {l0 l1 l2 : List UInt8} (h0 : Rd w 1 v0 l0.length (B l0)) (h1 : Rd w 1 v1 l1.length (B l1)) (h2 : Rd w 1 v2 l2.length (B l2)) : ∀ (i : Nat) v l, [v0, v1, v2][i]? = some v → [l0, l1, l2][i]? = some l → Rd w 1 v l.length (B l) := by
  intro i v l hv hl
  match i with
  | 0 => simp at hv hl; subst hv; subst hl; exact h0
  | 1 => simp at hv hl; subst hv; subst hl; exact h1
  | 2 => simp at hv hl; subst hv; subst hl; exact h2
  | i + 3 => simp at hv

/-! ### Calls -/

/-- A contract's end, for a function that changes nothing that was there: it hands back v, and the entries B are new. -/
def Makes (w : World) (B : List Ent) (v : Value) (e : Ending) (w' : World) : Prop := e = .returned v ∧ St [] w w' B
end
end Go.Cmp
