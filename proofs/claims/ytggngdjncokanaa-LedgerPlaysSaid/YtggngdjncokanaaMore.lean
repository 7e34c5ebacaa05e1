/-
  More steps of a walk, for every program.
-/
import Derived.Test.YtggngdjncokanaaOps
import Derived.Deep.RegionHeld3
set_option linter.unusedSimpArgs false
set_option linter.unusedVariables false
set_option linter.unusedSectionVars false
namespace Go.Cmp
open Go.RowKit
section
variable {P : Program} {ops : Array Oper} {rest : List Oper} {o : Oper} {a : Act} {K : Act → World → Prop} {Q : Exit → Act → World → Prop} {w w0 : World} {S : List Nat} {M : List Ent}
theorem wif {E : Prop} (hw : Region.wanted o (yielded ops a.tmps) = true) (h : Oper.wp P o a w K Q) : if Region.wanted o (yielded ops a.tmps) = true then Oper.wp P o a w K Q else E := by
  rw [if_pos hw]; exact h
/-- A load of one cell at an address that is known. -/
theorem x_loadC {t : TypeId} {x : Operand} (ho : o.op = .load t x) {p : Addr} (hx : a.eval x = .pointer (some p)) {d : TypeDesc} (hd : P.underlying t = some d) (hn : (match d with | .struct _ | .array _ _ => true | _ => false) = false) {v : Value} (hc : w.cell? p = some v) : (execOp a.eval o).run P w = .ok (.value v) w := by
  have := run_load1 (P := P) (w := w) hd hn hc
  simp [execOp, ho, hx, Instr.loadAt, Instr.sureAddr, this]
theorem wod_of {i d : Nat} (hi : ops[i]? = some o) (hd : o.dst = some d) (hw : Region.wanted o (yielded ops a.tmps) = true) (h : Oper.wp P ⟨some d, o.op, o.type, o.pos, o.after, o.guard⟩ a w K Q) : wpOp P ops Q i K a w := by
  refine wo_of hi hw ?_
  have e : (⟨some d, o.op, o.type, o.pos, o.after, o.guard⟩ : Oper) = o := by rw [← hd]
  rwa [e] at h
theorem won_of {i : Nat} (hi : ops[i]? = some o) (hd : o.dst = none) (hw : Region.wanted o (yielded ops a.tmps) = true) (h : Oper.wp P ⟨none, o.op, o.type, o.pos, o.after, o.guard⟩ a w K Q) : wpOp P ops Q i K a w := by
  refine wo_of hi hw ?_
  have e : (⟨none, o.op, o.type, o.pos, o.after, o.guard⟩ : Oper) = o := by rw [← hd]
  rwa [e] at h
/-- A byte of a string. -/
theorem x_strIndex {t : TypeId} {x i : Operand} (ho : o.op = .index t x i) {l : List UInt8} (hx : a.eval x = .string ⟨l.toArray⟩) {j : Int} {ik : IntKind} (hi : a.eval i = .int ik j) (ht : P.underlying t = some .string) (h0 : 0 ≤ j) (hj : j < l.length) : (execOp a.eval o).run P w = .ok (.value (.int .u8 ((l.getD j.toNat 0).toNat : Int))) w := by
  obtain ⟨j, rfl⟩ := Int.eq_ofNat_of_zero_le h0
  have hlt : j < l.length := by omega
  have hb : (⟨l.toArray⟩ : ByteArray)[j]? = some l[j] := by
    rw [getElem?_pos (⟨l.toArray⟩ : ByteArray) j (by simpa [ByteArray.size] using hlt)]
    rfl
  simp [execOp, ho, hx, hi, Instr.index, asIntOf, run_underlying ht, hb, List.getD, hlt]
theorem whd_take {md : Region.Mode} {C : World → Prop} (i : Nat) {d : Nat} {fuel : Nat} {listed : Array Bool} {v : Value} (hi : ops[i]? = some o) (hd : o.dst = some d) (hs : Region.noSelect ops = true) (hf : Region.free md ops listed i = true) (hr : (Region.ready md ops listed).contains i = true)
    (hQ : ∀ c a w, Q (.panic c) (a.put o.dst v) w → Q (.panic c) a w) (hw : Region.wanted o (yielded ops a.tmps) = true) (hy : ∀ w, C w → (execOp a.eval o).run P w = .ok (.value v) w) (hC : C w)
    (h : wpAnyH P md ops Q C fuel (listed.setIfInBounds i true) (a.put (some d) v) w) : wpAnyH P md ops Q C (fuel + 1) listed a w :=
  wh_take i hi hs hf hr hQ hw hy hC (by rw [hd]; exact h)
theorem whd_skip {md : Region.Mode} {C : World → Prop} (i : Nat) {d : Nat} {fuel : Nat} {listed : Array Bool} (hi : ops[i]? = some o) (hd : o.dst = some d) (hs : Region.noSelect ops = true) (hf : Region.free md ops listed i = true) (hr : (Region.ready md ops listed).contains i = true)
    (hQ : ∀ c a w, Q (.panic c) (a.put o.dst undef) w → Q (.panic c) a w) (hw : Region.wanted o (yielded ops a.tmps) = false) (hC : C w)
    (h : wpAnyH P md ops Q C fuel (listed.setIfInBounds i true) (a.put (some d) undef) w) : wpAnyH P md ops Q C (fuel + 1) listed a w :=
  wh_skip i hi hs hf hr hQ hw hC (by rw [hd]; exact h)
theorem bx (r : List UInt8) (a b : Nat) : (⟨r.toArray⟩ : ByteArray).extract a b = ⟨((r.take b).drop a).toArray⟩ := by
  apply ByteArray.ext
  rw [ByteArray.data_extract]
  apply Array.ext'
  simp [List.drop_take]
theorem set_fold : ∀ (cs : List Value) (k : Nat) (cells : Array Value), k + cs.length = cells.size →
    ((cs.zipIdx k).foldl (fun (a : Array Value) (x : Value × Nat) => a.setIfInBounds (0 + x.2) x.1) cells) = (cells.toList.take k ++ cs).toArray
  | [], k, cells, h => by
    simp only [List.length_nil, Nat.add_zero] at h
    subst h
    have : List.take cells.size cells.toList = cells.toList := List.take_of_length_le (by simp)
    simp [this]
  | v :: cs, k, cells, h => by
    simp only [List.length_cons] at h
    have hlt : k < cells.size := by omega
    simp only [List.zipIdx_cons, List.foldl_cons, Nat.zero_add]
    have := set_fold cs (k + 1) (cells.setIfInBounds k v) (by simp; omega)
    simp only [Nat.zero_add] at this
    rw [this]
    congr 1
    simp only [Array.toList_setIfInBounds]
    rw [List.take_succ_eq_append_getElem (by simpa using hlt), List.take_set, List.set_eq_of_length_le (by simp; omega)]
    simp
theorem fill_one (k : Nat) (v : Value) (cs : List Value) (hv : v.cells = cs.toArray) (hl : cs.length = k) (cells : Array Value) (hc : cells.size = k) : Instr.fill (fun i => some (i * k, k)) cells [(0, v)] = some cs.toArray := by
  have hf := set_fold cs 0 cells (by omega)
  simp only [Instr.fill, Nat.zero_mul, hv, List.size_toArray, hl]
  rw [if_neg (by simp; omega)]
  have e : cs.toArray.zipIdx = (cs.zipIdx).toArray := by apply Array.ext'; simp
  rw [e, List.size_toArray]
  have e2 : ∀ (f : Array Value → Value × Nat → Array Value) (b : Array Value) (l : List (Value × Nat)), Array.foldl f b l.toArray 0 l.length = l.foldl f b := fun f b l => by simp
  rw [e2, hf]
  simp
/-- '[]T{x}'. -/
theorem wp_build1 {v : Value} {cs : List Value} (hS : St S w0 w M) {t : TypeId} {x : Operand} (ho : o.op = .buildSlice t 1 #[(0, x)]) (hx : a.eval x = v) (hv : v.cells = cs.toArray) {e : TypeId} (ht : P.underlying t = some (.slice e)) {ti : TypeInfo} (hi : P.info? e = some ti) {k : Nat} (hk : ti.size = k) (hl : cs.length = k) (hk2 : k ≤ 16777216) (hz : ti.zero.isSome = true)
    (h : ∀ v w', St S w0 w' (.vec v e k 1 cs :: M) → K (a.put o.dst v) w') : o.wp P a w K Q := by
  obtain ⟨z, hz⟩ := Option.isSome_iff_exists.1 hz
  refine wp_buildSlice hS ho ht hi hk (cs := cs) ?_ (by omega) (by omega) (by omega) h
  unfold buildCells
  rw [hz]
  have := fill_one k v cs hv hl ((Array.range (1 * k)).map ((if 1 * k = 0 then #[] else z.cells)[· % (if 1 * k = 0 then #[] else z.cells).size]!)) (by simp)
  simp only [List.map_cons, List.map_nil, hx] at this ⊢
  rw [this]
  simp
/-- The end of a function whose one result is a struct in memory. -/
theorem end_cell (hS : St S w0 w M) {fn : Func} {R : Ending → World → Prop} {p : Tmp} {ty : TypeId} (hr : fn.results = #[.cell p ty]) {g : Nat} (hp : a.tmps.getD p undef = .pointer (some ⟨g, 0, none⟩)) (i : Nat) {cs : List Value} {e : TypeId} {fr : Nat × Nat} (hM : M[i]? = some (.row g cs e fr)) {d : TypeDesc} (hu : P.underlying ty = some d) (hd : (match d with | .struct _ | .array _ _ => true | _ => false) = true)
    (hi : (P.info? ty).map (·.size) = some cs.length) (hdf : a.defers = []) (h : R (.returned (.agg cs.toArray)) w) : bodyPost P fn R .ret a w :=
  bodyPost_ret (v := .agg cs.toArray) (results_cell_row hr a.tmps w g e cs.toArray fr d hp (hS.row hM) hu hd (by simpa using hi)) hdf h
theorem drew_mod (w : World) : Mod [] w w.drew := (Mod.refl _ _).drew
end
end Go.Cmp
