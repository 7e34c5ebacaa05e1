/-
  Steps of a walk that find their entries by themselves; slices of things. Every lemma holds for every program.
-/
import Derived.Test.YtggngdjncokanaaMore
set_option linter.unusedSimpArgs false
set_option linter.unusedVariables false
set_option linter.unusedSectionVars false
namespace Go.Cmp
open Go.RowKit

/-- A goal at which the walk is to stop. -/
def Stop (G : Prop) : Prop := G
theorem Stop.mk {G : Prop} (h : Stop G) : G := h

/-- Entry i of M is m. -/
inductive Ix : List Ent → Nat → Ent → Prop
  | here {m : Ent} {M : List Ent} : Ix (m :: M) 0 m
  | there {x m : Ent} {M : List Ent} {i : Nat} (h : Ix M i m) : Ix (x :: M) (i + 1) m
theorem Ix.get {M : List Ent} {i : Nat} {m : Ent} (h : Ix M i m) : M[i]? = some m := by
  induction h with
  | here => rfl
  | there _ ih => simpa using ih
/-- M' is M, but for an m that is m' there. -/
inductive Sw : List Ent → Ent → Ent → List Ent → Prop
  | here {m m' : Ent} {M : List Ent} : Sw (m :: M) m m' (m' :: M)
  | there {x m m' : Ent} {M M' : List Ent} (h : Sw M m m' M') : Sw (x :: M) m m' (x :: M')
theorem Sw.set {M M' : List Ent} {m m' : Ent} (h : Sw M m m' M') : ∃ i, M[i]? = some m ∧ M.set i m' = M' := by
  induction h with
  | here => exact ⟨0, rfl, rfl⟩
  | there _ ih =>
    obtain ⟨i, h1, h2⟩ := ih
    exact ⟨i + 1, by simpa using h1, by simp [h2]⟩
/-- m taken out of M leaves M'. -/
inductive Out : List Ent → Ent → List Ent → Prop
  | here {m : Ent} {M : List Ent} : Out (m :: M) m M
  | there {x m : Ent} {M M' : List Ent} (h : Out M m M') : Out (x :: M) m (x :: M')
theorem Out.perm {M M' : List Ent} {m : Ent} (h : Out M m M') : M.Perm (m :: M') := by
  induction h with
  | here => exact List.Perm.refl _
  | there _ ih => exact (ih.cons _).trans (List.Perm.swap _ _ _)
theorem St.out {S : List Nat} {w0 w : World} {M M' : List Ent} {m : Ent} (h : St S w0 w M) (o : Out M m M') : St S w0 w (m :: M') := h.perm o.perm
/-- N is taken out of M. -/
inductive Sel : List Ent → List Ent → Prop
  | refl {M : List Ent} : Sel M M
  | nil {M : List Ent} : Sel M []
  | cons {m : Ent} {M M' N : List Ent} (o : Out M m M') (h : Sel M' N) : Sel M (m :: N)
  | drop {x : Ent} {M N : List Ent} (h : Sel M N) : Sel (x :: M) N
theorem St.sel {S : List Nat} {w0 w : World} {M N : List Ent} (h : St S w0 w M) (p : Sel M N) : St S w0 w N := by
  have key : ∃ K, M.Perm K ∧ N.Sublist K := by
    clear h
    induction p with
    | refl => exact ⟨_, List.Perm.refl _, List.Sublist.refl _⟩
    | nil => exact ⟨_, List.Perm.refl _, List.nil_sublist _⟩
    | cons o _ ih =>
      obtain ⟨K, p, q⟩ := ih
      exact ⟨_, o.perm.trans (p.cons _), q.cons_cons _⟩
    | drop _ ih =>
      obtain ⟨K, p, q⟩ := ih
      exact ⟨_, p.cons _, q.cons _⟩
  obtain ⟨K, p, q⟩ := key
  exact (h.perm p).sub q
theorem St.cast {S : List Nat} {w0 w : World} {M N : List Ent} (h : St S w0 w M) (e : M = N) : St S w0 w N := e ▸ h
theorem St.rdx {S : List Nat} {w0 w : World} {M : List Ent} (h : St S w0 w M) {i : Nat} {v : Value} {e : TypeId} {k n : Nat} {xs : List Value} (hi : Ix M i (.vec v e k n xs)) : Rd w k v n xs := h.rdv hi.get

/-! ### Slices of things -/

theorem flat_len {α : Type} {f : α → List Value} {k : Nat} (hf : ∀ x, (f x).length = k) : ∀ L : List α, (L.flatMap f).length = L.length * k
  | [] => by simp
  | x :: L => by rw [List.flatMap_cons, List.length_append, hf, flat_len hf L, List.length_cons, Nat.add_mul]; omega
theorem flat_drop {α : Type} {f : α → List Value} {k : Nat} (hf : ∀ x, (f x).length = k) : ∀ (L : List α) (j : Nat), (L.flatMap f).drop (j * k) = (L.drop j).flatMap f
  | L, 0 => by simp
  | [], j + 1 => by simp
  | x :: L, j + 1 => by
    rw [List.drop_succ_cons, ← flat_drop hf L j, List.flatMap_cons, Nat.succ_mul, Nat.add_comm, ← hf x, List.drop_append, List.drop_eq_nil_of_le (by omega), List.nil_append]
    congr 1
    omega
theorem flat_take {α : Type} {f : α → List Value} {k : Nat} (hf : ∀ x, (f x).length = k) : ∀ (L : List α) (j : Nat), (L.flatMap f).take (j * k) = (L.take j).flatMap f
  | L, 0 => by simp
  | [], j + 1 => by simp
  | x :: L, j + 1 => by
    rw [List.take_succ_cons, List.flatMap_cons, List.flatMap_cons, ← flat_take hf L j, Nat.succ_mul, Nat.add_comm, ← hf x, List.take_length_add_append]
theorem flat_seg {α : Type} {f : α → List Value} {k : Nat} (hf : ∀ x, (f x).length = k) (L : List α) (j : Nat) (x : α) (hx : L[j]? = some x) : ((L.flatMap f).drop (j * k)).take k = f x := by
  rw [flat_drop hf]
  obtain ⟨hlt, e⟩ := List.getElem?_eq_some_iff.1 hx
  rw [List.drop_eq_getElem_cons hlt, List.flatMap_cons, e, List.take_append_of_le_length (by rw [hf]; exact Nat.le_refl _), List.take_of_length_le (by rw [hf]; exact Nat.le_refl _)]
theorem flat_get {α : Type} {f : α → List Value} {k : Nat} (hf : ∀ x, (f x).length = k) (L : List α) (j : Nat) (x : α) (hx : L[j]? = some x) (d : Nat) (u : Value) (hu : (f x)[d]? = some u) : (L.flatMap f)[j * k + d]? = some u := by
  have h := flat_seg hf L j x hx
  have hd : d < k := by have := (List.getElem?_eq_some_iff.1 hu).1; rw [hf] at this; exact this
  rw [← h, List.getElem?_take_of_lt hd, List.getElem?_drop] at hu
  exact hu
theorem flat_set {α : Type} {f : α → List Value} {k : Nat} (hf : ∀ x, (f x).length = k) (L : List α) (j : Nat) (y : α) (hj : j < L.length) : (L.flatMap f).take (j * k) ++ f y ++ (L.flatMap f).drop (j * k + k) = (L.set j y).flatMap f := by
  rw [flat_take hf, show j * k + k = (j + 1) * k by rw [Nat.add_mul, Nat.one_mul], flat_drop hf, List.set_eq_take_append_cons_drop, if_pos hj]
  simp
theorem flat_setd {α : Type} {f : α → List Value} {k : Nat} (hf : ∀ x, (f x).length = k) (L : List α) (j : Nat) (x y : α) (hx : L[j]? = some x) (d : Nat) (u : Value) (hd : d < k) (hy : f y = (f x).set d u) :
    (L.flatMap f).take (j * k + d) ++ [u] ++ (L.flatMap f).drop (j * k + d + 1) = (L.set j y).flatMap f := by
  obtain ⟨hlt, e⟩ := List.getElem?_eq_some_iff.1 hx
  rw [← flat_set hf L j y hlt, hy, List.set_eq_take_append_cons_drop, if_pos (by rw [hf]; exact hd)]
  have h := flat_seg hf L j x hx
  rw [List.take_add, List.append_assoc, List.append_assoc, List.append_assoc]
  congr 1
  have h1 : (f x).take d = ((L.flatMap f).drop (j * k)).take d := by rw [← h, List.take_take, Nat.min_eq_left (by omega)]
  have h2 : (L.flatMap f).drop (j * k + d + 1) = (f x).drop (d + 1) ++ (L.flatMap f).drop (j * k + k) := by
    rw [← h, List.drop_take]
    have e0 : (L.flatMap f).drop (j * k + d + 1) = ((L.flatMap f).drop (j * k)).drop (d + 1) := by rw [List.drop_drop, Nat.add_assoc]
    have e1 : (L.flatMap f).drop (j * k + k) = (((L.flatMap f).drop (j * k)).drop (d + 1)).drop (k - (d + 1)) := by
      rw [List.drop_drop, List.drop_drop]; congr 1; omega
    rw [e0, e1, List.take_append_drop]
  rw [h1, h2]
  simp
def nth {α : Type} [Inhabited α] (L : List α) (j : Nat) : α := L.getD j default
theorem get_lt {α : Type} [Inhabited α] {L : List α} {j : Nat} (h : j < L.length) : L[j]? = some (nth L j) := by
  unfold nth
  rw [List.getD_eq_getElem?_getD, List.getElem?_eq_getElem h]
  rfl
theorem nth_eq {α : Type} [Inhabited α] {L : List α} {j : Nat} {x : α} (h : L[j]? = some x) : nth L j = x := by
  unfold nth
  rw [List.getD_eq_getElem?_getD, h]
  rfl
theorem nth_mem {α : Type} [Inhabited α] {L : List α} {j : Nat} (h : j < L.length) : nth L j ∈ L := List.mem_of_getElem? (get_lt h)
theorem nth_set {α : Type} [Inhabited α] {L : List α} {i j : Nat} {x : α} : nth (L.set i x) j = if i = j ∧ i < L.length then x else nth L j := by
  unfold nth
  rw [List.getD_eq_getElem?_getD, List.getD_eq_getElem?_getD, List.getElem?_set]
  by_cases h : i = j
  · subst h
    by_cases h2 : i < L.length
    · simp [h2]
    · simp [h2]
  · simp [h]
theorem nth_append {α : Type} [Inhabited α] {L K : List α} {j : Nat} : nth (L ++ K) j = if j < L.length then nth L j else nth K (j - L.length) := by
  unfold nth
  rw [List.getD_eq_getElem?_getD, List.getD_eq_getElem?_getD, List.getD_eq_getElem?_getD, List.getElem?_append]
  split <;> rfl
theorem nth_ext {α : Type} [Inhabited α] {L K : List α} (h : L.length = K.length) (h2 : ∀ j, j < L.length → nth L j = nth K j) : L = K := by
  apply List.ext_getElem?
  intro j
  by_cases hj : j < L.length
  · rw [get_lt hj, get_lt (by omega), h2 j hj]
  · rw [List.getElem?_eq_none (by omega), List.getElem?_eq_none (by omega)]

section
variable {P : Program} {ops : Array Oper} {rest : List Oper} {o : Oper} {a : Act} {K : Act → World → Prop} {Q : Exit → Act → World → Prop} {w w0 : World} {S : List Nat} {M M' : List Ent}

theorem g_xor {d : Option Tmp} {ty : TypeId} {pos : String} {af : Array Edge} {gd : Option (Nat × Bool)} {t u : TypeId} {x y : Operand} (H : wpList P ops Q (⟨d, .binOp .xor t x y u, ty, pos, af, gd⟩ :: rest) a w) : wpList P ops Q (⟨d, .binOp .xor t x y u, ty, pos, af, gd⟩ :: rest) a w := H
section
variable {Ks : Act → Prop}
theorem s_alloc {d : Option Tmp} {ty : TypeId} {pos : String} {af : Array Edge} {gd : Option (Nat × Bool)} {e : TypeId} (H : wpStill P ops w Ks (⟨d, .alloc e, ty, pos, af, gd⟩ :: rest) a) : wpStill P ops w Ks (⟨d, .alloc e, ty, pos, af, gd⟩ :: rest) a := H
theorem s_box {d : Option Tmp} {ty : TypeId} {pos : String} {af : Array Edge} {gd : Option (Nat × Bool)} {e : TypeId} {v : Operand} (H : wpStill P ops w Ks (⟨d, .box e v, ty, pos, af, gd⟩ :: rest) a) : wpStill P ops w Ks (⟨d, .box e v, ty, pos, af, gd⟩ :: rest) a := H
theorem s_load {d : Option Tmp} {ty : TypeId} {pos : String} {af : Array Edge} {gd : Option (Nat × Bool)} {t : TypeId} {x : Operand} (H : wpStill P ops w Ks (⟨d, .load t x, ty, pos, af, gd⟩ :: rest) a) : wpStill P ops w Ks (⟨d, .load t x, ty, pos, af, gd⟩ :: rest) a := H
theorem s_store {d : Option Tmp} {ty : TypeId} {pos : String} {af : Array Edge} {gd : Option (Nat × Bool)} {t : TypeId} {x : Operand} {y : Operand} (H : wpStill P ops w Ks (⟨d, .store t x y, ty, pos, af, gd⟩ :: rest) a) : wpStill P ops w Ks (⟨d, .store t x y, ty, pos, af, gd⟩ :: rest) a := H
theorem s_index {d : Option Tmp} {ty : TypeId} {pos : String} {af : Array Edge} {gd : Option (Nat × Bool)} {t : TypeId} {x : Operand} {y : Operand} (H : wpStill P ops w Ks (⟨d, .indexAddr t x y, ty, pos, af, gd⟩ :: rest) a) : wpStill P ops w Ks (⟨d, .indexAddr t x y, ty, pos, af, gd⟩ :: rest) a := H
theorem s_indexV {d : Option Tmp} {ty : TypeId} {pos : String} {af : Array Edge} {gd : Option (Nat × Bool)} {t : TypeId} {x : Operand} {y : Operand} (H : wpStill P ops w Ks (⟨d, .index t x y, ty, pos, af, gd⟩ :: rest) a) : wpStill P ops w Ks (⟨d, .index t x y, ty, pos, af, gd⟩ :: rest) a := H
theorem s_bs {d : Option Tmp} {ty : TypeId} {pos : String} {af : Array Edge} {gd : Option (Nat × Bool)} {t : TypeId} {n : Nat} {ps : Array (Nat × Operand)} (H : wpStill P ops w Ks (⟨d, .buildSlice t n ps, ty, pos, af, gd⟩ :: rest) a) : wpStill P ops w Ks (⟨d, .buildSlice t n ps, ty, pos, af, gd⟩ :: rest) a := H
theorem s_len {d : Option Tmp} {ty : TypeId} {pos : String} {af : Array Edge} {gd : Option (Nat × Bool)} {as' : Array Operand} {ts : Array TypeId} (H : wpStill P ops w Ks (⟨d, .call ⟨.builtin .len, as', ts⟩, ty, pos, af, gd⟩ :: rest) a) : wpStill P ops w Ks (⟨d, .call ⟨.builtin .len, as', ts⟩, ty, pos, af, gd⟩ :: rest) a := H
theorem s_append {d : Option Tmp} {ty : TypeId} {pos : String} {af : Array Edge} {gd : Option (Nat × Bool)} {as' : Array Operand} {ts : Array TypeId} (H : wpStill P ops w Ks (⟨d, .call ⟨.builtin .append, as', ts⟩, ty, pos, af, gd⟩ :: rest) a) : wpStill P ops w Ks (⟨d, .call ⟨.builtin .append, as', ts⟩, ty, pos, af, gd⟩ :: rest) a := H
theorem s_copy {d : Option Tmp} {ty : TypeId} {pos : String} {af : Array Edge} {gd : Option (Nat × Bool)} {as' : Array Operand} {ts : Array TypeId} (H : wpStill P ops w Ks (⟨d, .call ⟨.builtin .copy, as', ts⟩, ty, pos, af, gd⟩ :: rest) a) : wpStill P ops w Ks (⟨d, .call ⟨.builtin .copy, as', ts⟩, ty, pos, af, gd⟩ :: rest) a := H
theorem s_call {d : Option Tmp} {ty : TypeId} {pos : String} {af : Array Edge} {gd : Option (Nat × Bool)} {f : Operand} {as' : Array Operand} {ts : Array TypeId} (H : wpStill P ops w Ks (⟨d, .call ⟨.value f, as', ts⟩, ty, pos, af, gd⟩ :: rest) a) : wpStill P ops w Ks (⟨d, .call ⟨.value f, as', ts⟩, ty, pos, af, gd⟩ :: rest) a := H
theorem s_cut {d : Option Tmp} {ty : TypeId} {pos : String} {af : Array Edge} {gd : Option (Nat × Bool)} {t : TypeId} {x : Operand} {l : Option Operand} {h : Option Operand} {m : Option Operand} (H : wpStill P ops w Ks (⟨d, .slice t x l h m, ty, pos, af, gd⟩ :: rest) a) : wpStill P ops w Ks (⟨d, .slice t x l h m, ty, pos, af, gd⟩ :: rest) a := H
theorem s_conv {d : Option Tmp} {ty : TypeId} {pos : String} {af : Array Edge} {gd : Option (Nat × Bool)} {t : TypeId} {u : TypeId} {x : Operand} (H : wpStill P ops w Ks (⟨d, .convert t u x, ty, pos, af, gd⟩ :: rest) a) : wpStill P ops w Ks (⟨d, .convert t u x, ty, pos, af, gd⟩ :: rest) a := H
theorem s_make {d : Option Tmp} {ty : TypeId} {pos : String} {af : Array Edge} {gd : Option (Nat × Bool)} {t : TypeId} {x : Operand} {y : Operand} (H : wpStill P ops w Ks (⟨d, .makeSlice t x y, ty, pos, af, gd⟩ :: rest) a) : wpStill P ops w Ks (⟨d, .makeSlice t x y, ty, pos, af, gd⟩ :: rest) a := H
theorem s_field {d : Option Tmp} {ty : TypeId} {pos : String} {af : Array Edge} {gd : Option (Nat × Bool)} {t : TypeId} {x : Operand} {n : Nat} (H : wpStill P ops w Ks (⟨d, .fieldAddr t x n, ty, pos, af, gd⟩ :: rest) a) : wpStill P ops w Ks (⟨d, .fieldAddr t x n, ty, pos, af, gd⟩ :: rest) a := H
theorem s_bin {d : Option Tmp} {ty : TypeId} {pos : String} {af : Array Edge} {gd : Option (Nat × Bool)} {t u : TypeId} {x y : Operand} (H : wpStill P ops w Ks (⟨d, .binOp .add t x y u, ty, pos, af, gd⟩ :: rest) a) : wpStill P ops w Ks (⟨d, .binOp .add t x y u, ty, pos, af, gd⟩ :: rest) a := H
theorem g_bin {d : Option Tmp} {ty : TypeId} {pos : String} {af : Array Edge} {gd : Option (Nat × Bool)} {t u : TypeId} {x y : Operand} (H : wpList P ops Q (⟨d, .binOp .add t x y u, ty, pos, af, gd⟩ :: rest) a w) : wpList P ops Q (⟨d, .binOp .add t x y u, ty, pos, af, gd⟩ :: rest) a w := H
end

/-! ### Reads -/

theorem a_load1 (hS : St S w0 w M) {t : TypeId} {x : Operand} (ho : o.op = .load t x) {g off : Nat} (hx : a.eval x = .pointer (some ⟨g, off, none⟩))
    {d : TypeDesc} (hd : P.underlying t = some d) (hn : (match d with | .struct _ | .array _ _ => true | _ => false) = false) {i : Nat} {cs : List Value} {e : TypeId} {fr : Nat × Nat} (hM : Ix M i (.row g cs e fr))
    {v : Value} (hv : cs[off]? = some v) : (execOp a.eval o).run P w = .ok (.value v) w := x_load1 hS ho hx hd hn i hM.get hv
/-- A whole row, a struct. -/
theorem a_loadR (hS : St S w0 w M) {t : TypeId} {x : Operand} (ho : o.op = .load t x) {g : Nat} (hx : a.eval x = .pointer (some ⟨g, 0, none⟩))
    {d : TypeDesc} (hd : P.underlying t = some d) (hn : (match d with | .struct _ | .array _ _ => true | _ => false) = true) {i : Nat} {cs : List Value} {e : TypeId} {fr : Nat × Nat} (hM : Ix M i (.row g cs e fr))
    (hs : (P.info? t).map (·.size) = some cs.length) : (execOp a.eval o).run P w = .ok (.value (.agg cs.toArray)) w := by
  obtain ⟨ti, hi, hk⟩ := Option.map_eq_some_iff.1 hs
  exact x_loadA hS ho hx hd hn hi i hM.get (by rw [hk, List.drop_zero, List.take_length]) hk.symm
/-- A struct out of a row. -/
theorem a_loadA (hS : St S w0 w M) {t : TypeId} {x : Operand} (ho : o.op = .load t x) {g off : Nat} (hx : a.eval x = .pointer (some ⟨g, off, none⟩))
    {d : TypeDesc} (hd : P.underlying t = some d) (hn : (match d with | .struct _ | .array _ _ => true | _ => false) = true) {i : Nat} {cs : List Value} {e : TypeId} {fr : Nat × Nat} (hM : Ix M i (.row g cs e fr))
    (k : Nat) (hs : (P.info? t).map (·.size) = some k) {vs : List Value} (hv : (cs.drop off).take k = vs) (hl : vs.length = k) : (execOp a.eval o).run P w = .ok (.value (.agg vs.toArray)) w := by
  obtain ⟨ti, hi, hk⟩ := Option.map_eq_some_iff.1 hs
  exact x_loadA hS ho hx hd hn hi i hM.get (by rw [hk]; exact hv) (by rw [hk]; exact hl)
theorem a_loadE {t : TypeId} {x : Operand} (ho : o.op = .load t x) {v : Value} {α : Type} {f : α → List Value} {k : Nat} {L : List α} (hR : Rd w k v L.length (L.flatMap f)) {j : Nat} (hx : a.eval x = ptrAt v (j * k))
    {d : TypeDesc} (hd : P.underlying t = some d) (hn : (match d with | .struct _ | .array _ _ => true | _ => false) = false) (hf : ∀ x, (f x).length = k) {y : α} (hy : L[j]? = some y) {u : Value} (hu : (f y)[0]? = some u) : (execOp a.eval o).run P w = .ok (.value u) w :=
  x_loadS1 ho hR hx hd hn (flat_get hf L j y hy 0 u hu)
theorem a_loadF {t : TypeId} {x : Operand} (ho : o.op = .load t x) {v : Value} {α : Type} {f : α → List Value} {k : Nat} {L : List α} (hR : Rd w k v L.length (L.flatMap f)) {j c : Nat} (hx : a.eval x = ptrAt v (j * k + c))
    {d : TypeDesc} (hd : P.underlying t = some d) (hn : (match d with | .struct _ | .array _ _ => true | _ => false) = false) (hf : ∀ x, (f x).length = k) {y : α} (hy : L[j]? = some y) {u : Value} (hu : (f y)[c]? = some u) : (execOp a.eval o).run P w = .ok (.value u) w :=
  x_loadS1 ho hR hx hd hn (flat_get hf L j y hy c u hu)
/-- An element that is a struct. -/
theorem a_loadG {t : TypeId} {x : Operand} (ho : o.op = .load t x) {v : Value} {α : Type} {f : α → List Value} {k : Nat} {L : List α} (hR : Rd w k v L.length (L.flatMap f)) {j : Nat} (hx : a.eval x = ptrAt v (j * k))
    {d : TypeDesc} (hd : P.underlying t = some d) (hn : (match d with | .struct _ | .array _ _ => true | _ => false) = true) (hs : (P.info? t).map (·.size) = some k) (hf : ∀ x, (f x).length = k) {y : α} (hy : L[j]? = some y) {vs : List Value} (hv : f y = vs) : (execOp a.eval o).run P w = .ok (.value (.agg vs.toArray)) w := by
  obtain ⟨ti, hi, hk⟩ := Option.map_eq_some_iff.1 hs
  subst hv
  exact x_loadSA ho hR hx hd hn hi (by rw [hk]; exact flat_seg hf L j y hy) (by rw [hf, hk]) (by have := (List.getElem?_eq_some_iff.1 hy).1; omega)
theorem a_len {x : Operand} {t : TypeId} (ho : o.op = .call { callee := .builtin .len, args := #[x], argTypes := #[t] }) {u : Value} {k n : Nat} {xs : List Value} (hx : a.eval x = u) {e : TypeId} (ht : P.underlying t = some (.slice e)) (hR : Rd w k u n xs) : (execOp a.eval o).run P w = .ok (.value (.int .i64 (n : Int))) w := x_len ho hR hx ht
theorem a_index {x i : Operand} {t : TypeId} (ho : o.op = .indexAddr t x i) {u : Value} {k n : Nat} {xs : List Value} (hx : a.eval x = u) {j : Int} {ik : IntKind} (hi : a.eval i = .int ik j)
    {e : TypeId} (ht : P.underlying t = some (.slice e)) (hR : Rd w k u n xs) (hk : (P.info? e).map (·.size) = some k) (h0 : 0 ≤ j) (hj : j < n) : (execOp a.eval o).run P w = .ok (.value (ptrAt u (j.toNat * k))) w := by
  obtain ⟨ti, he, hk⟩ := Option.map_eq_some_iff.1 hk
  exact x_index ho hR hx hi ht he hk h0 hj
theorem a_indexW {x i : Operand} {t : TypeId} (ho : o.op = .indexAddr t x i) {u : Value} {k n : Nat} (hx : a.eval x = u) {j : Int} {ik : IntKind} (hi : a.eval i = .int ik j)
    {e : TypeId} (ht : P.underlying t = some (.slice e)) {w1 : World} {xs : List Value} (hR : Rd w1 k u n xs) (hk : (P.info? e).map (·.size) = some k) (h0 : 0 ≤ j) (hj : j < n) : (execOp a.eval o).run P w = .ok (.value (ptrAt u (j.toNat * k))) w := by
  obtain ⟨ti, he, hk⟩ := Option.map_eq_some_iff.1 hk
  subst hk
  obtain ⟨p, cap, rfl⟩ := hR.some (by omega)
  have hb : (0 ≤ j ∧ j < (n : Int)) := ⟨h0, hj⟩
  simp [execOp, ho, hx, hi, Instr.indexAt, asIntOf, run_underlying ht, sizeOf, typeInfo, he, ptrAt, hb]
theorem a_indexI (l : Nat) (hS : St S w0 w M) {x i : Operand} {t : TypeId} (ho : o.op = .indexAddr t x i) {u : Value} {k n : Nat} {xs : List Value} {e' : TypeId} (hM : M[l]? = some (.vec u e' k n xs)) (hx : a.eval x = u) {j : Int} {ik : IntKind} (hi : a.eval i = .int ik j)
    {e : TypeId} (ht : P.underlying t = some (.slice e)) (hk : (P.info? e).map (·.size) = some k) (h0 : 0 ≤ j) (hj : j < n) : (execOp a.eval o).run P w = .ok (.value (ptrAt u (j.toNat * k))) w :=
  a_index ho hx hi ht (hS.rdv hM) hk h0 hj
theorem a_field {t : TypeId} {x : Operand} {f : Nat} (ho : o.op = .fieldAddr t x f) {u : Value} {off : Nat} (hx : a.eval x = ptrAt u off) {k n : Nat} {xs : List Value} (hR : Rd w k u n xs) (h0 : 0 < n)
    {fields : Array Field} (hd : P.underlying t = some (.struct fields)) {fl : Field} (hf : fields[f]? = some fl) {d : Nat} (he : fl.offset = d) (hz : (P.info? fl.type).map (fun i => i.size == 0) = some false) : (execOp a.eval o).run P w = .ok (.value (ptrAt u (off + d))) w := by
  obtain ⟨p, cap, rfl⟩ := hR.some h0
  obtain ⟨ti, hi, hz⟩ := Option.map_eq_some_iff.1 hz
  subst he
  have hz' : ¬ ti.size = 0 := by simpa using hz
  simp [execOp, ho, hx, Instr.fieldAt, Instr.sureAddr, fieldPlace, run_underlying hd, ptrAt, hf, ← add_add, sizeOf, typeInfo, hi, hz']
theorem a_toString {src dst e : TypeId} {x : Operand} (ho : o.op = .convert src dst x) {u : Value} (hx : a.eval x = u) (hs : P.underlying src = some (.slice e)) (he : P.underlying e = some (.int .u8)) (hd : P.underlying dst = some .string)
    {l : List UInt8} {n : Nat} (hR : Rd w 1 u n (B l)) (hl : l.length = n) : (execOp a.eval o).run P w = .ok (.value (.string ⟨l.toArray⟩)) w := by
  subst hl; exact x_toString ho hs he hd hR hx
theorem a_concat {t r : TypeId} {x y : Operand} (ho : o.op = .binOp .add t x y r) {l m : List UInt8} (hx : a.eval x = .string ⟨l.toArray⟩) (hy : a.eval y = .string ⟨m.toArray⟩) (h : l.length + m.length ≤ 9223372036854775807) :
    (execOp a.eval o).run P w = .ok (.value (.string ⟨(l ++ m).toArray⟩)) w := by
  have hov : ¬ 9223372036854775807 < l.length + m.length := by omega
  have e : (⟨l.toArray⟩ : ByteArray) ++ ⟨m.toArray⟩ = ⟨(l ++ m).toArray⟩ := by
    apply ByteArray.ext
    simp [ByteArray.data_append]
  rw [← e]
  simp only [execOp, ho, hx, hy]
  go_simp

/-! ### Writes -/

theorem a_store1 (hS : St S w0 w M) {t : TypeId} {x y : Operand} (ho : o.op = .store t x y) {g off : Nat} (hx : a.eval x = .pointer (some ⟨g, off, none⟩)) {v : Value} (hy : a.eval y = v)
    (hvc : v.cells = #[v]) (h1 : v.oneCell' = true) (hs : (P.info? t).map (·.size) = some 1) {cs : List Value} {e : TypeId} {cs' : List Value} (hsw : Sw M (.row g cs e (0, 0)) (.row g cs' e (0, 0)) M') (hoff : off < cs.length) (hcs : cs.set off v = cs')
    (h : ∀ w', St S w0 w' M' → K (a.put o.dst undef) w') : o.wp P a w K Q := by
  obtain ⟨ti, hi, hk⟩ := Option.map_eq_some_iff.1 hs
  obtain ⟨i, hM, rfl⟩ := hsw.set
  refine wp_store1 hS ho hx hy hi (by rw [hvc]; exact hk.symm) i hM (by rw [hvc]; simp; omega) (fun j _ => nf0 _) (by rw [hvc]; simpa using h1) ?_ h
  rw [hvc, ← hcs, List.set_eq_take_append_cons_drop, if_pos hoff]
  simp
/-- A struct into a row. -/
theorem a_storeA (hS : St S w0 w M) {t : TypeId} {x y : Operand} (ho : o.op = .store t x y) {g off : Nat} (hx : a.eval x = .pointer (some ⟨g, off, none⟩)) {vs : List Value} (hy : a.eval y = .agg vs.toArray)
    (hs : (P.info? t).map (·.size) = some vs.length) (h1 : ∀ u ∈ vs, u.oneCell' = true) {cs : List Value} {e : TypeId} {cs' : List Value} (hsw : Sw M (.row g cs e (0, 0)) (.row g cs' e (0, 0)) M') (hoff : off + vs.length ≤ cs.length) (hcs : cs.take off ++ vs ++ cs.drop (off + vs.length) = cs')
    (h : ∀ w', St S w0 w' M' → K (a.put o.dst undef) w') : o.wp P a w K Q := by
  obtain ⟨ti, hi, hk⟩ := Option.map_eq_some_iff.1 hs
  obtain ⟨i, hM, rfl⟩ := hsw.set
  exact wp_store1 hS ho hx hy hi (by simpa [Value.cells] using hk.symm) i hM (by simpa [Value.cells] using hoff) (fun j _ => nf0 _) (by simpa [Value.cells] using h1) (by simpa [Value.cells] using hcs) h
/-- An element of one cell. -/
theorem a_storeE (hS : St S w0 w M) {t : TypeId} {x y : Operand} (ho : o.op = .store t x y) {u : Value} {j k : Nat} (hx : a.eval x = ptrAt u (j * k)) {v : Value} (hy : a.eval y = v)
    (hvc : v.cells = #[v]) (h1 : v.oneCell' = true) (hs : (P.info? t).map (·.size) = some 1) {α : Type} {f : α → List Value} {L : List α} {e : TypeId} {z : α} (hk : k = 1)
    (hsw : Sw M (.vec u e k L.length (L.flatMap f)) (.vec u e k (L.set j z).length ((L.set j z).flatMap f)) M') (hf : ∀ x, (f x).length = k) (hj : j < L.length) (hz : f z = [v])
    (h : ∀ w', St S w0 w' M' → K (a.put o.dst undef) w') : o.wp P a w K Q := by
  obtain ⟨ti, hi, hks⟩ := Option.map_eq_some_iff.1 hs
  rw [List.length_set] at hsw
  obtain ⟨i, hM, rfl⟩ := hsw.set
  refine wp_storeS hS ho hx hy hi (by rw [hvc]; exact hks.symm) i hM (by omega) ?_ (by rw [hvc]; simpa using h1) ?_ h
  · rw [hvc, flat_len hf, hk]; simp; omega
  · rw [hvc, ← flat_set hf L j z hj, hz]
    simp [hk]
/-- One cell of an element. -/
theorem a_storeF (hS : St S w0 w M) {t : TypeId} {x y : Operand} (ho : o.op = .store t x y) {u : Value} {j k c : Nat} (hx : a.eval x = ptrAt u (j * k + c)) {v : Value} (hy : a.eval y = v)
    (hvc : v.cells = #[v]) (h1 : v.oneCell' = true) (hs : (P.info? t).map (·.size) = some 1) {α : Type} {f : α → List Value} {L : List α} {e : TypeId} {q z : α}
    (hsw : Sw M (.vec u e k L.length (L.flatMap f)) (.vec u e k (L.set j z).length ((L.set j z).flatMap f)) M') (hf : ∀ x, (f x).length = k) (hq : L[j]? = some q) (hc : c < k) (hz : f z = (f q).set c v)
    (h : ∀ w', St S w0 w' M' → K (a.put o.dst undef) w') : o.wp P a w K Q := by
  obtain ⟨ti, hi, hks⟩ := Option.map_eq_some_iff.1 hs
  rw [List.length_set] at hsw
  obtain ⟨i, hM, rfl⟩ := hsw.set
  have hj := (List.getElem?_eq_some_iff.1 hq).1
  have hle : (j + 1) * k ≤ L.length * k := Nat.mul_le_mul_right _ hj
  rw [Nat.add_mul, Nat.one_mul] at hle
  refine wp_storeS hS ho hx hy hi (by rw [hvc]; exact hks.symm) i hM (by omega) ?_ (by rw [hvc]; simpa using h1) ?_ h
  · rw [hvc, flat_len hf]; simp; omega
  · rw [hvc]
    exact flat_setd hf L j q z hq c v hc hz
/-- A whole element that is a struct. -/
theorem a_storeG (hS : St S w0 w M) {t : TypeId} {x y : Operand} (ho : o.op = .store t x y) {u : Value} {j k : Nat} (hx : a.eval x = ptrAt u (j * k)) {vs : List Value} (hy : a.eval y = .agg vs.toArray)
    (hs : (P.info? t).map (·.size) = some k) (h1 : ∀ u ∈ vs, u.oneCell' = true) {α : Type} {f : α → List Value} {L : List α} {e : TypeId} {z : α}
    (hsw : Sw M (.vec u e k L.length (L.flatMap f)) (.vec u e k (L.set j z).length ((L.set j z).flatMap f)) M') (hf : ∀ x, (f x).length = k) (hj : j < L.length) (hz : f z = vs)
    (h : ∀ w', St S w0 w' M' → K (a.put o.dst undef) w') : o.wp P a w K Q := by
  obtain ⟨ti, hi, hks⟩ := Option.map_eq_some_iff.1 hs
  rw [List.length_set] at hsw
  obtain ⟨i, hM, rfl⟩ := hsw.set
  subst hz
  have hle : (j + 1) * k ≤ L.length * k := Nat.mul_le_mul_right _ hj
  rw [Nat.add_mul, Nat.one_mul] at hle
  refine wp_storeS hS ho hx hy hi (by simpa [Value.cells, hf] using hks.symm) i hM (by omega) ?_ (by simpa [Value.cells] using h1) ?_ h
  · rw [flat_len hf]; simp [Value.cells, hf]; omega
  · simp only [Value.cells, List.size_toArray, hf]
    exact flat_set hf L j z hj
theorem a_append (hS : St S w0 w M) {s x : Operand} {t : TypeId} (ho : o.op = .call { callee := .builtin .append, args := #[s, x], argTypes := #[t, t] })
    {v u : Value} {e : TypeId} {k : Nat} {n : Nat} {xs : List Value} {m : Nat} {news : List Value} (hs : a.eval s = v) (hx : a.eval x = u) (ht : P.underlying t = some (.slice e)) (hout : Out M (.vec v e k n xs) M')
    (hR : Rd w k u m news) (hi : (P.info? e).map (fun i => (i.zero.map (·.cells.size), i.size)) = some (some k, k)) (hb : (P.info? e).map (fun i => decide (0 < i.bytes) && decide (i.bytes ≤ 1024)) = some true) (hbl : n + m ≤ 137438953472) (h1 : ∀ u ∈ news, u.oneCell' = true)
    (h : ∀ v' w', St S w0 w' (.vec v' e k (n + m) (xs ++ news) :: M') → (v' = .slice none 0 0 ↔ v = .slice none 0 0 ∧ m = 0) → K (a.put o.dst v') w') : o.wp P a w K Q := by
  obtain ⟨ti, hti, hk⟩ := Option.map_eq_some_iff.1 hi
  simp only [Prod.mk.injEq] at hk
  obtain ⟨z, hz, hzs⟩ := Option.map_eq_some_iff.1 hk.1
  rw [hti] at hb
  simp only [Option.map_some, Option.some.injEq, Bool.and_eq_true, decide_eq_true_eq] at hb
  exact wp_append (hS.out hout) ho 0 rfl hR hs hx ht hti hz (by rw [hzs, hk.2]) hb.1 hk.2 h1 (Nat.le_trans (Nat.mul_le_mul hbl hb.2) (by omega)) (fun v' w' hS' hv => h v' w' hS' hv)
theorem flat_snoc {α : Type} (f : α → List Value) (L : List α) (z : α) : L.flatMap f ++ f z = (L ++ [z]).flatMap f := by simp
/-- append(v, z), z a thing. -/
theorem a_appendT (hS : St S w0 w M) {s x : Operand} {t : TypeId} (ho : o.op = .call { callee := .builtin .append, args := #[s, x], argTypes := #[t, t] })
    {v u : Value} {e : TypeId} {k : Nat} {α : Type} {f : α → List Value} {L : List α} {z : α} (hs : a.eval s = v) (hx : a.eval x = u) (ht : P.underlying t = some (.slice e)) (hout : Out M (.vec v e k L.length (L.flatMap f)) M')
    (hR : Rd w k u 1 (f z)) (hi : (P.info? e).map (fun i => (i.zero.map (·.cells.size), i.size)) = some (some k, k)) (hb : (P.info? e).map (fun i => decide (0 < i.bytes) && decide (i.bytes ≤ 1024)) = some true) (hbl : L.length + 1 ≤ 137438953472) (h1 : ∀ u ∈ f z, u.oneCell' = true)
    (h : ∀ v' w', St S w0 w' (.vec v' e k (L ++ [z]).length ((L ++ [z]).flatMap f) :: M') → v' ≠ .slice none 0 0 → K (a.put o.dst v') w') : o.wp P a w K Q := by
  refine a_append hS ho hs hx ht hout hR hi hb hbl h1 fun v' w' hS' hv => h v' w' ?_ (fun e => by have := (hv.1 e).2; omega)
  rw [← flat_snoc, List.length_append]
  exact hS'
theorem Rd.one {w : World} {k : Nat} {v : Value} {n : Nat} {xs : List Value} (h : Rd w k v n xs) : v.oneCell' = true := by
  obtain ⟨_, p, cap, rfl, _⟩ := h; rfl
theorem Reads.at {S : List Nat} {w0 w : World} {M M0 : List Ent} {k : Nat} {v : Value} {n : Nat} {xs : List Value} (h : Reads S w0 M0 k v n xs) (hS : St S w0 w M) (p : M0.Sublist M) : Rd w k v n xs := h w (hS.sub p)
/-- '[]T{x}'. -/
theorem a_build1 {v : Value} {cs : List Value} (hS : St S w0 w M) {t : TypeId} {x : Operand} (ho : o.op = .buildSlice t 1 #[(0, x)]) (hx : a.eval x = v) (hv : v.cells = cs.toArray) {e : TypeId} (ht : P.underlying t = some (.slice e)) (hk : (P.info? e).map (fun i => (i.size, i.zero.isSome)) = some (cs.length, true)) (hk2 : cs.length ≤ 16777216)
    (h : ∀ v w', St S w0 w' (.vec v e cs.length 1 cs :: M) → K (a.put o.dst v) w') : o.wp P a w K Q := by
  obtain ⟨ti, hi, hk⟩ := Option.map_eq_some_iff.1 hk
  simp only [Prod.mk.injEq] at hk
  exact wp_build1 hS ho hx hv ht hi hk.1 rfl hk2 hk.2 h
theorem a_build0 (hS : St S w0 w M) {t : TypeId} (ho : o.op = .buildSlice t 0 #[]) {e : TypeId} (ht : P.underlying t = some (.slice e)) {k : Nat} (hk : (P.info? e).map (fun i => (i.size, i.zero.isSome)) = some (k, true))
    (h : ∀ v w', St S w0 w' (.vec v e k 0 [] :: M) → K (a.put o.dst v) w') : o.wp P a w K Q := by
  obtain ⟨ti, hi, hk⟩ := Option.map_eq_some_iff.1 hk
  simp only [Prod.mk.injEq] at hk
  obtain ⟨z, hz⟩ := Option.isSome_iff_exists.1 hk.2
  refine wp_buildSlice hS ho ht hi hk.1 (cs := []) ?_ (by simp) (by simp) (by omega) h
  simp [buildCells, hz, Instr.fill]
theorem a_make (hS : St S w0 w M) {t : TypeId} {x y : Operand} (ho : o.op = .makeSlice t x y) {n : Int} (hx : a.eval x = .int .i64 n) (hy : a.eval y = .int .i64 n) {e : TypeId} (ht : P.underlying t = some (.slice e)) {z : Value} (hk : (P.info? e).map (fun i => (i.size, i.zero, decide (i.bytes ≤ 64))) = some (1, some z, true)) (hzc : z.cells = #[z])
    (h0 : 0 ≤ n) (hb : n ≤ 2199023255552)
    (h : ∀ v w', St S w0 w' (.vec v e 1 n.toNat (List.replicate n.toNat z) :: M) → K (a.put o.dst v) w') : o.wp P a w K Q := by
  obtain ⟨ti, hi, hk⟩ := Option.map_eq_some_iff.1 hk
  simp only [Prod.mk.injEq] at hk
  obtain ⟨k1, k2, k3⟩ := hk
  have k3 := of_decide_eq_true k3
  refine wp_make hS ho hx hy ht hi k1 k2 hzc h0 ?_ (by omega) h
  obtain ⟨m, rfl⟩ := Int.eq_ofNat_of_zero_le h0
  rw [Int.toNat_natCast]
  have h2 : m ≤ 2199023255552 := by omega
  exact Nat.le_trans (Nat.mul_le_mul h2 k3) (by omega)

/-! ### Strings -/

theorem bsize (l : List UInt8) : (⟨l.toArray⟩ : ByteArray).size = l.length := by simp [ByteArray.size]
theorem a_strHi {t : TypeId} {x hi : Operand} (ho : o.op = .slice t x none (some hi) none) {l : List UInt8} (hx : a.eval x = .string ⟨l.toArray⟩) {h : Int} (hh : a.eval hi = .int .i64 h) (ht : P.underlying t = some .string) (h0 : 0 ≤ h) (h1 : h ≤ l.length) :
    (execOp a.eval o).run P w = .ok (.value (.string ⟨(l.take h.toNat).toArray⟩)) w := by
  obtain ⟨h, rfl⟩ := Int.eq_ofNat_of_zero_le h0
  have h2 : h ≤ l.length := by omega
  simp [execOp, ho, hx, hh, Instr.sliceAt, Instr.slice, run_underlying ht, Instr.sliceBounds, Instr.sliceBound, asIntOf, bsize, h2, bx]
theorem a_strLo {t : TypeId} {x lo : Operand} (ho : o.op = .slice t x (some lo) none none) {l : List UInt8} (hx : a.eval x = .string ⟨l.toArray⟩) {h : Int} (hh : a.eval lo = .int .i64 h) (ht : P.underlying t = some .string) (h0 : 0 ≤ h) (h1 : h ≤ l.length) :
    (execOp a.eval o).run P w = .ok (.value (.string ⟨(l.drop h.toNat).toArray⟩)) w := by
  obtain ⟨h, rfl⟩ := Int.eq_ofNat_of_zero_le h0
  have h2 : h ≤ l.length := by omega
  simp [execOp, ho, hx, hh, Instr.sliceAt, Instr.slice, run_underlying ht, Instr.sliceBounds, Instr.sliceBound, asIntOf, bsize, h2, bx]
theorem a_strMid {t : TypeId} {x lo hi : Operand} (ho : o.op = .slice t x (some lo) (some hi) none) {l : List UInt8} (hx : a.eval x = .string ⟨l.toArray⟩) {b h : Int} (hb : a.eval lo = .int .i64 b) (hh : a.eval hi = .int .i64 h) (ht : P.underlying t = some .string) (h0 : 0 ≤ b) (h1 : b ≤ h) (h2 : h ≤ l.length) :
    (execOp a.eval o).run P w = .ok (.value (.string ⟨((l.take h.toNat).drop b.toNat).toArray⟩)) w := by
  obtain ⟨b, rfl⟩ := Int.eq_ofNat_of_zero_le h0
  obtain ⟨h, rfl⟩ := Int.eq_ofNat_of_zero_le (Int.le_trans h0 h1)
  have h3 : h ≤ l.length := by omega
  have h4 : b ≤ h := by omega
  simp [execOp, ho, hx, hb, hh, Instr.sliceAt, Instr.slice, run_underlying ht, Instr.sliceBounds, Instr.sliceBound, asIntOf, bsize, h3, h4, bx]
theorem a_strIndex {t : TypeId} {x i : Operand} (ho : o.op = .index t x i) {l : List UInt8} (hx : a.eval x = .string ⟨l.toArray⟩) {j : Int} {ik : IntKind} (hi : a.eval i = .int ik j) (ht : P.underlying t = some .string) (h0 : 0 ≤ j) (hj : j < l.length) : (execOp a.eval o).run P w = .ok (.value (.int .u8 ((nth l j.toNat).toNat : Int))) w :=
  x_strIndex (P := P) (w := w) ho hx hi ht h0 hj
theorem Rd.le {w : World} {k : Nat} {v : Value} {n : Nat} {xs : List Value} (h : Rd w k v n xs) : n ≤ 9223372036854775807 := by
  obtain ⟨_, p, cap, _, h1, h2, _⟩ := h
  unfold maxLen at h2
  omega
theorem Reads.len {S : List Nat} {w0 w : World} {x y z u : Ent} {M0 : List Ent} {k : Nat} {v : Value} {n : Nat} {xs : List Value} (h : Reads S w0 M0 k v n xs) (hS : St S w0 w (x :: y :: z :: u :: M0)) : n ≤ 9223372036854775807 :=
  (h w (hS.sub (((((List.Sublist.refl _).cons _).cons _).cons _).cons _))).le
/-! ### Bytes -/

def byt (x : UInt8) : List Value := [.int .u8 (x.toNat : Int)]
theorem B_flat (l : List UInt8) : B l = l.flatMap byt := by
  induction l with
  | nil => rfl
  | cons x l ih => rw [List.flatMap_cons, ← ih]; rfl
theorem u8_range (c : UInt8) : (0 : Int) ≤ (c.toNat : Int) ∧ (c.toNat : Int) ≤ 255 := by have := c.toNat_lt; omega
theorem u8_of {m : Int} (h0 : 0 ≤ m) (h1 : m ≤ 255) : ∃ d : UInt8, m = (d.toNat : Int) := ⟨UInt8.ofNat m.toNat, by simp; omega⟩
theorem a_xor8 {t r : TypeId} {x y : Operand} (ho : o.op = .binOp .xor t x y r) {c d : UInt8} (hx : a.eval x = .int .u8 (c.toNat : Int)) (hy : a.eval y = .int .u8 (d.toNat : Int)) :
    (execOp a.eval o).run P w = .ok (.value (.int .u8 (((c ^^^ d).toNat : Nat) : Int))) w := by
  have h1 := u8_range c
  have h2 := u8_range d
  rw [UInt8.toNat_xor]
  simp only [execOp, ho, hx, hy]
  go_simp
  exact u8_xor_nat _ _ c.toNat_lt d.toNat_lt
theorem a_toString2 {src dst e : TypeId} {x : Operand} (ho : o.op = .convert src dst x) {u : Value} (hx : a.eval x = u) (hs : P.underlying src = some (.slice e)) (he : P.underlying e = some (.int .u8)) (hd : P.underlying dst = some .string)
    {l : List UInt8} (hR : Rd w 1 u l.length (l.flatMap byt)) : (execOp a.eval o).run P w = .ok (.value (.string ⟨l.toArray⟩)) w := by
  rw [← B_flat] at hR; exact a_toString ho hx hs he hd hR rfl
theorem a_toBytes (hS : St S w0 w M) {src dst e : TypeId} {x : Operand} (ho : o.op = .convert src dst x) (hs : P.underlying src = some .string) (hd : P.underlying dst = some (.slice e)) (he : P.underlying e = some (.int .u8))
    {l : List UInt8} (hx : a.eval x = .string ⟨l.toArray⟩) (hl : l.length ≤ maxLen) (h : ∀ v w', St S w0 w' (.vec v e 1 l.length (l.flatMap byt) :: M) → K (a.put o.dst v) w') : o.wp P a w K Q :=
  wp_toBytes hS ho hs hd he hx hl (fun v w' hS' => h v w' (by rw [B_flat] at hS'; exact hS'))
theorem Rd.shape {w : World} {k : Nat} {v : Value} {n : Nat} {xs : List Value} (h : Rd w k v n xs) : ∃ p cap, v = .slice p n cap := by
  obtain ⟨_, p, cap, e, _⟩ := h; exact ⟨p, cap, e⟩
theorem a_toString3 {src dst e : TypeId} {x : Operand} (ho : o.op = .convert src dst x) {u : Value} (hx : a.eval x = u) (hs : P.underlying src = some (.slice e)) (he : P.underlying e = some (.int .u8)) (hd : P.underlying dst = some .string)
    {l : List UInt8} {n : Nat} (hR : Rd w 1 u n (l.flatMap byt)) (hl : l.length = n) : (execOp a.eval o).run P w = .ok (.value (.string ⟨l.toArray⟩)) w := by
  rw [← B_flat] at hR; exact a_toString ho hx hs he hd hR hl
/-! ### The steps as the walk takes them: what finds entries is written here once -/

section
variable {Ks : Act → Prop}
theorem k_read {v : Value} (hw : Region.wanted o (yielded ops a.tmps) = true) (hr : (execOp a.eval o).run P w = .ok (.value v) w := by (first | exact a_load1 hS rfl rfl rfl rfl (by (repeat (first | exact Ix.here | apply Ix.there))) (by rfl) | exact a_loadE rfl (by (first | exact St.rdx hS (by (repeat (first | exact Ix.here | apply Ix.there))) | exact Reads.at (by assumption) hS (by (repeat (first | exact List.Sublist.refl _ | apply List.Sublist.cons))) | exact St.old0 hS (by assumption))) rfl rfl rfl (by intro _; rfl) (by (first | assumption | exact get_lt (by first | omega | (simp; omega)))) (by rfl) | exact a_loadF rfl (by (first | exact St.rdx hS (by (repeat (first | exact Ix.here | apply Ix.there))) | exact Reads.at (by assumption) hS (by (repeat (first | exact List.Sublist.refl _ | apply List.Sublist.cons))) | exact St.old0 hS (by assumption))) rfl rfl rfl (by intro _; rfl) (by (first | assumption | exact get_lt (by first | omega | (simp; omega)))) (by rfl) | exact a_loadG (vs := [_, _]) rfl (by (first | exact St.rdx hS (by (repeat (first | exact Ix.here | apply Ix.there))) | exact Reads.at (by assumption) hS (by (repeat (first | exact List.Sublist.refl _ | apply List.Sublist.cons))) | exact St.old0 hS (by assumption))) rfl rfl rfl (by rfl) (by intro _; rfl) (by (first | assumption | exact get_lt (by first | omega | (simp; omega)))) (by rfl) | exact a_loadG (vs := [_, _, _]) rfl (by (first | exact St.rdx hS (by (repeat (first | exact Ix.here | apply Ix.there))) | exact Reads.at (by assumption) hS (by (repeat (first | exact List.Sublist.refl _ | apply List.Sublist.cons))) | exact St.old0 hS (by assumption))) rfl rfl rfl (by rfl) (by intro _; rfl) (by (first | assumption | exact get_lt (by first | omega | (simp; omega)))) (by rfl) | exact a_loadG (vs := [_, _, _, _]) rfl (by (first | exact St.rdx hS (by (repeat (first | exact Ix.here | apply Ix.there))) | exact Reads.at (by assumption) hS (by (repeat (first | exact List.Sublist.refl _ | apply List.Sublist.cons))) | exact St.old0 hS (by assumption))) rfl rfl rfl (by rfl) (by intro _; rfl) (by (first | assumption | exact get_lt (by first | omega | (simp; omega)))) (by rfl) | exact a_loadG (vs := [_, _, _, _, _]) rfl (by (first | exact St.rdx hS (by (repeat (first | exact Ix.here | apply Ix.there))) | exact Reads.at (by assumption) hS (by (repeat (first | exact List.Sublist.refl _ | apply List.Sublist.cons))) | exact St.old0 hS (by assumption))) rfl rfl rfl (by rfl) (by intro _; rfl) (by (first | assumption | exact get_lt (by first | omega | (simp; omega)))) (by rfl) | exact a_loadR hS rfl rfl rfl rfl (by (repeat (first | exact Ix.here | apply Ix.there))) (by rfl))) (h : wpList P ops Q rest (a.put o.dst v) w) : wpList P ops Q (o :: rest) a w := wl_run hw hr h
theorem z_read {v : Value} (hw : Region.wanted o (yielded ops a.tmps) = true) (hr : (execOp a.eval o).run P w = .ok (.value v) w := by (first | exact a_load1 hS rfl rfl rfl rfl (by (repeat (first | exact Ix.here | apply Ix.there))) (by rfl) | exact a_loadE rfl (by (first | exact St.rdx hS (by (repeat (first | exact Ix.here | apply Ix.there))) | exact Reads.at (by assumption) hS (by (repeat (first | exact List.Sublist.refl _ | apply List.Sublist.cons))) | exact St.old0 hS (by assumption))) rfl rfl rfl (by intro _; rfl) (by (first | assumption | exact get_lt (by first | omega | (simp; omega)))) (by rfl) | exact a_loadF rfl (by (first | exact St.rdx hS (by (repeat (first | exact Ix.here | apply Ix.there))) | exact Reads.at (by assumption) hS (by (repeat (first | exact List.Sublist.refl _ | apply List.Sublist.cons))) | exact St.old0 hS (by assumption))) rfl rfl rfl (by intro _; rfl) (by (first | assumption | exact get_lt (by first | omega | (simp; omega)))) (by rfl) | exact a_loadG (vs := [_, _]) rfl (by (first | exact St.rdx hS (by (repeat (first | exact Ix.here | apply Ix.there))) | exact Reads.at (by assumption) hS (by (repeat (first | exact List.Sublist.refl _ | apply List.Sublist.cons))) | exact St.old0 hS (by assumption))) rfl rfl rfl (by rfl) (by intro _; rfl) (by (first | assumption | exact get_lt (by first | omega | (simp; omega)))) (by rfl) | exact a_loadG (vs := [_, _, _]) rfl (by (first | exact St.rdx hS (by (repeat (first | exact Ix.here | apply Ix.there))) | exact Reads.at (by assumption) hS (by (repeat (first | exact List.Sublist.refl _ | apply List.Sublist.cons))) | exact St.old0 hS (by assumption))) rfl rfl rfl (by rfl) (by intro _; rfl) (by (first | assumption | exact get_lt (by first | omega | (simp; omega)))) (by rfl) | exact a_loadG (vs := [_, _, _, _]) rfl (by (first | exact St.rdx hS (by (repeat (first | exact Ix.here | apply Ix.there))) | exact Reads.at (by assumption) hS (by (repeat (first | exact List.Sublist.refl _ | apply List.Sublist.cons))) | exact St.old0 hS (by assumption))) rfl rfl rfl (by rfl) (by intro _; rfl) (by (first | assumption | exact get_lt (by first | omega | (simp; omega)))) (by rfl) | exact a_loadG (vs := [_, _, _, _, _]) rfl (by (first | exact St.rdx hS (by (repeat (first | exact Ix.here | apply Ix.there))) | exact Reads.at (by assumption) hS (by (repeat (first | exact List.Sublist.refl _ | apply List.Sublist.cons))) | exact St.old0 hS (by assumption))) rfl rfl rfl (by rfl) (by intro _; rfl) (by (first | assumption | exact get_lt (by first | omega | (simp; omega)))) (by rfl) | exact a_loadR hS rfl rfl rfl rfl (by (repeat (first | exact Ix.here | apply Ix.there))) (by rfl))) (h : wpStill P ops w Ks rest (a.put o.dst v)) : wpStill P ops w Ks (o :: rest) a := ws_run hw hr h
theorem k_len {v : Value} (hw : Region.wanted o (yielded ops a.tmps) = true) (hr : (execOp a.eval o).run P w = .ok (.value v) w := by exact a_len rfl rfl rfl (by (first | exact St.rdx hS (by (repeat (first | exact Ix.here | apply Ix.there))) | exact Reads.at (by assumption) hS (by (repeat (first | exact List.Sublist.refl _ | apply List.Sublist.cons))) | exact St.old0 hS (by assumption)))) (h : wpList P ops Q rest (a.put o.dst v) w) : wpList P ops Q (o :: rest) a w := wl_run hw hr h
theorem z_len {v : Value} (hw : Region.wanted o (yielded ops a.tmps) = true) (hr : (execOp a.eval o).run P w = .ok (.value v) w := by exact a_len rfl rfl rfl (by (first | exact St.rdx hS (by (repeat (first | exact Ix.here | apply Ix.there))) | exact Reads.at (by assumption) hS (by (repeat (first | exact List.Sublist.refl _ | apply List.Sublist.cons))) | exact St.old0 hS (by assumption)))) (h : wpStill P ops w Ks rest (a.put o.dst v)) : wpStill P ops w Ks (o :: rest) a := ws_run hw hr h
theorem k_idx {v : Value} (hw : Region.wanted o (yielded ops a.tmps) = true) (hr : (execOp a.eval o).run P w = .ok (.value v) w := by (first | exact a_indexI 0 hS rfl rfl rfl rfl rfl (by rfl) (by omega) (by omega) | exact a_indexI 1 hS rfl rfl rfl rfl rfl (by rfl) (by omega) (by omega) | exact a_indexI 2 hS rfl rfl rfl rfl rfl (by rfl) (by omega) (by omega) | exact a_indexI 3 hS rfl rfl rfl rfl rfl (by rfl) (by omega) (by omega) | exact a_indexI 4 hS rfl rfl rfl rfl rfl (by rfl) (by omega) (by omega) | exact a_indexI 5 hS rfl rfl rfl rfl rfl (by rfl) (by omega) (by omega) | exact a_indexI 6 hS rfl rfl rfl rfl rfl (by rfl) (by omega) (by omega) | exact a_indexI 7 hS rfl rfl rfl rfl rfl (by rfl) (by omega) (by omega) | exact a_indexI 8 hS rfl rfl rfl rfl rfl (by rfl) (by omega) (by omega) | exact a_indexI 9 hS rfl rfl rfl rfl rfl (by rfl) (by omega) (by omega) | exact a_index rfl rfl rfl rfl (by (first | exact St.rdx hS (by (repeat (first | exact Ix.here | apply Ix.there))) | exact Reads.at (by assumption) hS (by (repeat (first | exact List.Sublist.refl _ | apply List.Sublist.cons))) | exact St.old0 hS (by assumption))) (by rfl) (by omega) (by omega))) (h : wpList P ops Q rest (a.put o.dst v) w) : wpList P ops Q (o :: rest) a w := wl_run hw hr h
theorem z_idx {v : Value} (hw : Region.wanted o (yielded ops a.tmps) = true) (hr : (execOp a.eval o).run P w = .ok (.value v) w := by (first | exact a_indexI 0 hS rfl rfl rfl rfl rfl (by rfl) (by omega) (by omega) | exact a_indexI 1 hS rfl rfl rfl rfl rfl (by rfl) (by omega) (by omega) | exact a_indexI 2 hS rfl rfl rfl rfl rfl (by rfl) (by omega) (by omega) | exact a_indexI 3 hS rfl rfl rfl rfl rfl (by rfl) (by omega) (by omega) | exact a_indexI 4 hS rfl rfl rfl rfl rfl (by rfl) (by omega) (by omega) | exact a_indexI 5 hS rfl rfl rfl rfl rfl (by rfl) (by omega) (by omega) | exact a_indexI 6 hS rfl rfl rfl rfl rfl (by rfl) (by omega) (by omega) | exact a_indexI 7 hS rfl rfl rfl rfl rfl (by rfl) (by omega) (by omega) | exact a_indexI 8 hS rfl rfl rfl rfl rfl (by rfl) (by omega) (by omega) | exact a_indexI 9 hS rfl rfl rfl rfl rfl (by rfl) (by omega) (by omega) | exact a_index rfl rfl rfl rfl (by (first | exact St.rdx hS (by (repeat (first | exact Ix.here | apply Ix.there))) | exact Reads.at (by assumption) hS (by (repeat (first | exact List.Sublist.refl _ | apply List.Sublist.cons))) | exact St.old0 hS (by assumption))) (by rfl) (by omega) (by omega))) (h : wpStill P ops w Ks rest (a.put o.dst v)) : wpStill P ops w Ks (o :: rest) a := ws_run hw hr h
theorem k_fld {v : Value} (hw : Region.wanted o (yielded ops a.tmps) = true) (hr : (execOp a.eval o).run P w = .ok (.value v) w := by exact a_field rfl rfl (by (first | exact St.rdx hS (by (repeat (first | exact Ix.here | apply Ix.there))) | exact Reads.at (by assumption) hS (by (repeat (first | exact List.Sublist.refl _ | apply List.Sublist.cons))) | exact St.old0 hS (by assumption))) (by omega) rfl rfl rfl (by rfl)) (h : wpList P ops Q rest (a.put o.dst v) w) : wpList P ops Q (o :: rest) a w := wl_run hw hr h
theorem z_fld {v : Value} (hw : Region.wanted o (yielded ops a.tmps) = true) (hr : (execOp a.eval o).run P w = .ok (.value v) w := by exact a_field rfl rfl (by (first | exact St.rdx hS (by (repeat (first | exact Ix.here | apply Ix.there))) | exact Reads.at (by assumption) hS (by (repeat (first | exact List.Sublist.refl _ | apply List.Sublist.cons))) | exact St.old0 hS (by assumption))) (by omega) rfl rfl rfl (by rfl)) (h : wpStill P ops w Ks rest (a.put o.dst v)) : wpStill P ops w Ks (o :: rest) a := ws_run hw hr h
theorem k_str {v : Value} (hw : Region.wanted o (yielded ops a.tmps) = true) (hr : (execOp a.eval o).run P w = .ok (.value v) w := by (first | exact a_strHi rfl rfl rfl rfl (by omega) (by omega) | exact a_strLo rfl rfl rfl rfl (by omega) (by omega) | exact a_strMid rfl rfl rfl rfl rfl (by omega) (by omega) (by omega))) (h : wpList P ops Q rest (a.put o.dst v) w) : wpList P ops Q (o :: rest) a w := wl_run hw hr h
theorem z_str {v : Value} (hw : Region.wanted o (yielded ops a.tmps) = true) (hr : (execOp a.eval o).run P w = .ok (.value v) w := by (first | exact a_strHi rfl rfl rfl rfl (by omega) (by omega) | exact a_strLo rfl rfl rfl rfl (by omega) (by omega) | exact a_strMid rfl rfl rfl rfl rfl (by omega) (by omega) (by omega))) (h : wpStill P ops w Ks rest (a.put o.dst v)) : wpStill P ops w Ks (o :: rest) a := ws_run hw hr h
theorem k_six {v : Value} (hw : Region.wanted o (yielded ops a.tmps) = true) (hr : (execOp a.eval o).run P w = .ok (.value v) w := by exact a_strIndex rfl rfl rfl rfl (by omega) (by omega)) (h : wpList P ops Q rest (a.put o.dst v) w) : wpList P ops Q (o :: rest) a w := wl_run hw hr h
theorem z_six {v : Value} (hw : Region.wanted o (yielded ops a.tmps) = true) (hr : (execOp a.eval o).run P w = .ok (.value v) w := by exact a_strIndex rfl rfl rfl rfl (by omega) (by omega)) (h : wpStill P ops w Ks rest (a.put o.dst v)) : wpStill P ops w Ks (o :: rest) a := ws_run hw hr h
theorem k_cat {v : Value} (hw : Region.wanted o (yielded ops a.tmps) = true) (hr : (execOp a.eval o).run P w = .ok (.value v) w := by exact a_concat rfl rfl rfl (by first | omega | (simp; omega))) (h : wpList P ops Q rest (a.put o.dst v) w) : wpList P ops Q (o :: rest) a w := wl_run hw hr h
theorem z_cat {v : Value} (hw : Region.wanted o (yielded ops a.tmps) = true) (hr : (execOp a.eval o).run P w = .ok (.value v) w := by exact a_concat rfl rfl rfl (by first | omega | (simp; omega))) (h : wpStill P ops w Ks rest (a.put o.dst v)) : wpStill P ops w Ks (o :: rest) a := ws_run hw hr h
theorem k_tos {v : Value} (hw : Region.wanted o (yielded ops a.tmps) = true) (hr : (execOp a.eval o).run P w = .ok (.value v) w := by exact a_toString2 rfl rfl rfl rfl rfl (by (first | exact St.rdx hS (by (repeat (first | exact Ix.here | apply Ix.there))) | exact Reads.at (by assumption) hS (by (repeat (first | exact List.Sublist.refl _ | apply List.Sublist.cons))) | exact St.old0 hS (by assumption)))) (h : wpList P ops Q rest (a.put o.dst v) w) : wpList P ops Q (o :: rest) a w := wl_run hw hr h
theorem z_tos {v : Value} (hw : Region.wanted o (yielded ops a.tmps) = true) (hr : (execOp a.eval o).run P w = .ok (.value v) w := by exact a_toString2 rfl rfl rfl rfl rfl (by (first | exact St.rdx hS (by (repeat (first | exact Ix.here | apply Ix.there))) | exact Reads.at (by assumption) hS (by (repeat (first | exact List.Sublist.refl _ | apply List.Sublist.cons))) | exact St.old0 hS (by assumption)))) (h : wpStill P ops w Ks rest (a.put o.dst v)) : wpStill P ops w Ks (o :: rest) a := ws_run hw hr h
end
theorem k_readx {α : Type} {L : List α} {j : Nat} {y : α} (_hy : L[j]? = some y) {v : Value} (hw : Region.wanted o (yielded ops a.tmps) = true) (hr : (execOp a.eval o).run P w = .ok (.value v) w := by first | exact a_loadG (vs := [_, _]) rfl (by (first | exact St.rdx hS (by (repeat (first | exact Ix.here | apply Ix.there))) | exact Reads.at (by assumption) hS (by (repeat (first | exact List.Sublist.refl _ | apply List.Sublist.cons))) | exact St.old0 hS (by assumption))) rfl rfl rfl (by rfl) (by intro _; rfl) (by assumption) (by rfl) | exact a_loadG (vs := [_, _, _]) rfl (by (first | exact St.rdx hS (by (repeat (first | exact Ix.here | apply Ix.there))) | exact Reads.at (by assumption) hS (by (repeat (first | exact List.Sublist.refl _ | apply List.Sublist.cons))) | exact St.old0 hS (by assumption))) rfl rfl rfl (by rfl) (by intro _; rfl) (by assumption) (by rfl) | exact a_loadG (vs := [_, _, _, _]) rfl (by (first | exact St.rdx hS (by (repeat (first | exact Ix.here | apply Ix.there))) | exact Reads.at (by assumption) hS (by (repeat (first | exact List.Sublist.refl _ | apply List.Sublist.cons))) | exact St.old0 hS (by assumption))) rfl rfl rfl (by rfl) (by intro _; rfl) (by assumption) (by rfl) | exact a_loadG (vs := [_, _, _, _, _]) rfl (by (first | exact St.rdx hS (by (repeat (first | exact Ix.here | apply Ix.there))) | exact Reads.at (by assumption) hS (by (repeat (first | exact List.Sublist.refl _ | apply List.Sublist.cons))) | exact St.old0 hS (by assumption))) rfl rfl rfl (by rfl) (by intro _; rfl) (by assumption) (by rfl) | exact a_loadE rfl (by (first | exact St.rdx hS (by (repeat (first | exact Ix.here | apply Ix.there))) | exact Reads.at (by assumption) hS (by (repeat (first | exact List.Sublist.refl _ | apply List.Sublist.cons))) | exact St.old0 hS (by assumption))) rfl rfl rfl (by intro _; rfl) (by assumption) (by rfl) | exact a_loadF rfl (by (first | exact St.rdx hS (by (repeat (first | exact Ix.here | apply Ix.there))) | exact Reads.at (by assumption) hS (by (repeat (first | exact List.Sublist.refl _ | apply List.Sublist.cons))) | exact St.old0 hS (by assumption))) rfl rfl rfl (by intro _; rfl) (by assumption) (by rfl)) (h : wpList P ops Q rest (a.put o.dst v) w) : wpList P ops Q (o :: rest) a w := wl_run hw hr h
theorem k_st1 (hS : St S w0 w M) {t : TypeId} {x y : Operand} {g off : Nat} {v : Value} {cs : List Value} {e : TypeId} {cs' : List Value} (ho : o.op = .store t x y) (hx : a.eval x = .pointer (some ⟨g, off, none⟩)) (hy : a.eval y = v)
    (hvc : v.cells = #[v] := by (first | rfl | exact Rd.cells (by (first | exact St.rdx hS (by (repeat (first | exact Ix.here | apply Ix.there))) | exact Reads.at (by assumption) hS (by (repeat (first | exact List.Sublist.refl _ | apply List.Sublist.cons))) | exact St.old0 hS (by assumption))))) (h1 : v.oneCell' = true := by (first | rfl | exact Rd.one (by (first | exact St.rdx hS (by (repeat (first | exact Ix.here | apply Ix.there))) | exact Reads.at (by assumption) hS (by (repeat (first | exact List.Sublist.refl _ | apply List.Sublist.cons))) | exact St.old0 hS (by assumption))))) (hs : (P.info? t).map (·.size) = some 1 := by rfl) (hsw : Sw M (.row g cs e (0, 0)) (.row g cs' e (0, 0)) M' := by (repeat (first | exact Sw.here | apply Sw.there))) (hoff : off < cs.length := by simp) (hcs : cs.set off v = cs' := by rfl)
    (h : ∀ w', St S w0 w' M' → K (a.put o.dst undef) w') : o.wp P a w K Q := a_store1 hS ho hx hy hvc h1 hs hsw hoff hcs h
theorem k_ste (hS : St S w0 w M) {t : TypeId} {x y : Operand} {u : Value} {j k : Nat} {v : Value} {α : Type} {f : α → List Value} {L : List α} {e : TypeId} {z : α} (ho : o.op = .store t x y) (hx : a.eval x = ptrAt u (j * k)) (hy : a.eval y = v)
    (hvc : v.cells = #[v] := by (first | rfl | exact Rd.cells (by (first | exact St.rdx hS (by (repeat (first | exact Ix.here | apply Ix.there))) | exact Reads.at (by assumption) hS (by (repeat (first | exact List.Sublist.refl _ | apply List.Sublist.cons))) | exact St.old0 hS (by assumption))))) (h1 : v.oneCell' = true := by (first | rfl | exact Rd.one (by (first | exact St.rdx hS (by (repeat (first | exact Ix.here | apply Ix.there))) | exact Reads.at (by assumption) hS (by (repeat (first | exact List.Sublist.refl _ | apply List.Sublist.cons))) | exact St.old0 hS (by assumption))))) (hs : (P.info? t).map (·.size) = some 1 := by rfl) (hk : k = 1 := by rfl)
    (hsw : Sw M (.vec u e k L.length (L.flatMap f)) (.vec u e k (L.set j z).length ((L.set j z).flatMap f)) M' := by (repeat (first | exact Sw.here | apply Sw.there))) (hf : ∀ x, (f x).length = k := by intro _; rfl) (hj : j < L.length := by omega) (hz : f z = [v] := by rfl)
    (h : ∀ w', St S w0 w' M' → K (a.put o.dst undef) w') : o.wp P a w K Q := a_storeE hS ho hx hy hvc h1 hs hk hsw hf hj hz h
theorem k_sta (hS : St S w0 w M) {t : TypeId} {x y : Operand} {g off : Nat} {vs cs : List Value} {e : TypeId} {cs' : List Value} (ho : o.op = .store t x y) (hx : a.eval x = .pointer (some ⟨g, off, none⟩)) (hy : a.eval y = .agg vs.toArray)
    (hs : (P.info? t).map (·.size) = some vs.length := by rfl) (h1 : ∀ u ∈ vs, u.oneCell' = true := by simp [Value.oneCell']) (hsw : Sw M (.row g cs e (0, 0)) (.row g cs' e (0, 0)) M' := by (repeat (first | exact Sw.here | apply Sw.there))) (hoff : off + vs.length ≤ cs.length := by simp) (hcs : cs.take off ++ vs ++ cs.drop (off + vs.length) = cs' := by rfl)
    (h : ∀ w', St S w0 w' M' → K (a.put o.dst undef) w') : o.wp P a w K Q := a_storeA hS ho hx hy hs h1 hsw hoff hcs h
theorem k_app (hS : St S w0 w M) {s x : Operand} {t : TypeId} {v u : Value} {e : TypeId} {k : Nat} {α : Type} {f : α → List Value} {L : List α} {z : α} (ho : o.op = .call { callee := .builtin .append, args := #[s, x], argTypes := #[t, t] })
    (hs : a.eval s = v) (hx : a.eval x = u) (ht : P.underlying t = some (.slice e)) (hout : Out M (.vec v e k L.length (L.flatMap f)) M' := by (repeat (first | exact Out.here | apply Out.there))) (hR : Rd w k u 1 (f z) := by (first | exact St.rdx hS (by (repeat (first | exact Ix.here | apply Ix.there))) | exact Reads.at (by assumption) hS (by (repeat (first | exact List.Sublist.refl _ | apply List.Sublist.cons))) | exact St.old0 hS (by assumption)))
    (hi : (P.info? e).map (fun i => (i.zero.map (·.cells.size), i.size)) = some (some k, k) := by rfl) (hb : (P.info? e).map (fun i => decide (0 < i.bytes) && decide (i.bytes ≤ 1024)) = some true := by rfl) (hbl : L.length + 1 ≤ 137438953472 := by omega) (h1 : ∀ u ∈ f z, u.oneCell' = true)
    (h : ∀ v' w', St S w0 w' (.vec v' e k (L ++ [z]).length ((L ++ [z]).flatMap f) :: M') → v' ≠ .slice none 0 0 → K (a.put o.dst v') w') : o.wp P a w K Q := a_appendT hS ho hs hx ht hout hR hi hb hbl h1 h
/-- What the walk has no step of its own for. -/
def isMem : Op → Bool
  | .load _ _ | .store _ _ _ | .buildSlice _ _ _ | .indexAddr _ _ _ | .alloc _ | .box _ _ | .makeSlice _ _ _ => true
  | .call ⟨.builtin .append, _, _⟩ | .call ⟨.builtin .copy, _, _⟩ => true
  | _ => false
theorem stop_mem (_hm : isMem o.op = true) (_hw : Region.wanted o (yielded ops a.tmps) = true) (h : Stop (wpList P ops Q (o :: rest) a w)) : wpList P ops Q (o :: rest) a w := h
/-- N out of M. -/
theorem St.pick {w : World} {M N : List Ent} (h : St S w0 w M) (p : Sel M N := by (repeat (first | exact Sel.refl | exact Sel.nil | refine Sel.cons (by (repeat (first | exact Out.here | apply Out.there))) ?_ | refine Sel.drop ?_))) : St S w0 w N := h.sel p
theorem St.packs {α : Type} {l : α → List Ent} {w : World} {N M : List Ent} (x : α) (h : St S w0 w N) (p : Sel N (l x ++ M) := by (repeat (first | exact Sel.refl | exact Sel.nil | refine Sel.cons (by (repeat (first | exact Out.here | apply Out.there))) ?_ | refine Sel.drop ?_))) : St S w0 w (Cmp.pack (fun _ => True) l :: M) := St.pack x trivial (h.sel p)
/-- A region that draws its order, in which nothing of what is known changes. -/
theorem wp_region_calm {id : Nat} {l : List Oper} (hm : P.follows .mixedOrders = true) (hB : Region.lexB .any l.toArray = true) (hS : St S w0 w M)
    (h : wpQuiet P l.toArray (fun w' => St S w0 w' M) (fun a' => ∀ w', St S w0 w' M → Q .normal a' w') l a) : (Code.region id l.toArray true).wp P Q a w :=
  wp_region_quiet hm hB hS.drew (by simpa using h)
theorem q_pure {v : Value} {C : World → Prop} {Kq : Act → Prop} (hw : Region.wanted o (yielded ops a.tmps) = true) (hr : ∀ W, C W → (execOp a.eval o).run P W = .ok (.value v) W := by intro W hW; (go_simp; try with_reducible rfl)) (h : wpQuiet P ops C Kq rest (a.put o.dst v)) : wpQuiet P ops C Kq (o :: rest) a := wq_run hw hr h
theorem q_tos {v : Value} {Kq : Act → Prop} (hw : Region.wanted o (yielded ops a.tmps) = true) (hr : ∀ W, St S w0 W M → (execOp a.eval o).run P W = .ok (.value v) W := by intro W hW; exact a_toString2 rfl rfl rfl rfl rfl (by (first | exact St.rdx hW (by (repeat (first | exact Ix.here | apply Ix.there))) | exact Reads.at (by assumption) hW (by (repeat (first | exact List.Sublist.refl _ | apply List.Sublist.cons))) | exact St.old0 hW (by assumption)))) (h : wpQuiet P ops (fun W => St S w0 W M) Kq rest (a.put o.dst v)) : wpQuiet P ops (fun W => St S w0 W M) Kq (o :: rest) a := wq_run hw hr h
theorem q_read {v : Value} {Kq : Act → Prop} (hw : Region.wanted o (yielded ops a.tmps) = true) (hr : ∀ W, St S w0 W M → (execOp a.eval o).run P W = .ok (.value v) W := by intro W hW; (first | exact a_load1 hW rfl rfl rfl rfl (by (repeat (first | exact Ix.here | apply Ix.there))) (by rfl) | exact a_loadE rfl (by (first | exact St.rdx hW (by (repeat (first | exact Ix.here | apply Ix.there))) | exact Reads.at (by assumption) hW (by (repeat (first | exact List.Sublist.refl _ | apply List.Sublist.cons))) | exact St.old0 hW (by assumption))) rfl rfl rfl (by intro _; rfl) (by (first | assumption | exact get_lt (by first | omega | (simp; omega)))) (by rfl) | exact a_loadF rfl (by (first | exact St.rdx hW (by (repeat (first | exact Ix.here | apply Ix.there))) | exact Reads.at (by assumption) hW (by (repeat (first | exact List.Sublist.refl _ | apply List.Sublist.cons))) | exact St.old0 hW (by assumption))) rfl rfl rfl (by intro _; rfl) (by (first | assumption | exact get_lt (by first | omega | (simp; omega)))) (by rfl) | exact a_loadG (vs := [_, _]) rfl (by (first | exact St.rdx hW (by (repeat (first | exact Ix.here | apply Ix.there))) | exact Reads.at (by assumption) hW (by (repeat (first | exact List.Sublist.refl _ | apply List.Sublist.cons))) | exact St.old0 hW (by assumption))) rfl rfl rfl (by rfl) (by intro _; rfl) (by (first | assumption | exact get_lt (by first | omega | (simp; omega)))) (by rfl) | exact a_loadG (vs := [_, _, _]) rfl (by (first | exact St.rdx hW (by (repeat (first | exact Ix.here | apply Ix.there))) | exact Reads.at (by assumption) hW (by (repeat (first | exact List.Sublist.refl _ | apply List.Sublist.cons))) | exact St.old0 hW (by assumption))) rfl rfl rfl (by rfl) (by intro _; rfl) (by (first | assumption | exact get_lt (by first | omega | (simp; omega)))) (by rfl) | exact a_loadG (vs := [_, _, _, _]) rfl (by (first | exact St.rdx hW (by (repeat (first | exact Ix.here | apply Ix.there))) | exact Reads.at (by assumption) hW (by (repeat (first | exact List.Sublist.refl _ | apply List.Sublist.cons))) | exact St.old0 hW (by assumption))) rfl rfl rfl (by rfl) (by intro _; rfl) (by (first | assumption | exact get_lt (by first | omega | (simp; omega)))) (by rfl) | exact a_loadG (vs := [_, _, _, _, _]) rfl (by (first | exact St.rdx hW (by (repeat (first | exact Ix.here | apply Ix.there))) | exact Reads.at (by assumption) hW (by (repeat (first | exact List.Sublist.refl _ | apply List.Sublist.cons))) | exact St.old0 hW (by assumption))) rfl rfl rfl (by rfl) (by intro _; rfl) (by (first | assumption | exact get_lt (by first | omega | (simp; omega)))) (by rfl) | exact a_loadR hW rfl rfl rfl rfl (by (repeat (first | exact Ix.here | apply Ix.there))) (by rfl))) (h : wpQuiet P ops (fun W => St S w0 W M) Kq rest (a.put o.dst v)) : wpQuiet P ops (fun W => St S w0 W M) Kq (o :: rest) a := wq_run hw hr h
theorem q_len {v : Value} {Kq : Act → Prop} (hw : Region.wanted o (yielded ops a.tmps) = true) (hr : ∀ W, St S w0 W M → (execOp a.eval o).run P W = .ok (.value v) W := by intro W hW; exact a_len rfl rfl rfl (by (first | exact St.rdx hW (by (repeat (first | exact Ix.here | apply Ix.there))) | exact Reads.at (by assumption) hW (by (repeat (first | exact List.Sublist.refl _ | apply List.Sublist.cons))) | exact St.old0 hW (by assumption)))) (h : wpQuiet P ops (fun W => St S w0 W M) Kq rest (a.put o.dst v)) : wpQuiet P ops (fun W => St S w0 W M) Kq (o :: rest) a := wq_run hw hr h
/-- A call that leaves what is known, and hands back v. -/
def CalmC (P : Program) (S : List Nat) (w0 : World) (M : List Ent) (f : FuncId) (args : Array Value) (v : Value) : Prop := ∀ W, St S w0 W M → Calls P f args W fun e w' => e = .returned v ∧ St S w0 w' M
theorem q_call {v : Value} {Kq : Act → Prop} {f : FuncId} {args : Array Value} (hc : CalmC P S w0 M f args v) (hw : Region.wanted o (yielded ops a.tmps) = true) (hr : ∀ W, (execOp a.eval o).run P W = .ok (.enter f args) W := by intro W; go_simp) (h : wpQuiet P ops (fun W => St S w0 W M) Kq rest (a.put o.dst v)) : wpQuiet P ops (fun W => St S w0 W M) Kq (o :: rest) a :=
  wq_call hw hr hc h
theorem calm_same {f : FuncId} {args : Array Value} {v : Value} (h : ∀ W, St S w0 W M → Calls P f args W fun e w' => e = .returned v ∧ w' = W) : CalmC P S w0 M f args v := fun W hW => (h W hW).mono fun _ _ k => ⟨k.1, k.2 ▸ hW⟩
theorem calm_makes {f : FuncId} {args : Array Value} {v : Value} (h : ∀ W, Calls P f args W fun e w' => e = .returned v ∧ St [] W w' []) : CalmC P S w0 M f args v := fun W hW => (h W).mono fun _ _ k => ⟨k.1, hW.call k.2⟩
/-- The end of a function whose first of two results is a struct in memory. -/
theorem end_cell2 (hS : St S w0 w M) {fn : Func} {R : Ending → World → Prop} {p q : Tmp} {ty : TypeId} (hr : fn.results = #[.cell p ty, .tmp q]) {g : Nat} (hp : a.tmps.getD p undef = .pointer (some ⟨g, 0, none⟩)) {i : Nat} {cs : List Value} {e : TypeId} {fr : Nat × Nat} {d : TypeDesc} {u : Value} (hq : a.tmps.getD q undef = u) (hu : P.underlying ty = some d) (hd : (match d with | .struct _ | .array _ _ => true | _ => false) = true)
    (hdf : a.defers = []) (hM : Ix M i (.row g cs e fr) := by (repeat (first | exact Ix.here | apply Ix.there))) (hi : (P.info? ty).map (·.size) = some cs.length := by rfl) (h : R (.returned (.tuple #[.agg cs.toArray, u])) w) : bodyPost P fn R .ret a w := by
  refine bodyPost_ret (v := .tuple #[.agg cs.toArray, u]) ?_ hdf h
  have hp' : a.tmps[p]?.getD undef = .pointer (some ⟨g, 0, none⟩) := by simpa using hp
  have hq' : a.tmps[q]?.getD undef = u := by simpa using hq
  have hl := run_loadVar_row (P := P) w g e ty cs.toArray fr d (hS.row hM.get) hu hd (by simpa using hi)
  simp [results, hr, hp', hq', asAddr, hl]
end
end Go.Cmp
