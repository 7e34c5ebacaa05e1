/-
  Lemmas that hold for every program: two structs of plain fields compared, as one Bool.
-/
import Derived.Test.YtnjboimjlbgdiaaGen
import Derived.ChangeKeysEq
set_option linter.unusedSimpArgs false
set_option linter.unusedVariables false
set_option linter.unusedSectionVars false
set_option maxRecDepth 100000
namespace Go.Cmp
open Go.RowKit
/-- A part of an aggregate. -/
def partV (P : Program) (t : TypeId) (xs : Array Value) (off : Nat) : Option Value :=
  match P.underlying t, P.info? t with
  | some (.struct _), some ti => some (.agg (xs.extract off (off + ti.size)))
  | some (.array _ _), some ti => some (.agg (xs.extract off (off + ti.size)))
  | some _, some _ => xs[off]?
  | _, _ => none
def andO (a b : Option Bool) : Option Bool := match a, b with | some x, some y => some (x && y) | _, _ => none
/-- Are two values equal? none: this text does not say. -/
def eqV (P : Program) : Nat → TypeId → Value → Value → Option Bool
  | 0, _, _, _ => none
  | d + 1, t, x, y =>
    match P.underlying t, x, y with
    | some .bool, .bool a, .bool b => some (a == b)
    | some (.int _), .int k a, .int k' b => if k = k' then some (a == b) else none
    | some .string, .string a, .string b => some (a == b)
    | some (.struct fs), .agg xs, .agg ys => if P.stoodInHeld t then none else fs.toList.foldr (fun f r => if f.name = "_" then none else match partV P f.type xs f.offset, partV P f.type ys f.offset with | some u, some v => andO (eqV P d f.type u v) r | _, _ => none) (some true)
    | some (.array n e), .agg xs, .agg ys => if (P.info? e).isNone then none else (List.range n).foldr (fun i r => match partV P e xs (i * P.cellsOf e), partV P e ys (i * P.cellsOf e) with | some u, some v => andO (eqV P d e u v) r | _, _ => none) (some true)
    | _, _, _ => none
section
variable {P : Program} {ops : Array Oper} {rest : List Oper} {o : Oper} {a : Act} {Q : Exit → Act → World → Prop} {w w0 : World} {S : List Nat} {M : List Ent}
theorem run_partV {t : TypeId} {xs : Array Value} {off : Nat} {v : Value} (h : partV P t xs off = some v) (w : World) : (part t xs off).run P w = .ok v w := by
  unfold partV at h
  split at h
  · rename_i hu hi
    simp only [Option.some.injEq] at h
    subst h
    simp [part, isAgg, run_underlying hu, sizeOf, typeInfo, hi]
  · rename_i hu hi
    simp only [Option.some.injEq] at h
    subst h
    simp [part, isAgg, run_underlying hu, sizeOf, typeInfo, hi]
  · rename_i h1 h2 hu hi
    rename_i d _
    have : (isAgg t).run P w = .ok false w := by
      simp only [isAgg, Sem.run_bind, run_underlying hu, Result.andThen_ok]
      cases d
      case struct fs => exact absurd rfl (h1 _)
      case array n e => exact absurd rfl (h2 _ _)
      all_goals simp
    simp [part, this, h]
  · cases h
theorem andO_some {x y : Option Bool} {b : Bool} (h : andO x y = some b) : ∃ u v, x = some u ∧ y = some v ∧ b = (u && v) := by
  unfold andO at h
  split at h
  · simp only [Option.some.injEq] at h
    exact ⟨_, _, rfl, rfl, h.symm⟩
  · cases h
theorem run_eqV : ∀ (d k : Nat) (t : TypeId) (x y : Value) (b : Bool), eqV P d t x y = some b → ∀ w : World, (Op.equalIn (d + k) t x y).run P w = .ok b w
  | 0, _, _, _, _, _, h, _ => by simp [eqV] at h
  | d + 1, k, t, x, y, b, h, w => by
    rw [show d + 1 + k = (d + k) + 1 by omega]
    unfold eqV at h
    split at h
    · rename_i hu
      simp only [Option.some.injEq] at h
      subst h
      simp [Op.equalIn, run_underlying hu]
    · rename_i hu
      split at h
      · rename_i hk
        simp only [Option.some.injEq] at h
        subst h
        subst hk
        simp [Op.equalIn, run_underlying hu]
      · cases h
    · rename_i hu
      simp only [Option.some.injEq] at h
      subst h
      simp [Op.equalIn, run_underlying hu]
    · rename_i fs xs ys hu
      split at h
      · cases h
      · rename_i hst
        have hfs : P.fieldsOf t = fs := by simp [Program.fieldsOf, hu]
        rw [run_equalIn_struct w (d + k) t xs ys (by rw [hfs]; exact hu) (by simpa using hst), hfs]
        clear hu hfs
        generalize fs.toList = l at h
        induction l generalizing b with
        | nil =>
          simp only [List.foldr_nil, Option.some.injEq] at h
          subst h
          simp [Op.eqFields]
        | cons f l ih =>
          rw [List.foldr_cons] at h
          split at h
          · cases h
          · rename_i hn
            split at h
            · rename_i u v h1 h2
              obtain ⟨b1, b2, e1, e2, rfl⟩ := andO_some h
              have i1 := run_eqV d k f.type u v b1 e1 w
              have i2 := ih b2 e2
              simp only [Op.eqFields, hn, ne_eq, not_false_eq_true, if_true, Sem.run_bind, run_partV h1, run_partV h2, Result.andThen_ok, i1]
              cases b1
              · simp
              · simpa using i2
            · cases h
    · rename_i n e xs ys hu
      split at h
      · cases h
      · rename_i hi
        obtain ⟨i, hi⟩ : ∃ i, P.info? e = some i := by
          revert hi
          cases P.info? e
          · intro hi; exact absurd rfl hi
          · intro _; exact ⟨_, rfl⟩
        rw [run_equalIn_array w (d + k) xs ys hu hi]
        clear hu hi
        generalize List.range n = l at h
        induction l generalizing b with
        | nil =>
          simp only [List.foldr_nil, Option.some.injEq] at h
          subst h
          simp [Op.eqItems]
        | cons f l ih =>
          rw [List.foldr_cons] at h
          split at h
          · rename_i u v h1 h2
            obtain ⟨b1, b2, e1, e2, rfl⟩ := andO_some h
            have i1 := run_eqV d k e u v b1 e1 w
            have i2 := ih b2 e2
            simp only [Op.eqItems, Sem.run_bind, run_partV h1, run_partV h2, Result.andThen_ok, i1]
            cases b1
            · simp
            · simpa using i2
          · cases h
    · cases h
/-- Two structs compared. -/
theorem x_structEq {t r : TypeId} {x y : Operand} (ho : o.op = .binOp .eql t x y r) {xs ys : Array Value} (hx : a.eval x = .agg xs) (hy : a.eval y = .agg ys) (hg : P.eqGuardType P.depth t = false) {b : Bool} (h : eqV P 4 t (.agg xs) (.agg ys) = some b) : (execOp a.eval o).run P w = .ok (.value (.bool b)) w := by
  have h2 : (binOp .eql t (.agg xs) (.agg ys)).run P w = .ok (.bool b) w := by
    rw [run_eql_struct]
    have := run_eqV 4 9996 t (.agg xs) (.agg ys) b h w
    rw [show (10000 : Nat) = 4 + 9996 from rfl, this]
    rfl
  have h3 := run_eqGuard_agg (P := P) w .eql t x y xs ys hg
  simp [execOp, ho, hx, hy, h2, h3]
theorem x_structNe {t r : TypeId} {x y : Operand} (ho : o.op = .binOp .neq t x y r) {xs ys : Array Value} (hx : a.eval x = .agg xs) (hy : a.eval y = .agg ys) (hg : P.eqGuardType P.depth t = false) {b : Bool} (h : eqV P 4 t (.agg xs) (.agg ys) = some b) : (execOp a.eval o).run P w = .ok (.value (.bool (!b))) w := by
  have h2 : (binOp .neq t (.agg xs) (.agg ys)).run P w = .ok (.bool (!b)) w := by
    rw [run_neq_struct]
    have := run_eqV 4 9996 t (.agg xs) (.agg ys) b h w
    rw [show (10000 : Nat) = 4 + 9996 from rfl, this]
    rfl
  have h3 := run_eqGuard_agg (P := P) w .neq t x y xs ys hg
  simp [execOp, ho, hx, hy, h2, h3]
theorem end_c1 (hS : St S w0 w M) {fn : Func} {R : Ending → World → Prop} {p : Tmp} {ty : TypeId} (hr : fn.results = #[.cell p ty]) {g : Nat} (hp : a.tmps.getD p undef = .pointer (some ⟨g, 0, none⟩)) {i : Nat} {cs : List Value} {e : TypeId} {fr : Nat × Nat} {d : TypeDesc} (hu : P.underlying ty = some d) (hd : (match d with | .struct _ | .array _ _ => true | _ => false) = true)
    (hdf : a.defers = []) (hM : Ix M i (.row g cs e fr) := by (repeat (first | exact Ix.here | apply Ix.there))) (hi : (P.info? ty).map (·.size) = some cs.length := by rfl) (h : R (.returned (.agg cs.toArray)) w) : bodyPost P fn R .ret a w := by
  refine bodyPost_ret (v := .agg cs.toArray) ?_ hdf h
  have hp' : a.tmps[p]?.getD undef = .pointer (some ⟨g, 0, none⟩) := by simpa using hp
  have hl := run_loadVar_row (P := P) w g e ty cs.toArray fr d (hS.row hM.get) hu hd (by simpa using hi)
  simp [results, hr, hp', asAddr, hl]
theorem end_c3 (hS : St S w0 w M) {fn : Func} {R : Ending → World → Prop} {p q r : Tmp} {ty : TypeId} (hr : fn.results = #[.cell p ty, .tmp q, .tmp r]) {g : Nat} (hp : a.tmps.getD p undef = .pointer (some ⟨g, 0, none⟩)) {i : Nat} {cs : List Value} {e : TypeId} {fr : Nat × Nat} {d : TypeDesc} {u v : Value} (hq : a.tmps.getD q undef = u) (hv : a.tmps.getD r undef = v) (hu : P.underlying ty = some d) (hd : (match d with | .struct _ | .array _ _ => true | _ => false) = true)
    (hdf : a.defers = []) (hM : Ix M i (.row g cs e fr) := by (repeat (first | exact Ix.here | apply Ix.there))) (hi : (P.info? ty).map (·.size) = some cs.length := by rfl) (h : R (.returned (.tuple #[.agg cs.toArray, u, v])) w) : bodyPost P fn R .ret a w := by
  refine bodyPost_ret (v := .tuple #[.agg cs.toArray, u, v]) ?_ hdf h
  have hp' : a.tmps[p]?.getD undef = .pointer (some ⟨g, 0, none⟩) := by simpa using hp
  have hq' : a.tmps[q]?.getD undef = u := by simpa using hq
  have hv' : a.tmps[r]?.getD undef = v := by simpa using hv
  have hl := run_loadVar_row (P := P) w g e ty cs.toArray fr d (hS.row hM.get) hu hd (by simpa using hi)
  simp [results, hr, hp', hq', hv', asAddr, hl]
theorem end_c4 (hS : St S w0 w M) {fn : Func} {R : Ending → World → Prop} {p q r s : Tmp} {ty : TypeId} (hr : fn.results = #[.cell p ty, .tmp q, .tmp r, .tmp s]) {g : Nat} (hp : a.tmps.getD p undef = .pointer (some ⟨g, 0, none⟩)) {i : Nat} {cs : List Value} {e : TypeId} {fr : Nat × Nat} {d : TypeDesc} {u v z : Value} (hq : a.tmps.getD q undef = u) (hv : a.tmps.getD r undef = v) (hz : a.tmps.getD s undef = z) (hu : P.underlying ty = some d) (hd : (match d with | .struct _ | .array _ _ => true | _ => false) = true)
    (hdf : a.defers = []) (hM : Ix M i (.row g cs e fr) := by (repeat (first | exact Ix.here | apply Ix.there))) (hi : (P.info? ty).map (·.size) = some cs.length := by rfl) (h : R (.returned (.tuple #[.agg cs.toArray, u, v, z])) w) : bodyPost P fn R .ret a w := by
  refine bodyPost_ret (v := .tuple #[.agg cs.toArray, u, v, z]) ?_ hdf h
  have hp' : a.tmps[p]?.getD undef = .pointer (some ⟨g, 0, none⟩) := by simpa using hp
  have hq' : a.tmps[q]?.getD undef = u := by simpa using hq
  have hv' : a.tmps[r]?.getD undef = v := by simpa using hv
  have hz' : a.tmps[s]?.getD undef = z := by simpa using hz
  have hl := run_loadVar_row (P := P) w g e ty cs.toArray fr d (hS.row hM.get) hu hd (by simpa using hi)
  simp [results, hr, hp', hq', hv', hz', asAddr, hl]
theorem g_neqS {d : Option Tmp} {ty : TypeId} {pos : String} {af : Array Edge} {gd : Option (Nat × Bool)} {t u : TypeId} {x y : Operand} (H : wpList P ops Q (⟨d, .binOp .neq t x y u, ty, pos, af, gd⟩ :: rest) a w) : wpList P ops Q (⟨d, .binOp .neq t x y u, ty, pos, af, gd⟩ :: rest) a w := H
theorem c_eqlS {Kq : Act → Prop} {d : Option Tmp} {ty : TypeId} {pos : String} {af : Array Edge} {gd : Option (Nat × Bool)} {t u : TypeId} {x y : Operand} (H : Calm P S w0 M ops Kq (⟨d, .binOp .eql t x y u, ty, pos, af, gd⟩ :: rest) a) : Calm P S w0 M ops Kq (⟨d, .binOp .eql t x y u, ty, pos, af, gd⟩ :: rest) a := H
theorem c_neqS {Kq : Act → Prop} {d : Option Tmp} {ty : TypeId} {pos : String} {af : Array Edge} {gd : Option (Nat × Bool)} {t u : TypeId} {x y : Operand} (H : Calm P S w0 M ops Kq (⟨d, .binOp .neq t x y u, ty, pos, af, gd⟩ :: rest) a) : Calm P S w0 M ops Kq (⟨d, .binOp .neq t x y u, ty, pos, af, gd⟩ :: rest) a := H
end
end Go.Cmp
