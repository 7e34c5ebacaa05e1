/-
  Lemmas that hold for every program: noughts behind a slice of bytes that a call owns.
-/
import Derived.Test.YtnjboimjlbgdiaaGen
import Derived.Lib.AppendZerosOnto
set_option linter.unusedSimpArgs false
set_option linter.unusedVariables false
set_option linter.unusedSectionVars false
set_option maxRecDepth 100000
namespace Go.Cmp
open Go.RowKit

section
variable {P : Program} {ops : Array Oper} {rest : List Oper} {o : Oper} {a : Act} {K : Act → World → Prop} {Q : Exit → Act → World → Prop} {w w0 : World} {S : List Nat} {M M' : List Ent}

theorem zeros_list (k : Nat) : Builtin.zeroCells (Value.int .u8 0).cells k = ((List.replicate k (0 : UInt8)).flatMap byt).toArray := by
  apply Array.ext'
  simp only [Builtin.zeroCells, Value.cells, Array.toList_map, Array.toList_range]
  induction k with
  | zero => rfl
  | succ k ih =>
    rw [List.replicate_succ', List.flatMap_append]
    simp [List.range_succ, Nat.mod_one] at ih ⊢
    rw [ih]
    rfl

theorem run_append_noughts {t s e : TypeId} (ty : TypeId) (ht : P.underlying t = some (.slice e)) (hu : P.underlying s = some (.int .i64)) {i : TypeInfo} (hi : P.info? e = some i) (hz : i.zero = some (.int .u8 0)) (hs1 : i.size = 1) (hby : i.bytes = 1)
    {v : Value} {n : Nat} {xs : List Value} (hv : VecAt w v e 1 n xs) (k : Nat) (hb : n + k ≤ 140737488355328) :
    ∃ v' w', (Builtin.append_ #[t, s] ty #[v, .int .i64 (k : Int)]).run P w = .ok v' w' ∧ VecAt w' v' e 1 (n + k) (xs ++ (List.replicate k (0 : UInt8)).flatMap byt) ∧ Mod v.ownBlock.toList w w' ∧ (∀ g ∈ v'.ownBlock.toList, g ∈ v.ownBlock.toList ∨ w.heap.size ≤ g) := by
  have hml : 140737488355328 ≤ maxLen := by unfold maxLen; omega
  have hcl : ((List.replicate k (0 : UInt8)).flatMap byt).length = k := by rw [flat_len (k := 1) (fun _ => rfl), Nat.mul_one, List.length_replicate]
  have hzc : (Value.int IntKind.u8 0).cells.size = 1 := rfl
  have hlen : (xs ++ (List.replicate k (0 : UInt8)).flatMap byt).length = (n + k) * 1 := by rw [List.length_append, hv.1, hcl]; omega
  have hw : IntKind.i64.wrap (k : Int) = k := by rw [IntKind.wrap_i64]; omega
  have hw0 : IntKind.i64.wrap 0 = 0 := by rw [IntKind.wrap_i64]; rfl
  have hneg : ¬ ((k : Int) < 0) := by omega
  have h48i : ¬ (281474976710656 < (k : Int) * (i.bytes : Int)) := by rw [hby]; omega
  rcases hv.2 with ⟨rfl, rfl⟩ | ⟨g, cap, rest', fr, rfl, hh, e2, e3, e4, e5⟩
  · have hx : xs = [] := List.eq_nil_of_length_eq_zero (by simpa using hv.1)
    subst hx
    by_cases h0 : k = 0
    · subst h0
      refine ⟨.slice none 0 0, w, ?_, by simpa using hv, Mod.refl _ _, fun g hg => .inl hg⟩
      simp [Builtin.append_, run_underlying ht, run_underlying hu, sizeOf, typeInfo, hi, asInt, asIntOf, hw0]
    · have hr := Lib.run_append_nil_zeros (P := P) w t s ty e i _ .i64 .i64 ht hu hi hz k (by omega) (by rw [hs1]; omega) (by omega) (by rw [hby]; omega)
      refine ⟨_, _, hr, ?_, (Mod.refl _ _).drew.trans (mod_alloc w.drew _).nil, ?_⟩
      · simp only [Nat.zero_add, List.nil_append] at hlen ⊢
        have := VecAt.grown (w := w.drew) (e := e) (Value.int IntKind.u8 0).cells hzc (grownCap w k 0 e) (n := k) (xs := (List.replicate k (0 : UInt8)).flatMap byt) hlen (grownCap_ge _ _ _ _) (grownCap_le_maxLen _ _ _ _ (by omega))
        rw [← zeros_list] at this
        exact this
      · intro y hy; simp [Value.ownBlock] at hy; exact .inr (by omega)
  · by_cases hroom : n + k ≤ cap
    · have hv1 := hv.1
      have hfit : n * 1 + ((List.replicate k (0 : UInt8)).flatMap byt).length ≤ (xs ++ rest').length := by rw [hcl]; omega
      obtain ⟨w', r1, r2, r3⟩ := run_storeCells_nf (P := P) g (n * 1) e fr ((List.replicate k (0 : UInt8)).flatMap byt) 0 (xs ++ rest') w hh (by simpa using hfit) (by intro j hj; exact e5 _ (by omega)) (by rw [← B_flat]; exact B_one _)
      have hcat : (xs ++ rest').take (n * 1 + 0) ++ (List.replicate k (0 : UInt8)).flatMap byt ++ (xs ++ rest').drop (n * 1 + 0 + ((List.replicate k (0 : UInt8)).flatMap byt).length) = (xs ++ (List.replicate k (0 : UInt8)).flatMap byt) ++ rest'.drop ((List.replicate k (0 : UInt8)).flatMap byt).length := by
        simp only [Nat.add_zero]
        rw [← hv.1, List.take_left, Nat.add_comm, List.drop_append, List.drop_eq_nil_of_le (by omega)]
        simp
      rw [hcat] at r2
      refine ⟨.slice (some ⟨g, 0, none⟩) (n + k) cap, w', ?_, ⟨hlen, .inr ⟨g, cap, _, fr, rfl, r2, hroom, e3, ?_, e5⟩⟩, by simpa [Value.ownBlock] using r3, fun y hy => .inl hy⟩
      · simp only [Nat.mul_one, Nat.add_zero] at r1
        have zl := zeros_list k
        by_cases h0 : k = 0
        · subst h0
          simp only [List.replicate_zero, List.flatMap_nil] at r1
          have hr0 : n ≤ cap := by omega
          simp [Builtin.append_, run_underlying ht, run_underlying hu, sizeOf, typeInfo, hi, hs1, asInt, asIntOf, hw0, hr0, add_lit, r1]
        · simp [Builtin.append_, run_underlying ht, run_underlying hu, sizeOf, typeInfo, zeroValue, hi, hs1, hz, asInt, asIntOf, hw, hneg, h48i, h0, hroom, add_lit, zl, r1]
      · simp only [List.length_append, List.length_drop] at e4 hfit ⊢; omega
    · have holds : ∀ (j : Nat) u, xs[j]? = some u → w.drew.cell? ((⟨g, 0, none⟩ : Addr).add j) = some u := fun j u hu => by
        have hh' : w.drew.heap[g]? = some (.cells (xs ++ rest').toArray e fr) := hh
        rw [add_lit, Nat.zero_add, row_cell hh', List.getElem?_append_left (List.getElem?_eq_some_iff.1 hu).1]; exact hu
      have hf := run_firstCells_some (P := P) w.drew i.size n ⟨g, 0, none⟩ n cap xs (by rw [hs1]; exact hv.1) holds
      have hr := Lib.run_append_grow_zeros (P := P) w t s ty e i _ .i64 .i64 ht hu hi hz (some ⟨g, 0, none⟩) n cap xs hf k (by omega) (by rw [hs1]; omega) (by omega) (by omega) (by rw [hby]; omega) (growslice_fits (by omega) (by rw [hby]; omega))
      refine ⟨_, _, hr, ?_, (Mod.refl _ _).drew.trans (mod_alloc w.drew _).nil, ?_⟩
      · have := VecAt.grown (w := w.drew) (e := e) (Value.int IntKind.u8 0).cells hzc (grownCap w (n + k) cap e) hlen (grownCap_ge _ _ _ _) (grownCap_le_maxLen _ _ _ _ (by omega))
        rw [← List.append_toArray, ← zeros_list] at this
        exact this
      · intro y hy; simp [Value.ownBlock] at hy; exact .inr (by omega)

/-- The step. -/
theorem k_appZ (hS : St S w0 w M) {s x : Operand} {t u : TypeId} {v : Value} {e : TypeId} {L : List UInt8} {k : Nat} (ho : o.op = .call { callee := .builtin .append, args := #[s, x], argTypes := #[t, u] })
    (hs : a.eval s = v) (hx : a.eval x = .int .i64 (k : Int)) (ht : P.underlying t = some (.slice e)) (hu : P.underlying u = some (.int .i64)) (hout : Out M (.vec v e 1 L.length (L.flatMap byt)) M' := by (repeat (first | exact Out.here | apply Out.there)))
    (hi : (P.info? e).map (fun i => (i.zero, i.size, i.bytes)) = some (some (.int .u8 0), 1, 1) := by rfl) (hbl : L.length + k ≤ 137438953472 := by omega)
    (h : ∀ v' w', St S w0 w' (.vec v' e 1 (L ++ List.replicate k (0 : UInt8)).length ((L ++ List.replicate k (0 : UInt8)).flatMap byt) :: M') → K (a.put o.dst v') w') : o.wp P a w K Q := by
  obtain ⟨ti, hti, hk⟩ := Option.map_eq_some_iff.1 hi
  simp only [Prod.mk.injEq] at hk
  have hS2 := hS.out hout
  obtain ⟨v', w', r1, r2, r3, r4⟩ := run_append_noughts (P := P) o.type ht hu hti hk.1 hk.2.1 hk.2.2 (hS2.vec (i := 0) rfl) k (by omega)
  refine wp_run ?_ (h v' w' ?_)
  · simp [execOp, ho, resolve, invoke, builtin, hs, hx, r1]
  · have := hS2.chgVec 0 rfl r3 r2 r4
    rw [List.length_append, List.flatMap_append, List.length_replicate]
    exact this
end
end Go.Cmp
namespace Go.Cmp
open Go.RowKit
def lenV : Value → Nat
  | .slice _ n _ => n
  | _ => 0
theorem St.lenV {S : List Nat} {w0 w : World} {M : List Ent} {v : Value} {e : TypeId} {k n : Nat} {xs : List Value} (hS : St S w0 w (.vec v e k n xs :: M)) : lenV v = n := by
  obtain ⟨_, p, cap, rfl, _⟩ := hS.rdx Ix.here
  rfl
end Go.Cmp
