/-
  append(b, s...), b a slice of bytes of one's own, s a string. It holds for every program.
-/
import Derived.Test.YtnojcgaoepfcdaaAuto
import Derived.Lib.AppendStr
namespace Go.Cmp
open Go.RowKit

section
variable {P : Program} {ops : Array Oper} {rest : List Oper} {o : Oper} {a : Act} {K : Act → World → Prop} {Q : Exit → Act → World → Prop} {w w0 : World} {S : List Nat} {M M' : List Ent}

theorem strCells_list (l : List UInt8) : Lib.strCells ⟨l.toArray⟩ = l.flatMap byt := by
  rw [← B_flat]
  simp [Lib.strCells, B]

theorem run_append_str {t s e : TypeId} (ty : TypeId) (ht : P.underlying t = some (.slice e)) (hu : P.underlying s = some .string) {i : TypeInfo} (hi : P.info? e = some i) (hz : i.zero = some (.int .u8 0)) (hs1 : i.size = 1) (hby : i.bytes = 1)
    {v : Value} {n : Nat} {xs : List Value} (hv : VecAt w v e 1 n xs) (l : List UInt8) (hb : n + l.length ≤ 140737488355328) :
    ∃ v' w', (Builtin.append_ #[t, s] ty #[v, .string ⟨l.toArray⟩]).run P w = .ok v' w' ∧ VecAt w' v' e 1 (n + l.length) (xs ++ l.flatMap byt) ∧ Mod v.ownBlock.toList w w' ∧ (∀ g ∈ v'.ownBlock.toList, g ∈ v.ownBlock.toList ∨ w.heap.size ≤ g) := by
  have hsz : (⟨l.toArray⟩ : ByteArray).size = l.length := by simp [ByteArray.size]
  have hml : 140737488355328 ≤ maxLen := by unfold maxLen; omega
  have hcl : (l.flatMap byt).length = l.length := by rw [flat_len (k := 1) (fun _ => rfl), Nat.mul_one]
  have hzc : (Value.int IntKind.u8 0).cells.size = 1 := rfl
  have hlen : (xs ++ l.flatMap byt).length = (n + l.length) * 1 := by rw [List.length_append, hv.1, hcl]; omega
  rcases hv.2 with ⟨rfl, rfl⟩ | ⟨g, cap, rest', fr, rfl, hh, e2, e3, e4, e5⟩
  · have hx : xs = [] := List.eq_nil_of_length_eq_zero (by simpa using hv.1)
    subst hx
    by_cases h0 : l = []
    · subst h0
      refine ⟨.slice none 0 0, w, ?_, by simpa using hv, Mod.refl _ _, fun g hg => .inl hg⟩
      simp [Builtin.append_, run_underlying ht, run_underlying hu, sizeOf, typeInfo, hi, Builtin.lenOf, Builtin.firstCells, ByteArray.size]
    · have hpos := List.length_pos_iff.2 h0
      have hr := run_append_nil_string (P := P) w t s ty e i _ ht hu hi hz ⟨l.toArray⟩ (by rw [hsz]; exact hpos) (by rw [hsz]; omega) (by rw [hsz, hby]; omega)
      rw [hsz] at hr
      refine ⟨_, _, hr, ?_, (Mod.refl _ _).drew.trans (mod_alloc w.drew _).nil, ?_⟩
      · simp only [Nat.zero_add, List.nil_append] at hlen ⊢
        have := VecAt.grown (w := w.drew) (e := e) (Value.int IntKind.u8 0).cells hzc (grownCap w l.length 0 e) (n := l.length) (xs := l.flatMap byt) hlen (grownCap_ge _ _ _ _) (grownCap_le_maxLen _ _ _ _ (by omega))
        have e9 : (ByteArray.data ⟨l.toArray⟩).map (fun b : UInt8 => Value.int IntKind.u8 (b.toNat : Int)) = (l.flatMap byt).toArray := by
          rw [← B_flat]; simp [B]
        rw [e9]
        exact this
      · intro y hy; simp [Value.ownBlock] at hy; exact .inr (by omega)
  · by_cases hroom : n + l.length ≤ cap
    · have hv1 := hv.1
      have hfit : n * 1 + (l.flatMap byt).length ≤ (xs ++ rest').length := by omega
      obtain ⟨w', r1, r2, r3⟩ := run_storeCells_nf (P := P) g (n * 1) e fr (l.flatMap byt) 0 (xs ++ rest') w hh (by simpa using hfit) (by intro j hj; exact e5 _ (by omega)) (by rw [← B_flat]; exact B_one l)
      have hcat : (xs ++ rest').take (n * 1 + 0) ++ l.flatMap byt ++ (xs ++ rest').drop (n * 1 + 0 + (l.flatMap byt).length) = (xs ++ l.flatMap byt) ++ rest'.drop (l.flatMap byt).length := by
        simp only [Nat.add_zero]
        rw [← hv.1, List.take_left, Nat.add_comm, List.drop_append, List.drop_eq_nil_of_le (by omega)]
        simp
      rw [hcat] at r2
      have hf := Lib.run_firstCells_string (P := P) w 1 ⟨l.toArray⟩
      rw [hsz, strCells_list] at hf
      refine ⟨.slice (some ⟨g, 0, none⟩) (n + l.length) cap, w', ?_, ⟨hlen, .inr ⟨g, cap, _, fr, rfl, r2, hroom, e3, ?_, e5⟩⟩, by simpa [Value.ownBlock] using r3, fun y hy => .inl hy⟩
      · simp only [Nat.mul_one, Nat.add_zero] at r1
        simp [Builtin.append_, run_underlying ht, run_underlying hu, sizeOf, typeInfo, hi, hs1, Builtin.lenOf, hsz, hroom, hf, add_lit, r1]
      · simp only [List.length_append, List.length_drop] at e4 hfit ⊢; omega
    · have holds : ∀ (j : Nat) u, xs[j]? = some u → w.cell? ((⟨g, 0, none⟩ : Addr).add j) = some u := fun j u hu => by
        rw [add_lit, Nat.zero_add, row_cell hh, List.getElem?_append_left (List.getElem?_eq_some_iff.1 hu).1]; exact hu
      have hr := Lib.run_append_grow_string (P := P) w t s ty e i _ ht hu hi hz ⟨g, 0, none⟩ n cap xs (by rw [hs1]; exact hv.1) holds ⟨l.toArray⟩ (by rw [hsz]; omega) (by rw [hsz]; omega) (by rw [hsz]; exact growslice_fits (by omega) (by rw [hby]; omega))
      rw [hsz, strCells_list] at hr
      refine ⟨_, _, hr, ?_, (Mod.refl _ _).drew.trans (mod_alloc w.drew _).nil, ?_⟩
      · have := VecAt.grown (w := w.drew) (e := e) (Value.int IntKind.u8 0).cells hzc (grownCap w (n + l.length) cap e) hlen (grownCap_ge _ _ _ _) (grownCap_le_maxLen _ _ _ _ (by omega))
        rw [← List.append_toArray] at this
        exact this
      · intro y hy; simp [Value.ownBlock] at hy; exact .inr (by omega)

/-- The step. -/
theorem k_appS (hS : St S w0 w M) {s x : Operand} {t u : TypeId} {v : Value} {e : TypeId} {L l : List UInt8} (ho : o.op = .call { callee := .builtin .append, args := #[s, x], argTypes := #[t, u] })
    (hs : a.eval s = v) (hx : a.eval x = .string ⟨l.toArray⟩) (ht : P.underlying t = some (.slice e)) (hu : P.underlying u = some .string) (hout : Out M (.vec v e 1 L.length (L.flatMap byt)) M' := by (repeat (first | exact Out.here | apply Out.there)))
    (hi : (P.info? e).map (fun i => (i.zero, i.size, i.bytes)) = some (some (.int .u8 0), 1, 1) := by rfl) (hbl : L.length + l.length ≤ 137438953472 := by omega)
    (h : ∀ v' w', St S w0 w' (.vec v' e 1 (L ++ l).length ((L ++ l).flatMap byt) :: M') → K (a.put o.dst v') w') : o.wp P a w K Q := by
  obtain ⟨ti, hti, hk⟩ := Option.map_eq_some_iff.1 hi
  simp only [Prod.mk.injEq] at hk
  have hS2 := hS.out hout
  obtain ⟨v', w', r1, r2, r3, r4⟩ := run_append_str (P := P) o.type ht hu hti hk.1 hk.2.1 hk.2.2 (hS2.vec (i := 0) rfl) l (by omega)
  refine wp_run ?_ (h v' w' ?_)
  · simp [execOp, ho, resolve, invoke, builtin, hs, hx, r1]
  · have := hS2.chgVec 0 rfl r3 r2 r4
    rw [List.length_append, List.flatMap_append]
    exact this
end
end Go.Cmp
