/-
  Lemmas that hold for every program: what is taken out of a slice (append of a slice's own end, clear, a shorter slice).
-/
import Derived.Test.YtggngdjncokanaaAuto
set_option linter.unusedSimpArgs false
set_option linter.unusedVariables false
set_option linter.unusedSectionVars false
namespace Go.Cmp
open Go.RowKit

theorem St.shape {S : List Nat} {w0 w : World} {M : List Ent} (h : St S w0 w M) {i : Nat} {v : Value} {e : TypeId} {k n : Nat} {xs : List Value} (hi : M[i]? = some (.vec v e k n xs)) (h0 : 0 < n) : ∃ g cap, v = .slice (some ⟨g, 0, none⟩) n cap ∧ n ≤ cap ∧ cap ≤ maxLen := by
  rcases (h.vec hi).2 with ⟨_, rfl⟩ | ⟨g, cap, rest, fr, rfl, _, h2, h3, _⟩
  · omega
  · exact ⟨g, cap, rfl, h2, h3⟩
theorem addr_add0 (p : Addr) : p.add 0 = p := by simp [Addr.add]
theorem cutSl_some (g n cap k l h : Nat) (hc : ¬ cap = l) : cutSl (.slice (some ⟨g, 0, none⟩) n cap) k l h = .slice (some ⟨g, l * k, none⟩) (h - l) (cap - l) := by
  simp [cutSl, hc, add_lit]
theorem cutSl_zero (g n cap k h : Nat) : cutSl (.slice (some ⟨g, 0, none⟩) n cap) k 0 h = .slice (some ⟨g, 0, none⟩) h cap := by
  simp [cutSl, addr_add0]
/-- A slice of its own, told shorter. -/
theorem St.shrinkAt {S : List Nat} {w0 w : World} {M M' : List Ent} (h : St S w0 w M) {v : Value} {e : TypeId} {k n : Nat} {xs : List Value} (l : Nat) (hl : l ≤ n) (ho : Out M (.vec v e k n xs) M') : St S w0 w (.vec (cutSl v k 0 l) e k l (xs.take (l * k)) :: M') := by
  have h1 := h.out ho
  have hv := h1.vec (i := 0) rfl
  have hle : l * k ≤ n * k := Nat.mul_le_mul_right _ hl
  refine h1.chgVec 0 rfl (Mod.refl _ _) (v' := cutSl v k 0 l) (n' := l) ?_ ?_
  · refine ⟨by rw [List.length_take, hv.1]; omega, ?_⟩
    rcases hv.2 with ⟨rfl, rfl⟩ | ⟨g, cap, rest, fr, rfl, hh, h2, h3, h4, h5⟩
    · obtain rfl : l = 0 := by omega
      exact .inl ⟨by simp [cutSl], rfl⟩
    · rw [cutSl_zero]
      refine .inr ⟨g, cap, xs.drop (l * k) ++ rest, fr, rfl, by rw [← List.append_assoc, List.take_append_drop]; exact hh, by omega, h3, by rw [← List.append_assoc, List.take_append_drop]; exact h4, h5⟩
  · intro y hy
    rcases hv.2 with ⟨rfl, rfl⟩ | ⟨g, cap, rest, fr, rfl, _⟩
    · simp [cutSl, Value.ownBlock] at hy
    · rw [cutSl_zero] at hy
      exact .inl hy

theorem St.gen {S : List Nat} {w0 w : World} {m : Ent} {M : List Ent} (h : St S w0 w (m :: M)) : ∃ R, M = R ∧ St S w0 w (m :: R) := ⟨M, rfl, h⟩

section
variable {P : Program} {ops : Array Oper} {rest : List Oper} {o : Oper} {a : Act} {K : Act → World → Prop} {Q : Exit → Act → World → Prop} {w w0 : World} {S : List Nat} {M M' : List Ent}

theorem g_clear {d : Option Tmp} {ty : TypeId} {pos : String} {af : Array Edge} {gd : Option (Nat × Bool)} {as' : Array Operand} {ts : Array TypeId} (H : wpList P ops Q (⟨d, .call ⟨.builtin .clear, as', ts⟩, ty, pos, af, gd⟩ :: rest) a w) : wpList P ops Q (⟨d, .call ⟨.builtin .clear, as', ts⟩, ty, pos, af, gd⟩ :: rest) a w := H

/-- append(v[:i], v[j:]...), i ≤ j: in place. -/
theorem a_delApp (hS : St S w0 w M) {s x : Operand} {t : TypeId} (ho : o.op = .call { callee := .builtin .append, args := #[s, x], argTypes := #[t, t] })
    {v : Value} {e : TypeId} {k n : Nat} {xs ys : List Value} (i j : Nat) (hsw : Sw M (.vec v e k n xs) (.vec v e k n ys) M') (hs : a.eval s = cutSl v k 0 i) (hx : a.eval x = cutSl v k j n) (ht : P.underlying t = some (.slice e)) (hk : (P.info? e).map (·.size) = some k)
    (h1 : ∀ u ∈ xs, u.oneCell' = true) (hij : i ≤ j) (hj : j ≤ n) (hn : 0 < n) (hys : xs.take (i * k) ++ xs.drop (j * k) ++ xs.drop ((i + (n - j)) * k) = ys)
    (h : ∀ w', St S w0 w' M' → K (a.put o.dst (cutSl v k 0 (i + (n - j)))) w') : o.wp P a w K Q := by
  obtain ⟨ti, hi, hks⟩ := Option.map_eq_some_iff.1 hk
  obtain ⟨l, hM, rfl⟩ := hsw.set
  have hv := hS.vec hM
  have hR := (hS.rdv hM).cut j n hj (Nat.le_refl _)
  have hxl := hv.1
  rw [List.take_of_length_le (by omega)] at hR
  have hfc := run_firstCells_rd (P := P) hR (n - j) (Nat.le_refl _)
  rw [List.take_of_length_le (by rw [List.length_drop, hxl, Nat.sub_mul]; omega)] at hfc
  rcases hv.2 with ⟨rfl, rfl⟩ | ⟨g, cap, rest', fr, rfl, hh, e2, e3, e4, e5⟩
  · omega
  · have hjk : j * k ≤ n * k := Nat.mul_le_mul_right _ hj
    have hik : i * k ≤ j * k := Nat.mul_le_mul_right _ hij
    have hnl : (xs.drop (j * k)).length = n * k - j * k := by rw [List.length_drop, hxl]
    have hck : n * k ≤ cap * k := Nat.mul_le_mul_right _ e2
    obtain ⟨w', r1, r2, r3⟩ := run_storeCells_nf (P := P) g (i * k) e fr (xs.drop (j * k)) 0 (xs ++ rest') w hh (by simp only [List.length_append]; omega) (by intro q hq; exact e5 _ (by omega)) (fun u hu => h1 u (List.mem_of_mem_drop hu))
    have hcat : (xs ++ rest').take (i * k + 0) ++ xs.drop (j * k) ++ (xs ++ rest').drop (i * k + 0 + (xs.drop (j * k)).length) = ys ++ rest' := by
      subst hys
      rw [Nat.add_zero, hnl, List.take_append_of_le_length (by omega), List.drop_append_of_le_length (by omega)]
      have e1 : i * k + (n * k - j * k) = (i + (n - j)) * k := by rw [Nat.add_mul, Nat.sub_mul]
      rw [e1]
      simp
    rw [hcat] at r2
    have hyl : ys.length = n * k := by
      subst hys
      simp only [List.length_append, List.length_take, List.length_drop, hxl, Nat.add_mul, Nat.sub_mul]
      omega
    rw [cutSl_zero] at hs h
    have hroom : i + (n - j) ≤ cap := by omega
    refine wp_run (v := .slice (some ⟨g, 0, none⟩) (i + (n - j)) cap) ?_ (h w' (hS.chgVec l hM (by simpa [Value.ownBlock] using r3) ⟨hyl, .inr ⟨g, cap, rest', fr, rfl, r2, e2, e3, ?_, e5⟩⟩ (fun _ hy => .inl hy)))
    · by_cases hc : cap = j
      · have hx2 : a.eval x = .slice (some ⟨g, 0, none⟩) (n - j) (cap - j) := by rw [hx]; simp [cutSl, hc]
        have hc2 : cutSl (.slice (some ⟨g, 0, none⟩) n cap) k j n = .slice (some ⟨g, 0, none⟩) (n - j) (cap - j) := by simp [cutSl, hc]
        rw [hc2] at hfc
        simp [execOp, ho, resolve, invoke, builtin, hs, hx2, Builtin.append_, run_underlying ht, sizeOf, typeInfo, hi, hks, Builtin.lenOf, hroom, hfc, add_lit, r1]
      · have hx2 := hx
        rw [cutSl_some _ _ _ _ _ _ hc] at hx2 hfc
        simp [execOp, ho, resolve, invoke, builtin, hs, hx2, Builtin.append_, run_underlying ht, sizeOf, typeInfo, hi, hks, Builtin.lenOf, hroom, hfc, add_lit, r1]
    · simp only [List.length_append] at e4 ⊢; omega

/-- clear(v[l:n]), l < n; what is left is v[:l]. -/
theorem a_clear (hS : St S w0 w M) {x : Operand} {t : TypeId} (ho : o.op = .call { callee := .builtin .clear, args := #[x], argTypes := #[t] })
    {v : Value} {e : TypeId} {k n : Nat} {xs : List Value} (l : Nat) (hout : Out M (.vec v e k n xs) M') (hx : a.eval x = cutSl v k l n) (ht : P.underlying t = some (.slice e)) (hk : (P.info? e).map (fun i => (i.size, i.zero.map (fun z => (z.cells.size, z.cells.toList.all (·.oneCell'))))) = some (k, some (k, true)))
    (hl : l < n) (h : ∀ w', St S w0 w' (.vec (cutSl v k 0 l) e k l (xs.take (l * k)) :: M') → K (a.put o.dst (.tuple #[])) w') : o.wp P a w K Q := by
  obtain ⟨ti, hi, hks⟩ := Option.map_eq_some_iff.1 hk
  simp only [Prod.mk.injEq] at hks
  obtain ⟨hks, hz⟩ := hks
  obtain ⟨z, hz, hzz⟩ := Option.map_eq_some_iff.1 hz
  simp only [Prod.mk.injEq] at hzz
  obtain ⟨hzs, hza⟩ := hzz
  have h1 := hS.out hout
  have hv := h1.vec (i := 0) rfl
  have hxl := hv.1
  rcases hv.2 with ⟨rfl, rfl⟩ | ⟨g, cap, rest', fr, rfl, hh, e2, e3, e4, e5⟩
  · omega
  · have hlk : l * k ≤ n * k := Nat.mul_le_mul_right _ (by omega)
    have hck : n * k ≤ cap * k := Nat.mul_le_mul_right _ e2
    obtain ⟨zs, hzs2⟩ : ∃ zs, (Builtin.zeroCells z.cells (n - l)).toList = zs := ⟨_, rfl⟩
    have hzl : zs.length = (n - l) * k := by rw [← hzs2, Array.length_toList, size_zeroCells, hzs]
    have hz1 : ∀ u ∈ zs, u.oneCell' = true := by
      intro u hu
      rw [← hzs2] at hu
      simp only [Builtin.zeroCells, Array.toList_map, List.mem_map] at hu
      obtain ⟨q, hq, rfl⟩ := hu
      rw [List.all_eq_true] at hza
      have hq2 : q < (n - l) * z.cells.size := by simpa using hq
      have hp : 0 < z.cells.size := by rcases Nat.eq_zero_or_pos z.cells.size with h0 | h0; rw [h0] at hq2; omega; exact h0
      have hm := Nat.mod_lt q hp
      rw [getElem!_pos z.cells _ hm]
      exact hza _ (by simp)
    rw [Nat.sub_mul] at hzl
    have hcl : ¬ cap = l := by omega
    obtain ⟨w', r1, r2, r3⟩ := run_storeCells_nf (P := P) g (l * k) e fr zs 0 (xs ++ rest') w hh (by simp only [List.length_append]; omega) (by intro q hq; exact e5 _ (by omega)) hz1
    have hcat : (xs ++ rest').take (l * k + 0) ++ zs ++ (xs ++ rest').drop (l * k + 0 + zs.length) = xs.take (l * k) ++ (zs ++ rest') := by
      rw [Nat.add_zero, hzl, List.take_append_of_le_length (by omega), show l * k + (n * k - l * k) = xs.length by omega, List.drop_left]
      simp
    rw [hcat] at r2
    rw [cutSl_some _ _ _ _ _ _ hcl] at hx
    rw [cutSl_zero] at h
    refine wp_run (v := .tuple #[]) ?_ (h w' (h1.chgVec 0 rfl (by simpa [Value.ownBlock] using r3) (v' := .slice (some ⟨g, 0, none⟩) l cap) ⟨by rw [List.length_take]; omega, .inr ⟨g, cap, zs ++ rest', fr, rfl, r2, by omega, e3, ?_, e5⟩⟩ (fun _ hy => .inl hy)))
    · obtain ⟨m, hm⟩ : ∃ m, n - l = m + 1 := ⟨n - l - 1, by omega⟩
      rw [hm] at hx hzs2
      simp [execOp, ho, resolve, invoke, builtin, hx, Builtin.clear_, run_underlying ht, zeroValue, typeInfo, hi, hz, hzs2, r1]
    · simp only [List.length_append, List.length_take] at e4 ⊢; omega

/-- v[l:n] of v[:l]: beyond its length. -/
theorem x_cutBeyond (hS : St S w0 w M) {x lo hi : Operand} {t : TypeId} (ho : o.op = .slice t x (some lo) (some hi) none) {v : Value} {e : TypeId} {k n : Nat} {xs : List Value} (l : Nat) {i : Nat} (hM : Ix M i (.vec v e k n xs)) (hx : a.eval x = cutSl v k 0 l) (hlo : a.eval lo = .int .i64 (l : Int)) (hhi : a.eval hi = .int .i64 (n : Int))
    (ht : P.underlying t = some (.slice e)) (hk : (P.info? e).map (·.size) = some k) (hl : l < n) : (execOp a.eval o).run P w = .ok (.value (cutSl v k l n)) w := by
  obtain ⟨ti, hi, hks⟩ := Option.map_eq_some_iff.1 hk
  obtain ⟨g, cap, rfl, h2, h3⟩ := hS.shape hM.get (by omega)
  rw [cutSl_zero] at hx
  have hcl : ¬ cap = l := by omega
  rw [cutSl_some _ _ _ _ _ _ hcl]
  have h4 : (l : Int) ≤ n := by omega
  have h5 : l ≤ n := by omega
  simp [execOp, ho, hx, hlo, hhi, not_array ht, Instr.slice, run_underlying ht, Instr.sliceBounds, Instr.sliceBound, asIntOf, h2, h5, sizeOf, typeInfo, hi, hks, hcl, add_lit]
/-- v[l:h:n], n its length. -/
theorem x_cut3 (hS : St S w0 w M) {x lo hi mx : Operand} {t : TypeId} (ho : o.op = .slice t x (some lo) (some hi) (some mx)) {v : Value} {e : TypeId} {k n : Nat} {xs : List Value} (l h : Nat) {i : Nat} (hM : Ix M i (.vec v e k n xs)) (hx : a.eval x = v) (hlo : a.eval lo = .int .i64 (l : Int)) (hhi : a.eval hi = .int .i64 (h : Int)) (hmx : a.eval mx = .int .i64 (n : Int))
    (ht : P.underlying t = some (.slice e)) (hk : (P.info? e).map (·.size) = some k) (hl : l ≤ h) (hh : h ≤ n) (hn : 0 < n) : ∃ u, (execOp a.eval o).run P w = .ok (.value u) w := by
  obtain ⟨ti, hi, hks⟩ := Option.map_eq_some_iff.1 hk
  obtain ⟨g, cap, rfl, h2, h3⟩ := hS.shape hM.get hn
  simp [execOp, ho, hx, hlo, hhi, hmx, not_array ht, Instr.slice, run_underlying ht, Instr.sliceBounds, Instr.sliceBound, asIntOf, h2, hl, hh, sizeOf, typeInfo, hi, hks]
theorem wl_cut3 (hS : St S w0 w M) {x lo hi mx : Operand} {t : TypeId} (ho : o.op = .slice t x (some lo) (some hi) (some mx)) (hw : Region.wanted o (yielded ops a.tmps) = true) {v : Value} {e : TypeId} {k n : Nat} {xs : List Value} (l h : Nat) {i : Nat} (hM : Ix M i (.vec v e k n xs)) (hx : a.eval x = v) (hlo : a.eval lo = .int .i64 (l : Int)) (hhi : a.eval hi = .int .i64 (h : Int)) (hmx : a.eval mx = .int .i64 (n : Int))
    (ht : P.underlying t = some (.slice e)) (hk : (P.info? e).map (·.size) = some k) (hl : l ≤ h) (hh : h ≤ n) (hn : 0 < n) (H : ∀ u, wpList P ops Q rest (a.put o.dst u) w) : wpList P ops Q (o :: rest) a w := by
  obtain ⟨u, hu⟩ := x_cut3 (P := P) hS ho l h hM hx hlo hhi hmx ht hk hl hh hn
  exact wl_run hw hu (H u)
theorem flat_erase {α : Type} {f : α → List Value} {k : Nat} (hf : ∀ x, (f x).length = k) (L : List α) (i : Nat) (hi : i < L.length) :
    ((L.flatMap f).take (i * k) ++ (L.flatMap f).drop ((i + 1) * k) ++ (L.flatMap f).drop ((i + (L.length - (i + 1))) * k)).take ((i + (L.length - (i + 1))) * k) = (L.eraseIdx i).flatMap f := by
  rw [flat_take hf, flat_drop hf, List.eraseIdx_eq_take_drop_succ, List.flatMap_append, List.take_append_of_le_length, List.take_of_length_le]
  · simp only [List.length_append, flat_len hf, List.length_take, List.length_drop, ← Nat.add_mul]
    exact Nat.mul_le_mul_right _ (by omega)
  · simp only [List.length_append, flat_len hf, List.length_take, List.length_drop, ← Nat.add_mul]
    exact Nat.mul_le_mul_right _ (by omega)
end
end Go.Cmp
