/-
  Which superblock is read, as the document counts; in plain lists.
-/
import Derived.Test.YtbfdnpahojoccaaSupP
import Derived.Test.YtbfdnpahojoccaaSupB
set_option linter.unusedSimpArgs false
set_option linter.unusedVariables false
set_option linter.unusedSectionVars false
set_option maxRecDepth 100000
namespace Go.Cmp
open Go.RowKit
def pickS (b x : Sup) : Sup := if b.seq < x.seq then x else b
def newest (L : List Sup) : Sup := L.foldl pickS (nth L 0)
def sames (L : List Sup) (b : Sup) : Nat := L.countP fun x => decide (x = b)
def goods (D : Dsk) (n : Nat) : List Sup := ((copies D n).filter (fun x => x.2)).map (fun x => x.1)
theorem hasU_right {b : List UInt8} (h : (hasU b).2 = true) : (hasU b).1.right = true := by
  unfold hasU at h ⊢
  split at h
  · simp at h
  · rename_i ho
    rw [if_neg ho]
    simp only [decide_eq_true_eq] at h ⊢
    unfold unpU at h ⊢
    split at h
    · simp at h
    · rename_i h1
      rw [if_neg h1]
      split at h
      · simp at h
      · rename_i h2
        rw [if_neg h2]
        simpa using h2
theorem fold_filter : ∀ (l : List (Sup × Bool)) (a : Sup × Nat), l.foldl bestU a = ((l.filter (fun x => x.2)).map (fun x => x.1)).foldl (fun a x => bestU a (x, true)) a
  | [], a => rfl
  | (x, b) :: l, a => by
    rw [List.foldl_cons, fold_filter l]
    cases b
    · have : bestU a (x, false) = a := by unfold bestU; rw [if_pos rfl]
      rw [this]
      rfl
    · rfl
theorem newest_snoc {L : List Sup} (hL : L ≠ []) (x : Sup) : newest (L ++ [x]) = pickS (newest L) x := by
  have e : nth (L ++ [x]) 0 = nth L 0 := by rw [nth_append, if_pos (List.length_pos_iff.2 hL)]
  unfold newest
  rw [List.foldl_append, e]
  rfl
theorem snoc_ind {α : Type} {P : List α → Prop} (h0 : P []) (h1 : ∀ L x, P L → P (L ++ [x])) (L : List α) : P L := by
  have key : ∀ (n : Nat) (L : List α), L.length = n → P L := by
    intro n
    induction n with
    | zero => intro L h; rw [List.eq_nil_of_length_eq_zero h]; exact h0
    | succ n ih =>
      intro L h
      have hne : L ≠ [] := by intro e; rw [e] at h; simp at h
      rw [← List.dropLast_concat_getLast hne]
      exact h1 _ _ (ih _ (by rw [List.length_dropLast]; omega))
  exact key _ L rfl
theorem newest_fold : ∀ (L : List Sup), (∀ x ∈ L, 1 ≤ x.seq) → L ≠ [] →
    L.foldl (fun a x => bestU a (x, true)) (zeroU, 0) = (newest L, sames L (newest L)) ∧ (∀ y ∈ L, y.seq ≤ (newest L).seq) := by
  intro L
  refine snoc_ind (P := fun L => (∀ x ∈ L, 1 ≤ x.seq) → L ≠ [] → L.foldl (fun a x => bestU a (x, true)) (zeroU, 0) = (newest L, sames L (newest L)) ∧ (∀ y ∈ L, y.seq ≤ (newest L).seq)) ?_ ?_ L
  · intro _ h; exact absurd rfl h
  · intro L x ih
    intro h1 _
    have hx := h1 x (by simp)
    by_cases hL : L = []
    · subst hL
      have e1 : newest ([] ++ [x]) = x := by
        show pickS x x = x
        unfold pickS
        split <;> rfl
      rw [e1]
      refine ⟨?_, by simp⟩
      show bestU (zeroU, 0) (x, true) = _
      have e2 : sames ([] ++ [x]) x = 1 := by simp [sames]
      rw [e2]
      unfold bestU
      rw [if_neg (by simp), if_pos (by show zeroU.seq < x.seq; have : zeroU.seq = 0 := rfl; omega)]
    · obtain ⟨i1, i2⟩ := ih (fun y hy => h1 y (by simp [hy])) hL
      rw [List.foldl_append, i1, newest_snoc hL]
      have e0 : ([x].foldl (fun a x => bestU a (x, true)) (newest L, sames L (newest L))) = bestU (newest L, sames L (newest L)) (x, true) := rfl
      rw [e0]
      unfold bestU pickS
      rw [if_neg (by simp)]
      simp only
      by_cases hlt : (newest L).seq < x.seq
      · rw [if_pos hlt, if_pos hlt]
        have hz : sames L x = 0 := by
          unfold sames
          rw [List.countP_eq_zero]
          intro y hy he
          have := i2 y hy
          rw [of_decide_eq_true he] at this
          omega
        refine ⟨?_, ?_⟩
        · have : sames (L ++ [x]) x = sames L x + 1 := by simp [sames, List.countP_append]
          rw [this, hz]
        · intro y hy
          rcases List.mem_append.1 hy with hy | hy
          · have := i2 y hy; omega
          · rw [List.mem_singleton.1 hy]; exact Int.le_refl _
      · rw [if_neg hlt, if_neg hlt]
        refine ⟨?_, ?_⟩
        · by_cases hxe : x = newest L
          · rw [if_pos hxe]
            have : sames (L ++ [x]) (newest L) = sames L (newest L) + 1 := by simp [sames, List.countP_append, hxe]
            rw [this]
          · rw [if_neg hxe]
            have : sames (L ++ [x]) (newest L) = sames L (newest L) := by simp [sames, List.countP_append, hxe]
            rw [this]
        · intro y hy
          rcases List.mem_append.1 hy with hy | hy
          · exact i2 y hy
          · rw [List.mem_singleton.1 hy]; omega
theorem goods_right (D : Dsk) (n : Nat) : ∀ x ∈ goods D n, x.right = true := by
  intro x hx
  unfold goods copies at hx
  obtain ⟨y, hy, rfl⟩ := List.mem_map.1 hx
  obtain ⟨hy1, hy2⟩ := List.mem_filter.1 hy
  obtain ⟨i, _, rfl⟩ := List.mem_map.1 hy1
  exact hasU_right hy2
theorem goods_len (D : Dsk) (n : Nat) : (goods D n).length ≤ n := by
  unfold goods
  rw [List.length_map]
  refine Nat.le_trans (List.length_filter_le _ _) ?_
  unfold copies
  simp
theorem goods_snoc (D : Dsk) (i : Nat) : goods D (i + 1) = if (hasU (D.read (i : Int)).1).2 = true then goods D i ++ [(hasU (D.read (i : Int)).1).1] else goods D i := by
  unfold goods copies
  rw [List.range_succ, List.map_append, List.filter_append, List.map_append]
  cases h : (hasU (D.read (i : Int)).1).2 <;> simp [h]
/-- What the document reads. -/
theorem read_goods {D : Dsk} (ho : D.off = false) : readU D = if goods D 4 = [] then (zeroU, 0, 11) else (newest (goods D 4), sames (goods D 4) (newest (goods D 4)), 0) := by
  unfold readU
  rw [if_neg (by simp [ho]), fold_filter]
  show (if ((goods D 4).foldl (fun a x => bestU a (x, true)) (zeroU, 0)).2 = 0 then _ else (((goods D 4).foldl (fun a x => bestU a (x, true)) (zeroU, 0)).1, ((goods D 4).foldl (fun a x => bestU a (x, true)) (zeroU, 0)).2, 0)) = _
  by_cases hg : goods D 4 = []
  · rw [hg]
    rfl
  · obtain ⟨h1, _⟩ := newest_fold (goods D 4) (fun x hx => (sup_right.1 (goods_right D 4 x hx)).seq.1) hg
    have hpos : 0 < sames (goods D 4) (newest (goods D 4)) := by
      unfold sames
      rw [List.countP_pos_iff]
      have hin : ∀ (l : List Sup) (b : Sup), l.foldl pickS b = b ∨ l.foldl pickS b ∈ l := by
        intro l
        induction l with
        | nil => intro b; exact .inl rfl
        | cons y l ih =>
          intro b
          rw [List.foldl_cons]
          rcases ih (pickS b y) with h | h
          · rw [h]
            unfold pickS
            split
            · exact .inr (by simp)
            · exact .inl rfl
          · exact .inr (by simp [h])
      refine ⟨newest (goods D 4), ?_, by simp⟩
      rcases hin (goods D 4) (nth (goods D 4) 0) with h | h
      · unfold newest
        rw [h]
        exact nth_mem (List.length_pos_iff.2 hg)
      · exact h
    rw [if_neg hg, h1, if_neg (by simp only; omega)]
theorem goods_U (D : Dsk) (n : Nat) : ∀ x ∈ goods D n, x.U64 := by
  intro x hx
  unfold goods copies at hx
  obtain ⟨y, hy, rfl⟩ := List.mem_map.1 hx
  obtain ⟨hy1, hy2⟩ := List.mem_filter.1 hy
  obtain ⟨i, _, rfl⟩ := List.mem_map.1 hy1
  exact hasU_U _
theorem zeroU_U : zeroU.U64 := ⟨by decide, by decide, by decide, by decide, by decide, by decide, by decide, by decide⟩
theorem readU_U (D : Dsk) : (readU D).1.U64 := by
  cases ho : D.off
  · unfold readU
    rw [if_neg (by simp [ho])]
    have key : ∀ (l : List (Sup × Bool)) (a : Sup × Nat), a.1.U64 → (∀ x ∈ l, x.1.U64) → (l.foldl bestU a).1.U64 := by
      intro l
      induction l with
      | nil => intro a ha _; exact ha
      | cons x l ih =>
        intro a ha hl
        rw [List.foldl_cons]
        refine ih _ ?_ (fun y hy => hl y (by simp [hy]))
        unfold bestU
        split
        · exact ha
        · split
          · exact hl x (by simp)
          · split
            · exact ha
            · exact ha
    split
    · exact zeroU_U
    · refine key _ _ zeroU_U ?_
      intro x hx
      unfold copies at hx
      obtain ⟨i, _, rfl⟩ := List.mem_map.1 hx
      exact hasU_U _
  · unfold readU
    rw [if_pos ho]
    exact zeroU_U
theorem nextU_U {s : Sup} (h : s.U64) : (nextU s).U64 := by
  unfold nextU
  split
  · exact h
  · exact ⟨h.csum, h.s0, h.s1, h.s2, h.s3, h.s4, h.s5, chainOf_lt 0 (by decide) _⟩
/-- What writing does to a disk that may be. -/
theorem writesU_next (s : Sup) : ∀ (k i : Nat) (D : Dsk), D.Ok → D.way.length + 2 * k ≤ 1000000 → D.steps + 2 * k ≤ 1000000000 →
    (writesU s k i D).2.Ok ∧ (writesU s k i D).2.way.length ≤ D.way.length + 2 * k ∧ (writesU s k i D).2.steps ≤ D.steps + 2 * k ∧ (writesU s k i D).2.lasts.length = D.lasts.length
  | 0, i, D, h, _, _ => ⟨h, Nat.le_refl _, by show D.steps ≤ _; omega, rfl⟩
  | k + 1, i, D, h, hw, hs => by
    obtain ⟨was, old, ok, er⟩ : Sup × List UInt8 × Bool × Int := oneU D i
    obtain ⟨R, hR⟩ : ∃ R, oneU D i = R := ⟨_, rfl⟩
    obtain ⟨was, old, ok, er⟩ := R
    rw [writesU_step s k i D hR]
    split
    · exact ⟨h, by show D.way.length ≤ _; omega, by show D.steps ≤ _; omega, rfl⟩
    · split
      · obtain ⟨a, b, c, d⟩ := writesU_next s k (i + 1) D h (by omega) (by omega)
        exact ⟨a, by omega, by omega, d⟩
      · have n1 := Dsk.write_next h (i : Int) (sealS old (supB s)).1 (by omega) (by omega)
        have w1 := n1.way
        have s1 := n1.steps
        split
        · exact ⟨n1.ok, by omega, by omega, n1.len⟩
        · have n2 := Dsk.flush_next n1.ok (by omega)
          have w2 := n2.way
          have s2 := n2.steps
          split
          · exact ⟨n2.ok, by omega, by omega, n2.len.trans n1.len⟩
          · obtain ⟨a, b, c, d⟩ := writesU_next s k (i + 1) _ n2.ok (by omega) (by omega)
            exact ⟨a, by omega, by omega, d.trans (n2.len.trans n1.len)⟩
theorem writeU_next (s : Sup) {D : Dsk} (h : D.Ok) (hw : D.way.length + 8 ≤ 1000000) (hs : D.steps + 8 ≤ 1000000000) :
    (writeU s D).2.Ok ∧ (writeU s D).2.way.length ≤ D.way.length + 8 ∧ (writeU s D).2.steps ≤ D.steps + 8 ∧ (writeU s D).2.lasts.length = D.lasts.length := by
  unfold writeU
  split
  · exact ⟨h, by show D.way.length ≤ _; omega, by show D.steps ≤ _; omega, rfl⟩
  · obtain ⟨a, b, c, d⟩ := writesU_next s 4 0 D h (by omega) (by omega)
    exact ⟨a, by omega, by omega, d⟩
end Go.Cmp
