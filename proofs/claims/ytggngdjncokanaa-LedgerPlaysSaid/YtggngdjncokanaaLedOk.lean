/-
  The ledger in plain lists: what is kept by an operation.
-/
import Derived.Test.YtggngdjncokanaaLedSpec
set_option linter.unusedSimpArgs false
set_option linter.unusedVariables false
set_option linter.unusedSectionVars false
namespace Go.Proofs.Ytggngdjncokanaa
open Go.RowKit Go.Cmp

theorem accAt_hit {c : Nat} {A : List Acc} (h : 0 ≤ accAt c A) : (nth A (accAt c A).toNat).id = c := by
  have := idx_hit (p := fun a : Acc => decide (a.id = c)) (l := A) h
  simpa [accAt] using this
theorem traAt_hit {c : Nat} {A : List Tra} (h : 0 ≤ traAt c A) : (nth A (traAt c A).toNat).id = c := by
  have := idx_hit (p := fun a : Tra => decide (a.id = c)) (l := A) h
  simpa [traAt] using this
theorem accAt_range (c : Nat) (A : List Acc) : -1 ≤ accAt c A ∧ accAt c A < A.length := idx_range A
theorem traAt_range (c : Nat) (A : List Tra) : -1 ≤ traAt c A ∧ traAt c A < A.length := idx_range A
theorem open_ok {D : Led} (hD : D.Ok) {a : Acc} (ha : a.Ok) : (D.open a).2.Ok := by
  unfold Led.open
  split
  · exact hD
  split
  · exact hD
  split
  · exact hD
  split
  · exact hD
  rename_i h
  refine ⟨fun x hx => ?_, hD.tra, by simp only [List.length_append, List.length_singleton]; omega, hD.lt⟩
  rcases List.mem_append.1 hx with hx | hx
  · exact hD.acc x hx
  · simp only [List.mem_singleton] at hx
    subst hx
    exact ⟨ha.1, Nat.pow_pos (by omega), Nat.pow_pos (by omega), ha.2.2.2.1, ha.2.2.2.2⟩
theorem moved_ok {A : List Acc} (h : ∀ a ∈ A, a.Ok) {p q n : Nat} (hp : p < A.length) (hq : q < A.length) (h1 : (nth A p).deb + n < 256 ^ 8) (h2 : (nth A q).cred + n < 256 ^ 8) : ∀ a ∈ moved A p q n, a.Ok := by
  intro a ha
  unfold moved at ha
  rcases List.mem_or_eq_of_mem_set ha with ha | rfl
  · rcases List.mem_or_eq_of_mem_set ha with ha | rfl
    · exact h a ha
    · have := h _ (nth_mem hp)
      exact ⟨this.1, h1, this.2.2.1, this.2.2.2.1, this.2.2.2.2⟩
  · have := h _ (nth_mem hq)
    exact ⟨this.1, this.2.1, h2, this.2.2.2.1, this.2.2.2.2⟩
theorem moved_len (A : List Acc) (p q n : Nat) : (moved A p q n).length = A.length := by unfold moved; rw [List.length_set, List.length_set]
theorem move_ok {D : Led} (hD : D.Ok) {t : Tra} (ht : t.Ok) : (D.move t).2.Ok := by
  unfold Led.move
  split
  · exact hD
  split
  · exact hD
  split
  · exact hD
  split
  · exact hD
  split
  · exact hD
  split
  · exact hD
  split
  · exact hD
  split
  · exact hD
  split
  · exact hD
  rename_i h4 h5 _ h7 _ h9
  have r1 := accAt_range t.deb D.A
  have r2 := accAt_range t.cred D.A
  have e8 : (256 : Nat) ^ 8 = 18446744073709551616 := rfl
  refine ⟨moved_ok hD.acc (by omega) (by omega) (by omega) (by omega), fun x hx => ?_, by rw [moved_len]; exact hD.la, by simp only [List.length_append, List.length_singleton]; omega⟩
  rcases List.mem_append.1 hx with hx | hx
  · exact hD.tra x hx
  · simp only [List.mem_singleton] at hx
    subst hx
    exact ht
theorem opens_snoc (l : List Acc) (a : Acc) : ∀ D : Led, D.opens (l ++ [a]) = ((D.opens l).1 ++ [((D.opens l).2.open a).1], ((D.opens l).2.open a).2) := by
  induction l with
  | nil => intro D; rfl
  | cons b l ih => intro D; simp only [List.cons_append, Led.opens, ih]
theorem moves_snoc (l : List Tra) (a : Tra) : ∀ D : Led, D.moves (l ++ [a]) = ((D.moves l).1 ++ [((D.moves l).2.move a).1], ((D.moves l).2.move a).2) := by
  induction l with
  | nil => intro D; rfl
  | cons b l ih => intro D; simp only [List.cons_append, Led.moves, ih]
theorem opens_ok : ∀ (l : List Acc) {D : Led}, D.Ok → (∀ a ∈ l, a.Ok) → (D.opens l).2.Ok
  | [], _, h, _ => h
  | a :: l, _, h, hl => opens_ok l (open_ok h (hl a (by simp))) (fun x hx => hl x (by simp [hx]))
theorem moves_ok : ∀ (l : List Tra) {D : Led}, D.Ok → (∀ a ∈ l, a.Ok) → (D.moves l).2.Ok
  | [], _, h, _ => h
  | a :: l, _, h, hl => moves_ok l (move_ok h (hl a (by simp))) (fun x hx => hl x (by simp [hx]))
theorem opens_len : ∀ (l : List Acc) (D : Led), (D.opens l).1.length = l.length
  | [], _ => rfl
  | a :: l, D => by simp only [Led.opens, List.length_cons, opens_len l]
theorem moves_len : ∀ (l : List Tra) (D : Led), (D.moves l).1.length = l.length
  | [], _ => rfl
  | a :: l, D => by simp only [Led.moves, List.length_cons, moves_len l]
theorem leN_8 (c : List UInt8) : leN (c.take 8) < 256 ^ 8 := by
  have h := leN_lt (c.take 8)
  have h2 : (c.take 8).length ≤ 8 := by rw [List.length_take]; omega
  exact Nat.lt_of_lt_of_le h (Nat.pow_le_pow_right (by omega) h2)
theorem gAcc_ok (c : List UInt8) : (gAcc c).Ok := by
  refine ⟨leN_8 c, Nat.pow_pos (by omega), Nat.pow_pos (by omega), ?_, ?_⟩
  · show -9223372036854775808 ≤ (((c.getD 8 0).toNat : Int)); omega
  · show (((c.getD 8 0).toNat : Int)) ≤ 9223372036854775807; have := (c.getD 8 0).toNat_lt; omega
theorem gTra_ok (c : List UInt8) : (gTra c).Ok := ⟨leN_8 c, leN_8 _, leN_8 _, leN_8 _⟩
theorem gID_ok (c : List UInt8) : gID c < 256 ^ 8 := leN_8 c
theorem takeS_all {α : Type} {g : List UInt8 → α} {P : α → Prop} (h : ∀ c, P (g c)) (n : Nat) (l : List UInt8) : ∀ x ∈ (takeS g n l).1, P x := by
  intro x hx
  unfold takeS at hx
  split at hx
  · cases hx
  · obtain ⟨i, _, rfl⟩ := List.mem_map.1 hx
    exact h _
theorem takeS_len {α : Type} (g : List UInt8 → α) (n : Nat) (l : List UInt8) : (takeS g n l).1.length ≤ 4 := by
  unfold takeS
  split
  · simp
  · simp only [List.length_map, List.length_range]; omega
theorem putW_len (a : Acc) : (putW a).1.length ≤ 25 := by
  unfold putW
  split
  · simp [wholeB, leB_length]
  · simp
theorem traB_len (t : Tra) : (traB t).length = 32 := by simp [traB, leB_length]
theorem find4_len (D : Led) (id : Nat) : (D.find4 id).length ≤ 26 := by
  unfold Led.find4
  split
  · simp
  · have := putW_len (nth D.A (accAt id D.A).toNat); simp only [List.length_append, List.length_singleton]; omega
theorem find5_len (D : Led) (id : Nat) : (D.find5 id).length ≤ 33 := by
  unfold Led.find5
  split
  · simp
  · have := traB_len (nth D.T (traAt id D.T).toNat); simp only [List.length_append, List.length_singleton]; omega
theorem doIt_ok {D : Led} (hD : D.Ok) (op : Int) (body : List UInt8) : (D.doIt op body).2.Ok := by
  unfold Led.doIt
  split
  · split
    · exact hD
    · exact opens_ok _ hD (takeS_all gAcc_ok 9 body)
  split
  · split
    · exact hD
    · exact moves_ok _ hD (takeS_all gTra_ok 32 body)
  split
  · split <;> exact hD
  split
  · split <;> exact hD
  · exact hD
theorem newLed_ok : Led.Ok ⟨[], []⟩ := ⟨by simp, by simp, by simp, by simp⟩
end Go.Proofs.Ytggngdjncokanaa
