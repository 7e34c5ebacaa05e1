/-
  The ledger in plain lists: nothing is made of nothing.
-/
import Derived.Test.YtggngdjncokanaaLed8
set_option linter.unusedSimpArgs false
set_option linter.unusedVariables false
set_option linter.unusedSectionVars false
namespace Go.Proofs.Ytggngdjncokanaa
open Go.RowKit Go.Cmp

def sumD (id : Nat) : List Tra → Nat
  | [] => 0
  | t :: T => (if t.deb = id then t.amt else 0) + sumD id T
def sumC (id : Nat) : List Tra → Nat
  | [] => 0
  | t :: T => (if t.cred = id then t.amt else 0) + sumC id T
theorem sumD_app (id : Nat) (T : List Tra) : ∀ T1 : List Tra, sumD id (T1 ++ T) = sumD id T1 + sumD id T
  | [] => by simp [sumD]
  | t :: T1 => by simp only [List.cons_append, sumD, sumD_app id T T1]; omega
theorem sumC_app (id : Nat) (T : List Tra) : ∀ T1 : List Tra, sumC id (T1 ++ T) = sumC id T1 + sumC id T
  | [] => by simp [sumC]
  | t :: T1 => by simp only [List.cons_append, sumC, sumC_app id T T1]; omega
theorem sumD_snoc (id : Nat) (T : List Tra) (t : Tra) : sumD id (T ++ [t]) = sumD id T + (if t.deb = id then t.amt else 0) := by rw [sumD_app]; simp [sumD]
theorem sumC_snoc (id : Nat) (T : List Tra) (t : Tra) : sumC id (T ++ [t]) = sumC id T + (if t.cred = id then t.amt else 0) := by rw [sumC_app]; simp [sumC]
theorem sumD_take (id : Nat) (T : List Tra) (j : Nat) : sumD id (T.take j) ≤ sumD id T := by
  have := sumD_app id (T.drop j) (T.take j)
  rw [List.take_append_drop] at this
  omega
theorem sumC_take (id : Nat) (T : List Tra) (j : Nat) : sumC id (T.take j) ≤ sumC id T := by
  have := sumC_app id (T.drop j) (T.take j)
  rw [List.take_append_drop] at this
  omega
theorem sumD_none {id : Nat} : ∀ {T : List Tra}, (∀ t ∈ T, t.deb ≠ id) → sumD id T = 0
  | [], _ => rfl
  | t :: T, h => by simp only [sumD]; rw [if_neg (h t (by simp)), sumD_none (fun x hx => h x (by simp [hx]))]
theorem sumC_none {id : Nat} : ∀ {T : List Tra}, (∀ t ∈ T, t.cred ≠ id) → sumC id T = 0
  | [], _ => rfl
  | t :: T, h => by simp only [sumC]; rw [if_neg (h t (by simp)), sumC_none (fun x hx => h x (by simp [hx]))]
def HasA (c : Nat) (A : List Acc) : Prop := ∃ p, p < A.length ∧ (nth A p).id = c
theorem has_of_at {c : Nat} {A : List Acc} (h : 0 ≤ accAt c A) : HasA c A := ⟨(accAt c A).toNat, by have := (accAt_range c A).2; omega, accAt_hit h⟩
theorem at_none {c : Nat} {A : List Acc} (h : accAt c A < 0) : ∀ i, i < A.length → (nth A i).id ≠ c := by
  intro i hi
  have := idx_neg (p := fun a : Acc => decide (a.id = c)) h _ (nth_mem hi)
  simpa using this
theorem tra_none {c : Nat} {T : List Tra} (h : traAt c T < 0) : ∀ i, i < T.length → (nth T i).id ≠ c := by
  intro i hi
  have := idx_neg (p := fun a : Tra => decide (a.id = c)) h _ (nth_mem hi)
  simpa using this
section
variable {α : Type} [Inhabited α]
theorem nth_app_lt {l : List α} {x : α} {i : Nat} (h : i < l.length) : nth (l ++ [x]) i = nth l i :=
  nth_eq (by rw [List.getElem?_append_left h, get_lt h])
theorem nth_app_eq {l : List α} {x : α} : nth (l ++ [x]) l.length = x :=
  nth_eq (by rw [List.getElem?_append_right (Nat.le_refl _)]; simp)
theorem nth_set_eq {l : List α} {x : α} {i : Nat} (h : i < l.length) : nth (l.set i x) i = x := nth_eq (by simp [h])
theorem nth_set_ne {l : List α} {x : α} {i j : Nat} (h : i < l.length) (hne : j ≠ i) : nth (l.set j x) i = nth l i :=
  nth_eq (by rw [List.getElem?_set_ne hne, get_lt h])
end
theorem moved_nth {A : List Acc} {p q n i : Nat} (hpq : p ≠ q) (hp : p < A.length) (hq : q < A.length) (hi : i < A.length) :
    nth (moved A p q n) i = ⟨(nth A i).id, (nth A i).flags, (nth A i).deb + (if i = p then n else 0), (nth A i).cred + (if i = q then n else 0)⟩ := by
  unfold moved
  by_cases h1 : i = q
  · subst h1
    rw [nth_set_eq (by rw [List.length_set]; exact hi), if_neg (Ne.symm hpq), if_pos rfl, Nat.add_zero]
  · rw [nth_set_ne (by rw [List.length_set]; exact hi) (Ne.symm h1), if_neg h1]
    by_cases h2 : i = p
    · subst h2
      rw [nth_set_eq hi, if_pos rfl, Nat.add_zero]
    · rw [nth_set_ne hi (Ne.symm h2), if_neg h2, Nat.add_zero, Nat.add_zero]

structure Led.Good (D : Led) : Prop where
  ok : D.Ok
  acc : ∀ i, i < D.A.length → (nth D.A i).id ≠ 0 ∧ 0 ≤ (nth D.A i).flags ∧ (nth D.A i).flags ≤ 1 ∧ (nth D.A i).deb = sumD (nth D.A i).id D.T ∧ (nth D.A i).cred = sumC (nth D.A i).id D.T ∧ ((nth D.A i).flags = 1 → (nth D.A i).deb ≤ (nth D.A i).cred)
  uniq : ∀ i j, i < j → j < D.A.length → (nth D.A i).id ≠ (nth D.A j).id
  tra : ∀ i, i < D.T.length → (nth D.T i).id ≠ 0 ∧ HasA (nth D.T i).deb D.A ∧ HasA (nth D.T i).cred D.A
  tuniq : ∀ i j, i < j → j < D.T.length → (nth D.T i).id ≠ (nth D.T j).id
theorem newLed_good : Led.Good ⟨[], []⟩ := ⟨newLed_ok, by simp, by simp, by simp, by simp⟩
theorem has_app {c : Nat} {A : List Acc} {x : Acc} (h : HasA c A) : HasA c (A ++ [x]) := by
  obtain ⟨p, h1, h2⟩ := h
  exact ⟨p, by rw [List.length_append]; simp; omega, by rw [nth_app_lt h1]; exact h2⟩
theorem open_gd {D : Led} (hD : D.Good) {a : Acc} (ha : a.Ok) (hf : 0 ≤ a.flags) : (D.open a).2.Good := by
  have hok := open_ok hD.ok ha
  revert hok
  unfold Led.open
  split
  · exact fun _ => hD
  split
  · exact fun _ => hD
  split
  · exact fun _ => hD
  split
  · exact fun _ => hD
  rename_i h0 h1 h2 h3
  intro hok
  have hn := at_none (show accAt a.id D.A < 0 by omega)
  have hno : ∀ t ∈ D.T, t.deb ≠ a.id ∧ t.cred ≠ a.id := by
    intro t ht
    obtain ⟨i, hi, rfl⟩ := mem_nth' ht
    obtain ⟨_, ⟨p, hp, e1⟩, ⟨q, hq, e2⟩⟩ := hD.tra i hi
    exact ⟨fun h => hn p hp (e1.trans h), fun h => hn q hq (e2.trans h)⟩
  refine ⟨hok, fun i hi => ?_, fun i j hij hj => ?_, fun i hi => ?_, hD.tuniq⟩
  · simp only [List.length_append, List.length_singleton] at hi
    by_cases h : i < D.A.length
    · simp only [nth_app_lt h]; exact hD.acc i h
    · obtain rfl : i = D.A.length := by omega
      simp only [nth_app_eq]
      exact ⟨h0, hf, by omega, (sumD_none fun t ht => (hno t ht).1).symm, (sumC_none fun t ht => (hno t ht).2).symm, fun _ => Nat.le_refl _⟩
  · simp only [List.length_append, List.length_singleton] at hj
    by_cases h : j < D.A.length
    · simp only [nth_app_lt h, nth_app_lt (show i < D.A.length by omega)]; exact hD.uniq i j hij h
    · obtain rfl : j = D.A.length := by omega
      simp only [nth_app_eq, nth_app_lt hij]
      exact hn i hij
  · obtain ⟨t1, t2, t3⟩ := hD.tra i hi
    exact ⟨t1, has_app t2, has_app t3⟩
theorem same_at {D : Led} (hD : D.Good) {i j : Nat} (hi : i < D.A.length) (hj : j < D.A.length) (h : (nth D.A i).id = (nth D.A j).id) : i = j := by
  rcases Nat.lt_trichotomy i j with h1 | h1 | h1
  · exact absurd h (hD.uniq i j h1 hj)
  · exact h1
  · exact absurd h.symm (hD.uniq j i h1 hi)
theorem move_gd {D : Led} (hD : D.Good) {t : Tra} (ht : t.Ok) : (D.move t).2.Good := by
  have hok := move_ok hD.ok ht
  revert hok
  unfold Led.move
  split
  · exact fun _ => hD
  split
  · exact fun _ => hD
  split
  · exact fun _ => hD
  split
  · exact fun _ => hD
  split
  · exact fun _ => hD
  split
  · exact fun _ => hD
  split
  · exact fun _ => hD
  split
  · exact fun _ => hD
  split
  · exact fun _ => hD
  rename_i h1 h2 h3 h4 h5 h6 h7 h8 h9
  intro hok
  have hp := (accAt_range t.deb D.A).2
  have hq := (accAt_range t.cred D.A).2
  have kp := accAt_hit (show 0 ≤ accAt t.deb D.A by omega)
  have kq := accAt_hit (show 0 ≤ accAt t.cred D.A by omega)
  obtain ⟨p, hpe⟩ : ∃ p, (accAt t.deb D.A).toNat = p := ⟨_, rfl⟩
  obtain ⟨q, hqe⟩ : ∃ q, (accAt t.cred D.A).toNat = q := ⟨_, rfl⟩
  have hpl : p < D.A.length := by omega
  have hql : q < D.A.length := by omega
  rw [hpe] at kp h8 h7 hok ⊢
  rw [hqe] at kq h7 hok ⊢
  have hpq : p ≠ q := by intro e; rw [e, kq] at kp; exact h3 kp.symm
  have hn := tra_none (show traAt t.id D.T < 0 by omega)
  have hlen := moved_len D.A p q t.amt
  have hnth : ∀ i, i < D.A.length → nth (moved D.A p q t.amt) i = ⟨(nth D.A i).id, (nth D.A i).flags, (nth D.A i).deb + (if i = p then t.amt else 0), (nth D.A i).cred + (if i = q then t.amt else 0)⟩ := fun i hi => moved_nth hpq hpl hql hi
  have hhas : ∀ c, HasA c D.A → HasA c (moved D.A p q t.amt) := by
    rintro c ⟨i, hi, e⟩
    exact ⟨i, by rw [hlen]; exact hi, by rw [hnth i hi]; exact e⟩
  refine ⟨hok, fun i hi => ?_, fun i j hij hj => ?_, fun i hi => ?_, fun i j hij hj => ?_⟩
  · simp only at hi
    rw [hlen] at hi
    obtain ⟨a1, a2, a3, a4, a5, a6⟩ := hD.acc i hi
    simp only [hnth i hi, sumD_snoc, sumC_snoc]
    have e1 : (t.deb = (nth D.A i).id) ↔ i = p := by
      constructor
      · intro h; exact same_at hD hi hpl (by rw [kp]; exact h.symm)
      · rintro rfl; exact kp.symm
    have e2 : (t.cred = (nth D.A i).id) ↔ i = q := by
      constructor
      · intro h; exact same_at hD hi hql (by rw [kq]; exact h.symm)
      · rintro rfl; exact kq.symm
    refine ⟨a1, a2, a3, by simp only [e1]; omega, by simp only [e2]; omega, fun hf => ?_⟩
    have a6 := a6 hf
    by_cases hip : i = p
    · subst hip
      rw [if_pos rfl, if_neg hpq]
      have : ¬ (nth D.A i).cred < (nth D.A i).deb + t.amt := fun hlt => h8 ⟨hf, hlt⟩
      omega
    · rw [if_neg hip]
      omega
  · simp only at hj ⊢
    rw [hlen] at hj
    rw [hnth i (by omega), hnth j hj]
    exact hD.uniq i j hij hj
  · simp only [List.length_append, List.length_singleton] at hi ⊢
    by_cases h : i < D.T.length
    · rw [nth_app_lt h]
      obtain ⟨t1, t2, t3⟩ := hD.tra i h
      exact ⟨t1, hhas _ t2, hhas _ t3⟩
    · obtain rfl : i = D.T.length := by omega
      rw [nth_app_eq]
      exact ⟨h1, hhas _ ⟨p, hpl, kp⟩, hhas _ ⟨q, hql, kq⟩⟩
  · simp only [List.length_append, List.length_singleton] at hj ⊢
    by_cases h : j < D.T.length
    · rw [nth_app_lt h, nth_app_lt (show i < D.T.length by omega)]; exact hD.tuniq i j hij h
    · obtain rfl : j = D.T.length := by omega
      rw [nth_app_eq, nth_app_lt hij]
      exact hn i hij
theorem opens_gd : ∀ (l : List Acc) {D : Led}, D.Good → (∀ a ∈ l, a.Ok ∧ 0 ≤ a.flags) → (D.opens l).2.Good
  | [], _, h, _ => h
  | a :: l, _, h, hl => opens_gd l (open_gd h (hl a (by simp)).1 (hl a (by simp)).2) (fun x hx => hl x (by simp [hx]))
theorem moves_gd : ∀ (l : List Tra) {D : Led}, D.Good → (∀ a ∈ l, a.Ok) → (D.moves l).2.Good
  | [], _, h, _ => h
  | a :: l, _, h, hl => moves_gd l (move_gd h (hl a (by simp))) (fun x hx => hl x (by simp [hx]))
theorem doIt_gd {D : Led} (hD : D.Good) (op : Int) (body : List UInt8) : (D.doIt op body).2.Good := by
  unfold Led.doIt
  split
  · split
    · exact hD
    · exact opens_gd _ hD (takeS_all (P := fun a : Acc => a.Ok ∧ 0 ≤ a.flags) (fun c => ⟨gAcc_ok c, by show 0 ≤ (((c.getD 8 0).toNat : Int)); omega⟩) 9 body)
  split
  · split
    · exact hD
    · exact moves_gd _ hD (takeS_all gTra_ok 32 body)
  split
  · split <;> exact hD
  split
  · split <;> exact hD
  · exact hD
theorem fold7_gd : ∀ (L : List Act7) {D : Led}, D.Good → (L.foldl step7 D).Good
  | [], _, h => h
  | x :: L, _, h => fold7_gd L (by unfold step7; split; exact doIt_gd h _ _; exact h)
theorem playedS_gd (L : List Act7) : (playedS L).Good := fold7_gd _ newLed_good
end Go.Proofs.Ytggngdjncokanaa
