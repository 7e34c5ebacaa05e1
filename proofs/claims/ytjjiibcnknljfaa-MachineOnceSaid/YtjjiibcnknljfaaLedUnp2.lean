/-
  A packed ledger in plain lists: it is unpacked as it was; what is unpacked was packed so.
-/
import Derived.Test.YtjjiibcnknljfaaLedUnp1
import Derived.Test.YtjjiibcnknljfaaEvRd
set_option linter.unusedSimpArgs false
set_option linter.unusedVariables false
set_option linter.unusedSectionVars false
set_option maxRecDepth 100000
namespace Go.Proofs.Ytjjiibcnknljfaa
open Go.RowKit Go.Cmp

theorem flatMap_same {α β : Type} {f g : α → List β} : ∀ {l : List α}, (∀ x ∈ l, f x = g x) → l.flatMap f = l.flatMap g
  | [], _ => rfl
  | x :: l, h => by rw [List.flatMap_cons, List.flatMap_cons, h x (by simp), flatMap_same (fun y hy => h y (by simp [hy]))]
def gWh (c : List UInt8) : Acc := (getW c).1
/-- The ledger of bytes. -/
def unpS (s : List UInt8) : Option Led := match recS s 25 8 with
  | none => none
  | some (a, r) => match recS r 32 16 with
    | none => none
    | some (b, q) => if q = [] then some ⟨a.map gWh, b.map gTra⟩ else none
theorem recS_put {α : Type} {f : α → List UInt8} {size most : Nat} (hf : ∀ x, (f x).length = size) (A : List α) (hA : A.length ≤ most) (hm : most < 256) (r : List UInt8) : recS ([UInt8.ofNat A.length] ++ A.flatMap f ++ r) size most = some (A.map f, r) := by
  have e1 : nth ([UInt8.ofNat A.length] ++ A.flatMap f ++ r) 0 = UInt8.ofNat A.length := rfl
  have e2 : (UInt8.ofNat A.length).toNat = A.length := by simp; omega
  have e3 : ([UInt8.ofNat A.length] ++ A.flatMap f ++ r).drop 1 = A.flatMap f ++ r := by simp
  have e4 : (A.flatMap f).length = size * A.length := by
    clear hA e1 e2 e3
    induction A with
    | nil => simp
    | cons x A ih => rw [List.flatMap_cons, List.length_append, hf, ih, List.length_cons, Nat.mul_succ, Nat.add_comm]
  unfold recS
  rw [e1, e2, if_neg, e3, cutN_of hf, ← List.drop_drop, e3, List.drop_left' e4]
  · rintro (h | h | h)
    · simp at h
    · omega
    · simp only [List.length_append, List.length_singleton, e4] at h; omega
theorem recS_some {s : List UInt8} {size most : Nat} {a : List (List UInt8)} {r : List UInt8} (h : recS s size most = some (a, r)) : s = [UInt8.ofNat a.length] ++ a.flatMap id ++ r ∧ a.length ≤ most ∧ a.length < 256 ∧ ∀ c ∈ a, c.length = size := by
  unfold recS at h
  split at h
  · cases h
  · rename_i hn
    simp only [Option.some.injEq, Prod.mk.injEq] at h
    obtain ⟨rfl, rfl⟩ := h
    have h1 := (nth s 0).toNat_lt
    match s with
    | [] => exact absurd (Or.inl rfl) hn
    | b :: t =>
      have e : nth (b :: t) 0 = b := rfl
      rw [e] at hn h1 ⊢
      simp only [List.length_cons, Nat.add_sub_cancel] at hn
      have h3 : size * b.toNat ≤ t.length := by omega
      rw [cutN_len, cutN_join]
      refine ⟨?_, by omega, h1, cutN_each _ _ _ (by simpa using h3)⟩
      rw [Nat.add_comm 1, List.drop_succ_cons, List.drop_succ_cons, List.drop_zero, List.append_assoc, List.take_append_drop]
      simp
theorem traB_g {c : List UInt8} (h : c.length = 32) : traB (gTra c) = c := by
  have e : ∀ l : List UInt8, l.length = 8 → leB 8 (leN l) = l := fun l hl => by have := leB_leN l; rwa [hl] at this
  unfold traB gTra
  simp only
  rw [e _ (by rw [List.length_take]; omega), e _ (by rw [List.length_take, List.length_drop]; omega), e _ (by rw [List.length_take, List.length_drop]; omega), e _ (by rw [List.length_take, List.length_drop]; omega)]
  have e1 : c = c.take 8 ++ ((c.drop 8).take 8 ++ ((c.drop 16).take 8 ++ c.drop 24)) := by
    have a1 : c.drop 16 = (c.drop 16).take 8 ++ c.drop 24 := by have := List.take_append_drop 8 (c.drop 16); rw [List.drop_drop] at this; exact this.symm
    have a2 : c.drop 8 = (c.drop 8).take 8 ++ c.drop 16 := by have := List.take_append_drop 8 (c.drop 8); rw [List.drop_drop] at this; exact this.symm
    rw [← a1, ← a2, List.take_append_drop]
  have e2 : (c.drop 24).take 8 = c.drop 24 := List.take_of_length_le (by rw [List.length_drop]; omega)
  rw [e2, List.append_assoc, List.append_assoc]
  exact e1.symm
theorem putW_g {c : List UInt8} (h : c.length = 25) : putW (gWh c) = (c, 0) ∧ (gWh c).Ok ∧ 0 ≤ (gWh c).flags ∧ (gWh c).flags ≤ 255 := by
  have e : ∀ l : List UInt8, l.length = 8 → leB 8 (leN l) = l := fun l hl => by have := leB_leN l; rwa [hl] at this
  have hg : gWh c = ⟨leN (c.take 8), ((c.getD 8 0).toNat : Int), leN ((c.drop 9).take 8), leN ((c.drop 17).take 8)⟩ := by unfold gWh getW; rw [if_pos h]
  have hb := (c.getD 8 0).toNat_lt
  have hf : 0 ≤ (gWh c).flags ∧ (gWh c).flags ≤ 255 := by rw [hg]; simp only; omega
  refine ⟨?_, ?_, hf.1, hf.2⟩
  · unfold putW
    rw [if_pos hf]
    unfold wholeB
    rw [hg]
    simp only
    rw [e _ (by rw [List.length_take]; omega), e _ (by rw [List.length_take, List.length_drop]; omega), e _ (by rw [List.length_take, List.length_drop]; omega)]
    have e0 : fb ((c.getD 8 0).toNat : Int) = c.getD 8 0 := by
      unfold fb
      have : ((((c.getD 8 0).toNat : Int) % 256).toNat) = (c.getD 8 0).toNat := by omega
      rw [this]
      simp
    have e1 : c = c.take 8 ++ ([c.getD 8 0] ++ ((c.drop 9).take 8 ++ c.drop 17)) := by
      have a1 : c.drop 9 = (c.drop 9).take 8 ++ c.drop 17 := by have := List.take_append_drop 8 (c.drop 9); rw [List.drop_drop] at this; exact this.symm
      have a2 : c.drop 8 = [c.getD 8 0] ++ c.drop 9 := by
        rw [List.drop_eq_getElem_cons (show 8 < c.length by omega), List.getD_eq_getElem?_getD, List.getElem?_eq_getElem (by omega)]
        rfl
      rw [← a1, ← a2, List.take_append_drop]
    have e2 : (c.drop 17).take 8 = c.drop 17 := List.take_of_length_le (by rw [List.length_drop]; omega)
    rw [e0, e2, List.append_assoc, List.append_assoc]
    rw [← e1]
  · rw [hg]
    exact ⟨leN_8 _, leN_8 _, leN_8 _, by show (-9223372036854775808 : Int) ≤ ((c.getD 8 0).toNat : Int); omega, by show (((c.getD 8 0).toNat : Int)) ≤ 9223372036854775807; omega⟩
theorem gWh_wholeB {a : Acc} (h : a.Ok) (hf : 0 ≤ a.flags ∧ a.flags ≤ 255) : gWh (wholeB a) = a := by
  have hl : (wholeB a).length = 25 := by unfold wholeB; simp [leB_length]
  have h8 : (leB 8 a.id).length = 8 := leB_length _ _
  have h1 := (putW_g hl).1
  have h2 := (putW_g hl).2
  have e : putW (gWh (wholeB a)) = (wholeB (gWh (wholeB a)), 0) := by unfold putW; rw [if_pos ⟨h2.2.1, h2.2.2⟩]
  rw [e] at h1
  simp only [Prod.mk.injEq, and_true] at h1
  obtain ⟨b, hb⟩ : ∃ b, gWh (wholeB a) = b := ⟨_, rfl⟩
  rw [hb] at h1 h2 ⊢
  obtain ⟨⟨b1, b2, b3, _, _⟩, b4, b5⟩ := h2
  obtain ⟨a1, a2, a3, _, _⟩ := h
  obtain ⟨i, f, d, c⟩ := a
  obtain ⟨i2, f2, d2, c2⟩ := b
  simp only [wholeB, List.append_assoc] at h1
  simp only at b1 b2 b3 b4 b5 a1 a2 a3 hf
  have k1 := List.append_inj h1 (by rw [leB_length, leB_length])
  have k2 := List.append_inj k1.2 rfl
  have k3 := List.append_inj k2.2 (by rw [leB_length, leB_length])
  have q1 := leB_inj b1 a1 k1.1
  have q2 := leB_inj b2 a2 k3.1
  have q3 := leB_inj b3 a3 k3.2
  have q4 : fb f2 = fb f := by simpa using k2.1
  have q5 : f2 = f := by
    have := congrArg UInt8.toNat q4
    unfold fb at this
    simp only [UInt8.toNat_ofNat'] at this
    omega
  subst q1 q2 q3 q5
  rfl
theorem gTra_traB {t : Tra} (h : t.Ok) : gTra (traB t) = t := (gTra_by t h (traB t) (by simp [byTra, traB])).2
theorem pack_eq {D : Led} (hf : ∀ a ∈ D.A, 0 ≤ a.flags ∧ a.flags ≤ 255) : lPack D = [UInt8.ofNat D.A.length] ++ D.A.flatMap wholeB ++ ([UInt8.ofNat D.T.length] ++ D.T.flatMap traB ++ []) := by
  unfold lPack
  have e : D.A.flatMap (fun a => (putW a).1) = D.A.flatMap wholeB := by
    apply flatMap_same
    intro a ha
    unfold putW
    rw [if_pos (hf a ha)]
  rw [e]
  simp
theorem unp_pack {D : Led} (hD : D.Ok) (hf : ∀ a ∈ D.A, 0 ≤ a.flags ∧ a.flags ≤ 255) : unpS (lPack D) = some D := by
  obtain ⟨A, T⟩ := D
  obtain ⟨h1, h2, h3, h4⟩ := hD
  simp only at h1 h2 h3 h4 hf
  unfold unpS
  rw [pack_eq hf, recS_put (f := wholeB) (fun x => by unfold wholeB; simp [leB_length]) A (by omega) (by omega)]
  simp only
  rw [recS_put (f := traB) (fun x => traB_len x) T (by omega) (by omega)]
  simp only [if_true, Option.some.injEq, Led.mk.injEq, List.map_map]
  constructor
  · conv => rhs; rw [← List.map_id A]
    apply List.map_congr_left
    intro a ha
    exact gWh_wholeB (h1 a ha) (hf a ha)
  · conv => rhs; rw [← List.map_id T]
    apply List.map_congr_left
    intro a ha
    exact gTra_traB (h2 a ha)
theorem pack_unp {s : List UInt8} {D : Led} (h : unpS s = some D) : lPack D = s ∧ D.Ok ∧ ∀ a ∈ D.A, 0 ≤ a.flags ∧ a.flags ≤ 255 := by
  unfold unpS at h
  split at h
  · cases h
  · rename_i a r h1
    split at h
    · cases h
    · rename_i b q h2
      split at h
      · rename_i h3
        simp only [Option.some.injEq] at h
        subst h h3
        obtain ⟨k1, k2, k3, k4⟩ := recS_some h1
        obtain ⟨m1, m2, m3, m4⟩ := recS_some h2
        have hf : ∀ x ∈ a.map gWh, 0 ≤ x.flags ∧ x.flags ≤ 255 := by
          intro x hx
          obtain ⟨c, hc, rfl⟩ := List.mem_map.1 hx
          exact (putW_g (k4 c hc)).2.2
        refine ⟨?_, ⟨?_, ?_, by simpa using k2, by simpa using m2⟩, hf⟩
        · rw [pack_eq hf]
          simp only [List.length_map]
          have e1 : (a.map gWh).flatMap wholeB = a.flatMap id := by
            rw [List.flatMap_map]
            apply flatMap_same
            intro c hc
            have := (putW_g (k4 c hc)).1
            have e2 : putW (gWh c) = (wholeB (gWh c), 0) := by unfold putW; rw [if_pos (putW_g (k4 c hc)).2.2]
            rw [e2] at this
            simpa using this
          have e3 : (b.map gTra).flatMap traB = b.flatMap id := by
            rw [List.flatMap_map]
            apply flatMap_same
            intro c hc
            exact traB_g (m4 c hc)
          rw [e1, e3, ← m1]
          exact k1.symm
        · intro x hx
          obtain ⟨c, hc, rfl⟩ := List.mem_map.1 hx
          exact (putW_g (k4 c hc)).2.1
        · intro x hx
          obtain ⟨c, hc, rfl⟩ := List.mem_map.1 hx
          exact gTra_ok c
      · cases h
end Go.Proofs.Ytjjiibcnknljfaa
