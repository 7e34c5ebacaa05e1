/-
  Entries in plain lists: their bytes, and how bytes are read as them.
  Entries in plain lists: bounds.
-/
import Derived.Test.YtnjboimjlbgdiaaHead7
set_option linter.unusedSimpArgs false
set_option linter.unusedVariables false
set_option linter.unusedSectionVars false
set_option maxRecDepth 100000
namespace Go.Cmp
open Go.RowKit
structure En where
  view : Int
  op : Int
  under : Int
  parent : Nat
  client : Int
  session : Int
  request : Int
  oper : Int
  body : List UInt8
deriving Inhabited, DecidableEq
def En.cells (e : En) : List Value := [.int .i64 e.view, .int .i64 e.op, .int .i64 e.under, .int .u64 e.parent, .int .i64 e.client, .int .i64 e.session, .int .i64 e.request, .int .i64 e.oper, .string ⟨e.body.toArray⟩]
def zeroE : En := ⟨0, 0, 0, 0, 0, 0, 0, 0, []⟩
def headE (e : En) : Hd := ⟨255, 0, e.oper, e.view, e.op, 0, e.client, e.session, e.request, e.under, 0, e.parent⟩
def En.right (e : En) : Bool := (headE e).right && decide (1 ≤ e.op) && decide (1 ≤ e.client) && decide (1 ≤ e.oper) && decide (e.under ≤ e.view) && decide (e.body.length ≤ 200)
def packE (e : En) : List UInt8 × Int := if e.right = false then ([], 4) else packH (headE e) e.body
def enOf (h : Hd) (b : List UInt8) : En := ⟨h.view, h.op, h.a, h.parent, h.client, h.session, h.request, h.oper, b⟩
def unpE (s : List UInt8) : En × Int := if (unpH s).2.2 = 0 ∧ packE (enOf (unpH s).1 (unpH s).2.1) = (s, 0) then (enOf (unpH s).1 (unpH s).2.1, 0) else (zeroE, 4)
def markSum (e : En) : Nat := chainOf e.parent (packE e).1
structure Mk where
  op : Int
  view : Int
  sum : Nat
deriving Inhabited, DecidableEq
def Mk.cells (m : Mk) : List Value := [.int .i64 m.op, .int .i64 m.view, .int .u64 m.sum]
def markE (e : En) : Mk := if (packE e).2 = 0 then ⟨e.op, e.view, markSum e⟩ else ⟨0, 0, 0⟩
/-! ### A header is read as it was packed -/
theorem num8_at {A B : List UInt8} {n i : Nat} (hA : A.length = i) (hn : n < 18446744073709551616) : num8 (A ++ (leB 8 n ++ B)) i = n := by
  subst hA
  unfold num8
  rw [List.drop_left, List.take_left' (leB_length _ _), leN_leB, Nat.mod_eq_of_lt (by omega)]
theorem int8_at2 {A B : List UInt8} {n : Int} {i : Nat} (hA : A.length = i) (hn : fits n) : int8 (A ++ (leB 8 n.toNat ++ B)) i = n := by
  unfold int8
  obtain ⟨h0, h1⟩ := hn
  rw [num8_at hA (by omega), IntKind.wrap_i64]
  omega
def packed (h : Hd) (b : List UInt8) : List UInt8 := leB 4 (sumOf (headB h b)) ++ headB h b ++ b
theorem packed_length (h : Hd) (b : List UInt8) : (packed h b).length = 128 + b.length := by
  unfold packed
  rw [List.length_append, List.length_append, leB_length, headB_len]
theorem packed_drop (h : Hd) (b : List UInt8) : (packed h b).drop 128 = b := by
  unfold packed
  rw [List.drop_left' (by rw [List.length_append, leB_length, headB_len])]
theorem packH_ok {h : Hd} {b : List UInt8} (hr : h.right = true) (hb : b.length ≤ 3968) : packH h b = (packed h b, 0) := by
  unfold packH packed
  rw [if_neg (by simp [hr]), if_neg (by omega)]
theorem right_parts {h : Hd} (hr : h.right = true) : small h.kind ∧ small h.frm ∧ small h.oper ∧ fits h.view ∧ fits h.op ∧ fits h.commit ∧ fits h.client ∧ fits h.session ∧ fits h.request ∧ fits h.a ∧ fits h.b := by
  simpa [Hd.right, Hd.smalls, Hd.nums, and_assoc] using hr
theorem hdOf_packed {h : Hd} {b : List UInt8} (hr : h.right = true) (hp : h.parent < 18446744073709551616) : hdOf (packed h b) = h := by
  obtain ⟨r1, r2, r3, f1, f2, f3, f4, f5, f6, f7, f8⟩ := right_parts hr
  obtain ⟨k1, k2, k3, n1, n2, n3, n4, n5, n6, n7, n8, par⟩ := h
  simp only at r1 r2 r3 f1 f2 f3 f4 f5 f6 f7 f8 hp
  have e : ∀ x, packed ⟨k1, k2, k3, n1, n2, n3, n4, n5, n6, n7, n8, par⟩ b = leB 4 x ++ (leB 4 (sumOf b) ++ ([UInt8.ofNat k1.toNat, UInt8.ofNat k2.toNat, UInt8.ofNat k3.toNat, 0] ++ (leB 4 b.length ++ (leB 8 par ++ (leB 8 n1.toNat ++ (leB 8 n2.toNat ++ (leB 8 n3.toNat ++ (leB 8 n4.toNat ++ (leB 8 n5.toNat ++ (leB 8 n6.toNat ++ (leB 8 n7.toNat ++ (leB 8 n8.toNat ++ (List.replicate 40 0 ++ b))))))))))))) ∨ x ≠ sumOf (headB ⟨k1, k2, k3, n1, n2, n3, n4, n5, n6, n7, n8, par⟩ b) := by
    intro x
    by_cases hx : x = sumOf (headB ⟨k1, k2, k3, n1, n2, n3, n4, n5, n6, n7, n8, par⟩ b)
    · refine .inl ?_
      rw [hx]
      unfold packed headB Hd.nums
      simp only [List.flatMap_cons, List.flatMap_nil, List.append_assoc, List.append_nil]
    · exact .inr hx
  obtain ⟨x, hx⟩ : ∃ x, x = sumOf (headB ⟨k1, k2, k3, n1, n2, n3, n4, n5, n6, n7, n8, par⟩ b) := ⟨_, rfl⟩
  have e := (e x).resolve_right (fun h => h hx)
  rw [e]
  clear e hx
  have hb8 : ∀ {A B : List UInt8} {n : Int} {i : Nat}, A.length = i → small n → ((nth (A ++ (UInt8.ofNat n.toNat :: B)) i).toNat : Int) = n := by
    intro A B n i hA hn
    subst hA
    have : nth (A ++ (UInt8.ofNat n.toNat :: B)) A.length = UInt8.ofNat n.toNat := by simp [nth]
    rw [this]
    obtain ⟨h0, h1⟩ := hn
    simp
    omega
  unfold hdOf
  have v8 := hb8 (A := leB 4 x ++ leB 4 (sumOf b)) (B := [UInt8.ofNat k2.toNat, UInt8.ofNat k3.toNat, 0] ++ (leB 4 b.length ++ (leB 8 par ++ (leB 8 n1.toNat ++ (leB 8 n2.toNat ++ (leB 8 n3.toNat ++ (leB 8 n4.toNat ++ (leB 8 n5.toNat ++ (leB 8 n6.toNat ++ (leB 8 n7.toNat ++ (leB 8 n8.toNat ++ (List.replicate 40 0 ++ b)))))))))))) (i := 8) (by simp [leB_length]) r1
  have v9 := hb8 (A := leB 4 x ++ leB 4 (sumOf b) ++ [UInt8.ofNat k1.toNat]) (B := [UInt8.ofNat k3.toNat, 0] ++ (leB 4 b.length ++ (leB 8 par ++ (leB 8 n1.toNat ++ (leB 8 n2.toNat ++ (leB 8 n3.toNat ++ (leB 8 n4.toNat ++ (leB 8 n5.toNat ++ (leB 8 n6.toNat ++ (leB 8 n7.toNat ++ (leB 8 n8.toNat ++ (List.replicate 40 0 ++ b)))))))))))) (i := 9) (by simp [leB_length]) r2
  have v10 := hb8 (A := leB 4 x ++ leB 4 (sumOf b) ++ [UInt8.ofNat k1.toNat, UInt8.ofNat k2.toNat]) (B := [0] ++ (leB 4 b.length ++ (leB 8 par ++ (leB 8 n1.toNat ++ (leB 8 n2.toNat ++ (leB 8 n3.toNat ++ (leB 8 n4.toNat ++ (leB 8 n5.toNat ++ (leB 8 n6.toNat ++ (leB 8 n7.toNat ++ (leB 8 n8.toNat ++ (List.replicate 40 0 ++ b)))))))))))) (i := 10) (by simp [leB_length]) r3
  obtain ⟨K, hK⟩ : ∃ K, [UInt8.ofNat k1.toNat, UInt8.ofNat k2.toNat, UInt8.ofNat k3.toNat, 0] = K := ⟨_, rfl⟩
  have hKl : K.length = 4 := by rw [← hK]; rfl
  have w16 := num8_at (A := leB 4 x ++ leB 4 (sumOf b) ++ K ++ leB 4 b.length) (B := leB 8 n1.toNat ++ (leB 8 n2.toNat ++ (leB 8 n3.toNat ++ (leB 8 n4.toNat ++ (leB 8 n5.toNat ++ (leB 8 n6.toNat ++ (leB 8 n7.toNat ++ (leB 8 n8.toNat ++ (List.replicate 40 0 ++ b))))))))) (i := 16) (by simp [leB_length, hKl]) hp
  have w24 := int8_at2 (A := leB 4 x ++ leB 4 (sumOf b) ++ K ++ leB 4 b.length ++ leB 8 par) (B := leB 8 n2.toNat ++ (leB 8 n3.toNat ++ (leB 8 n4.toNat ++ (leB 8 n5.toNat ++ (leB 8 n6.toNat ++ (leB 8 n7.toNat ++ (leB 8 n8.toNat ++ (List.replicate 40 0 ++ b)))))))) (i := 24) (by simp [leB_length, hKl]) f1
  have w32 := int8_at2 (A := leB 4 x ++ leB 4 (sumOf b) ++ K ++ leB 4 b.length ++ leB 8 par ++ leB 8 n1.toNat) (B := leB 8 n3.toNat ++ (leB 8 n4.toNat ++ (leB 8 n5.toNat ++ (leB 8 n6.toNat ++ (leB 8 n7.toNat ++ (leB 8 n8.toNat ++ (List.replicate 40 0 ++ b))))))) (i := 32) (by simp [leB_length, hKl]) f2
  have w40 := int8_at2 (A := leB 4 x ++ leB 4 (sumOf b) ++ K ++ leB 4 b.length ++ leB 8 par ++ leB 8 n1.toNat ++ leB 8 n2.toNat) (B := leB 8 n4.toNat ++ (leB 8 n5.toNat ++ (leB 8 n6.toNat ++ (leB 8 n7.toNat ++ (leB 8 n8.toNat ++ (List.replicate 40 0 ++ b)))))) (i := 40) (by simp [leB_length, hKl]) f3
  have w48 := int8_at2 (A := leB 4 x ++ leB 4 (sumOf b) ++ K ++ leB 4 b.length ++ leB 8 par ++ leB 8 n1.toNat ++ leB 8 n2.toNat ++ leB 8 n3.toNat) (B := leB 8 n5.toNat ++ (leB 8 n6.toNat ++ (leB 8 n7.toNat ++ (leB 8 n8.toNat ++ (List.replicate 40 0 ++ b))))) (i := 48) (by simp [leB_length, hKl]) f4
  have w56 := int8_at2 (A := leB 4 x ++ leB 4 (sumOf b) ++ K ++ leB 4 b.length ++ leB 8 par ++ leB 8 n1.toNat ++ leB 8 n2.toNat ++ leB 8 n3.toNat ++ leB 8 n4.toNat) (B := leB 8 n6.toNat ++ (leB 8 n7.toNat ++ (leB 8 n8.toNat ++ (List.replicate 40 0 ++ b)))) (i := 56) (by simp [leB_length, hKl]) f5
  have w64 := int8_at2 (A := leB 4 x ++ leB 4 (sumOf b) ++ K ++ leB 4 b.length ++ leB 8 par ++ leB 8 n1.toNat ++ leB 8 n2.toNat ++ leB 8 n3.toNat ++ leB 8 n4.toNat ++ leB 8 n5.toNat) (B := leB 8 n7.toNat ++ (leB 8 n8.toNat ++ (List.replicate 40 0 ++ b))) (i := 64) (by simp [leB_length, hKl]) f6
  have w72 := int8_at2 (A := leB 4 x ++ leB 4 (sumOf b) ++ K ++ leB 4 b.length ++ leB 8 par ++ leB 8 n1.toNat ++ leB 8 n2.toNat ++ leB 8 n3.toNat ++ leB 8 n4.toNat ++ leB 8 n5.toNat ++ leB 8 n6.toNat) (B := leB 8 n8.toNat ++ (List.replicate 40 0 ++ b)) (i := 72) (by simp [leB_length, hKl]) f7
  have w80 := int8_at2 (A := leB 4 x ++ leB 4 (sumOf b) ++ K ++ leB 4 b.length ++ leB 8 par ++ leB 8 n1.toNat ++ leB 8 n2.toNat ++ leB 8 n3.toNat ++ leB 8 n4.toNat ++ leB 8 n5.toNat ++ leB 8 n6.toNat ++ leB 8 n7.toNat) (B := List.replicate 40 0 ++ b) (i := 80) (by simp [leB_length, hKl]) f8
  rw [← hK] at w16 w24 w32 w40 w48 w56 w64 w72 w80
  simp only [List.append_assoc, List.cons_append, List.nil_append] at v8 v9 v10 w16 w24 w32 w40 w48 w56 w64 w72 w80 ⊢
  rw [v8, v9, v10, w16, w24, w32, w40, w48, w56, w64, w72, w80]
theorem unpH_packed {h : Hd} {b : List UInt8} (hr : h.right = true) (hp : h.parent < 18446744073709551616) (hb : b.length ≤ 3968) : unpH (packed h b) = (h, b, 0) := by
  unfold unpH
  rw [if_neg (by rw [packed_length]; omega), packed_drop, hdOf_packed hr hp, if_pos (packH_ok hr hb)]
theorem unpH_inv {s : List UInt8} (h : (unpH s).2.2 = 0) : packH (unpH s).1 (unpH s).2.1 = (s, 0) ∧ unpH s = (hdOf s, s.drop 128, 0) := by
  unfold unpH at *
  split at h
  · cases h
  · split at h
    · rename_i h1 h2
      rw [if_neg h1, if_pos h2]
      exact ⟨h2, rfl⟩
    · cases h
theorem packH_right {h : Hd} {b s : List UInt8} (hk : packH h b = (s, 0)) : h.right = true ∧ b.length ≤ 3968 ∧ s = packed h b := by
  unfold packH at hk
  split at hk
  · cases hk
  · split at hk
    · cases hk
    · rename_i h1 h2
      exact ⟨by simpa using h1, by omega, by simp only [Prod.mk.injEq] at hk; exact hk.1.symm⟩
/-- An entry that may be is told by its bytes. -/
theorem packE_ok {e : En} (hr : e.right = true) : packE e = (packed (headE e) e.body, 0) := by
  unfold packE
  rw [if_neg (by simp [hr])]
  have h := hr
  simp only [En.right, Bool.and_eq_true, decide_eq_true_eq] at h
  exact packH_ok h.1.1.1.1.1 (by omega)
theorem packE_bad {e : En} (hr : e.right = false) : packE e = ([], 4) := by unfold packE; rw [if_pos hr]
theorem enOf_head (e : En) : enOf (headE e) e.body = e := rfl
theorem unpE_packed {e : En} (hr : e.right = true) (hp : e.parent < 18446744073709551616) : unpE (packed (headE e) e.body) = (e, 0) := by
  have h := hr
  simp only [En.right, Bool.and_eq_true, decide_eq_true_eq] at h
  unfold unpE
  rw [unpH_packed h.1.1.1.1.1 hp (by omega)]
  rw [if_pos ⟨rfl, by rw [enOf_head]; exact packE_ok hr⟩, enOf_head]
/-- What the program tests is what the document tests. -/
theorem unpE_test (s : List UInt8) (h : (unpH s).2.2 = 0) : (packE (enOf (unpH s).1 (unpH s).2.1) = (s, 0) ↔ headE (enOf (unpH s).1 (unpH s).2.1) = (unpH s).1 ∧ (enOf (unpH s).1 (unpH s).2.1).right = true) := by
  obtain ⟨h1, h2⟩ := unpH_inv h
  obtain ⟨r1, r2, r3⟩ := packH_right h1
  have hpp : (unpH s).1.parent < 18446744073709551616 := by rw [h2]; exact num8_lt s 16
  constructor
  · intro hp
    have hr : (enOf (unpH s).1 (unpH s).2.1).right = true := by
      cases hh : (enOf (unpH s).1 (unpH s).2.1).right
      · rw [packE_bad hh] at hp; cases hp
      · rfl
    rw [packE_ok hr] at hp
    refine ⟨?_, hr⟩
    simp only [Prod.mk.injEq, and_true] at hp
    have e1 := hdOf_packed (h := headE (enOf (unpH s).1 (unpH s).2.1)) (b := (enOf (unpH s).1 (unpH s).2.1).body) (by
      simp only [En.right, Bool.and_eq_true, decide_eq_true_eq] at hr
      exact hr.1.1.1.1.1) hpp
    rw [hp] at e1
    rw [← e1, h2]
  · rintro ⟨he, hr⟩
    have : packE (enOf (unpH s).1 (unpH s).2.1) = packH (headE (enOf (unpH s).1 (unpH s).2.1)) (unpH s).2.1 := by unfold packE; rw [if_neg (by simp [hr])]; rfl
    rw [this, he, h1]
theorem packE_parent_lt (s : List UInt8) : (enOf (unpH s).1 (unpH s).2.1).parent < 18446744073709551616 := by
  show (unpH s).1.parent < _
  unfold unpH
  split
  · show (0 : Nat) < _; omega
  · split
    · exact num8_lt s 16
    · show (0 : Nat) < _; omega
theorem unpE_right {s : List UInt8} (h : (unpE s).2 = 0) : (unpE s).1.right = true ∧ packed (headE (unpE s).1) (unpE s).1.body = s ∧ (unpE s).1.parent < 18446744073709551616 := by
  unfold unpE at *
  split at h
  · rename_i hc
    rw [if_pos hc]
    have hr : (enOf (unpH s).1 (unpH s).2.1).right = true := by
      cases hh : (enOf (unpH s).1 (unpH s).2.1).right
      · rw [packE_bad hh] at hc; cases hc.2
      · rfl
    refine ⟨hr, ?_, packE_parent_lt s⟩
    have := hc.2
    rw [packE_ok hr] at this
    exact congrArg Prod.fst this
  · cases h
end Go.Cmp
namespace Go.Cmp
open Go.RowKit
theorem unpH_err (s : List UInt8) : (unpH s).2.2 = 0 ∨ (unpH s).2.2 = 4 := by
  unfold unpH
  split
  · exact .inr rfl
  · split
    · exact .inl rfl
    · exact .inr rfl
theorem unpH_len (s : List UInt8) : (unpH s).2.1.length ≤ s.length := by
  unfold unpH
  split
  · show 0 ≤ _; omega
  · split
    · show (s.drop 128).length ≤ _; rw [List.length_drop]; omega
    · show 0 ≤ _; omega
theorem head_test (h : Hd) (b : List UInt8) : headE (enOf h b) = h ↔ 255 = h.kind ∧ 0 = h.frm ∧ 0 = h.commit ∧ 0 = h.b := by
  obtain ⟨k1, k2, k3, n1, n2, n3, n4, n5, n6, n7, n8, par⟩ := h
  simp [headE, enOf]
theorem packE_err (e : En) : (packE e).2 = 0 ∨ (packE e).2 = 4 := by
  cases h : e.right
  · rw [packE_bad h]; exact .inr rfl
  · rw [packE_ok h]; exact .inl rfl
theorem packE_len (e : En) : (packE e).1.length ≤ 328 := by
  cases h : e.right
  · rw [packE_bad h]; show 0 ≤ _; omega
  · rw [packE_ok h, packed_length]
    simp only [En.right, Bool.and_eq_true, decide_eq_true_eq] at h
    omega
def fitsL (l n : Int) : Prop := l ≤ n ∧ n ≤ 72057594037927935
instance (l n : Int) : Decidable (fitsL l n) := by unfold fitsL; infer_instance
theorem en_right_eq (e : En) : e.right = (decide (fitsL 1 e.op) && decide (fitsL 1 e.client) && decide (fitsL 0 e.view) && decide (fitsL 0 e.under) && decide (fitsL 0 e.session) && decide (fitsL 0 e.request) && decide (e.under ≤ e.view) && decide (1 ≤ e.oper) && decide (e.oper ≤ 255) && decide ((e.body.length : Int) ≤ 200)) := by
  obtain ⟨vw, po, un, par, cl, se, rq, opr, body⟩ := e
  rw [Bool.eq_iff_iff]
  simp only [En.right, Hd.right, Hd.smalls, Hd.nums, headE, List.all_cons, List.all_nil, Bool.and_true, Bool.and_eq_true, decide_eq_true_eq]
  unfold small fits fitsL
  omega
end Go.Cmp
