/-
  Slots in plain lists.
  A sealed sector of which one byte was turned is none.
  What is laid, in plain lists.
  A slot of which one sector was turned, in plain lists.
  A disk of two sectors, in plain lists: writes that are cut off.
-/
import Derived.Test.YtnjboimjlbgdiaaEntA
import Derived.Test.YtnjboimjlbgdiaaCrc
import Derived.Test.YtnjboimjlbgdiaaSeal5
import Derived.Test.YtnjboimjlbgdiaaDiskP
set_option linter.unusedSimpArgs false
set_option linter.unusedVariables false
set_option linter.unusedSectionVars false
set_option maxRecDepth 100000
namespace Go.Cmp
open Go.RowKit
structure Stb where
  op : Int
  view : Int
  under : Int
  parent : Nat
  sum : Nat
deriving Inhabited, DecidableEq
def Stb.cells (s : Stb) : List Value := [.int .i64 s.op, .int .i64 s.view, .int .i64 s.under, .int .u64 s.parent, .int .u64 s.sum]
def zeroB : Stb := ⟨0, 0, 0, 0, 0⟩
def Stb.right (s : Stb) : Bool := decide (1 ≤ s.op) && decide (s.op ≤ 72057594037927935) && decide (0 ≤ s.under) && decide (s.under ≤ s.view) && decide (s.view ≤ 72057594037927935)
def stubE (e : En) : Stb := if e.right = false then zeroB else ⟨e.op, e.view, e.under, e.parent, markSum e⟩
def stubB (s : Stb) : List UInt8 := leB 8 s.op.toNat ++ leB 8 s.view.toNat ++ leB 8 s.under.toNat ++ leB 8 s.parent ++ leB 8 s.sum
def prepS (old : List UInt8) (e : En) : List UInt8 × Int := if (packE e).2 = 0 then sealS old (packE e).1 else ([], (packE e).2)
def hdrS (old : List UInt8) (s : Stb) : List UInt8 × Int := if s.right = false then ([], 4) else sealS old (stubB s)
def voidS (old : List UInt8) : List UInt8 := (sealS old []).1
def entP (p : List UInt8) : En × Bool × Bool := if (openS p).2 = false then (zeroE, false, false) else if (openS p).1 = [] then (zeroE, false, true) else if (unpE (openS p).1).2 = 0 then ((unpE (openS p).1).1, true, true) else (zeroE, false, false)
def stubO (b : List UInt8) : Stb := ⟨int8 b 0, int8 b 8, int8 b 16, num8 b 24, num8 b 32⟩
def stbP (p : List UInt8) : Stb × Bool × Bool := if (openS p).2 = false then (zeroB, false, false) else if (openS p).1 = [] then (zeroB, false, true) else if (openS p).1.length ≠ 40 then (zeroB, false, false) else if (stubO (openS p).1).right = false then (zeroB, false, false) else (stubO (openS p).1, true, true)
structure It where
  kind : Int
  stub : Stb
  ent : En
deriving Inhabited, DecidableEq
def It.cells (t : It) : List Value := .int .i64 t.kind :: (t.stub.cells ++ t.ent.cells)
def zeroI : It := ⟨0, zeroB, zeroE⟩
/-- What a slot is for an operation. -/
def judgeS (p h : List UInt8) (n : Int) : It :=
  if (stbP h).2.2 = true then
    if (stbP h).2.1 = false ∨ (stbP h).1.op ≠ n then zeroI
    else if (entP p).2.1 = true ∧ stubE (entP p).1 = (stbP h).1 then ⟨1, (stbP h).1, (entP p).1⟩
    else ⟨2, (stbP h).1, zeroE⟩
  else if (entP p).2.2 = false then ⟨3, zeroB, zeroE⟩
  else if (entP p).2.1 = true ∧ (entP p).1.op = n then ⟨1, stubE (entP p).1, (entP p).1⟩
  else zeroI
theorem openS_len (p : List UInt8) : (openS p).1.length ≤ 376 := by
  unfold openS
  split
  · rename_i h
    obtain ⟨n, _, hn, _, ht, _⟩ := takeT_facts h.2.2
    rw [ht, List.length_take]
    omega
  · show 0 ≤ _; omega
theorem unpE_parent_lt (s : List UInt8) : (unpE s).1.parent < 18446744073709551616 := by
  unfold unpE
  split
  · exact packE_parent_lt s
  · show (0 : Nat) < _; omega
theorem unpE_err (s : List UInt8) : (unpE s).2 = 0 ∨ (unpE s).2 = 4 := by
  unfold unpE
  split
  · exact .inl rfl
  · exact .inr rfl
theorem unpE_body (s : List UInt8) : (unpE s).1.body.length ≤ s.length := by
  unfold unpE
  split
  · exact unpH_len s
  · show 0 ≤ _; omega
theorem entP_facts (p : List UInt8) : ((entP p).2.1 = true → (entP p).2.2 = true ∧ (entP p).1.right = true) ∧ (entP p).1.parent < 18446744073709551616 ∧ (entP p).1.body.length ≤ 376 ∧ ((entP p).2.1 = false → (entP p).1 = zeroE) := by
  unfold entP
  split
  · exact ⟨fun h => by simp at h, by show (0 : Nat) < _; omega, by show 0 ≤ _; omega, fun _ => rfl⟩
  · split
    · exact ⟨fun h => by simp at h, by show (0 : Nat) < _; omega, by show 0 ≤ _; omega, fun _ => rfl⟩
    · split
      · rename_i h
        exact ⟨fun _ => ⟨rfl, (unpE_right h).1⟩, unpE_parent_lt _, Nat.le_trans (unpE_body _) (openS_len p), fun h => by simp at h⟩
      · exact ⟨fun h => by simp at h, by show (0 : Nat) < _; omega, by show 0 ≤ _; omega, fun _ => rfl⟩
theorem stbP_facts (p : List UInt8) : ((stbP p).2.1 = true → (stbP p).2.2 = true ∧ (stbP p).1.right = true) ∧ (stbP p).1.parent < 18446744073709551616 ∧ (stbP p).1.sum < 18446744073709551616 ∧ ((stbP p).2.1 = false → (stbP p).1 = zeroB) := by
  unfold stbP
  split
  · exact ⟨fun h => by simp at h, by show (0 : Nat) < _; omega, by show (0 : Nat) < _; omega, fun _ => rfl⟩
  · split
    · exact ⟨fun h => by simp at h, by show (0 : Nat) < _; omega, by show (0 : Nat) < _; omega, fun _ => rfl⟩
    · split
      · exact ⟨fun h => by simp at h, by show (0 : Nat) < _; omega, by show (0 : Nat) < _; omega, fun _ => rfl⟩
      · split
        · exact ⟨fun h => by simp at h, by show (0 : Nat) < _; omega, by show (0 : Nat) < _; omega, fun _ => rfl⟩
        · rename_i h
          exact ⟨fun _ => ⟨rfl, by simpa using h⟩, num8_lt _ _, num8_lt _ _, fun h => by simp at h⟩
theorem stubE_op {e : En} (h : e.right = true) : (stubE e).op = e.op := by unfold stubE; rw [if_neg (by simp [h])]
theorem markSum_lt (e : En) (hp : e.parent < 18446744073709551616) : markSum e < 18446744073709551616 := chainOf_lt _ hp _
/-- As the program has it. -/
theorem judge_prog (p h : List UInt8) (n : Int) : judgeS p h n =
    if ((stbP h).2.1 = true ∧ (stbP h).1.op = n ∧ ((entP p).2.1 = true ∧ (entP p).1.op = n) ∧ stubE (entP p).1 = (stbP h).1) ∨ ((stbP h).2.2 = false ∧ (entP p).2.1 = true ∧ (entP p).1.op = n) then ⟨1, stubE (entP p).1, (entP p).1⟩
    else if (stbP h).2.1 = true ∧ (stbP h).1.op = n then ⟨2, (stbP h).1, zeroE⟩
    else if (stbP h).2.2 = false ∧ (entP p).2.2 = false then ⟨3, zeroB, zeroE⟩ else zeroI := by
  have fe := (entP_facts p).1
  have fs := (stbP_facts h).1
  unfold judgeS
  generalize entP p = E at fe ⊢
  generalize stbP h = T at fs ⊢
  obtain ⟨e, has, read⟩ := E
  obtain ⟨s, says, known⟩ := T
  simp only at fe fs ⊢
  by_cases hq : stubE e = s
  · subst hq
    by_cases hn : e.op = n
    · subst hn
      cases known <;> cases says <;> cases has <;> cases read <;> simp_all [stubE_op]
    · by_cases hm : (stubE e).op = n
      · cases known <;> cases says <;> cases has <;> cases read <;> simp_all [stubE_op]
      · cases known <;> cases says <;> cases has <;> cases read <;> simp_all [stubE_op]
  · by_cases hn : e.op = n <;> by_cases hm : s.op = n <;> cases known <;> cases says <;> cases has <;> cases read <;> simp_all
/-! ### Bytes of stubs -/
theorem stubB_len (s : Stb) : (stubB s).length = 40 := by unfold stubB; simp [leB_length]
theorem stubO_B {s : Stb} (hr : s.right = true) (hp : s.parent < 18446744073709551616) (hs : s.sum < 18446744073709551616) : stubO (stubB s) = s := by
  obtain ⟨a, b, c, d, x⟩ := s
  simp only [Stb.right, Bool.and_eq_true, decide_eq_true_eq] at hr
  simp only at hp hs
  have e : stubB ⟨a, b, c, d, x⟩ = leB 8 a.toNat ++ (leB 8 b.toNat ++ (leB 8 c.toNat ++ (leB 8 d ++ (leB 8 x ++ [])))) := by simp [stubB]
  rw [e]
  unfold stubO
  have v0 := int8_at2 (A := []) (B := leB 8 b.toNat ++ (leB 8 c.toNat ++ (leB 8 d ++ (leB 8 x ++ [])))) (i := 0) rfl (⟨by omega, by omega⟩ : fits a)
  have v1 := int8_at2 (A := leB 8 a.toNat) (B := leB 8 c.toNat ++ (leB 8 d ++ (leB 8 x ++ []))) (i := 8) (leB_length _ _) (⟨by omega, by omega⟩ : fits b)
  have v2 := int8_at2 (A := leB 8 a.toNat ++ leB 8 b.toNat) (B := leB 8 d ++ (leB 8 x ++ [])) (i := 16) (by simp [leB_length]) (⟨by omega, by omega⟩ : fits c)
  have v3 := num8_at (A := leB 8 a.toNat ++ leB 8 b.toNat ++ leB 8 c.toNat) (B := leB 8 x ++ []) (i := 24) (by simp [leB_length]) hp
  have v4 := num8_at (A := leB 8 a.toNat ++ leB 8 b.toNat ++ leB 8 c.toNat ++ leB 8 d) (B := []) (i := 32) (by simp [leB_length]) hs
  simp only [List.append_assoc, List.nil_append] at v0 v1 v2 v3 v4
  rw [v0, v1, v2, v3, v4]
theorem leB_num8 {s : List UInt8} {i : Nat} (h : i + 8 ≤ s.length) : leB 8 (num8 s i) = (s.drop i).take 8 := by
  unfold num8
  have hl : ((s.drop i).take 8).length = 8 := by rw [List.length_take, List.length_drop]; omega
  have := leB_leN ((s.drop i).take 8)
  rw [hl] at this
  exact this
theorem int8_nat {b : List UInt8} {i : Nat} (h0 : 0 ≤ int8 b i) : (int8 b i).toNat = num8 b i := by
  have h := num8_lt b i
  unfold int8 at *
  rw [IntKind.wrap_i64] at *
  omega
theorem stubB_O {b : List UInt8} (hl : b.length = 40) (hr : (stubO b).right = true) : stubB (stubO b) = b := by
  simp only [Stb.right, Bool.and_eq_true] at hr
  obtain ⟨⟨⟨⟨a1, a2⟩, a3⟩, a4⟩, a5⟩ := hr
  have a1 : 1 ≤ int8 b 0 := of_decide_eq_true a1
  have a3 : 0 ≤ int8 b 16 := of_decide_eq_true a3
  have a4 : int8 b 16 ≤ int8 b 8 := of_decide_eq_true a4
  unfold stubB stubO
  simp only
  rw [int8_nat (by omega), int8_nat (by omega), int8_nat (by omega), leB_num8 (by omega), leB_num8 (by omega), leB_num8 (by omega), leB_num8 (by omega), leB_num8 (by omega)]
  have s1 : ∀ k, (b.drop k).take 8 ++ b.drop (k + 8) = b.drop k := fun k => by
    have := List.take_append_drop 8 (b.drop k)
    rwa [List.drop_drop] at this
  rw [show (b.drop 32).take 8 = b.drop 32 from List.take_of_length_le (by rw [List.length_drop]; omega)]
  simp only [List.append_assoc]
  rw [s1 24, s1 16, s1 8, s1 0]
  rfl
/-! ### Sealed, and opened -/
theorem openS_sealed {g : UInt8} {s : List UInt8} (h : s.length ≤ 376) : openS (sealed g s) = (s, true) := by
  have ht : takeT (sealed g s) 1 376 = (s, (([g] : List UInt8).length : Int) + 2 + s.length, 0) := by
    have := takeT_at [g] (List.replicate (376 - s.length) 0 ++ (leB 4 (sumOf (aheadB g s)) ++ [g])) s 376 (by omega) (by omega)
    rw [← this]
    congr 1
    unfold sealed aheadB
    simp only [List.append_assoc]
  have hn : nth (sealed g s) 0 = g := by unfold sealed aheadB; rfl
  unfold openS
  rw [ht, hn, if_pos ⟨sealed_len h, rfl, rfl⟩]
theorem entP_sealed {g : UInt8} {e : En} (hr : e.right = true) (hp : e.parent < 18446744073709551616) : entP (sealed g (packE e).1) = (e, true, true) := by
  have hl := packE_len e
  unfold entP
  rw [openS_sealed (by omega), packE_ok hr]
  simp only [unpE_packed hr hp]
  rw [if_neg (by decide), if_neg (fun h => by have := congrArg List.length h; rw [packed_length] at this; simp at this)]
  rfl
theorem stbP_sealed {g : UInt8} {s : Stb} (hr : s.right = true) (hp : s.parent < 18446744073709551616) (hs : s.sum < 18446744073709551616) : stbP (sealed g (stubB s)) = (s, true, true) := by
  have hl := stubB_len s
  unfold stbP
  rw [openS_sealed (by omega)]
  simp only [stubO_B hr hp hs]
  rw [if_neg (by decide), if_neg (fun h => by rw [h] at hl; simp at hl), if_neg (by simp [hl]), if_neg (by simp [hr])]
theorem entP_void {g : UInt8} : entP (sealed g []) = (zeroE, false, true) := by
  unfold entP
  rw [openS_sealed (by simp)]
  rfl
theorem stbP_void {g : UInt8} : stbP (sealed g []) = (zeroB, false, true) := by
  unfold stbP
  rw [openS_sealed (by simp)]
  rfl
theorem en_parts {e : En} (hr : e.right = true) : 1 ≤ e.op ∧ e.op ≤ 72057594037927935 ∧ 0 ≤ e.under ∧ e.under ≤ e.view ∧ e.view ≤ 72057594037927935 := by
  rw [en_right_eq] at hr
  simp only [Bool.and_eq_true, decide_eq_true_eq] at hr
  simp only [fitsL] at hr
  omega
theorem stubE_right {e : En} (hr : e.right = true) : (stubE e).right = true := by
  obtain ⟨a, b, c, d, x⟩ := en_parts hr
  unfold stubE
  rw [if_neg (by simp [hr])]
  simp only [Stb.right, Bool.and_eq_true, decide_eq_true_eq]
  exact ⟨⟨⟨⟨a, b⟩, c⟩, d⟩, x⟩
end Go.Cmp
namespace Go.Cmp
open Go.RowKit
theorem nth_set_ne {p : List UInt8} {i j : Nat} {x : UInt8} (h : i ≠ j) : nth (p.set i x) j = nth p j := by
  unfold nth
  rw [List.getD_eq_getElem?_getD, List.getD_eq_getElem?_getD, List.getElem?_set_ne h]
theorem nth_set_eq {p : List UInt8} {i : Nat} {x : UInt8} (h : i < p.length) : nth (p.set i x) i = x := by
  unfold nth
  rw [List.getD_eq_getElem?_getD, List.getElem?_set_self h]
  rfl
theorem xor_ne {a m : UInt8} (h : m ≠ 0) : a ^^^ m ≠ a := fun e => h (by
  have := congrArg (fun z => a ^^^ z) e
  simpa [← UInt8.xor_assoc] using this)
theorem leN_inj {a b : List UInt8} (hl : a.length = b.length) (h : leN a = leN b) : a = b := by
  rw [← leB_leN a, ← leB_leN b, hl, h]
theorem open_facts {p : List UInt8} (h : (openS p).2 = true) : p.length = 384 ∧ nth p 0 = nth p 383 ∧ leN ((p.drop 379).take 4) = sumOf (p.take 379) := by
  unfold openS at h
  split at h
  · rename_i hc
    obtain ⟨h1, h2, h3⟩ := hc
    obtain ⟨a, b, _⟩ := (open_iff h1 h3).1 h2
    exact ⟨h1, a, b⟩
  · simp at h
theorem open_bad {p : List UInt8} (h : (openS p).2 ≠ true) : openS p = ([], false) := by
  unfold openS at h ⊢
  split
  · rename_i hc
    rw [if_pos hc] at h
    exact absurd rfl h
  · rfl
theorem openS_turned {p : List UInt8} {at' : Nat} {m : UInt8} (ho : (openS p).2 = true) (ha : at' < 384) (hm : m ≠ 0) : openS (p.set at' (nth p at' ^^^ m)) = ([], false) := by
  obtain ⟨hl, h0, hs⟩ := open_facts ho
  refine open_bad fun h => ?_
  obtain ⟨_, h0', hs'⟩ := open_facts h
  have hx := xor_ne (a := nth p at') hm
  by_cases c0 : at' = 0
  · subst c0
    rw [nth_set_eq (by omega), nth_set_ne (by omega), ← h0] at h0'
    exact hx h0'
  by_cases c1 : at' = 383
  · subst c1
    rw [nth_set_eq (by omega), nth_set_ne (by omega), h0] at h0'
    exact hx h0'.symm
  by_cases c2 : at' < 379
  · rw [List.take_set, List.drop_set, if_pos (by omega), hs] at hs'
    have hl3 : (p.take 379).length = 379 := by rw [List.length_take]; omega
    have hn : nth (p.take 379) at' = nth p at' := nth_take c2
    have cut : ∀ x : UInt8, (p.take 379).set at' x = (p.take 379).take at' ++ [x] ++ (p.take 379).drop (at' + 1) := fun x => by
      rw [List.set_eq_take_append_cons_drop, if_pos (by omega)]
      simp
    have self : (p.take 379).set at' (nth p at') = p.take 379 := by
      apply List.ext_getElem?
      intro j
      by_cases hj : at' = j
      · subst hj
        rw [List.getElem?_set_self (by omega), ← hn]
        exact (get_lt (by omega)).symm
      · rw [List.getElem?_set_ne hj]
    have h4 := sumOf_turned ((p.take 379).take at') ((p.take 379).drop (at' + 1)) _ _ (Ne.symm hx)
    rw [← cut, ← cut, self] at h4
    exact h4 hs'
  · rw [List.take_set_of_le (by omega), ← hs] at hs'
    have := leN_inj (by simp) hs'
    have h2 : nth (((p.set at' (nth p at' ^^^ m)).drop 379).take 4) (at' - 379) = nth ((p.drop 379).take 4) (at' - 379) := by rw [this]
    rw [nth_take (by omega), nth_take (by omega), nth_drop, nth_drop, show 379 + (at' - 379) = at' by omega, nth_set_eq (by omega)] at h2
    exact hx h2
end Go.Cmp
namespace Go.Cmp
open Go.RowKit
theorem nextG_seal (old s : List UInt8) (h : s.length ≤ 376) : sealS old s = (sealed (nextG old) s, 0) := by unfold sealS; rw [if_neg (by omega)]
theorem prepS_right {old : List UInt8} {e : En} (h : e.right = true) : prepS old e = (sealed (nextG old) (packE e).1, 0) := by
  have hl := packE_len e
  unfold prepS
  rw [packE_ok h]
  rw [packE_ok h] at hl
  rw [if_pos rfl, nextG_seal _ _ (by simp only at hl ⊢; omega)]
theorem prepS_bad {old : List UInt8} {e : En} (h : e.right = false) : prepS old e = ([], 4) := by unfold prepS; rw [packE_bad h, if_neg (by decide)]
theorem hdrS_right {old : List UInt8} {s : Stb} (h : s.right = true) : hdrS old s = (sealed (nextG old) (stubB s), 0) := by
  unfold hdrS
  rw [if_neg (by simp [h]), nextG_seal _ _ (by rw [stubB_len]; omega)]
theorem hdrS_bad {old : List UInt8} {s : Stb} (h : s.right = false) : hdrS old s = ([], 4) := by unfold hdrS; rw [if_pos h]
theorem openS_nil : openS [] = ([], false) := by unfold openS; rw [if_neg (by simp)]
theorem entP_nil : entP [] = (zeroE, false, false) := by unfold entP; rw [openS_nil]; rfl
theorem stbP_nil : stbP [] = (zeroB, false, false) := by unfold stbP; rw [openS_nil]; rfl
theorem voidS_eq (old : List UInt8) : voidS old = sealed (nextG old) [] := by unfold voidS; rw [nextG_seal _ _ (by simp)]
end Go.Cmp
namespace Go.Cmp
open Go.RowKit
def rotP (p : List UInt8) (a : Nat) (m : UInt8) : List UInt8 := p.set a (nth p a ^^^ m)
theorem rotP_len (p : List UInt8) (a : Nat) (m : UInt8) : (rotP p a m).length = p.length := by unfold rotP; rw [List.length_set]
theorem openS_rot {p : List UInt8} {a : Nat} {m : UInt8} (ho : (openS p).2 = true) (ha : a < 384) (hm : m ≠ 0) : openS (rotP p a m) = ([], false) := openS_turned ho ha hm
theorem prep_len {old : List UInt8} {e : En} (h : e.right = true) : (prepS old e).1.length = 384 := by
  rw [prepS_right h]
  have := packE_len e
  exact sealed_len (by omega)
theorem right_body {e : En} (hr : e.right = true) : e.body.length ≤ 200 := by
  have h := en_right_eq e
  rw [hr] at h
  have h := h.symm
  simp only [Bool.and_eq_true, decide_eq_true_eq] at h
  omega
theorem stubE_facts {e : En} (hp : e.parent < 18446744073709551616) : (stubE e).parent < 18446744073709551616 ∧ (stubE e).sum < 18446744073709551616 := by
  unfold stubE
  split
  · exact ⟨by show (0 : Nat) < _; omega, by show (0 : Nat) < _; omega⟩
  · exact ⟨hp, markSum_lt e hp⟩
theorem hdr_len {old : List UInt8} {e : En} (h : e.right = true) : (hdrS old (stubE e)).1.length = 384 := by
  rw [hdrS_right (stubE_right h)]
  exact sealed_len (by rw [stubB_len]; omega)
theorem prep_open {old : List UInt8} {e : En} (h : e.right = true) : (openS (prepS old e).1).2 = true := by
  rw [prepS_right h]
  have := packE_len e
  rw [openS_sealed (by omega)]
theorem hdr_open {old : List UInt8} {e : En} (h : e.right = true) : (openS (hdrS old (stubE e)).1).2 = true := by
  rw [hdrS_right (stubE_right h), openS_sealed (by rw [stubB_len]; omega)]
theorem entP_bad {p : List UInt8} (h : openS p = ([], false)) : entP p = (zeroE, false, false) := by unfold entP; rw [h]; rfl
theorem stbP_bad {p : List UInt8} (h : openS p = ([], false)) : stbP p = (zeroB, false, false) := by unfold stbP; rw [h]; rfl
theorem prep_ent {old : List UInt8} {e : En} (h : e.right = true) (hp : e.parent < 18446744073709551616) : entP (prepS old e).1 = (e, true, true) := by
  rw [prepS_right h]
  exact entP_sealed h hp
theorem hdr_stb {old : List UInt8} {e : En} (h : e.right = true) (hp : e.parent < 18446744073709551616) : stbP (hdrS old (stubE e)).1 = (stubE e, true, true) := by
  rw [hdrS_right (stubE_right h)]
  exact stbP_sealed (stubE_right h) (stubE_facts hp).1 (stubE_facts hp).2
theorem judge_rot0 {o1 o2 : List UInt8} {e : En} (h : e.right = true) (hp : e.parent < 18446744073709551616) {a : Nat} {m : UInt8} (ha : a < 384) (hm : m ≠ 0) : judgeS (rotP (prepS o1 e).1 a m) (hdrS o2 (stubE e)).1 e.op = ⟨2, stubE e, zeroE⟩ := by
  unfold judgeS
  rw [hdr_stb h hp, entP_bad (openS_rot (prep_open h) ha hm), if_pos rfl]
  simp only
  rw [if_neg (by simp [stubE_op h]), if_neg (by simp)]
theorem judge_rot1 {o1 o2 : List UInt8} {e : En} (h : e.right = true) (hp : e.parent < 18446744073709551616) {a : Nat} {m : UInt8} (ha : a < 384) (hm : m ≠ 0) : judgeS (prepS o1 e).1 (rotP (hdrS o2 (stubE e)).1 a m) e.op = ⟨1, stubE e, e⟩ := by
  unfold judgeS
  rw [stbP_bad (openS_rot (hdr_open h) ha hm), prep_ent h hp, if_neg (by simp)]
  simp only
  rw [if_neg (by simp), if_pos (by simp)]
theorem judge_rot2 {o1 o2 : List UInt8} {e : En} (h : e.right = true) {a : Nat} {m : UInt8} (ha : a < 384) (hm : m ≠ 0) : judgeS (rotP (prepS o1 e).1 a m) (rotP (hdrS o2 (stubE e)).1 a m) e.op = ⟨3, zeroB, zeroE⟩ := by
  unfold judgeS
  rw [stbP_bad (openS_rot (hdr_open h) ha hm), entP_bad (openS_rot (prep_open h) ha hm), if_neg (by simp)]
  simp only
  rw [if_pos trivial]
end Go.Cmp
namespace Go.Cmp
open Go.RowKit
def mixS (a b : List UInt8) (c : Nat) : List UInt8 := a.take c ++ b.drop c
theorem mixS_or {x p : List UInt8} (hx : x.length = 384) (hp : p.length = 384) (h : nth x 0 ≠ nth p 383) (k : Nat) (hk : k ≤ 384) : mixS x p k = x ∨ mixS x p k = p ∨ openS (mixS x p k) = ([], false) := by
  by_cases h0 : k = 0
  · subst h0; exact .inr (.inl (by simp [mixS]))
  by_cases h1 : k = 384
  · subst h1; exact .inl (by unfold mixS; rw [List.take_of_length_le (by omega), List.drop_eq_nil_of_le (by omega), List.append_nil])
  refine .inr (.inr (open_bad fun ho => ?_))
  obtain ⟨_, h2, _⟩ := open_facts ho
  have e0 : nth (mixS x p k) 0 = nth x 0 := by
    apply nth_eq
    unfold mixS
    rw [List.getElem?_append_left (by rw [List.length_take]; omega), List.getElem?_take_of_lt (by omega), get_lt (by omega)]
  have e1 : nth (mixS x p k) 383 = nth p 383 := by
    apply nth_eq
    unfold mixS
    rw [List.getElem?_append_right (by rw [List.length_take]; omega), List.length_take, List.getElem?_drop, show k + (383 - min k x.length) = 383 by omega, get_lt (by omega)]
  rw [e0, e1] at h2
  exact h h2
theorem nth_sealed0 (g : UInt8) (s : List UInt8) : nth (sealed g s) 0 = g := by unfold sealed aheadB; rfl
theorem nth_sealed383 {g : UInt8} {s : List UInt8} (h : s.length ≤ 376) : nth (sealed g s) 383 = g := by
  have ho : (openS (sealed g s)).2 = true := by rw [openS_sealed h]
  rw [← (open_facts ho).2.1, nth_sealed0]
theorem nextG_sealed {g : UInt8} {s : List UInt8} (h : s.length ≤ 376) : nextG (sealed g s) ≠ g := by
  have hl := sealed_len (g := g) h
  unfold nextG
  rw [if_neg (fun e => by rw [e] at hl; simp at hl), hl, nth_sealed383 h]
  intro e
  have e2 := congrArg UInt8.toNat e
  rw [UInt8.toNat_ofNat'] at e2
  have := g.toNat_lt
  omega
namespace Dsk
/-- A disk of two sectors, on. -/
structure At (D : Dsk) (a b : List UInt8) (way : List Wr) : Prop where
  ok : D.Ok
  on : D.off = false
  lasts : D.lasts = [a, b]
  way : D.way = way
  steps : D.steps ≤ 100
/-- Off. -/
structure Off (D : Dsk) (a b : List UInt8) (way : List Wr) : Prop where
  ok : D.Ok
  off : D.off = true
  lasts : D.lasts = [a, b]
  way : D.way = way
  steps : D.steps ≤ 100
theorem At.len {D : Dsk} {a b : List UInt8} {way : List Wr} (h : D.At a b way) : a.length = 384 ∧ b.length = 384 :=
  ⟨h.ok.size a (by rw [h.lasts]; simp), h.ok.size b (by rw [h.lasts]; simp)⟩
theorem puts_lens : ∀ {l : List Wr} {D : Dsk}, (D.puts l).lasts.length = D.lasts.length ∧ (D.puts l).off = D.off ∧ (D.puts l).fuse = D.fuse ∧ (D.puts l).steps = D.steps
  | [], _ => ⟨rfl, rfl, rfl, rfl⟩
  | x :: l, D => by
    obtain ⟨h1, h2, h3, h4⟩ := puts_lens (l := l) (D := D.put x)
    exact ⟨by rw [show D.puts (x :: l) = (D.put x).puts l from rfl, h1]; simp [put], h2, h3, h4⟩
theorem write_at {D : Dsk} {a b : List UInt8} {way : List Wr} {n : Int} (h : D.At a b way) (hn : D.steps ≤ n) (hn2 : n < 100) (hw : way.length < 10) {i : Int} (hi : i = 0 ∨ i = 1) {x : List UInt8} (hx : x.length = 384) :
    ((D.write i x).1 = 0 ∧ (D.write i x).2.At a b (way ++ [⟨i, x⟩]) ∧ (D.write i x).2.steps ≤ n + 1 ∧ (D.fuse = 0 → (D.write i x).2.fuse = 0)) ∨ (D.fuse ≠ 0 ∧ (D.write i x).1 = 6 ∧ (D.write i x).2.Off a b way) := by
  have nx := write_next h.ok i x (by rw [h.way]; omega) (by omega)
  have hs := h.steps
  have his : D.is i = true := by
    unfold is
    rw [h.lasts]
    rcases hi with rfl | rfl <;> rfl
  have hc : ¬ (D.is i = false ∨ (x.length : Int) ≠ 384) := by rw [his]; simp [hx]
  have h1 := nx.ok
  have h2 := nx.steps
  unfold write at h1 h2 ⊢
  rw [if_neg hc, if_neg (by rw [h.on]; simp)] at h1 h2 ⊢
  unfold step at h1 h2 ⊢
  by_cases hf : D.fuse = 1
  · rw [if_pos hf] at h1 h2 ⊢
    simp only [if_true] at h1 h2 ⊢
    exact .inr ⟨by omega, by trivial, h1, rfl, h.lasts, h.way, by simp only; omega⟩
  · rw [if_neg hf] at h1 h2 ⊢
    simp only [Bool.true_eq_false, if_false] at h1 h2 ⊢
    exact .inl ⟨by trivial, ⟨h1, h.on, h.lasts, by simp only [h.way], by (try simp only); omega⟩, by (try simp only); omega, fun h0 => by (try simp only); omega⟩
theorem flush_at {D : Dsk} {a b : List UInt8} {way : List Wr} {n : Int} (h : D.At a b way) (hn : D.steps ≤ n) (hn2 : n < 100) {c d : List UInt8} (hl : ∀ E : Dsk, E.lasts = [a, b] → (E.puts way).lasts = [c, d]) :
    (D.flush.1 = 0 ∧ D.flush.2.At c d [] ∧ D.flush.2.steps ≤ n + 1 ∧ (D.fuse = 0 → D.flush.2.fuse = 0)) ∨ (D.fuse ≠ 0 ∧ D.flush.1 = 6 ∧ D.flush.2.Off a b way) := by
  have nx := flush_next h.ok (by omega)
  have hs := h.steps
  have h1 := nx.ok
  have h2 := nx.steps
  unfold flush at h1 h2 ⊢
  rw [if_neg (by rw [h.on]; simp)] at h1 h2 ⊢
  unfold step at h1 h2 ⊢
  by_cases hf : D.fuse = 1
  · rw [if_pos hf] at h1 h2 ⊢
    simp only [if_true] at h1 h2 ⊢
    exact .inr ⟨by omega, by trivial, h1, rfl, h.lasts, h.way, by simp only; omega⟩
  · rw [if_neg hf] at h1 h2 ⊢
    simp only [Bool.true_eq_false, if_false] at h1 h2 ⊢
    obtain ⟨q1, q2, q3, q4⟩ := puts_lens (l := D.way) (D := ({ D with steps := D.steps + 1, fuse := max 0 (D.fuse - 1) } : Dsk))
    have q6 := hl ({ D with steps := D.steps + 1, fuse := max 0 (D.fuse - 1) } : Dsk) h.lasts
    rw [← h.way] at q6
    exact .inl ⟨by trivial, ⟨h1, by simp only [q2]; exact h.on, q6, rfl, by simp only [q4]; omega⟩, by simp only [q4]; omega, fun h0 => by simp only [q3]; omega⟩
theorem puts0 {a b x : List UInt8} (E : Dsk) (h : E.lasts = [a, b]) : (E.puts [⟨0, x⟩]).lasts = [x, b] := by
  show E.lasts.set 0 x = _
  rw [h]; rfl
theorem puts1 {a b x : List UInt8} (E : Dsk) (h : E.lasts = [a, b]) : (E.puts [⟨1, x⟩]).lasts = [a, x] := by
  show E.lasts.set 1 x = _
  rw [h]; rfl
theorem puts2 {a b x y : List UInt8} (E : Dsk) (h : E.lasts = [a, b]) : (E.puts [⟨0, x⟩, ⟨1, y⟩]).lasts = [x, y] := by
  show (E.lasts.set 0 x).set 1 y = _
  rw [h]; rfl
theorem fuse_at {D : Dsk} {a b : List UInt8} {way : List Wr} {m : Int} (h : D.At a b way) (hm : D.steps ≤ m) (n : Int) (hn : n ≤ 9223372036854775807) : (D.setFuse n).1 = 0 ∧ (D.setFuse n).2.At a b way ∧ (D.setFuse n).2.steps ≤ m := by
  have nx := (fuse_next h.ok n hn).ok
  unfold setFuse at nx ⊢
  rw [if_neg (by rw [h.on]; simp)] at nx ⊢
  exact ⟨rfl, ⟨nx, h.on, h.lasts, h.way, h.steps⟩, hm⟩
theorem read_at {D : Dsk} {a b : List UInt8} (h : D.At a b []) : D.read 0 = (a, 0) ∧ D.read 1 = (b, 0) := by
  have hl : D.lasts.length = 2 := by rw [h.lasts]; rfl
  have h0 : D.is 0 = true := by unfold is; rw [hl]; rfl
  have h1 : D.is 1 = true := by unfold is; rw [hl]; rfl
  unfold read
  rw [h0, h1, h.on, h.way, h.lasts]
  exact ⟨rfl, rfl⟩
theorem start_at {D : Dsk} {a b : List UInt8} (h : D.Off a b []) (picks : List Int) : (D.start picks).1 = 0 ∧ (D.start picks).2.At a b [] := by
  have nx := start_next h.ok picks
  have h1 := nx.ok
  have h2 := h.steps
  unfold start at h1 ⊢
  rw [if_neg (by rw [h.off]; simp), h.way] at h1 ⊢
  exact ⟨rfl, h1, rfl, h.lasts, rfl, h2⟩
theorem settle_mix {D : Dsk} {x : Wr} (pick : Int) : (D.settle x pick).lasts = D.lasts.set x.sector.toNat (mixS x.text (nth D.lasts x.sector.toNat) (kept pick)) ∧ (D.settle x pick).steps = D.steps := by
  unfold settle
  split
  · rename_i h
    rw [h]
    refine ⟨?_, rfl⟩
    simp only [mixS, List.take_zero, List.drop_zero, List.nil_append]
    apply List.ext_getElem?
    intro j
    by_cases hj : x.sector.toNat = j
    · subst hj
      by_cases hl : x.sector.toNat < D.lasts.length
      · rw [List.getElem?_set_self hl]; exact get_lt hl
      · rw [List.getElem?_eq_none (by omega), List.getElem?_eq_none (by rw [List.length_set]; omega)]
    · rw [List.getElem?_set_ne hj]
  · exact ⟨rfl, rfl⟩
theorem start_at0 {D : Dsk} {a b x : List UInt8} (h : D.Off a b [⟨0, x⟩]) (picks : List Int) : (D.start picks).1 = 0 ∧ ∃ k, k ≤ 384 ∧ (D.start picks).2.At (mixS x a k) b [] := by
  have nx := start_next h.ok picks
  have h1 := nx.ok
  have h2 := h.steps
  obtain ⟨m1, m2⟩ := settle_mix (D := D) (x := ⟨0, x⟩) (pickAt picks 0)
  unfold start at h1 ⊢
  rw [if_neg (by rw [h.off]; simp), h.way] at h1 ⊢
  refine ⟨rfl, kept (pickAt picks 0), kept_le' _, h1, rfl, ?_, rfl, ?_⟩
  · show (D.settle ⟨0, x⟩ (pickAt picks 0)).lasts = _
    rw [m1, h.lasts]; rfl
  · show (D.settle ⟨0, x⟩ (pickAt picks 0)).steps ≤ _
    rw [m2]; exact h2
theorem start_at1 {D : Dsk} {a b x : List UInt8} (h : D.Off a b [⟨1, x⟩]) (picks : List Int) : (D.start picks).1 = 0 ∧ ∃ k, k ≤ 384 ∧ (D.start picks).2.At a (mixS x b k) [] := by
  have nx := start_next h.ok picks
  have h1 := nx.ok
  have h2 := h.steps
  obtain ⟨m1, m2⟩ := settle_mix (D := D) (x := ⟨1, x⟩) (pickAt picks 0)
  unfold start at h1 ⊢
  rw [if_neg (by rw [h.off]; simp), h.way] at h1 ⊢
  refine ⟨rfl, kept (pickAt picks 0), kept_le' _, h1, rfl, ?_, rfl, ?_⟩
  · show (D.settle ⟨1, x⟩ (pickAt picks 0)).lasts = _
    rw [m1, h.lasts]; rfl
  · show (D.settle ⟨1, x⟩ (pickAt picks 0)).steps ≤ _
    rw [m2]; exact h2
/-- What is read once the power is back. -/
structure Fin (D : Dsk) (R : List UInt8 → List UInt8 → Prop) : Prop where
  ok : D.Ok
  on : D.off = false → ∃ a b, D.At a b [] ∧ R a b
  off : ∀ picks, D.off = true → (D.start picks).1 = 0 ∧ ∃ a b, (D.start picks).2.At a b [] ∧ R a b
theorem At.fin {D : Dsk} {a b : List UInt8} {R : List UInt8 → List UInt8 → Prop} (h : D.At a b []) (r : R a b) : D.Fin R :=
  ⟨h.ok, fun _ => ⟨a, b, h, r⟩, fun _ ho => by rw [h.on] at ho; simp at ho⟩
theorem Off.fin {D : Dsk} {a b : List UInt8} {R : List UInt8 → List UInt8 → Prop} (h : D.Off a b []) (r : R a b) : D.Fin R :=
  ⟨h.ok, fun ho => by rw [h.off] at ho; simp at ho, fun picks _ => ⟨(start_at h picks).1, a, b, (start_at h picks).2, r⟩⟩
theorem Off.fin0 {D : Dsk} {a b x : List UInt8} {R : List UInt8 → List UInt8 → Prop} (h : D.Off a b [⟨0, x⟩]) (r : ∀ k, k ≤ 384 → R (mixS x a k) b) : D.Fin R :=
  ⟨h.ok, fun ho => by rw [h.off] at ho; simp at ho, fun picks _ => by
    obtain ⟨h1, k, hk, h2⟩ := start_at0 h picks
    exact ⟨h1, _, _, h2, r k hk⟩⟩
theorem Off.fin1 {D : Dsk} {a b x : List UInt8} {R : List UInt8 → List UInt8 → Prop} (h : D.Off a b [⟨1, x⟩]) (r : ∀ k, k ≤ 384 → R a (mixS x b k)) : D.Fin R :=
  ⟨h.ok, fun ho => by rw [h.off] at ho; simp at ho, fun picks _ => by
    obtain ⟨h1, k, hk, h2⟩ := start_at1 h picks
    exact ⟨h1, _, _, h2, r k hk⟩⟩
end Dsk
/-! ### Slots of which a write is cut off -/
theorem judge_eq {p p2 h h2 : List UInt8} (hp : entP p = entP p2) (hh : stbP h = stbP h2) (n : Int) : judgeS p h n = judgeS p2 h2 n := by unfold judgeS; rw [hp, hh]
/-- The prepare sector is read as one that holds no such entry. -/
theorem judge_void {p h : List UInt8} {n : Int} (hh : (stbP h).2.2 = true) (h2 : (stbP h).2.1 = false ∨ (stbP h).1.op ≠ n) : judgeS p h n = zeroI := by unfold judgeS; rw [if_pos hh, if_pos h2]
theorem judge_holds {p h : List UInt8} {e : En} (hr : e.right = true) (hp : entP p = (e, true, true)) (hh : stbP h = (stubE e, true, true) ∨ stbP h = (zeroB, false, false)) : judgeS p h e.op = ⟨1, stubE e, e⟩ := by
  unfold judgeS
  rw [hp]
  rcases hh with hh | hh
  · rw [hh, if_pos rfl]
    simp only
    rw [if_neg (by simp [stubE_op hr]), if_pos (by simp)]
  · rw [hh, if_neg (by simp)]
    simp only
    rw [if_neg (by simp), if_pos (by simp)]
/-- A sealed sector. -/
def Sld (p : List UInt8) : Prop := ∃ g s, s.length ≤ 376 ∧ p = sealed g s
theorem Sld.len {p : List UInt8} (h : Sld p) : p.length = 384 := by
  obtain ⟨g, s, h1, rfl⟩ := h
  exact sealed_len h1
theorem sld_seal {g : UInt8} {s : List UInt8} (h : s.length ≤ 376) : Sld (sealed g s) := ⟨g, s, h, rfl⟩
theorem Sld.mix {p : List UInt8} (h : Sld p) {s : List UInt8} (hs : s.length ≤ 376) (k : Nat) (hk : k ≤ 384) : mixS (sealed (nextG p) s) p k = sealed (nextG p) s ∨ mixS (sealed (nextG p) s) p k = p ∨ openS (mixS (sealed (nextG p) s) p k) = ([], false) := by
  refine mixS_or (sealed_len hs) h.len ?_ k hk
  obtain ⟨g, t, ht, rfl⟩ := h
  rw [nth_sealed0, nth_sealed383 ht]
  exact nextG_sealed ht
theorem prep_sld {o : List UInt8} {e : En} (h : e.right = true) : Sld (prepS o e).1 := by
  rw [prepS_right h]
  have := packE_len e
  exact sld_seal (by omega)
theorem hdr_sld {o : List UInt8} {s : Stb} (h : s.right = true) : Sld (hdrS o s).1 := by
  rw [hdrS_right h]
  exact sld_seal (by rw [stubB_len]; omega)
theorem void_sld (o : List UInt8) : Sld (voidS o) := by
  rw [voidS_eq]
  exact sld_seal (by simp)
theorem hdr_mix {o : List UInt8} {s : Stb} (h : Sld o) (hs : s.right = true) (k : Nat) (hk : k ≤ 384) : mixS (hdrS o s).1 o k = (hdrS o s).1 ∨ mixS (hdrS o s).1 o k = o ∨ openS (mixS (hdrS o s).1 o k) = ([], false) := by
  rw [hdrS_right hs]
  exact h.mix (by rw [stubB_len]; omega) k hk
theorem void_mix {o : List UInt8} (h : Sld o) (k : Nat) (hk : k ≤ 384) : mixS (voidS o) o k = voidS o ∨ mixS (voidS o) o k = o ∨ openS (mixS (voidS o) o k) = ([], false) := by
  rw [voidS_eq]
  exact h.mix (by simp) k hk
theorem void_stb (o : List UInt8) : stbP (voidS o) = (zeroB, false, true) := by rw [voidS_eq]; exact stbP_void
theorem void_judge (o q : List UInt8) (n : Int) : judgeS q (voidS o) n = zeroI := judge_void (by rw [void_stb]) (.inl (by rw [void_stb]))
theorem other_judge {o q : List UInt8} {e : En} (hr : e.right = true) (hp : e.parent < 18446744073709551616) {n : Int} (hn : e.op ≠ n) : judgeS q (hdrS o (stubE e)).1 n = zeroI :=
  judge_void (by rw [hdr_stb hr hp]) (.inr (by rw [hdr_stb hr hp]; simp only; rw [stubE_op hr]; exact hn))
theorem full_judge {o o2 : List UInt8} {e : En} (hr : e.right = true) (hp : e.parent < 18446744073709551616) : judgeS (prepS o e).1 (hdrS o2 (stubE e)).1 e.op = ⟨1, stubE e, e⟩ :=
  judge_holds hr (prep_ent hr hp) (.inl (hdr_stb hr hp))
theorem lost_judge {o q : List UInt8} {e : En} (hr : e.right = true) (hp : e.parent < 18446744073709551616) (hq : openS q = ([], false)) : judgeS (prepS o e).1 q e.op = ⟨1, stubE e, e⟩ :=
  judge_holds hr (prep_ent hr hp) (.inr (stbP_bad hq))
/-- The header sector is written last. -/
theorem last_judge {o h : List UInt8} {e : En} (hr : e.right = true) (hp : e.parent < 18446744073709551616) (hh : Sld h) (hz : ∀ q, judgeS q h e.op = zeroI) (k : Nat) (hk : k ≤ 384) : judgeS (prepS o e).1 (mixS (hdrS h (stubE e)).1 h k) e.op = ⟨1, stubE e, e⟩ ∨ judgeS (prepS o e).1 (mixS (hdrS h (stubE e)).1 h k) e.op = zeroI := by
  rcases hdr_mix hh (stubE_right hr) k hk with h1 | h1 | h1
  · rw [h1]; exact .inl (full_judge hr hp)
  · rw [h1]; exact .inr (hz _)
  · exact .inl (lost_judge hr hp h1)
/-- The header sector is voided first. -/
theorem first_judge {o o2 : List UInt8} {e : En} (hr : e.right = true) (hp : e.parent < 18446744073709551616) (k : Nat) (hk : k ≤ 384) : judgeS (prepS o e).1 (mixS (voidS (hdrS o2 (stubE e)).1) (hdrS o2 (stubE e)).1 k) e.op = ⟨1, stubE e, e⟩ ∨ judgeS (prepS o e).1 (mixS (voidS (hdrS o2 (stubE e)).1) (hdrS o2 (stubE e)).1 k) e.op = zeroI := by
  rcases void_mix (hdr_sld (o := o2) (stubE_right hr)) k hk with h1 | h1 | h1
  · rw [h1]; exact .inr (void_judge _ _ _)
  · rw [h1]; exact .inl (full_judge hr hp)
  · exact .inl (lost_judge hr hp h1)
end Go.Cmp
