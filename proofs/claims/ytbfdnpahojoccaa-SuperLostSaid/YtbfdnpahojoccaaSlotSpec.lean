/-
  Slots in plain lists.
-/
import Derived.Test.YtbfdnpahojoccaaEntA
import Derived.Test.YtbfdnpahojoccaaCrc
import Derived.Test.YtbfdnpahojoccaaSeal5
set_option linter.unusedSimpArgs false
set_option linter.unusedVariables false
set_option linter.unusedSectionVars false
set_option maxRecDepth 100000
namespace Go.Cmp
open Go.RowKit
structure Stb where
  op : Int
  view : Int
  under : Int
  parent : Nat
  sum : Nat
deriving Inhabited, DecidableEq
def Stb.cells (s : Stb) : List Value := [.int .i64 s.op, .int .i64 s.view, .int .i64 s.under, .int .u64 s.parent, .int .u64 s.sum]
def zeroB : Stb := ⟨0, 0, 0, 0, 0⟩
def Stb.right (s : Stb) : Bool := decide (1 ≤ s.op) && decide (s.op ≤ 72057594037927935) && decide (0 ≤ s.under) && decide (s.under ≤ s.view) && decide (s.view ≤ 72057594037927935)
def stubE (e : En) : Stb := if e.right = false then zeroB else ⟨e.op, e.view, e.under, e.parent, markSum e⟩
def stubB (s : Stb) : List UInt8 := leB 8 s.op.toNat ++ leB 8 s.view.toNat ++ leB 8 s.under.toNat ++ leB 8 s.parent ++ leB 8 s.sum
def prepS (old : List UInt8) (e : En) : List UInt8 × Int := if (packE e).2 = 0 then sealS old (packE e).1 else ([], (packE e).2)
def hdrS (old : List UInt8) (s : Stb) : List UInt8 × Int := if s.right = false then ([], 4) else sealS old (stubB s)
def voidS (old : List UInt8) : List UInt8 := (sealS old []).1
def entP (p : List UInt8) : En × Bool × Bool := if (openS p).2 = false then (zeroE, false, false) else if (openS p).1 = [] then (zeroE, false, true) else if (unpE (openS p).1).2 = 0 then ((unpE (openS p).1).1, true, true) else (zeroE, false, false)
def stubO (b : List UInt8) : Stb := ⟨int8 b 0, int8 b 8, int8 b 16, num8 b 24, num8 b 32⟩
def stbP (p : List UInt8) : Stb × Bool × Bool := if (openS p).2 = false then (zeroB, false, false) else if (openS p).1 = [] then (zeroB, false, true) else if (openS p).1.length ≠ 40 then (zeroB, false, false) else if (stubO (openS p).1).right = false then (zeroB, false, false) else (stubO (openS p).1, true, true)
structure It where
  kind : Int
  stub : Stb
  ent : En
deriving Inhabited, DecidableEq
def It.cells (t : It) : List Value := .int .i64 t.kind :: (t.stub.cells ++ t.ent.cells)
def zeroI : It := ⟨0, zeroB, zeroE⟩
/-- What a slot is for an operation. -/
def judgeS (p h : List UInt8) (n : Int) : It :=
  if (stbP h).2.2 = true then
    if (stbP h).2.1 = false ∨ (stbP h).1.op ≠ n then zeroI
    else if (entP p).2.1 = true ∧ stubE (entP p).1 = (stbP h).1 then ⟨1, (stbP h).1, (entP p).1⟩
    else ⟨2, (stbP h).1, zeroE⟩
  else if (entP p).2.2 = false then ⟨3, zeroB, zeroE⟩
  else if (entP p).2.1 = true ∧ (entP p).1.op = n then ⟨1, stubE (entP p).1, (entP p).1⟩
  else zeroI
theorem openS_len (p : List UInt8) : (openS p).1.length ≤ 376 := by
  unfold openS
  split
  · rename_i h
    obtain ⟨n, _, hn, _, ht, _⟩ := takeT_facts h.2.2
    rw [ht, List.length_take]
    omega
  · show 0 ≤ _; omega
theorem unpE_parent_lt (s : List UInt8) : (unpE s).1.parent < 18446744073709551616 := by
  unfold unpE
  split
  · exact packE_parent_lt s
  · show (0 : Nat) < _; omega
theorem unpE_err (s : List UInt8) : (unpE s).2 = 0 ∨ (unpE s).2 = 4 := by
  unfold unpE
  split
  · exact .inl rfl
  · exact .inr rfl
theorem unpE_body (s : List UInt8) : (unpE s).1.body.length ≤ s.length := by
  unfold unpE
  split
  · exact unpH_len s
  · show 0 ≤ _; omega
theorem entP_facts (p : List UInt8) : ((entP p).2.1 = true → (entP p).2.2 = true ∧ (entP p).1.right = true) ∧ (entP p).1.parent < 18446744073709551616 ∧ (entP p).1.body.length ≤ 376 ∧ ((entP p).2.1 = false → (entP p).1 = zeroE) := by
  unfold entP
  split
  · exact ⟨fun h => by simp at h, by show (0 : Nat) < _; omega, by show 0 ≤ _; omega, fun _ => rfl⟩
  · split
    · exact ⟨fun h => by simp at h, by show (0 : Nat) < _; omega, by show 0 ≤ _; omega, fun _ => rfl⟩
    · split
      · rename_i h
        exact ⟨fun _ => ⟨rfl, (unpE_right h).1⟩, unpE_parent_lt _, Nat.le_trans (unpE_body _) (openS_len p), fun h => by simp at h⟩
      · exact ⟨fun h => by simp at h, by show (0 : Nat) < _; omega, by show 0 ≤ _; omega, fun _ => rfl⟩
theorem stbP_facts (p : List UInt8) : ((stbP p).2.1 = true → (stbP p).2.2 = true ∧ (stbP p).1.right = true) ∧ (stbP p).1.parent < 18446744073709551616 ∧ (stbP p).1.sum < 18446744073709551616 ∧ ((stbP p).2.1 = false → (stbP p).1 = zeroB) := by
  unfold stbP
  split
  · exact ⟨fun h => by simp at h, by show (0 : Nat) < _; omega, by show (0 : Nat) < _; omega, fun _ => rfl⟩
  · split
    · exact ⟨fun h => by simp at h, by show (0 : Nat) < _; omega, by show (0 : Nat) < _; omega, fun _ => rfl⟩
    · split
      · exact ⟨fun h => by simp at h, by show (0 : Nat) < _; omega, by show (0 : Nat) < _; omega, fun _ => rfl⟩
      · split
        · exact ⟨fun h => by simp at h, by show (0 : Nat) < _; omega, by show (0 : Nat) < _; omega, fun _ => rfl⟩
        · rename_i h
          exact ⟨fun _ => ⟨rfl, by simpa using h⟩, num8_lt _ _, num8_lt _ _, fun h => by simp at h⟩
theorem stubE_op {e : En} (h : e.right = true) : (stubE e).op = e.op := by unfold stubE; rw [if_neg (by simp [h])]
theorem markSum_lt (e : En) (hp : e.parent < 18446744073709551616) : markSum e < 18446744073709551616 := chainOf_lt _ hp _
/-- As the program has it. -/
theorem judge_prog (p h : List UInt8) (n : Int) : judgeS p h n =
    if ((stbP h).2.1 = true ∧ (stbP h).1.op = n ∧ ((entP p).2.1 = true ∧ (entP p).1.op = n) ∧ stubE (entP p).1 = (stbP h).1) ∨ ((stbP h).2.2 = false ∧ (entP p).2.1 = true ∧ (entP p).1.op = n) then ⟨1, stubE (entP p).1, (entP p).1⟩
    else if (stbP h).2.1 = true ∧ (stbP h).1.op = n then ⟨2, (stbP h).1, zeroE⟩
    else if (stbP h).2.2 = false ∧ (entP p).2.2 = false then ⟨3, zeroB, zeroE⟩ else zeroI := by
  have fe := (entP_facts p).1
  have fs := (stbP_facts h).1
  unfold judgeS
  generalize entP p = E at fe ⊢
  generalize stbP h = T at fs ⊢
  obtain ⟨e, has, read⟩ := E
  obtain ⟨s, says, known⟩ := T
  simp only at fe fs ⊢
  by_cases hq : stubE e = s
  · subst hq
    by_cases hn : e.op = n
    · subst hn
      cases known <;> cases says <;> cases has <;> cases read <;> simp_all [stubE_op]
    · by_cases hm : (stubE e).op = n
      · cases known <;> cases says <;> cases has <;> cases read <;> simp_all [stubE_op]
      · cases known <;> cases says <;> cases has <;> cases read <;> simp_all [stubE_op]
  · by_cases hn : e.op = n <;> by_cases hm : s.op = n <;> cases known <;> cases says <;> cases has <;> cases read <;> simp_all
/-! ### Bytes of stubs -/
theorem stubB_len (s : Stb) : (stubB s).length = 40 := by unfold stubB; simp [leB_length]
theorem stubO_B {s : Stb} (hr : s.right = true) (hp : s.parent < 18446744073709551616) (hs : s.sum < 18446744073709551616) : stubO (stubB s) = s := by
  obtain ⟨a, b, c, d, x⟩ := s
  simp only [Stb.right, Bool.and_eq_true, decide_eq_true_eq] at hr
  simp only at hp hs
  have e : stubB ⟨a, b, c, d, x⟩ = leB 8 a.toNat ++ (leB 8 b.toNat ++ (leB 8 c.toNat ++ (leB 8 d ++ (leB 8 x ++ [])))) := by simp [stubB]
  rw [e]
  unfold stubO
  have v0 := int8_at2 (A := []) (B := leB 8 b.toNat ++ (leB 8 c.toNat ++ (leB 8 d ++ (leB 8 x ++ [])))) (i := 0) rfl (⟨by omega, by omega⟩ : fits a)
  have v1 := int8_at2 (A := leB 8 a.toNat) (B := leB 8 c.toNat ++ (leB 8 d ++ (leB 8 x ++ []))) (i := 8) (leB_length _ _) (⟨by omega, by omega⟩ : fits b)
  have v2 := int8_at2 (A := leB 8 a.toNat ++ leB 8 b.toNat) (B := leB 8 d ++ (leB 8 x ++ [])) (i := 16) (by simp [leB_length]) (⟨by omega, by omega⟩ : fits c)
  have v3 := num8_at (A := leB 8 a.toNat ++ leB 8 b.toNat ++ leB 8 c.toNat) (B := leB 8 x ++ []) (i := 24) (by simp [leB_length]) hp
  have v4 := num8_at (A := leB 8 a.toNat ++ leB 8 b.toNat ++ leB 8 c.toNat ++ leB 8 d) (B := []) (i := 32) (by simp [leB_length]) hs
  simp only [List.append_assoc, List.nil_append] at v0 v1 v2 v3 v4
  rw [v0, v1, v2, v3, v4]
theorem leB_num8 {s : List UInt8} {i : Nat} (h : i + 8 ≤ s.length) : leB 8 (num8 s i) = (s.drop i).take 8 := by
  unfold num8
  have hl : ((s.drop i).take 8).length = 8 := by rw [List.length_take, List.length_drop]; omega
  have := leB_leN ((s.drop i).take 8)
  rw [hl] at this
  exact this
theorem int8_nat {b : List UInt8} {i : Nat} (h0 : 0 ≤ int8 b i) : (int8 b i).toNat = num8 b i := by
  have h := num8_lt b i
  unfold int8 at *
  rw [IntKind.wrap_i64] at *
  omega
theorem stubB_O {b : List UInt8} (hl : b.length = 40) (hr : (stubO b).right = true) : stubB (stubO b) = b := by
  simp only [Stb.right, Bool.and_eq_true] at hr
  obtain ⟨⟨⟨⟨a1, a2⟩, a3⟩, a4⟩, a5⟩ := hr
  have a1 : 1 ≤ int8 b 0 := of_decide_eq_true a1
  have a3 : 0 ≤ int8 b 16 := of_decide_eq_true a3
  have a4 : int8 b 16 ≤ int8 b 8 := of_decide_eq_true a4
  unfold stubB stubO
  simp only
  rw [int8_nat (by omega), int8_nat (by omega), int8_nat (by omega), leB_num8 (by omega), leB_num8 (by omega), leB_num8 (by omega), leB_num8 (by omega), leB_num8 (by omega)]
  have s1 : ∀ k, (b.drop k).take 8 ++ b.drop (k + 8) = b.drop k := fun k => by
    have := List.take_append_drop 8 (b.drop k)
    rwa [List.drop_drop] at this
  rw [show (b.drop 32).take 8 = b.drop 32 from List.take_of_length_le (by rw [List.length_drop]; omega)]
  simp only [List.append_assoc]
  rw [s1 24, s1 16, s1 8, s1 0]
  rfl
/-! ### Sealed, and opened -/
theorem openS_sealed {g : UInt8} {s : List UInt8} (h : s.length ≤ 376) : openS (sealed g s) = (s, true) := by
  have ht : takeT (sealed g s) 1 376 = (s, (([g] : List UInt8).length : Int) + 2 + s.length, 0) := by
    have := takeT_at [g] (List.replicate (376 - s.length) 0 ++ (leB 4 (sumOf (aheadB g s)) ++ [g])) s 376 (by omega) (by omega)
    rw [← this]
    congr 1
    unfold sealed aheadB
    simp only [List.append_assoc]
  have hn : nth (sealed g s) 0 = g := by unfold sealed aheadB; rfl
  unfold openS
  rw [ht, hn, if_pos ⟨sealed_len h, rfl, rfl⟩]
theorem entP_sealed {g : UInt8} {e : En} (hr : e.right = true) (hp : e.parent < 18446744073709551616) : entP (sealed g (packE e).1) = (e, true, true) := by
  have hl := packE_len e
  unfold entP
  rw [openS_sealed (by omega), packE_ok hr]
  simp only [unpE_packed hr hp]
  rw [if_neg (by decide), if_neg (fun h => by have := congrArg List.length h; rw [packed_length] at this; simp at this)]
  rfl
theorem stbP_sealed {g : UInt8} {s : Stb} (hr : s.right = true) (hp : s.parent < 18446744073709551616) (hs : s.sum < 18446744073709551616) : stbP (sealed g (stubB s)) = (s, true, true) := by
  have hl := stubB_len s
  unfold stbP
  rw [openS_sealed (by omega)]
  simp only [stubO_B hr hp hs]
  rw [if_neg (by decide), if_neg (fun h => by rw [h] at hl; simp at hl), if_neg (by simp [hl]), if_neg (by simp [hr])]
theorem entP_void {g : UInt8} : entP (sealed g []) = (zeroE, false, true) := by
  unfold entP
  rw [openS_sealed (by simp)]
  rfl
theorem stbP_void {g : UInt8} : stbP (sealed g []) = (zeroB, false, true) := by
  unfold stbP
  rw [openS_sealed (by simp)]
  rfl
theorem en_parts {e : En} (hr : e.right = true) : 1 ≤ e.op ∧ e.op ≤ 72057594037927935 ∧ 0 ≤ e.under ∧ e.under ≤ e.view ∧ e.view ≤ 72057594037927935 := by
  rw [en_right_eq] at hr
  simp only [Bool.and_eq_true, decide_eq_true_eq] at hr
  simp only [fitsL] at hr
  omega
theorem stubE_right {e : En} (hr : e.right = true) : (stubE e).right = true := by
  obtain ⟨a, b, c, d, x⟩ := en_parts hr
  unfold stubE
  rw [if_neg (by simp [hr])]
  simp only [Stb.right, Bool.and_eq_true, decide_eq_true_eq]
  exact ⟨⟨⟨⟨a, b⟩, c⟩, d⟩, x⟩
end Go.Cmp
