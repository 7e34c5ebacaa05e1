/-
  The ledger in plain lists.
-/
import Derived.Test.YtggngdjncokanaaWhole
import Derived.Test.YtggngdjncokanaaIdx
set_option linter.unusedSimpArgs false
set_option linter.unusedVariables false
set_option linter.unusedSectionVars false
namespace Go.Proofs.Ytggngdjncokanaa
open Go.RowKit Go.Cmp

instance : Inhabited Acc := ⟨⟨0, 0, 0, 0⟩⟩
instance : Inhabited Tra := ⟨⟨0, 0, 0, 0⟩⟩
theorem Acc.ones (x : Acc) : ∀ u ∈ x.cells, u.oneCell' = true := by
  intro u hu
  simp only [Acc.cells, List.mem_cons, List.not_mem_nil, or_false] at hu
  rcases hu with rfl | rfl | rfl | rfl <;> rfl
theorem Tra.ones (x : Tra) : ∀ u ∈ x.cells, u.oneCell' = true := by
  intro u hu
  simp only [Tra.cells, List.mem_cons, List.not_mem_nil, or_false] at hu
  rcases hu with rfl | rfl | rfl | rfl <;> rfl
/-- Accounts and transfers, in the order in which they were made. -/
structure Led where
  A : List Acc
  T : List Tra
def accAt (id : Nat) (A : List Acc) : Int := idx (fun a => decide (a.id = id)) A
def traAt (id : Nat) (T : List Tra) : Int := idx (fun a => decide (a.id = id)) T
/-- An account is made. -/
def Led.open (D : Led) (a : Acc) : UInt8 × Led :=
  if a.id = 0 then (1, D) else if 0 ≤ accAt a.id D.A then (2, D) else if 1 < a.flags then (3, D) else if 8 ≤ D.A.length then (10, D)
  else (0, ⟨D.A ++ [⟨a.id, a.flags, 0, 0⟩], D.T⟩)
/-- Two accounts as a transfer leaves them. -/
def moved (A : List Acc) (p q : Nat) (n : Nat) : List Acc :=
  (A.set p ⟨(nth A p).id, (nth A p).flags, (nth A p).deb + n, (nth A p).cred⟩).set q ⟨(nth A q).id, (nth A q).flags, (nth A q).deb, (nth A q).cred + n⟩
/-- A transfer is made. -/
def Led.move (D : Led) (t : Tra) : UInt8 × Led :=
  if t.id = 0 then (1, D) else if 0 ≤ traAt t.id D.T then (2, D) else if t.deb = t.cred then (4, D)
  else if accAt t.deb D.A < 0 then (5, D) else if accAt t.cred D.A < 0 then (6, D) else if t.amt = 0 then (7, D)
  else if 18446744073709551616 ≤ (nth D.A (accAt t.deb D.A).toNat).deb + t.amt ∨ 18446744073709551616 ≤ (nth D.A (accAt t.cred D.A).toNat).cred + t.amt then (8, D)
  else if (nth D.A (accAt t.deb D.A).toNat).flags = 1 ∧ (nth D.A (accAt t.deb D.A).toNat).cred < (nth D.A (accAt t.deb D.A).toNat).deb + t.amt then (9, D)
  else if 16 ≤ D.T.length then (10, D)
  else (0, ⟨moved D.A (accAt t.deb D.A).toNat (accAt t.cred D.A).toNat t.amt, D.T ++ [t]⟩)
/-- A list of them. -/
def Led.opens (D : Led) : List Acc → List UInt8 × Led
  | [] => ([], D)
  | a :: l => let x := (D.open a).2.opens l; ((D.open a).1 :: x.1, x.2)
def Led.moves (D : Led) : List Tra → List UInt8 × Led
  | [] => ([], D)
  | a :: l => let x := (D.move a).2.moves l; ((D.move a).1 :: x.1, x.2)
def traB (t : Tra) : List UInt8 := leB 8 t.id ++ leB 8 t.deb ++ leB 8 t.cred ++ leB 8 t.amt
def Led.find4 (D : Led) (id : Nat) : List UInt8 := if accAt id D.A < 0 then [0] else [1] ++ (putW (nth D.A (accAt id D.A).toNat)).1
def Led.find5 (D : Led) (id : Nat) : List UInt8 := if traAt id D.T < 0 then [0] else [1] ++ traB (nth D.T (traAt id D.T).toNat)
/-- An operation. -/
def Led.doIt (D : Led) (op : Int) (body : List UInt8) : List UInt8 × Led :=
  if op = 2 then (if (takeS gAcc 9 body).2 = false then ([1], D) else ([0] ++ (D.opens (takeS gAcc 9 body).1).1, (D.opens (takeS gAcc 9 body).1).2))
  else if op = 3 then (if (takeS gTra 32 body).2 = false then ([1], D) else ([0] ++ (D.moves (takeS gTra 32 body).1).1, (D.moves (takeS gTra 32 body).1).2))
  else if op = 4 then (if (takeS gID 8 body).2 = false then ([1], D) else ([0] ++ (takeS gID 8 body).1.flatMap D.find4, D))
  else if op = 5 then (if (takeS gID 8 body).2 = false then ([1], D) else ([0] ++ (takeS gID 8 body).1.flatMap D.find5, D))
  else ([1], D)
def lPack (D : Led) : List UInt8 := [UInt8.ofNat D.A.length] ++ D.A.flatMap (fun a => (putW a).1) ++ [UInt8.ofNat D.T.length] ++ D.T.flatMap traB
structure Led.Ok (D : Led) : Prop where
  acc : ∀ a ∈ D.A, a.Ok
  tra : ∀ t ∈ D.T, t.Ok
  la : D.A.length ≤ 8
  lt : D.T.length ≤ 16
end Go.Proofs.Ytggngdjncokanaa
