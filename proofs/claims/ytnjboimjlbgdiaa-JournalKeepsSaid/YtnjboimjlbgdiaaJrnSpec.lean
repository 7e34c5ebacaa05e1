/-
  A journal on a disk, in plain lists.
-/
import Derived.Test.YtnjboimjlbgdiaaSlotP
import Derived.Test.YtnjboimjlbgdiaaDiskP
import Derived.Test.YtnjboimjlbgdiaaNth
set_option linter.unusedSimpArgs false
set_option linter.unusedVariables false
set_option linter.unusedSectionVars false
set_option maxRecDepth 100000
namespace Go.Cmp
open Go.RowKit
structure Jrn where
  check : Nat
  items : List It
deriving Inhabited
namespace Jrn
def opAt (J : Jrn) (s : Nat) : Nat := J.check + 1 + (s + 8 - (J.check + 1) % 8) % 8
def has (J : Jrn) (n : Int) : Bool := decide ((J.check : Int) < n) && decide (n - 8 ≤ J.check)
def item (J : Jrn) (n : Int) : It := nth J.items (n % 8).toNat
def put (J : Jrn) (n : Int) (x : It) : Jrn := { J with items := J.items.set (n % 8).toNat x }
def kept (x : It) : Bool := (x.kind == 1) || (x.kind == 2)
/-- The greatest one that was kept, of k operations behind the checkpoint. -/
def headTo (J : Jrn) : Nat → Nat
  | 0 => J.check
  | k + 1 => if kept (J.item ((J.check + (k + 1) : Nat) : Int)) = true then J.check + (k + 1) else headTo J k
def head (J : Jrn) : Nat := J.headTo 8
def item0 (J : Jrn) (n : Int) : It := if J.has n = true then J.item n else zeroI
structure Ok (J : Jrn) : Prop where
  len : J.items.length = 8
  check : J.check ≤ 72057594037927927
  par : ∀ x ∈ J.items, x.ent.parent < 18446744073709551616 ∧ x.ent.body.length ≤ 1000000 ∧ x.stub.parent < 18446744073709551616 ∧ x.stub.sum < 18446744073709551616
end Jrn
def prepN (n : Int) : Int := 4 + n % 8
def hdrN (n : Int) : Int := 12 + n % 8
/-- A sector is made anew of what is there, and flushed. -/
def layD (D : Dsk) (i : Int) (mk : List UInt8 → List UInt8) : Int × Dsk :=
  if (D.read i).2 ≠ 0 then ((D.read i).2, D) else if (D.write i (mk (D.read i).1)).1 ≠ 0 then D.write i (mk (D.read i).1) else (D.write i (mk (D.read i).1)).2.flush
def thenD (r : Int × Dsk) (k : Dsk → Int × Dsk) : Int × Dsk := if r.1 ≠ 0 then r else k r.2
def layV (D : Dsk) (i : Int) : Int × Dsk := layD D i voidS
def layE (e : En) (i : Int) (D : Dsk) : Int × Dsk := layD D i fun o => (prepS o e).1
def layS (s : Stb) (i : Int) (D : Dsk) : Int × Dsk := layD D i fun o => (hdrS o s).1
def cleanP (n : Int) (p : List UInt8) : Bool := !(entP p).2.2 || ((entP p).2.1 && decide ((entP p).1.op = n))
def cleanH (n : Int) (h : List UInt8) : Bool := !(stbP h).2.2 || ((stbP h).2.1 && decide ((stbP h).1.op = n))
def cleanJ (D : Dsk) (n : Int) (p h : List UInt8) : Int × Dsk :=
  thenD (if cleanP n p = true then layV D (prepN n) else (0, D)) fun D => if cleanH n h = true then layV D (hdrN n) else (0, D)
/-- One slot is opened: what it is, and what becomes of the disk. -/
def openAt (D : Dsk) (n : Int) : It := judgeS (D.read (prepN n)).1 (D.read (hdrN n)).1 n
def openDo (D : Dsk) (n : Int) : Int × Dsk :=
  if (openAt D n).kind = 0 then cleanJ D n (D.read (prepN n)).1 (D.read (hdrN n)).1
  else if (openAt D n).kind = 1 ∧ (stbP (D.read (hdrN n)).1).2.2 = false then layS (openAt D n).stub (hdrN n) D else (0, D)
/-- The slots from s on are opened. -/
def openFrom (J : Jrn) : Nat → Nat → Dsk → Int × Jrn × Dsk
  | 0, _, D => (0, J, D)
  | k + 1, s, D => if (openDo D (J.opAt s)).1 ≠ 0 then ((openDo D (J.opAt s)).1, J, (openDo D (J.opAt s)).2) else openFrom { J with items := J.items.set s (openAt D (J.opAt s)) } k (s + 1) (openDo D (J.opAt s)).2
def openJ (D : Dsk) (c : Nat) : Int × Jrn × Dsk := openFrom ⟨c, List.replicate 8 zeroI⟩ 8 0 D
/-- All slots void: so many sectors are left. -/
def fmtFrom : List Int → Dsk → Int × Dsk
  | [], D => D.flush
  | i :: l, D => if (D.read i).2 ≠ 0 then ((D.read i).2, D) else if (D.write i (voidS (D.read i).1)).1 ≠ 0 then D.write i (voidS (D.read i).1) else fmtFrom l (D.write i (voidS (D.read i).1)).2
def fmtJ (D : Dsk) : Int × Dsk := fmtFrom ((List.range 8).flatMap fun (s : Nat) => [4 + (s : Int), 12 + (s : Int)]) D
def sameJ (J : Jrn) (e : En) : Bool := decide ((J.item e.op).kind = 2) && decide ((J.item e.op).stub = stubE e)
def putDo (D : Dsk) (J : Jrn) (e : En) : Int × Dsk :=
  thenD (thenD (if Jrn.kept (J.item e.op) = true ∧ sameJ J e = false then layV D (hdrN e.op) else (0, D)) (layE e (prepN e.op))) fun D => if sameJ J e = true then (0, D) else layS (stubE e) (hdrN e.op) D
def putJ (D : Dsk) (J : Jrn) (e : En) : Int × Jrn × Dsk :=
  if e.right = false then (4, J, D) else if J.has e.op = false then (1, J, D) else if (J.item e.op).kind = 1 ∧ (J.item e.op).ent = e then (0, J, D)
  else if (putDo D J e).1 ≠ 0 then ((putDo D J e).1, J, (putDo D J e).2) else (0, J.put e.op ⟨1, stubE e, e⟩, (putDo D J e).2)
def voidDo (D : Dsk) (J : Jrn) (n : Int) : Int × Dsk :=
  if (J.item n).kind = 3 then thenD (layV D (prepN n)) (fun D => layV D (hdrN n)) else thenD (layV D (hdrN n)) (fun D => layV D (prepN n))
def voidJ (D : Dsk) (J : Jrn) (n : Int) : Int × Jrn × Dsk :=
  if J.has n = false then (1, J, D) else if (J.item n).kind = 0 then (0, J, D)
  else if (voidDo D J n).1 ≠ 0 then ((voidDo D J n).1, J, (voidDo D J n).2) else (0, J.put n zeroI, (voidDo D J n).2)
/-- The first k slots, behind a new checkpoint. -/
def shiftTo (J : Jrn) (c : Int) (k : Nat) : List It := (List.range 8).map fun s => if s < k ∧ (J.opAt s : Int) ≤ c then zeroI else nth J.items s
def shiftJ (J : Jrn) (c : Int) : Int × Jrn :=
  if c < J.check ∨ 72057594037927927 < c then (1, J) else (0, ⟨c.toNat, shiftTo J c 8⟩)
def readJ (D : Dsk) (J : Jrn) (n : Int) : En × Int × Jrn :=
  if J.has n = false then (zeroE, 1, J) else if (J.item n).kind = 0 then (zeroE, 8, J) else if (J.item n).kind = 2 ∨ (J.item n).kind = 3 then (zeroE, 11, J)
  else if (D.read (prepN n)).2 ≠ 0 then (zeroE, (D.read (prepN n)).2, J)
  else if (entP (D.read (prepN n)).1).2.1 = false ∨ stubE (entP (D.read (prepN n)).1).1 ≠ (J.item n).stub then (zeroE, 11, J.put n ⟨2, (J.item n).stub, zeroE⟩)
  else ((entP (D.read (prepN n)).1).1, 0, J)
/-- One slot is scrubbed. -/
def scrubAt (D : Dsk) (J : Jrn) (s : Nat) : It :=
  if (nth J.items s).kind = 1 ∧ ((entP (D.read (prepN (J.opAt s))).1).2.1 = false ∨ stubE (entP (D.read (prepN (J.opAt s))).1).1 ≠ (nth J.items s).stub) then ⟨2, (nth J.items s).stub, zeroE⟩ else nth J.items s
def scrubDo (D : Dsk) (J : Jrn) (s : Nat) : Int × Dsk :=
  if (scrubAt D J s).kind = 0 then cleanJ D (J.opAt s) (D.read (prepN (J.opAt s))).1 (D.read (hdrN (J.opAt s))).1
  else if (scrubAt D J s).kind ≠ 3 ∧ ((stbP (D.read (hdrN (J.opAt s))).1).2.1 = false ∨ (stbP (D.read (hdrN (J.opAt s))).1).1 ≠ (scrubAt D J s).stub) then layS (scrubAt D J s).stub (hdrN (J.opAt s)) D else (0, D)
def scrubFrom (J : Jrn) : Nat → Nat → Dsk → Int × Jrn × Dsk
  | 0, _, D => (0, J, D)
  | k + 1, s, D =>
    if (scrubDo D J s).1 ≠ 0 then ((scrubDo D J s).1, { J with items := J.items.set s (scrubAt D J s) }, (scrubDo D J s).2) else scrubFrom { J with items := J.items.set s (scrubAt D J s) } k (s + 1) (scrubDo D J s).2
def scrubJ (D : Dsk) (J : Jrn) : Int × Jrn × Dsk := scrubFrom J 8 0 D
theorem Jrn.opAt_mod (J : Jrn) {s : Nat} (h : s < 8) : J.opAt s % 8 = s ∧ J.check < J.opAt s ∧ J.opAt s ≤ J.check + 8 := by unfold Jrn.opAt; omega
theorem Jrn.opAt_of (J : Jrn) {n : Int} (h : J.has n = true) : 0 < n ∧ (n % 8).toNat < 8 ∧ (J.opAt (n % 8).toNat : Int) = n := by
  unfold Jrn.has at h
  simp only [Bool.and_eq_true, decide_eq_true_eq] at h
  unfold Jrn.opAt
  omega
theorem prepN_opAt (J : Jrn) {s : Nat} (h : s < 8) : prepN (J.opAt s) = ((4 + s : Nat) : Int) ∧ hdrN (J.opAt s) = ((12 + s : Nat) : Int) := by
  have := (J.opAt_mod h).1
  unfold prepN hdrN
  omega
end Go.Cmp
