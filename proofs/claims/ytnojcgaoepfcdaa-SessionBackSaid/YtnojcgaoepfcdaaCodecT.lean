/-
  What is taken from bytes in which it was laid.
-/
import Derived.Test.YtnojcgaoepfcdaaCodec
namespace Go.Cmp
open Go.RowKit
theorem takeN_at (pre post : List UInt8) (k n : Nat) (h : n < 256 ^ k) : takeN (pre ++ leB k n ++ post) pre.length k = (n, 0) := by
  unfold takeN
  rw [if_neg (by simp only [List.length_append, leB_length]; omega), List.append_assoc, List.drop_left, List.take_left' (leB_length k n), leN_leB, Nat.mod_eq_of_lt h]
theorem takeT_at (pre post t : List UInt8) (most : Int) (h : (t.length : Int) ≤ most) (h2 : t.length < 65536) : takeT (pre ++ txt t ++ post) pre.length most = (t, (pre.length : Int) + 2 + t.length, 0) := by
  have e : leN (((pre ++ txt t ++ post).drop pre.length).take 2) = t.length := by
    unfold txt
    rw [List.append_assoc, List.drop_left, List.append_assoc, List.take_left' (leB_length 2 _), leN_leB, Nat.mod_eq_of_lt (by omega)]
  have e2 : (pre ++ txt t ++ post).drop (pre.length + 2) = t ++ post := by
    unfold txt
    rw [← List.drop_drop, List.append_assoc, List.drop_left, List.append_assoc, List.drop_left' (leB_length 2 _)]
  unfold takeT
  rw [e, e2, if_neg (by simp only [List.length_append, txt_length]; omega), if_neg (by omega), if_neg (by simp only [List.length_append, txt_length]; omega), List.take_left]

/-- The end of a call whose first result is a cell of several words, and two more. -/
theorem end_cell3 {P : Program} {a : Act} {S : List Nat} {w0 w : World} {M : List Ent} (hS : St S w0 w M) {fn : Func} {R : Ending → World → Prop} {p q r : Tmp} {ty : TypeId} (hr : fn.results = #[.cell p ty, .tmp q, .tmp r]) {g : Nat} (hp : a.tmps.getD p undef = .pointer (some ⟨g, 0, none⟩)) {i : Nat} {cs : List Value} {e : TypeId} {fr : Nat × Nat} {d : TypeDesc} {u v : Value} (hq : a.tmps.getD q undef = u) (hv : a.tmps.getD r undef = v) (hu : P.underlying ty = some d) (hd : (match d with | .struct _ | .array _ _ => true | _ => false) = true)
    (hdf : a.defers = []) (hM : Ix M i (.row g cs e fr) := by (repeat (first | exact Ix.here | apply Ix.there))) (hi : (P.info? ty).map (·.size) = some cs.length := by rfl) (h : R (.returned (.tuple #[.agg cs.toArray, u, v])) w) : bodyPost P fn R .ret a w := by
  refine bodyPost_ret (v := .tuple #[.agg cs.toArray, u, v]) ?_ hdf h
  have hp' : a.tmps[p]?.getD undef = .pointer (some ⟨g, 0, none⟩) := by simpa using hp
  have hq' : a.tmps[q]?.getD undef = u := by simpa using hq
  have hv' : a.tmps[r]?.getD undef = v := by simpa using hv
  have hl := run_loadVar_row (P := P) w g e ty cs.toArray fr d (hS.row hM.get) hu hd (by simpa using hi)
  simp [results, hr, hp', hq', hv', asAddr, hl]
end Go.Cmp
