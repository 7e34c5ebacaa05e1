/-
  Bytes are read as headers: what comes of it; the document's take.
-/
import Derived.Test.YtnjboimjlbgdiaaHead5
import Derived.Test.YtnjboimjlbgdiaaCodecU
set_option linter.unusedSimpArgs false
set_option linter.unusedVariables false
set_option linter.unusedSectionVars false
set_option maxRecDepth 100000
namespace Go.Cmp
open Go.RowKit
def num8 (s : List UInt8) (i : Nat) : Nat := leN ((s.drop i).take 8)
def int8 (s : List UInt8) (i : Nat) : Int := IntKind.i64.wrap (num8 s i : Nat)
def hdOf (s : List UInt8) : Hd := ⟨(nth s 8).toNat, (nth s 9).toNat, (nth s 10).toNat, int8 s 24, int8 s 32, int8 s 40, int8 s 48, int8 s 56, int8 s 64, int8 s 72, int8 s 80, num8 s 16⟩
def zeroHd : Hd := ⟨0, 0, 0, 0, 0, 0, 0, 0, 0, 0, 0, 0⟩
def unpH (s : List UInt8) : Hd × List UInt8 × Int := if s.length < 128 then (zeroHd, [], 4) else if packH (hdOf s) (s.drop 128) = (s, 0) then (hdOf s, s.drop 128, 0) else (zeroHd, [], 4)
theorem num8_lt (s : List UInt8) (i : Nat) : num8 s i < 18446744073709551616 := by
  unfold num8
  have h := leN_lt ((s.drop i).take 8)
  have h2 : ((s.drop i).take 8).length ≤ 8 := by rw [List.length_take]; omega
  have h3 : 256 ^ ((s.drop i).take 8).length ≤ 256 ^ 8 := Nat.pow_le_pow_right (by omega) h2
  omega
theorem packH_err (h : Hd) (b : List UInt8) : (packH h b).2 = 0 ∨ (packH h b).2 = 4 ∨ (packH h b).2 = 5 := by
  unfold packH
  split
  · exact .inr (.inl rfl)
  · split
    · exact .inr (.inr rfl)
    · exact .inl rfl
theorem takeN_8 {s : List UInt8} {i : Nat} (h : i + 8 ≤ s.length) : takeN s i 8 = (num8 s i, 0) := by
  unfold takeN num8
  rw [if_neg (by omega)]
end Go.Cmp
namespace Go.Proofs.Ytnjboimjlbgdiaa
open Go.RowKit Go.Cmp
set_option maxRecDepth 100000

section
variable {S : List Nat} {w0 w : World} {M : List Ent}
theorem end_cell3 {P : Program} {a : Act} (hS : St S w0 w M) {fn : Func} {R : Ending → World → Prop} {p q r : Tmp} {ty : TypeId} (hr : fn.results = #[.cell p ty, .tmp q, .tmp r]) {g : Nat} (hp : a.tmps.getD p undef = .pointer (some ⟨g, 0, none⟩)) {i : Nat} {cs : List Value} {e : TypeId} {fr : Nat × Nat} {d : TypeDesc} {u v : Value} (hq : a.tmps.getD q undef = u) (hv : a.tmps.getD r undef = v) (hu : P.underlying ty = some d) (hd : (match d with | .struct _ | .array _ _ => true | _ => false) = true)
    (hdf : a.defers = []) (hM : Ix M i (.row g cs e fr) := by (repeat (first | exact Ix.here | apply Ix.there))) (hi : (P.info? ty).map (·.size) = some cs.length := by rfl) (h : R (.returned (.tuple #[.agg cs.toArray, u, v])) w) : bodyPost P fn R .ret a w := by
  refine bodyPost_ret (v := .tuple #[.agg cs.toArray, u, v]) ?_ hdf h
  have hp' : a.tmps[p]?.getD undef = .pointer (some ⟨g, 0, none⟩) := by simpa using hp
  have hq' : a.tmps[q]?.getD undef = u := by simpa using hq
  have hv' : a.tmps[r]?.getD undef = v := by simpa using hv
  have hl := run_loadVar_row (P := P) w g e ty cs.toArray fr d (hS.row hM.get) hu hd (by simpa using hi)
  simp [results, hr, hp', hq', hv', asAddr, hl]
end
end Go.Proofs.Ytnjboimjlbgdiaa
