/-
  Accounts that came in.
-/
import Derived.Test.YtggngdjncokanaaAccLaw
import Derived.Test.YtggngdjncokanaaRdTra
import Derived.Deep.Slices
import Derived.Deep.Fields
import Derived.ChangeSame
set_option linter.unusedSimpArgs false
set_option linter.unusedVariables false
set_option linter.unusedSectionVars false
namespace Go.Proofs.Ytggngdjncokanaa
open Go.RowKit Go.Cmp Go.ChangeShapes Go.WideShapes Go.Deep
set_option maxRecDepth 100000

section
variable {H : Type} {enc : TypeId × Value → H} {w : World} {base : Nat} {spare : Nat → Bool} {held : Bool}

theorem i64_of {n : Nat} {c : Value} {y : Option (DataW H × List MemPlace)} (h : DataW.trod enc Try.prog w base spare held n 3 [c] = y) (hy : y.isSome = true) : ∃ k : Int, (-9223372036854775808 ≤ k ∧ k ≤ 9223372036854775807) ∧ c = .int .i64 k := by
  obtain ⟨z, rfl⟩ := Option.isSome_iff_exists.1 hy
  obtain ⟨v, hv, _, hw⟩ := DataW.trod_int Try.underlying3 h
  have e1 : IntKind.i64.min = -9223372036854775808 := rfl
  have e2 : IntKind.i64.max = 9223372036854775807 := rfl
  simp [Lit.wf, e1, e2] at hw
  refine ⟨v, by omega, ?_⟩
  simpa using hv

theorem acc_of {n : Nat} {cs : List Value} {y : DataW H × List MemPlace} (hl : cs.length = 4) (h : DataW.trod enc Try.prog w base spare held n 47 cs = some y) : ∃ X : Acc, X.Ok ∧ cs = X.cells := by
  obtain ⟨ys, n', _, _, _, hyl, hf⟩ := DataW.trod_struct (P := Try.prog) (t := 47) rfl h
  have hc : Try.prog.cellsOf 43 = 1 := by kernel_rfl
  have hci : Try.prog.cellsOf 3 = 1 := by kernel_rfl
  match cs, hl with
  | [c0, c1, c2, c3], _ =>
    have h0 : DataW.trod enc Try.prog w base spare held n' 43 (([c0, c1, c2, c3].drop 0).take (Try.prog.cellsOf 43)) = ys[0]? := hf 0 _ rfl
    have h1 : DataW.trod enc Try.prog w base spare held n' 3 (([c0, c1, c2, c3].drop 1).take (Try.prog.cellsOf 3)) = ys[1]? := hf 1 _ rfl
    have h2 : DataW.trod enc Try.prog w base spare held n' 43 (([c0, c1, c2, c3].drop 2).take (Try.prog.cellsOf 43)) = ys[2]? := hf 2 _ rfl
    have h3 : DataW.trod enc Try.prog w base spare held n' 43 (([c0, c1, c2, c3].drop 3).take (Try.prog.cellsOf 43)) = ys[3]? := hf 3 _ rfl
    have hyl4 : ys.length = 4 := hyl
    rw [hc] at h0 h2 h3
    rw [hci] at h1
    obtain ⟨k0, b0, rfl⟩ := u64_of h0 (by simp; omega)
    obtain ⟨k1, b1, rfl⟩ := i64_of h1 (by simp; omega)
    obtain ⟨k2, b2, rfl⟩ := u64_of h2 (by simp; omega)
    obtain ⟨k3, b3, rfl⟩ := u64_of h3 (by simp; omega)
    exact ⟨⟨k0, k1, k2, k3⟩, ⟨b0, b2, b3, b1.1, b1.2⟩, rfl⟩

theorem rd_accs {a0 : Option Addr} {len cap : Nat} {d : DataW H} {p : List MemPlace} (h : DataW.Trod enc Try.prog w base spare held 23 (.slice a0 len cap) d p) :
    ∃ xs : List Acc, xs.length = len ∧ (∀ x ∈ xs, x.Ok) ∧ Rd w 4 (.slice a0 len cap) len (xs.flatMap Acc.cells) := by
  obtain ⟨fuel, hf⟩ := h
  have hC : Try.prog.cellsOf 47 = 4 := by kernel_rfl
  rcases open_slice (P := Try.prog) (e := 47) rfl hf with ⟨hcs, _⟩ | ⟨a, l, c, m, n, D, Pl, hcs, _, hl, hm, hmm, _, hi⟩
  · simp [Value.cells] at hcs
    obtain ⟨rfl, rfl, rfl⟩ := hcs
    exact ⟨[], rfl, by simp, Rd.nil _ _⟩
  · simp [Value.cells] at hcs
    obtain ⟨rfl, rfl, rfl⟩ := hcs
    have hlm : len ≤ m := by rw [hmm]; split <;> omega
    obtain ⟨xs, h1, h2, h3⟩ := rows_of Acc.Ok Acc.cells 4 (fun _ => rfl) (w := w) a len (fun i hlt => by
      obtain ⟨cs', hc, ht'⟩ := hi i (by omega)
      rw [hC] at hc
      obtain ⟨_, hcl, hat⟩ := World.cells?_some hc
      obtain ⟨X, hX, rfl⟩ := acc_of hcl ht'
      exact ⟨X, hX, hat⟩)
    have hfl : (xs.flatMap Acc.cells).length = len * 4 := by
      rw [← h1]
      clear h1 h2 h3
      induction xs with
      | nil => simp
      | cons a r ih => rw [List.flatMap_cons, List.length_append, ih, List.length_cons, Nat.add_mul]; simp [Acc.cells]; omega
    exact ⟨xs, h1, h2, hfl, some a, cap, rfl, hl, hm, by simp, fun b hb i y hy => by cases hb; exact h3 i y hy⟩
end
end Go.Proofs.Ytggngdjncokanaa
