/-
  A journal: stubs and entries compared.
-/
import Derived.Test.YtnjboimjlbgdiaaJrn4
import Derived.Laws.Tables
set_option linter.unusedSimpArgs false
set_option linter.unusedVariables false
set_option linter.unusedSectionVars false
set_option maxRecDepth 100000
namespace Go.Cmp
open Go.RowKit
section
variable {P : Program} {ops : Array Oper} {rest : List Oper} {o : Oper} {a : Act} {Q : Exit → Act → World → Prop} {w : World}
theorem g_build {d : Option Tmp} {ty : TypeId} {pos : String} {af : Array Edge} {gd : Option (Nat × Bool)} {t : TypeId} {ps : Array (Nat × Operand)} (H : wpList P ops Q (⟨d, .build t ps, ty, pos, af, gd⟩ :: rest) a w) : wpList P ops Q (⟨d, .build t ps, ty, pos, af, gd⟩ :: rest) a w := H
theorem x_build {t : TypeId} {ps : List (Nat × Operand)} {l : List (Nat × Value)} {cells : Array Value} (ho : o.op = .build t ps.toArray) (hl : ps.map (fun x => (x.1, a.eval x.2)) = l) (h : P.built t l = some cells) : (execOp a.eval o).run P w = .ok (.value (.agg cells)) w := by
  have h2 : P.built t (ps.toArray.map fun (x : Nat × Operand) => (x.1, a.eval x.2)).toList = some cells := by simp only [List.map_toArray, hl]; exact h
  simp only [execOp, ho]
  exact by simpa using congrArg (fun r => r.andThen fun v w' => Result.ok (Next.value v) w') (run_build w t _ cells h2)
end
end Go.Cmp
namespace Go.Proofs.Ytnjboimjlbgdiaa
open Go.RowKit Go.Cmp

section
set_option maxHeartbeats 4000000 in
theorem eqStb (s t : Stb) : eqV Try.prog 4 35 (.agg s.cells.toArray) (.agg t.cells.toArray) = some (decide (s = t)) := by
  obtain ⟨a1, a2, a3, a4, a5⟩ := s
  obtain ⟨b1, b2, b3, b4, b5⟩ := t
  have e : eqV Try.prog 4 35 (.agg (Stb.cells ⟨a1, a2, a3, a4, a5⟩).toArray) (.agg (Stb.cells ⟨b1, b2, b3, b4, b5⟩).toArray) = some ((a1 == b1) && ((a2 == b2) && ((a3 == b3) && (((a4 : Int) == (b4 : Int)) && (((a5 : Int) == (b5 : Int)) && true))))) := by rfl
  rw [e]
  congr 1
  rw [Bool.eq_iff_iff]
  simp only [Bool.and_eq_true, beq_iff_eq, Int.ofNat_inj, decide_eq_true_eq, and_true, Stb.mk.injEq]
theorem str_beq (a b : List UInt8) : ((⟨a.toArray⟩ : ByteArray) == ⟨b.toArray⟩) = decide (a = b) := by
  rw [Bool.eq_iff_iff, decide_eq_true_eq]
  constructor
  · intro h
    have h2 : (⟨a.toArray⟩ : ByteArray) = ⟨b.toArray⟩ := by
      have h3 : (⟨a.toArray⟩ : ByteArray).data = (⟨b.toArray⟩ : ByteArray).data := by simpa using (show (a.toArray == b.toArray) = true from h)
      exact congrArg ByteArray.mk h3
    simpa using congrArg (fun x : ByteArray => x.data.toList) h2
  · rintro rfl
    show (a.toArray == a.toArray) = true
    simp
set_option maxHeartbeats 4000000 in
theorem eqEn (s t : En) : eqV Try.prog 4 24 (.agg s.cells.toArray) (.agg t.cells.toArray) = some (decide (s = t)) := by
  obtain ⟨a1, a2, a3, a4, a5, a6, a7, a8, a9⟩ := s
  obtain ⟨b1, b2, b3, b4, b5, b6, b7, b8, b9⟩ := t
  have e : eqV Try.prog 4 24 (.agg (En.cells ⟨a1, a2, a3, a4, a5, a6, a7, a8, a9⟩).toArray) (.agg (En.cells ⟨b1, b2, b3, b4, b5, b6, b7, b8, b9⟩).toArray) = some ((a1 == b1) && ((a2 == b2) && ((a3 == b3) && (((a4 : Int) == (b4 : Int)) && ((a5 == b5) && ((a6 == b6) && ((a7 == b7) && ((a8 == b8) && (((⟨a9.toArray⟩ : ByteArray) == ⟨b9.toArray⟩) && true))))))))) := by rfl
  rw [e]
  congr 1
  rw [Bool.eq_iff_iff, str_beq]
  simp only [Bool.and_eq_true, beq_iff_eq, Int.ofNat_inj, decide_eq_true_eq, and_true, En.mk.injEq]
theorem stbGuard : (Try.prog).eqGuardType (Try.prog).depth 35 = false := by kernel_rfl
theorem enGuard : (Try.prog).eqGuardType (Try.prog).depth 24 = false := by kernel_rfl
set_option maxHeartbeats 4000000 in
theorem built_item (k : Int) (s : Stb) (e : En) : (Try.prog).built 37 [(0, .int .i64 k), (1, .agg s.cells.toArray), (2, .agg e.cells.toArray)] = some (It.cells ⟨k, s, e⟩).toArray := by kernel_rfl
set_option maxHeartbeats 4000000 in
theorem built_item2 (k : Int) (s : Stb) : (Try.prog).built 37 [(0, .int .i64 k), (1, .agg s.cells.toArray)] = some (It.cells ⟨k, s, zeroE⟩).toArray := by kernel_rfl
end
end Go.Proofs.Ytnjboimjlbgdiaa
