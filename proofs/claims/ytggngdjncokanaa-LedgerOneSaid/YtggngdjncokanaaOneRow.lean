/-
  Whatever comes in, the law LedgerOne returns true, and what came in reads as it did. No further condition.
-/
import Derived.Test.YtggngdjncokanaaRows
import Derived.WalkKit
import Derived.ProofKit
import Derived.OpenShut
import Derived.ShutString
import Derived.ChangeOld
import Derived.Below
import Derived.Test.YtggngdjncokanaaOneLaw
import Derived.Test.YtggngdjncokanaaRdAct7
set_option linter.unusedSimpArgs false
set_option linter.unusedVariables false
set_option linter.unusedSectionVars false
namespace Go.Proofs.Ytggngdjncokanaa.ledgerOne
open Go.ChangeShapes Go.WideShapes Go.ChangeAt Go.RowKit
open Go.ChangeMaps (open_string shut_string)
set_option linter.unusedVariables false

theorem own : ownKnob Try.prog.godebug = none := by kernel_rfl
theorem laidOut : laidOutB Try.prog = true := by kernel_rfl

set_option maxRecDepth 100000 in
theorem lifted (os : Os) (started : os.Started) (H : Type) (enc : TypeId × Value → H) :
    ReturnsInHanded {} Try.checked os 3 .any (Rows.ledgerOneSpec.pre6 enc Try.prog Try.f3 Rows.ledgerOneRow.domain false) (Rows.ledgerOneSpec.post enc Try.prog Try.f3 false true false false) := by
  refine returnsInHanded_of_change (C := Try.checked) own started (by kernel_rfl) Try.func3
    (ChangeSpec.witness6 (enc := enc) (C := Try.checked) false ⟨#[], #[.slice none 0 0, .slice none 0 0, .slice none 0 0], []⟩ 8 (by kernel_rfl) (by kernel_rfl) (by kernel_rfl) (by kernel_rfl)) ?_
  intro W base args ds gs before hval0 hW hcnd _
  have hval : ∀ (j : Nat) t v, Try.f3.params[j]? = some t → args[j]? = some v → Value.okWide Try.prog W .any base t v := hval0
  have hW' := hW
  obtain ⟨p, q, hA0, hV, rfl, hfz, hnd⟩ := hW
  have hA : DataW.TrodAll enc Try.prog W 0 (fun _ => true) true Try.f3.params.toList args.toList ds p := hA0
  rw [Try.params3] at hA hval
  obtain ⟨v0, vs0, d0, ds0, p0, q0, hargs, rfl, rfl, h0, r0⟩ := trodAll_cons hA
  obtain ⟨v1, vs1, d1, ds1, p1, q1, rfl, rfl, rfl, h1, r1⟩ := trodAll_cons r0
  obtain ⟨v2, vs2, d2, ds2, p2, q2, rfl, rfl, rfl, h2, r2⟩ := trodAll_cons r1
  obtain ⟨rfl, rfl, rfl⟩ := trodAll_nil r2
  obtain rfl : args = #[v0, v1, v2] := by cases args; simp_all
  obtain ⟨rfl, rfl⟩ := trodVars_none hV
  obtain ⟨a0, len0, cap0, rfl⟩ := okWide_slice Try.underlying22 (hval 0 22 v0 rfl rfl)
  obtain ⟨a1, len1, cap1, rfl⟩ := okWide_slice Try.underlying23 (hval 1 23 v1 rfl rfl)
  obtain ⟨a2, len2, cap2, rfl⟩ := okWide_slice Try.underlying24 (hval 2 24 v2 rfl rfl)
  have k0 := h0
  have lt0 : ∀ x ∈ p0, x.block < W.heap.size := by obtain ⟨m, hm⟩ := k0; exact DataW.trod_lt m _ _ _ hm
  obtain ⟨fuel0, hf0⟩ := h0
  have hC0 : Try.prog.cellsOf 53 = 2 := by kernel_rfl
  obtain ⟨u0, L0, e0, ok0, R0⟩ := Go.Cmp.rd_slice (Go.Proofs.Ytggngdjncokanaa.Act7.Any) (Go.Proofs.Ytggngdjncokanaa.Act7.cells) 2 (fun _ => rfl) Try.underlying22 hC0 (fun n cs' y hl h' => Go.Proofs.Ytggngdjncokanaa.act_of hl h') hf0
  obtain rfl : Value.slice a0 len0 cap0 = u0 := by simpa [Value.cells] using e0
  have k1 := h1
  have lt1 : ∀ x ∈ p1, x.block < W.heap.size := by obtain ⟨m, hm⟩ := k1; exact DataW.trod_lt m _ _ _ hm
  obtain ⟨fuel1, hf1⟩ := h1
  have hC1 : Try.prog.cellsOf 47 = 4 := by kernel_rfl
  obtain ⟨u1, L1, e1, ok1, R1⟩ := Go.Cmp.rd_slice (Go.Proofs.Ytggngdjncokanaa.Acc.Ok) (Go.Proofs.Ytggngdjncokanaa.Acc.cells) 4 (fun _ => rfl) Try.underlying23 hC1 (fun n cs' y hl h' => Go.Proofs.Ytggngdjncokanaa.acc_of hl h') hf1
  obtain rfl : Value.slice a1 len1 cap1 = u1 := by simpa [Value.cells] using e1
  have k2 := h2
  have lt2 : ∀ x ∈ p2, x.block < W.heap.size := by obtain ⟨m, hm⟩ := k2; exact DataW.trod_lt m _ _ _ hm
  obtain ⟨fuel2, hf2⟩ := h2
  have hC2 : Try.prog.cellsOf 45 = 4 := by kernel_rfl
  obtain ⟨u2, L2, e2, ok2, R2⟩ := Go.Cmp.rd_slice (Go.Proofs.Ytggngdjncokanaa.Tra.Ok) (Go.Proofs.Ytggngdjncokanaa.Tra.cells) 4 (fun _ => rfl) Try.underlying24 hC2 (fun n cs' y hl h' => Go.Proofs.Ytggngdjncokanaa.tra_of hl h') hf2
  obtain rfl : Value.slice a2 len2 cap2 = u2 := by simpa [Value.cells] using e2
  clear hA0 hval0
  refine (Go.Proofs.Ytggngdjncokanaa.law_one _ _ _ L0 L1 L2 W R0 R1 ok1 R2 ok2).mono fun e W' ⟨he, hst⟩ => ?_
  have bel := hst.base.below
  subst he
  exact ⟨_, rfl, _, _, _, [], _, [], hW', trodAll_mk1 (shut_bool Try.underlying4 _), (trodAll_cons_mk (Below.trod laidOut (by kernel_rfl) (of_decide_eq_true (by kernel_rfl)) k0 bel lt0) (trodAll_cons_mk (Below.trod laidOut (by kernel_rfl) (of_decide_eq_true (by kernel_rfl)) k1 bel lt1) (trodAll_cons_mk (Below.trod laidOut (by kernel_rfl) (of_decide_eq_true (by kernel_rfl)) k2 bel lt2) trodAll_mk0))), rfl, bel.frame _, fun h => by cases h⟩

theorem over : Rows.ledgerOneRow.holds Try.pinned (OpenSpec.ofChange Rows.ledgerOneSpec) :=
  OpenClaim.holds_of_wide 3 Try.f3 rfl rfl rfl rfl rfl rfl rfl ⟨rfl, rfl, rfl, rfl, rfl⟩ rfl rfl rfl rfl rfl (by kernel_rfl) Try.func3 (by kernel_rfl)
    (of_decide_eq_true (by kernel_rfl)) (by unfold Func.isWrapper; first | (rw [if_pos (by decide +kernel)]; kernel_rfl) | (rw [if_neg (by decide +kernel)]; exact ⟨rfl, rfl⟩))
    (fun os started H enc _ => lifted os started H enc)

/-- The statement. -/
theorem proved : Rows.LedgerOneSaid := over
#print axioms proved
end Go.Proofs.Ytggngdjncokanaa.ledgerOne
