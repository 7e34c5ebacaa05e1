/-
  event's exported functions on lists, by the contracts of put and take.
-/
import Derived.Test.YtggngdjncokanaaClos
set_option linter.unusedSimpArgs false
set_option linter.unusedVariables false
set_option linter.unusedSectionVars false
namespace Go.Proofs.Ytggngdjncokanaa
open Go.RowKit Go.Cmp
set_option maxRecDepth 100000

theorem U_flatMap (l : List Nat) : U l = l.flatMap (fun x : Nat => [.int .u64 (x : Int)]) := by
  unfold U
  induction l with
  | nil => rfl
  | cons a r ih => simp_all

theorem byID_len (x : Nat) (s : List UInt8) (h : byID x = some s) : s.length ≤ 32 := by
  simp only [byID, Option.some.injEq] at h
  subst h
  simp [leB_length]

theorem byAcc_len (x : Acc) (s : List UInt8) (h : byAcc x = some s) : s.length ≤ 32 := by
  unfold byAcc at h
  split at h
  · simp only [Option.some.injEq] at h
    subst h
    simp [leB_length]
  · cases h

theorem byTra_len (x : Tra) (s : List UInt8) (h : byTra x = some s) : s.length ≤ 32 := by
  simp only [byTra, Option.some.injEq] at h
  subst h
  simp [leB_length]

theorem putIDs_any (xs : List Nat) (vl : Value) (n : Nat) (w : World) (hn : xs.length = n) (hx : ∀ x ∈ xs, x < 256 ^ 8) (hL : Rd w 1 vl n (U xs)) :
    Calls Try.prog 16 #[vl] w fun e w' => e = .returned (.tuple #[.string ⟨(putS byID xs).1.toArray⟩, .int .i64 (putS byID xs).2]) ∧ St [] w w' [] := by
  go_enter Try.func16, Try.ntmps16
  refine St.startAt w fun w1 hS => ?_
  go_wp2_with (fail)
  refine (putsID_any 44 (Try.call44) (fun x : Nat => [.int .u64 (x : Int)]) byID xs vl n _ hn (fun _ => rfl) (by intro x u hu; simp at hu; subst hu; rfl) byID_len (fun x h => eachID x (hx x h)) (by rw [← U_flatMap]; exact hS.old0 hL)).mono ?_
  rintro e w2 ⟨rfl, hS2⟩
  go_wp2
  go_ret2
  exact ⟨rfl, hS.call hS2⟩

theorem putAccounts_any (xs : List Acc) (vl : Value) (n : Nat) (w : World) (hn : xs.length = n) (hx : ∀ x ∈ xs, x.Ok) (hL : Rd w 4 vl n (xs.flatMap Acc.cells)) :
    Calls Try.prog 12 #[vl] w fun e w' => e = .returned (.tuple #[.string ⟨(putS byAcc xs).1.toArray⟩, .int .i64 (putS byAcc xs).2]) ∧ St [] w w' [] := by
  go_enter Try.func12, Try.ntmps12
  refine St.startAt w fun w1 hS => ?_
  go_wp2_with (fail)
  refine (putsAccount_any 27 (Try.call27) Acc.cells byAcc xs vl n _ hn (fun _ => rfl) (by intro x u hu; simp [Acc.cells] at hu; rcases hu with rfl | rfl | rfl | rfl <;> rfl) byAcc_len (fun x h => eachAcc x (hx x h)) (hS.old0 hL)).mono ?_
  rintro e w2 ⟨rfl, hS2⟩
  go_wp2
  go_ret2
  exact ⟨rfl, hS.call hS2⟩

theorem putTransfers_any (xs : List Tra) (vl : Value) (n : Nat) (w : World) (hn : xs.length = n) (hx : ∀ x ∈ xs, x.Ok) (hL : Rd w 4 vl n (xs.flatMap Tra.cells)) :
    Calls Try.prog 13 #[vl] w fun e w' => e = .returned (.tuple #[.string ⟨(putS byTra xs).1.toArray⟩, .int .i64 (putS byTra xs).2]) ∧ St [] w w' [] := by
  go_enter Try.func13, Try.ntmps13
  refine St.startAt w fun w1 hS => ?_
  go_wp2_with (fail)
  refine (putsTransfer_any 29 (Try.call29) Tra.cells byTra xs vl n _ hn (fun _ => rfl) (by intro x u hu; simp [Tra.cells] at hu; rcases hu with rfl | rfl | rfl | rfl <;> rfl) byTra_len (fun x h => eachTra x (hx x h)) (hS.old0 hL)).mono ?_
  rintro e w2 ⟨rfl, hS2⟩
  go_wp2
  go_ret2
  exact ⟨rfl, hS.call hS2⟩

theorem iDs_any (l : List UInt8) (w : World) (hl : l.length ≤ 140737488355328) :
    Calls Try.prog 65 #[.string ⟨l.toArray⟩] w fun e w' => ∃ v, e = .returned (.tuple #[v, .bool (takeS gID 8 l).2]) ∧ St [] w w' [.vec v 43 1 (takeS gID 8 l).1.length (U (takeS gID 8 l).1)] := by
  go_enter Try.func65, Try.ntmps65
  refine St.startAt w fun w1 hS => ?_
  go_wp2_with (fail)
  refine (takesID_any 80 (Try.call80) (fun x : Nat => [.int .u64 (x : Int)]) gID l 8 _ (fun _ => rfl) (by intro x u hu; simp at hu; subst hu; rfl) (by omega) (by omega) hl (fun c h w => ids1 c h w)).mono ?_
  rintro e w2 ⟨v, rfl, hS2⟩
  go_wp2
  go_ret2
  exact ⟨v, rfl, by rw [U_flatMap]; exact hS.call hS2⟩

theorem accounts_any (l : List UInt8) (w : World) (hl : l.length ≤ 140737488355328) :
    Calls Try.prog 31 #[.string ⟨l.toArray⟩] w fun e w' => ∃ v, e = .returned (.tuple #[v, .bool (takeS gAcc 9 l).2]) ∧ St [] w w' [.vec v 47 4 (takeS gAcc 9 l).1.length ((takeS gAcc 9 l).1.flatMap Acc.cells)] := by
  go_enter Try.func31, Try.ntmps31
  refine St.startAt w fun w1 hS => ?_
  go_wp2_with (fail)
  refine (takesAccount_any 61 (Try.call61) Acc.cells gAcc l 9 _ (fun _ => rfl) (by intro x u hu; simp [Acc.cells] at hu; rcases hu with rfl | rfl | rfl | rfl <;> rfl) (by omega) (by omega) hl (fun c h w => accounts1 c h w)).mono ?_
  rintro e w2 ⟨v, rfl, hS2⟩
  go_wp2
  go_ret2
  exact ⟨_, rfl, hS.call hS2⟩

theorem transfers_any (l : List UInt8) (w : World) (hl : l.length ≤ 140737488355328) :
    Calls Try.prog 34 #[.string ⟨l.toArray⟩] w fun e w' => ∃ v, e = .returned (.tuple #[v, .bool (takeS gTra 32 l).2]) ∧ St [] w w' [.vec v 45 4 (takeS gTra 32 l).1.length ((takeS gTra 32 l).1.flatMap Tra.cells)] := by
  go_enter Try.func34, Try.ntmps34
  refine St.startAt w fun w1 hS => ?_
  go_wp2_with (fail)
  refine (takesTransfer_any 64 (Try.call64) Tra.cells gTra l 32 _ (fun _ => rfl) (by intro x u hu; simp [Tra.cells] at hu; rcases hu with rfl | rfl | rfl | rfl <;> rfl) (by omega) (by omega) hl (fun c h w => transfers1 c h w)).mono ?_
  rintro e w2 ⟨v, rfl, hS2⟩
  go_wp2
  go_ret2
  exact ⟨_, rfl, hS.call hS2⟩

end Go.Proofs.Ytggngdjncokanaa
