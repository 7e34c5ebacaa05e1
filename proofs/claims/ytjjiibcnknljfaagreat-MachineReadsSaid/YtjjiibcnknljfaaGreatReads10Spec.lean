/-
  A question to a machine, in plain lists.
-/
import Derived.Test.YtjjiibcnknljfaaGreatMacRun
set_option linter.unusedSimpArgs false
set_option linter.unusedVariables false
set_option linter.unusedSectionVars false
set_option maxRecDepth 100000
namespace Go.Proofs.YtjjiibcnknljfaaGreat
open Go.RowKit Go.Cmp

theorem op_step {m : Mac} (hm : m.Ok) {e : En} (hp : e.parent < 18446744073709551616) : (m.apply e).2.mark.op ≤ m.mark.op + 1 := by
  unfold Mac.apply
  cases hr : e.right
  · rw [if_pos rfl]; simp only; omega
  · rw [if_neg (by decide)]
    cases hf : followsE m.mark e
    · rw [if_pos rfl]; simp only; omega
    · rw [if_neg (by decide)]
      unfold followsE at hf
      simp only [Bool.and_eq_true, decide_eq_true_eq] at hf
      have hmk := (markE_fit hr hp).1
      have hd : (m.does e).2.mark = markE e := by
        unfold Mac.does
        split
        · unfold Mac.reg; split <;> rfl
        · unfold Mac.req
          split
          · rfl
          · split
            · rfl
            · split <;> rfl
      show (m.does e).2.mark.op ≤ _
      rw [hd, hmk]
      simp only
      omega
theorem run_op : ∀ (l : List En) {m : Mac}, m.Ok → parL l → (runM m l).mark.op ≤ m.mark.op + l.length
  | [], m, _, _ => by simp [runM]
  | e :: l, m, h, hp => by
    have h1 := hp e List.mem_cons_self
    have h2 := run_op l (m := (m.apply e).2) (apply_ok h h1) (fun x hx => hp x (List.mem_cons_of_mem _ hx))
    have h3 := op_step h h1
    show (runM (m.apply e).2 l).mark.op ≤ _
    rw [List.length_cons]
    omega
/-- A question behind a mark. -/
def askE (m : Mac) (s : Ses) (op : Int) (ids : List UInt8) : En := nextE m.mark ⟨m.mark.view, 0, 0, 0, s.client, s.session, s.request + 1, op, ids⟩
theorem doIt_find (D : Led) {op : Int} (h : op = 4 ∨ op = 5) (body : List UInt8) : (D.doIt op body).2 = D := by
  unfold Led.doIt
  rcases h with rfl | rfl
  · rw [if_neg (by decide), if_neg (by decide), if_pos rfl]
    split <;> rfl
  · rw [if_neg (by decide), if_neg (by decide), if_neg (by decide), if_pos rfl]
    split <;> rfl
theorem ask_says {m : Mac} (hm : m.Ok) (hop : m.mark.op ≤ 60) {s : Ses} (hs : s ∈ m.T) {op : Int} (h45 : op = 4 ∨ op = 5) (ids : List UInt8) (hr : (askE m s op ids).right = true) :
    (m.apply (askE m s op ids)).1.2 = 0 ∧ (m.apply (askE m s op ids)).1.1.kind = 1 ∧ (m.apply (askE m s op ids)).1.1.body = (m.D.doIt op ids).1 ∧ (m.apply (askE m s op ids)).2.D = m.D := by
  obtain ⟨q1, q2⟩ := hm.op
  have ha : askE m s op ids = ⟨m.mark.view, m.mark.op + 1, m.mark.view, m.mark.sum, s.client, s.session, s.request + 1, op, ids⟩ := by
    unfold askE nextE
    have e1 : (if 0 ≤ m.mark.op ∧ m.mark.op < 72057594037927935 then m.mark.op + 1 else 0) = m.mark.op + 1 := if_pos ⟨q1, by omega⟩
    simp only [e1]
  have hfol : followsE m.mark (askE m s op ids) = true := by
    unfold followsE
    rw [hr, ha]
    simp
  have hl := look_at hm.good.one hs
  obtain ⟨r1, r2, r3, r4, r5⟩ := right_may hr
  rw [ha] at r1 r2 r3 r4 r5
  simp only at r1 r2 r3 r4 r5
  have hv : sVerdict m.T s.client s.session (s.request + 1) = 1 := by
    unfold sVerdict
    rw [hl]
    simp only
    rw [if_neg (by simp), if_neg (by omega), if_neg (by omega), if_pos (by omega)]
  have hln := (look_note (t := (m.D.doIt op ids).1) (c := s.client) (r := s.request + 1) (o := m.mark.op + 1) hm.good (by rw [hl]) r3 r4 (doIt_len _ _ _)).2
  have h1 : ¬ op = 1 := by omega
  unfold Mac.apply
  rw [hr, if_neg (by decide), hfol, if_neg (by decide)]
  unfold Mac.does
  have ho1 : (askE m s op ids).oper = op := by rw [ha]
  rw [ho1, if_neg h1]
  unfold Mac.req
  simp only
  rw [ha]
  simp only
  rw [hv, if_neg (by decide), if_pos rfl]
  simp only
  rw [hln]
  exact ⟨by simp, by simp [tellS], by simp [tellS], doIt_find m.D h45 ids⟩
end Go.Proofs.YtjjiibcnknljfaaGreat
