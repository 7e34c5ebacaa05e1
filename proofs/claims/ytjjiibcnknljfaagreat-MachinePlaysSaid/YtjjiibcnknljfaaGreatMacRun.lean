/-
  A machine that does a list of entries, in plain lists.
-/
import Derived.Test.YtjjiibcnknljfaaGreatMacPut
import Derived.Test.YtjjiibcnknljfaaGreatLedC
set_option linter.unusedSimpArgs false
set_option linter.unusedVariables false
set_option linter.unusedSectionVars false
set_option maxRecDepth 100000
namespace Go.Proofs.YtjjiibcnknljfaaGreat
open Go.RowKit Go.Cmp

def runM (m : Mac) (l : List En) : Mac := l.foldl (fun m e => (m.apply e).2) m
theorem runM_snoc (m : Mac) (l : List En) (e : En) : runM m (l ++ [e]) = ((runM m l).apply e).2 := by unfold runM; rw [List.foldl_append]; rfl
theorem runM_next (m : Mac) {l : List En} {j : Nat} (h : j < l.length) : runM m (l.take (j + 1)) = ((runM m (l.take j)).apply (nth l j)).2 := by rw [take_nth h, runM_snoc]
theorem reg_gd {m : Mac} (h : m.D.Good) (e : En) : (m.reg e).2.D.Good := by unfold Mac.reg; split <;> exact h
theorem req_gd {m : Mac} (h : m.D.Good) (e : En) : (m.req e).2.D.Good := by
  unfold Mac.req
  split
  · exact h
  · split
    · exact doIt_gd h _ _
    · split <;> exact h
theorem apply_gd {m : Mac} (h : m.D.Good) (e : En) : (m.apply e).2.D.Good := by
  unfold Mac.apply
  split
  · exact h
  · split
    · exact h
    · show (m.does e).2.D.Good
      unfold Mac.does
      split
      · exact reg_gd (m := { m with mark := markE e }) h e
      · exact req_gd (m := { m with mark := markE e }) h e
def Mac.Gd (m : Mac) : Prop := m.Ok ∧ m.D.Good
theorem newMac_gd : newMac.Gd := ⟨newMac_ok, newLed_good⟩
theorem step_gd {m : Mac} (h : m.Gd) {e : En} (hp : e.parent < 18446744073709551616) : (m.apply e).2.Gd := ⟨apply_ok h.1 hp, apply_gd h.2 e⟩
theorem runM_gd : ∀ (l : List En) {m : Mac}, m.Gd → parL l → (runM m l).Gd
  | [], _, h, _ => h
  | e :: l, m, h, hp => runM_gd l (m := (m.apply e).2) (step_gd h (hp e List.mem_cons_self)) (fun x hx => hp x (List.mem_cons_of_mem _ hx))
theorem parL_take {l : List En} (h : parL l) (j : Nat) : parL (l.take j) := fun x hx => h x (List.mem_of_mem_take hx)
end Go.Proofs.YtjjiibcnknljfaaGreat
