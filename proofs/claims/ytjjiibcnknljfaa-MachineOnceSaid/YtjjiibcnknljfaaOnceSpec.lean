/-
  A request takes effect at most once, in plain lists.
-/
import Derived.Test.YtjjiibcnknljfaaMacRun
set_option linter.unusedSimpArgs false
set_option linter.unusedVariables false
set_option linter.unusedSectionVars false
set_option maxRecDepth 100000
namespace Go.Proofs.Ytjjiibcnknljfaa
open Go.RowKit Go.Cmp

/-- No session is later than the last entry. -/
structure Mac.Low (m : Mac) : Prop where
  pos : 0 ≤ m.mark.op
  ses : ∀ s ∈ m.T, s.session ≤ m.mark.op ∧ s.op ≤ m.mark.op
structure Once (m : Mac) (d : En) (t : Ans) : Prop where
  right : d.right = true
  kind : t.kind = 1
  client : t.client = d.client
  low : t.session ≤ m.mark.op
  reg : d.oper = 1 → t.request = 0
  req : d.oper ≠ 1 → t.session = d.session ∧ t.request = d.request
  then' : ∀ s ∈ m.T, s.client = d.client → s.session = t.session → t.request ≤ s.request ∧ (s.request = t.request → tellS s = t)

theorem open_mem {T : List Ses} {c o : Int} {s : Ses} (h : s ∈ (sOpen T c o).2.2) : s ∈ T ∨ s = newSes c o := by
  unfold sOpen at h
  split at h
  · exact .inl h
  · split at h
    · exact .inl h
    · split at h
      · rcases List.mem_append.1 h with h | h
        · exact .inl (List.mem_of_mem_eraseIdx h)
        · simp only [List.mem_singleton] at h; exact .inr h
      · rcases List.mem_append.1 h with h | h
        · exact .inl h
        · simp only [List.mem_singleton] at h; exact .inr h
theorem note_mem {T : List Ses} {c r o : Int} {t : List UInt8} {s : Ses} (h : s ∈ (sNote T c r o t).2) : s ∈ T ∨ ((sLook T c).2 = true ∧ s = { (sLook T c).1 with request := r, op := o, reply := t }) := by
  unfold sNote at h
  split at h
  · exact .inl h
  · rename_i hw
    split at h
    · exact .inl h
    · split at h
      · exact .inl h
      · rcases List.mem_or_eq_of_mem_set h with h | rfl
        · exact .inl h
        · refine .inr ?_
          unfold sLook
          rw [if_neg hw]
          exact ⟨rfl, rfl⟩
theorem verdict_one {T : List Ses} {c s r : Int} (h : sVerdict T c s r = 1) : (sLook T c).2 = true ∧ (sLook T c).1.session = s ∧ r - 1 = (sLook T c).1.request := by
  have h5 := verdict_look (T := T) (c := c) (s := s) (r := r) (by rw [h]; decide)
  refine ⟨h5.1, h5.2, ?_⟩
  unfold sVerdict at h
  rw [if_neg (by rw [h5.1, h5.2]; simp)] at h
  split at h
  · simp at h
  · split at h
    · simp at h
    · split at h
      · assumption
      · simp at h
theorem verdict_two {T : List Ses} {c s r : Int} (h : sVerdict T c s r = 2) : (sLook T c).2 = true ∧ (sLook T c).1.session = s ∧ r = (sLook T c).1.request := by
  have h5 := verdict_look (T := T) (c := c) (s := s) (r := r) (by rw [h]; decide)
  refine ⟨h5.1, h5.2, ?_⟩
  unfold sVerdict at h
  rw [if_neg (by rw [h5.1, h5.2]; simp)] at h
  split at h
  · assumption
  · split at h
    · simp at h
    · split at h
      · simp at h
      · simp at h
/-- An entry that is done is the next one. -/
theorem apply_cases (m : Mac) (e : En) : ((m.apply e).2 = m ∧ (m.apply e).1.2 ≠ 0) ∨
    (e.right = true ∧ e.op - 1 = m.mark.op ∧ (m.apply e).1.2 = 0 ∧ (m.apply e).1.1 = (m.does e).1 ∧ (m.apply e).2 = (m.does e).2) := by
  unfold Mac.apply
  cases hr : e.right
  · exact .inl ⟨rfl, by simp⟩
  · rw [if_neg (by decide)]
    cases hf : followsE m.mark e
    · exact .inl ⟨rfl, by simp⟩
    · rw [if_neg (by decide)]
      unfold followsE at hf
      simp only [Bool.and_eq_true, decide_eq_true_eq] at hf
      exact .inr ⟨rfl, hf.1.1.2, rfl, rfl, rfl⟩
theorem low_step {m : Mac} (h : m.Low) (hm : m.Ok) {e : En} (hp : e.parent < 18446744073709551616) : (m.apply e).2.Low ∧ ((m.apply e).2.mark.op ≤ m.mark.op + 1) := by
  rcases apply_cases m e with ⟨e1, _⟩ | ⟨hr, ho, _, _, e1⟩
  · rw [e1]; exact ⟨h, by omega⟩
  · rw [e1]
    have hmk := (markE_fit hr hp).1
    have h0 := h.pos
    unfold Mac.does
    split
    · unfold Mac.reg
      simp only
      split
      · exact ⟨⟨by rw [hmk]; simp only; omega, fun s hs => by have := h.ses s hs; rw [hmk]; simp only; omega⟩, by rw [hmk]; simp only; omega⟩
      · refine ⟨⟨by rw [hmk]; simp only; omega, fun s hs => ?_⟩, by rw [hmk]; simp only; omega⟩
        rw [hmk]
        simp only
        rcases open_mem hs with hs | rfl
        · have := h.ses s hs; omega
        · simp [newSes]
    · unfold Mac.req
      simp only
      have hsame : Mac.Low ⟨markE e, m.T, m.D⟩ := ⟨by rw [hmk]; simp only; omega, fun s hs => by have := h.ses s hs; rw [hmk]; simp only; omega⟩
      have hop : (markE e).op ≤ m.mark.op + 1 := by rw [hmk]; simp only; omega
      split
      · exact ⟨hsame, hop⟩
      · split
        · refine ⟨⟨by rw [hmk]; simp only; omega, fun s hs => ?_⟩, hop⟩
          rw [hmk]
          simp only
          rcases note_mem hs with hs | ⟨hl, rfl⟩
          · have := h.ses s hs; omega
          · have := h.ses _ (look_some hl).2.2.2
            simp only
            omega
        · split
          · exact ⟨hsame, hop⟩
          · exact ⟨hsame, hop⟩
/-- What was done stays so. -/
theorem once_step {m : Mac} (h : m.Low) (hm : m.Ok) {e : En} (hp : e.parent < 18446744073709551616) {d : En} {t : Ans} (ho : Once m d t) : Once (m.apply e).2 d t := by
  rcases apply_cases m e with ⟨e1, _⟩ | ⟨hr, hop, _, _, e1⟩
  · rw [e1]; exact ho
  · rw [e1]
    have hmk := (markE_fit hr hp).1
    have hlow := ho.low
    have key : ∀ T D, (∀ s ∈ T, s.client = d.client → s.session = t.session → t.request ≤ s.request ∧ (s.request = t.request → tellS s = t)) → Once ⟨markE e, T, D⟩ d t := fun T D hT =>
      ⟨ho.right, ho.kind, ho.client, by rw [hmk]; simp only; omega, ho.reg, ho.req, hT⟩
    unfold Mac.does
    split
    · unfold Mac.reg
      simp only
      split
      · exact key _ _ ho.then'
      · refine key _ _ fun s hs hc hss => ?_
        rcases open_mem hs with hs | rfl
        · exact ho.then' s hs hc hss
        · simp only [newSes] at hss; omega
    · unfold Mac.req
      simp only
      split
      · exact key _ _ ho.then'
      · split
        · rename_i hv
          refine key _ _ fun s hs hc hss => ?_
          rcases note_mem hs with hs | ⟨hl, rfl⟩
          · exact ho.then' s hs hc hss
          · obtain ⟨_, _, hlc, hlm⟩ := look_some hl
            have := ho.then' _ hlm hc hss
            have := (verdict_one hv).2.2
            simp only
            refine ⟨by omega, fun h => by omega⟩
        · split
          · exact key _ _ ho.then'
          · exact key _ _ ho.then'
/-- What takes effect. -/
theorem once_new {m : Mac} (h : m.Low) (hm : m.Ok) {e : En} (hp : e.parent < 18446744073709551616) (h0 : (m.apply e).1.2 = 0) (hk : (m.apply e).1.1.kind = 1) (hop : (m.apply e).1.1.op = e.op) :
    Once (m.apply e).2 e (m.apply e).1.1 := by
  have hgood := (apply_ok hm hp).good
  rcases apply_cases m e with ⟨_, e1⟩ | ⟨hr, ho, _, e2, e1⟩
  · exact absurd h0 e1
  · rw [e2] at hk hop
    rw [e1] at hgood
    rw [e1, e2]
    have hmk := (markE_fit hr hp).1
    obtain ⟨m1, m2, m3, m4, m5⟩ := right_may hr
    unfold Mac.does at hk hop hgood ⊢
    split
    · rename_i hop1
      rw [if_pos hop1] at hk hop hgood
      unfold Mac.reg at hk hop hgood ⊢
      simp only at hk hop hgood ⊢
      cases hl : (sLook m.T e.client).2
      · rw [hl, if_neg (by decide)] at hk hop hgood
        rw [if_neg (by decide)]
        simp only at hk hop hgood ⊢
        have hlo := (look_open hm.good m1 m2 hl).2
        have hmem := (look_some (T := (sOpen m.T e.client e.op).2.2) (c := e.client) (by rw [hlo])).2.2.2
        rw [hlo] at hk hop hmem ⊢
        refine ⟨hr, rfl, rfl, by rw [hmk]; simp [tellS, newSes], fun _ => rfl, fun hh => absurd hop1 hh, fun s hs hc _ => ?_⟩
        have : s = newSes e.client e.op := uniq_eq hgood.one hs hmem hc
        subst this
        exact ⟨by simp [tellS], fun _ => rfl⟩
      · rw [hl, if_pos rfl] at hk hop
        simp only at hk hop
        have hlow := (h.ses _ (look_some hl).2.2.2).2
        split at hop
        · rename_i h1; rw [if_pos h1] at hk; simp [zAns] at hk
        · simp only [tellS] at hop; omega
    · rename_i hop1
      rw [if_neg hop1] at hk hop hgood
      unfold Mac.req at hk hop hgood ⊢
      simp only at hk hop hgood ⊢
      split
      · rename_i hv; rw [if_pos hv] at hk; simp at hk
      · rename_i hv5
        rw [if_neg hv5] at hk hop hgood
        split
        · rename_i hv
          rw [if_pos hv] at hk hop hgood
          simp only at hk hop hgood ⊢
          obtain ⟨hl, hls, hlr⟩ := verdict_one hv
          have hln := (look_note (t := (m.D.doIt e.oper e.body).1) hm.good hl m3 m4 (doIt_len _ _ _)).2
          have hmem := (look_some (T := (sNote m.T e.client e.request e.op (m.D.doIt e.oper e.body).1).2) (c := e.client) (by rw [hln])).2.2.2
          have hcl := (look_some hl).2.2.1
          have hlow := (h.ses _ (look_some hl).2.2.2).1
          rw [hln] at hk hop hmem ⊢
          refine ⟨hr, rfl, hcl, by rw [hmk]; simp only [tellS]; omega, fun hh => absurd hh hop1, fun _ => ⟨hls, rfl⟩, fun s hs hc _ => ?_⟩
          have := uniq_eq hgood.one hs hmem (by rw [hc]; exact hcl.symm)
          subst this
          exact ⟨by simp [tellS], fun _ => rfl⟩
        · rename_i hv1
          rw [if_neg hv1] at hk hop
          split at hop
          · rename_i hv
            rw [if_pos hv] at hk
            have hlow := (h.ses _ (look_some (verdict_two hv).1).2.2.2).2
            simp only [tellS] at hop
            omega
          · rename_i hv
            rw [if_neg hv] at hk
            simp [zAns] at hk
/-- It comes again. -/
def againE (m : Mac) (d : En) : En := nextE m.mark { d with view := if d.view < m.mark.view then m.mark.view else d.view }
theorem again_says {m : Mac} (hm : m.Ok) (hop : m.mark.op ≤ 60) {d : En} {t : Ans} (ho : Once m d t) (hl : (sLook m.T d.client).2 = true) (hs : (sLook m.T d.client).1.session = t.session) :
    (m.apply (againE m d)).1 = (if (sLook m.T d.client).1.request = t.request then t else zAns, 0) ∧ (m.apply (againE m d)).2.D = m.D := by
  obtain ⟨q1, q2⟩ := hm.op
  obtain ⟨q3, q4⟩ := hm.view
  have hr := ho.right
  rw [en_right_eq] at hr
  simp only [Bool.and_eq_true, decide_eq_true_eq] at hr
  simp only [fitsL] at hr
  have ha : againE m d = ⟨if d.view < m.mark.view then m.mark.view else d.view, m.mark.op + 1, m.mark.view, m.mark.sum, d.client, d.session, d.request, d.oper, d.body⟩ := by
    unfold againE nextE
    have e1 : (if 0 ≤ m.mark.op ∧ m.mark.op < 72057594037927935 then m.mark.op + 1 else d.op) = m.mark.op + 1 := if_pos ⟨q1, by omega⟩
    simp only [e1]
  generalize hw : (if d.view < m.mark.view then m.mark.view else d.view) = vw at ha
  have hvw : m.mark.view ≤ vw ∧ vw ≤ 72057594037927935 := by rw [← hw]; split <;> omega
  have hright : (againE m d).right = true := by
    rw [ha, en_right_eq]
    simp only [Bool.and_eq_true, decide_eq_true_eq]
    simp only [fitsL]
    omega
  have hfol : followsE m.mark (againE m d) = true := by
    unfold followsE
    rw [hright, ha]
    simp
  have hsp := look_some hl
  obtain ⟨ht1, ht2⟩ := ho.then' _ hsp.2.2.2 hsp.2.2.1 hs
  have hs0 := (hm.good.ok.req _ hsp.2.2.2).1
  unfold Mac.apply
  rw [hright, if_neg (by decide), hfol, if_neg (by decide)]
  unfold Mac.does
  have ho1 : (againE m d).oper = d.oper := by rw [ha]
  have hc1 : (againE m d).client = d.client := by rw [ha]
  have hs1 : (againE m d).session = d.session := by rw [ha]
  have hr1 : (againE m d).request = d.request := by rw [ha]
  rw [ho1]
  by_cases h1 : d.oper = 1
  · rw [if_pos h1]
    unfold Mac.reg
    simp only
    rw [hc1, hl, if_pos rfl]
    simp only
    have ht0 := ho.reg h1
    by_cases hq : 0 < (sLook m.T d.client).1.request
    · rw [if_pos hq, if_neg (by omega)]
      first | exact ⟨rfl, rfl⟩ | simp
    · have : (sLook m.T d.client).1.request = t.request := by omega
      rw [if_neg hq, if_pos this, ht2 this]
      first | exact ⟨rfl, rfl⟩ | simp
  · rw [if_neg h1]
    obtain ⟨hd1, hd2⟩ := ho.req h1
    unfold Mac.req
    simp only
    rw [hc1, hs1, hr1]
    by_cases hq : (sLook m.T d.client).1.request = t.request
    · have hv : sVerdict m.T d.client d.session d.request = 2 := by
        unfold sVerdict
        rw [if_neg (by rw [hl, hs, hd1]; simp), if_pos (by omega)]
      rw [hv, if_neg (by decide), if_neg (by decide), if_pos rfl, if_pos hq, ht2 hq]
      first | exact ⟨rfl, rfl⟩ | simp
    · have hv : sVerdict m.T d.client d.session d.request = 3 := by
        unfold sVerdict
        rw [if_neg (by rw [hl, hs, hd1]; simp), if_neg (by omega), if_pos (by omega)]
      rw [hv, if_neg (by decide), if_neg (by decide), if_neg (by decide), if_neg hq]
      first | exact ⟨rfl, rfl⟩ | simp
end Go.Proofs.Ytjjiibcnknljfaa
