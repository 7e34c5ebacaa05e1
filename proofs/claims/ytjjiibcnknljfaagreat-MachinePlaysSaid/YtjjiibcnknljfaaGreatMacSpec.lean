/-
  A machine in plain lists.
-/
import Derived.Test.YtjjiibcnknljfaaGreatEntA
import Derived.Test.YtjjiibcnknljfaaGreatSesP
import Derived.Test.YtjjiibcnknljfaaGreatLedB
set_option linter.unusedSimpArgs false
set_option linter.unusedVariables false
set_option linter.unusedSectionVars false
set_option maxRecDepth 100000
namespace Go.Proofs.YtjjiibcnknljfaaGreat
open Go.RowKit Go.Cmp

structure Ans where
  kind : Int
  client : Int
  session : Int
  request : Int
  op : Int
  body : List UInt8
deriving Inhabited, DecidableEq
def Ans.cells (a : Ans) : List Value := [.int .i64 a.kind, .int .i64 a.client, .int .i64 a.session, .int .i64 a.request, .int .i64 a.op, .string ⟨a.body.toArray⟩]
def zAns : Ans := ⟨0, 0, 0, 0, 0, []⟩
structure Mac where
  mark : Mk
  T : List Ses
  D : Led
def newMac : Mac := ⟨⟨0, 0, 0⟩, [], ⟨[], []⟩⟩
def tellS (s : Ses) : Ans := ⟨1, s.client, s.session, s.request, s.op, s.reply⟩
def followsE (m : Mk) (e : En) : Bool := e.right && decide (e.op - 1 = m.op) && decide (e.under = m.view) && decide (e.parent = m.sum)
def nextE (m : Mk) (e : En) : En := { e with op := if 0 ≤ m.op ∧ m.op < 72057594037927935 then m.op + 1 else e.op, under := m.view, parent := m.sum }
/-- A client wants a session; a client asks; an entry is done. -/
def Mac.reg (m : Mac) (e : En) : Ans × Mac :=
  if (sLook m.T e.client).2 = true then (if 0 < (sLook m.T e.client).1.request then zAns else tellS (sLook m.T e.client).1, m)
  else (tellS (sLook (sOpen m.T e.client e.op).2.2 e.client).1, { m with T := (sOpen m.T e.client e.op).2.2 })
def Mac.req (m : Mac) (e : En) : Ans × Mac :=
  if sVerdict m.T e.client e.session e.request = 5 then (⟨2, e.client, e.session, e.request, e.op, []⟩, m)
  else if sVerdict m.T e.client e.session e.request = 1 then
    (tellS (sLook (sNote m.T e.client e.request e.op (m.D.doIt e.oper e.body).1).2 e.client).1, ⟨m.mark, (sNote m.T e.client e.request e.op (m.D.doIt e.oper e.body).1).2, (m.D.doIt e.oper e.body).2⟩)
  else if sVerdict m.T e.client e.session e.request = 2 then (tellS (sLook m.T e.client).1, m)
  else (zAns, m)
def Mac.does (m : Mac) (e : En) : Ans × Mac := if e.oper = 1 then Mac.reg { m with mark := markE e } e else Mac.req { m with mark := markE e } e
def Mac.apply (m : Mac) (e : En) : (Ans × Int) × Mac :=
  if e.right = false then ((zAns, 4), m) else if followsE m.mark e = false then ((zAns, 12), m) else (((m.does e).1, 0), (m.does e).2)
def Mac.cached (m : Mac) (c s r : Int) : Ans × Bool := if sVerdict m.T c s r = 2 then (tellS (sLook m.T c).1, true) else (zAns, false)
def mPack (m : Mac) : List UInt8 := leB 8 m.mark.op.toNat ++ leB 8 m.mark.view.toNat ++ leB 8 m.mark.sum ++ txt (sPack m.T) ++ txt (lPack m.D)

structure Mac.Ok (m : Mac) : Prop where
  good : SGood m.T
  fit : SFit m.T
  led : m.D.Ok
  op : Fit m.mark.op
  view : Fit m.mark.view
  sum : m.mark.sum < 18446744073709551616
theorem newMac_ok : newMac.Ok := ⟨⟨⟨by simp [newMac], by simp [newMac]⟩, by simp [newMac], by simp [newMac]⟩, by intro x hx; simp [newMac] at hx, newLed_ok, ⟨by simp [newMac], by simp [newMac]⟩, ⟨by simp [newMac], by simp [newMac]⟩, by simp [newMac]⟩

/-! ### What sessions say behind a call -/
theorem look_none {T : List Ses} {c : Int} (h : (sLook T c).2 = false) : whose c T < 0 := by
  unfold sLook at h
  split at h
  · assumption
  · simp at h
theorem look_some {T : List Ses} {c : Int} (h : (sLook T c).2 = true) : 0 ≤ whose c T ∧ (sLook T c).1 = nth T (whose c T).toNat ∧ (sLook T c).1.client = c ∧ (sLook T c).1 ∈ T := by
  unfold sLook at h ⊢
  split at h
  · simp at h
  · rename_i hn
    rw [if_neg hn]
    have h0 : 0 ≤ whose c T := by omega
    have h1 := idx_hit (p := fun s : Ses => decide (s.client = c)) h0
    have h2 := (idx_range (p := fun s : Ses => decide (s.client = c)) T).2
    have h3 : (whose c T).toNat < T.length := by
      have : whose c T < T.length := h2
      omega
    exact ⟨h0, rfl, of_decide_eq_true h1, nth_mem h3⟩
theorem whose_at {T : List Ses} {i : Nat} {c : Int} (hn : (T.map (·.client)).Nodup) (hi : i < T.length) (hc : (nth T i).client = c) : whose c T = i := by
  refine idx_first hi (by simp [hc]) (fun j hj => ?_)
  have : (nth T j).client ≠ c := fun e => by
    have h1 : (T.map (·.client))[j]'(by simp; omega) = (T.map (·.client))[i]'(by simp; omega) := by
      have e1 : nth T j = T[j]'(by omega) := nth_eq (by rw [List.getElem?_eq_getElem])
      have e2 : nth T i = T[i]'(by omega) := nth_eq (by rw [List.getElem?_eq_getElem])
      rw [← hc, e1, e2] at e
      simpa using e
    have := (List.getElem_inj hn).1 h1
    omega
  simpa using this
theorem look_at {T : List Ses} {s : Ses} (hn : (T.map (·.client)).Nodup) (hs : s ∈ T) : sLook T s.client = (s, true) := by
  obtain ⟨i, hi, rfl⟩ := mem_nth' hs
  have h := whose_at hn hi rfl
  unfold sLook
  rw [if_neg (by omega), h, Int.toNat_natCast]
/-- A session that is opened is there. -/
theorem look_open {T : List Ses} (hT : SGood T) {c o : Int} (hc : may c 1 = true) (ho : may o 1 = true) (h : (sLook T c).2 = false) :
    (sOpen T c o).2.1 = 0 ∧ sLook (sOpen T c o).2.2 c = (newSes c o, true) := by
  have hw := look_none h
  have hg := open_good hT c o
  have h1 : (sOpen T c o).2.1 = 0 ∧ newSes c o ∈ (sOpen T c o).2.2 := by
    unfold sOpen
    rw [if_neg (by simp [hc, ho]), if_neg (by omega)]
    split
    · exact ⟨rfl, by simp⟩
    · exact ⟨rfl, by simp⟩
  exact ⟨h1.1, look_at hg.one h1.2⟩
/-- A request that is noted is there. -/
theorem look_note {T : List Ses} (hT : SGood T) {c r o : Int} {t : List UInt8} (hl : (sLook T c).2 = true) (hr : may r 0 = true) (ho : may o 0 = true) (ht : t.length ≤ 200) :
    (sNote T c r o t).1 = 0 ∧ sLook (sNote T c r o t).2 c = ({ (sLook T c).1 with request := r, op := o, reply := t }, true) := by
  obtain ⟨h0, h1, h2, h3⟩ := look_some hl
  have hg := note_good hT c r o t
  have hlt : (whose c T).toNat < T.length := by
    have : whose c T < T.length := (idx_range (p := fun s : Ses => decide (s.client = c)) T).2
    omega
  have e : sNote T c r o t = (0, T.set (whose c T).toNat { nth T (whose c T).toNat with request := r, op := o, reply := t }) := by
    unfold sNote
    rw [if_neg (by omega), if_neg (by simp [hr, ho]), if_neg (by omega)]
  rw [e] at hg ⊢
  refine ⟨rfl, ?_⟩
  have hm : ({ (sLook T c).1 with request := r, op := o, reply := t } : Ses) ∈ T.set (whose c T).toNat { nth T (whose c T).toNat with request := r, op := o, reply := t } := by
    rw [h1]
    exact List.mem_of_getElem? (by rw [List.getElem?_set_self hlt])
  have := look_at hg.one hm
  simp only at this
  rw [h2] at this
  show sLook (T.set (whose c T).toNat ⟨(nth T (whose c T).toNat).client, (nth T (whose c T).toNat).session, r, o, t⟩) c = ((⟨(sLook T c).1.client, (sLook T c).1.session, r, o, t⟩ : Ses), true)
  rw [h2]
  exact this
theorem doIt_len (D : Led) (op : Int) (body : List UInt8) : (D.doIt op body).1.length ≤ 200 := by
  have b4 : ∀ L : List Nat, (L.flatMap D.find4).length ≤ 26 * L.length := flat_le (find4_len D)
  have b5 : ∀ L : List Nat, (L.flatMap D.find5).length ≤ 33 * L.length := flat_le (find5_len D)
  unfold Led.doIt
  split
  · split
    · simp
    · have := takeS_len gAcc 9 body; simp only [List.length_append, List.length_singleton, opens_len]; omega
  · split
    · split
      · simp
      · have := takeS_len gTra 32 body; simp only [List.length_append, List.length_singleton, moves_len]; omega
    · split
      · split
        · simp
        · have := takeS_len gID 8 body; have := b4 (takeS gID 8 body).1; simp only [List.length_append, List.length_singleton]; omega
      · split
        · split
          · simp
          · have := takeS_len gID 8 body; have := b5 (takeS gID 8 body).1; simp only [List.length_append, List.length_singleton]; omega
        · simp

/-! ### What may be stays so -/
theorem markE_fit {e : En} (hr : e.right = true) (hp : e.parent < 18446744073709551616) : markE e = ⟨e.op, e.view, markSum e⟩ ∧ Fit e.op ∧ Fit e.view ∧ markSum e < 18446744073709551616 := by
  have h := en_right_eq e
  rw [hr] at h
  have h := h.symm
  simp only [Bool.and_eq_true, decide_eq_true_eq] at h
  simp only [fitsL] at h
  refine ⟨?_, ⟨by omega, by omega⟩, ⟨by omega, by omega⟩, chainOf_lt _ hp _⟩
  unfold markE
  rw [packE_ok hr]
  rfl
theorem right_may {e : En} (hr : e.right = true) : may e.client 1 = true ∧ may e.op 1 = true ∧ may e.request 0 = true ∧ may e.op 0 = true ∧ e.body.length ≤ 200 := by
  have h := en_right_eq e
  rw [hr] at h
  have h := h.symm
  simp only [Bool.and_eq_true, decide_eq_true_eq] at h
  simp only [fitsL] at h
  simp only [may, Bool.and_eq_true, decide_eq_true_eq]
  omega
theorem verdict_look {T : List Ses} {c s r : Int} (h : sVerdict T c s r ≠ 5) : (sLook T c).2 = true ∧ (sLook T c).1.session = s := by
  unfold sVerdict at h
  split at h
  · exact absurd rfl h
  · rename_i hn
    cases h1 : (sLook T c).2
    · exact absurd (.inl h1) hn
    · refine ⟨rfl, ?_⟩
      by_cases h2 : (sLook T c).1.session = s
      · exact h2
      · exact absurd (.inr h2) hn
theorem reg_ok {m : Mac} (h : m.Ok) (e : En) : (m.reg e).2.Ok := by
  unfold Mac.reg
  split
  · exact h
  · exact ⟨open_good h.good _ _, sOpen_fit h.fit _ _, h.led, h.op, h.view, h.sum⟩
theorem req_ok {m : Mac} (h : m.Ok) (e : En) : (m.req e).2.Ok := by
  unfold Mac.req
  split
  · exact h
  · split
    · exact ⟨note_good h.good _ _ _ _, sNote_fit h.fit _ _ _ _, doIt_ok h.led _ _, h.op, h.view, h.sum⟩
    · split
      · exact h
      · exact h
theorem marked_ok {m : Mac} (h : m.Ok) {e : En} (hr : e.right = true) (hp : e.parent < 18446744073709551616) : Mac.Ok { m with mark := markE e } := by
  obtain ⟨h1, h2, h3, h4⟩ := markE_fit hr hp
  rw [h1]
  exact ⟨h.good, h.fit, h.led, h2, h3, h4⟩
theorem does_ok {m : Mac} (h : m.Ok) {e : En} (hr : e.right = true) (hp : e.parent < 18446744073709551616) : (m.does e).2.Ok := by
  unfold Mac.does
  split
  · exact reg_ok (marked_ok h hr hp) e
  · exact req_ok (marked_ok h hr hp) e
theorem apply_ok {m : Mac} (h : m.Ok) {e : En} (hp : e.parent < 18446744073709551616) : (m.apply e).2.Ok := by
  unfold Mac.apply
  split
  · exact h
  · rename_i hr
    split
    · exact h
    · exact does_ok h (by simpa using hr) hp
end Go.Proofs.YtjjiibcnknljfaaGreat
