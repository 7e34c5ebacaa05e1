/-
  event.put at its three types of elements.
-/
import Derived.Test.YtggngdjncokanaaNumbers
set_option linter.unusedSimpArgs false
set_option linter.unusedVariables false
set_option linter.unusedSectionVars false
namespace Go.Proofs.Ytggngdjncokanaa
open Go.RowKit Go.Cmp
set_option maxRecDepth 100000

/-- The bytes of a list, each one's by a function; none: one can't be. -/
def cat {α : Type} (f : α → Option (List UInt8)) : List α → Option (List UInt8)
  | [] => some []
  | x :: r => match f x with
    | none => none
    | some a => match cat f r with
      | none => none
      | some b => some (a ++ b)
def putS {α : Type} (f : α → Option (List UInt8)) (xs : List α) : List UInt8 × Int :=
  if xs.length = 0 ∨ 4 < xs.length then ([], 1) else match cat f xs with | some s => (s, 0) | none => ([], 1)

theorem cat_append {α : Type} (f : α → Option (List UInt8)) (a b : List α) : cat f (a ++ b) = match cat f a with | none => none | some x => match cat f b with | none => none | some y => some (x ++ y) := by
  induction a with
  | nil => simp only [List.nil_append, cat]; cases cat f b <;> simp
  | cons x a ih =>
    simp only [List.cons_append, cat, ih]
    cases f x with
    | none => rfl
    | some s =>
      cases cat f a with
      | none => rfl
      | some t => cases cat f b <;> simp
theorem cat_succ {α : Type} (f : α → Option (List UInt8)) (xs : List α) (j : Nat) (h : j < xs.length) (acc : List UInt8) (ha : cat f (xs.take j) = some acc) :
    match f xs[j] with | none => cat f xs = none | some s => cat f (xs.take (j + 1)) = some (acc ++ s) := by
  have e1 : cat f (xs.take (j + 1)) = match f xs[j] with | none => none | some s => some (acc ++ s) := by
    rw [List.take_succ_eq_append_getElem h, cat_append, ha]
    simp only [cat]
    cases f xs[j] <;> simp
  cases hf : f xs[j] with
  | none =>
    rw [hf] at e1
    show cat f xs = none
    conv => lhs; rw [← List.take_append_drop (j + 1) xs, cat_append, e1]
  | some s => rw [hf] at e1; exact e1
theorem cat_len {α : Type} (f : α → Option (List UInt8)) (hs : ∀ x s, f x = some s → s.length ≤ 32) : ∀ (xs : List α) (acc : List UInt8), cat f xs = some acc → acc.length ≤ 32 * xs.length
  | [], acc, h => by simp only [cat, Option.some.injEq] at h; subst h; simp
  | x :: xs, acc, h => by
    simp only [cat] at h
    cases hf : f x with
    | none => rw [hf] at h; cases h
    | some a =>
      rw [hf] at h
      cases hc : cat f xs with
      | none => rw [hc] at h; cases h
      | some b =>
        rw [hc] at h
        simp only [Option.some.injEq] at h
        subst h
        have h1 := hs x a hf
        have h2 := cat_len f hs xs b hc
        simp only [List.length_append, List.length_cons]
        omega
theorem flatMap_cells {α : Type} (val : α → List Value) (k : Nat) (hv : ∀ x, (val x).length = k) (xs : List α) (j : Nat) (h : j < xs.length) : ((xs.flatMap val).drop (j * k)).take k = val xs[j] := by
  induction xs generalizing j with
  | nil => simp at h
  | cons x xs ih =>
    cases j with
    | zero => simp only [Nat.zero_mul, List.drop_zero, List.flatMap_cons, List.getElem_cons_zero]; rw [List.take_left' (hv x)]
    | succ j =>
      simp only [List.flatMap_cons, List.getElem_cons_succ]
      rw [List.drop_append, List.drop_eq_nil_of_le (by rw [hv, Nat.succ_mul]; omega), List.nil_append, hv, Nat.succ_mul, Nat.add_sub_cancel]
      exact ih j (by simpa using h)

/-- What 'put' asks of its function. -/
def EachOK {α : Type} (P : Program) (f : FuncId) (e : TypeId) (val : α → Value) (by' : α → Option (List UInt8)) (x : α) : Prop :=
  ∀ (lb : List UInt8) (v : Value) (w : World), lb.length + 64 ≤ 140737488355328 → Rd w 1 v lb.length (B lb) → Calls P f #[v, val x] w fun e' w' => ∃ v', e' = .returned (.tuple #[v', .bool (by' x).isSome]) ∧
    (∀ s, by' x = some s → ∃ r, r = lb ++ s ∧ St [] w w' [.vec v' e 1 r.length (B r)]) ∧ St [] w w' []

/-- A one-cell list's value. -/
def hd (l : List Value) : Value := l.headD undef
set_option maxHeartbeats 2000000 in
theorem putsID_any {α : Type} (f : FuncId) (hcf : ∀ args w, (callFunc f args).run Try.prog w = .ok (.enter f args) w) (val : α → List Value) (by' : α → Option (List UInt8)) (xs : List α) (vl : Value) (n : Nat) (w : World) (hn : xs.length = n) (hv : ∀ x, (val x).length = 1) (_ho : ∀ x, ∀ u ∈ val x, u.oneCell' = true)
    (hs : ∀ x s, by' x = some s → s.length ≤ 32) (hE : ∀ x ∈ xs, EachOK Try.prog f 5 (fun x => hd (val x)) by' x) (hL : Rd w 1 vl n (xs.flatMap val)) :
    Calls Try.prog 43 #[vl, .func (.func f) #[] #[]] w fun e w' => e = .returned (.tuple #[.string ⟨(putS by' xs).1.toArray⟩, .int .i64 (putS by' xs).2]) ∧ St [] w w' [] := by
  have Hn := Lib.hid hn
  clear hn
  by_cases h0 : n = 0
  · have d1 : ((n : Int) == 0) = true := by rw [h0]; rfl
    have hp : putS by' xs = ([], 1) := by unfold putS; rw [if_pos (by have := Hn.out; omega)]
    rw [hp]
    clear h0
    go_enter Try.func43, Try.ntmps43
    refine St.startAt w fun w1 hS => ?_
    go_wp2_with (first | ((with_reducible refine g_len ?_); refine wl_run rfl (x_len rfl (hS.old0 hL) rfl rfl) ?_) | fail)
    go_ret2
    exact ⟨rfl, hS⟩
  have d1 : ((n : Int) == 0) = false := beq_eq_false_iff_ne.2 (by omega)
  by_cases h4 : 4 < n
  · have d2 : decide ((4 : Int) < n) = true := by simp; omega
    have hp : putS by' xs = ([], 1) := by unfold putS; rw [if_pos (by have := Hn.out; omega)]
    rw [hp]
    clear h0
    go_enter Try.func43, Try.ntmps43
    refine St.startAt w fun w1 hS => ?_
    go_wp2_with (first | ((with_reducible refine g_len ?_); refine wl_run rfl (x_len rfl (hS.old0 hL) rfl rfl) ?_) | fail)
    go_ret2
    exact ⟨rfl, hS⟩
  have d2 : decide ((4 : Int) < n) = false := by simp; omega
  have hp : putS by' xs = (match cat by' xs with | some s => (s, 0) | none => ([], 1)) := by unfold putS; rw [if_neg (by have := Hn.out; omega)]
  have Hp := Lib.hid hp
  clear hp
  go_enter Try.func43, Try.ntmps43
  refine St.startAt w fun w1 hS => ?_
  go_wp2_with (first | ((with_reducible refine g_len ?_); refine wl_run rfl (x_len rfl (hS.old0 hL) rfl rfl) ?_) | fail)
  go_loopw [6, 21] (fun b i wr => ∃ (j : Nat) (acc : List UInt8), j ≤ n ∧ i = .int .i64 j ∧ Hid (cat by' (xs.take j) = some acc) ∧ St [] w wr [] ∧ Rd wr 1 b acc.length (B acc)) (fun _ i _ => n - (intOf i).toNat)
  case atStart => exact ⟨0, [], by omega, rfl, Lib.hid rfl, hS, Rd.nil _ _⟩
  case round =>
    clear hS
    obtain ⟨j, acc, hj, rfl, Ha, hS, hB⟩ := hrel
    by_cases hlt : j < n
    · have hjl : j < xs.length := by have := Hn.out; omega
      have hx := hE xs[j] (List.getElem_mem hjl)
      have hal : acc.length + 64 ≤ 140737488355328 := by
        have := cat_len by' hs _ _ Ha.out
        rw [List.length_take] at this
        omega
      have hld := flatMap_cells val 1 hv xs j hjl
      have hS0 := hS
      have hLr := hS0.old0 hL
      clear hS
      have hS := St.init wr
      have hl1 : (xs.flatMap val)[j]? = some (hd (val xs[j])) := by { have := hv xs[j]; match hvx : val xs[j], this with | [u], _ => rw [hvx] at hld; simp only [hd, List.headD]; rw [Nat.mul_one] at hld; have h1 := congrArg (fun l => l[0]?) hld; simpa using h1 }; go_wp2_with (first | ((with_reducible refine g_index ?_); refine wl_run rfl (x_index rfl (hS.old0 hLr) rfl rfl rfl rfl rfl (by omega) (by omega)) ?_) | ((with_reducible refine g_load ?_); refine wl_run rfl (x_loadS1 rfl (hS.old0 hLr) rfl rfl rfl (by simpa using hl1)) ?_) | fail)
      refine (hx acc _ _ hal (hS.old0 hB)).mono ?_
      rintro e w2 ⟨v', rfl, hok, hS2⟩
      have hcs := cat_succ by' xs j hjl acc Ha.out
      cases hby : by' xs[j] with
      | none =>
        rw [hby] at hcs
        have Hcs := Lib.hid hcs
        clear hcs hok
        go_wp2
        go_ret2
        rw [Hp.out, Hcs.out]
        exact ⟨rfl, hS0.call (hS.call hS2).nil⟩
      | some s =>
        rw [hby] at hcs
        obtain ⟨r, hr, hS3⟩ := hok s hby
        have Hcs : Hid (cat by' (xs.take (j + 1)) = some r) := Lib.hid (by rw [hr]; exact hcs)
        clear hcs hok hr
        go_wp2
        have hS4 := hS0.call (hS.call hS3).one
        exact ⟨⟨j + 1, r, by omega, by go_num, Hcs, hS4.nil, hS4.rdv (i := 0) rfl⟩, by simp [intOf]; omega⟩
    · obtain rfl : j = n := by omega
      have Hc : Hid (cat by' xs = some acc) := Lib.hid (by have := Ha.out; rwa [List.take_of_length_le (by have := Hn.out; omega)] at this)
      go_wp2_with (first | ((with_reducible refine g_conv ?_); refine wl_run rfl (x_toString rfl rfl rfl rfl hB rfl) ?_) | fail)
      go_ret2
      rw [Hp.out, Hc.out]
      exact ⟨rfl, hS⟩
/-- A struct's value. -/
abbrev ag (l : List Value) : Value := .agg l.toArray
set_option maxHeartbeats 2000000 in
theorem putsAccount_any {α : Type} (f : FuncId) (hcf : ∀ args w, (callFunc f args).run Try.prog w = .ok (.enter f args) w) (val : α → List Value) (by' : α → Option (List UInt8)) (xs : List α) (vl : Value) (n : Nat) (w : World) (hn : xs.length = n) (hv : ∀ x, (val x).length = 4) (_ho : ∀ x, ∀ u ∈ val x, u.oneCell' = true)
    (hs : ∀ x s, by' x = some s → s.length ≤ 32) (hE : ∀ x ∈ xs, EachOK Try.prog f 5 (fun x => ag (val x)) by' x) (hL : Rd w 4 vl n (xs.flatMap val)) :
    Calls Try.prog 26 #[vl, .func (.func f) #[] #[]] w fun e w' => e = .returned (.tuple #[.string ⟨(putS by' xs).1.toArray⟩, .int .i64 (putS by' xs).2]) ∧ St [] w w' [] := by
  have Hn := Lib.hid hn
  clear hn
  by_cases h0 : n = 0
  · have d1 : ((n : Int) == 0) = true := by rw [h0]; rfl
    have hp : putS by' xs = ([], 1) := by unfold putS; rw [if_pos (by have := Hn.out; omega)]
    rw [hp]
    clear h0
    go_enter Try.func26, Try.ntmps26
    refine St.startAt w fun w1 hS => ?_
    go_wp2_with (first | ((with_reducible refine g_len ?_); refine wl_run rfl (x_len rfl (hS.old0 hL) rfl rfl) ?_) | fail)
    go_ret2
    exact ⟨rfl, hS⟩
  have d1 : ((n : Int) == 0) = false := beq_eq_false_iff_ne.2 (by omega)
  by_cases h4 : 4 < n
  · have d2 : decide ((4 : Int) < n) = true := by simp; omega
    have hp : putS by' xs = ([], 1) := by unfold putS; rw [if_pos (by have := Hn.out; omega)]
    rw [hp]
    clear h0
    go_enter Try.func26, Try.ntmps26
    refine St.startAt w fun w1 hS => ?_
    go_wp2_with (first | ((with_reducible refine g_len ?_); refine wl_run rfl (x_len rfl (hS.old0 hL) rfl rfl) ?_) | fail)
    go_ret2
    exact ⟨rfl, hS⟩
  have d2 : decide ((4 : Int) < n) = false := by simp; omega
  have hp : putS by' xs = (match cat by' xs with | some s => (s, 0) | none => ([], 1)) := by unfold putS; rw [if_neg (by have := Hn.out; omega)]
  have Hp := Lib.hid hp
  clear hp
  go_enter Try.func26, Try.ntmps26
  refine St.startAt w fun w1 hS => ?_
  go_wp2_with (first | ((with_reducible refine g_len ?_); refine wl_run rfl (x_len rfl (hS.old0 hL) rfl rfl) ?_) | fail)
  go_loopw [6, 21] (fun b i wr => ∃ (j : Nat) (acc : List UInt8), j ≤ n ∧ i = .int .i64 j ∧ Hid (cat by' (xs.take j) = some acc) ∧ St [] w wr [] ∧ Rd wr 1 b acc.length (B acc)) (fun _ i _ => n - (intOf i).toNat)
  case atStart => exact ⟨0, [], by omega, rfl, Lib.hid rfl, hS, Rd.nil _ _⟩
  case round =>
    clear hS
    obtain ⟨j, acc, hj, rfl, Ha, hS, hB⟩ := hrel
    by_cases hlt : j < n
    · have hjl : j < xs.length := by have := Hn.out; omega
      have hx := hE xs[j] (List.getElem_mem hjl)
      have hal : acc.length + 64 ≤ 140737488355328 := by
        have := cat_len by' hs _ _ Ha.out
        rw [List.length_take] at this
        omega
      have hld := flatMap_cells val 4 hv xs j hjl
      have hS0 := hS
      have hLr := hS0.old0 hL
      clear hS
      have hS := St.init wr
      have a1 : (Value.agg (val xs[j]).toArray).cells.size = 4 := by { simp [Value.cells, hv] }; have a2 : 0 + (Value.agg (val xs[j]).toArray).cells.size ≤ 4 := by { rw [a1]; omega }; have a3 : ∀ u ∈ (Value.agg (val xs[j]).toArray).cells.toList, u.oneCell' = true := by { intro u hu; exact _ho xs[j] u (by simpa [Value.cells] using hu) }; have a4 : ∀ zs : List Value, zs.length = 4 → zs.take 0 ++ (Value.agg (val xs[j]).toArray).cells.toList ++ zs.drop (0 + (Value.agg (val xs[j]).toArray).cells.size) = val xs[j] := by { intro zs hz; rw [a1, List.drop_eq_nil_of_le (by omega)]; simp [Value.cells] }; have a5 : ((val xs[j]).drop 0).take 4 = val xs[j] := by { rw [List.drop_zero, List.take_of_length_le (by rw [hv]; exact Nat.le_refl _)] }; have A1 := Lib.hid a1; clear a1; have A2 := Lib.hid a2; clear a2; have A3 := Lib.hid a3; clear a3; have A4 := Lib.hid a4; clear a4; have A5 := Lib.hid a5; clear a5; have Hld := Lib.hid hld; clear hld; go_wp2_with (first | ((with_reducible refine g_index ?_); refine wl_run rfl (x_index rfl (hS.old0 hLr) rfl rfl rfl rfl rfl (by omega) (by omega)) ?_) | ((with_reducible refine g_load ?_); refine wl_run rfl (x_loadSA (ti := Try.t47) rfl (hS.old0 hLr) rfl rfl rfl rfl Hld.out (hv _) (by omega)) ?_) | ((with_reducible refine g_alloc ?_); refine wl_of rfl ?_; refine wp_alloc hS rfl rfl rfl rfl ?_; clear hS; intro gb w1 hS) | ((with_reducible refine g_store ?_); refine wl_of rfl ?_; refine wp_store1 (ti := Try.t47) (v := .agg (val xs[j]).toArray) hS rfl rfl rfl rfl A1.out 0 rfl A2.out (fun j _ => nf0 _) A3.out (A4.out _ rfl) ?_; clear hS; intro w2 hS) | ((with_reducible refine g_load ?_); refine wl_run rfl (x_loadA (ti := Try.t47) (cs := val xs[j]) (vs := val xs[j]) hS rfl rfl rfl rfl rfl 0 rfl (by exact A5.out) (by exact hv _)) ?_) | fail)
      refine (hx acc _ _ hal (hS.old0 hB)).mono ?_
      rintro e w2 ⟨v', rfl, hok, hS2⟩
      have hcs := cat_succ by' xs j hjl acc Ha.out
      cases hby : by' xs[j] with
      | none =>
        rw [hby] at hcs
        have Hcs := Lib.hid hcs
        clear hcs hok
        go_wp2
        go_ret2
        rw [Hp.out, Hcs.out]
        exact ⟨rfl, hS0.call (hS.call hS2).nil⟩
      | some s =>
        rw [hby] at hcs
        obtain ⟨r, hr, hS3⟩ := hok s hby
        have Hcs : Hid (cat by' (xs.take (j + 1)) = some r) := Lib.hid (by rw [hr]; exact hcs)
        clear hcs hok hr
        go_wp2
        have hS4 := hS0.call (hS.call hS3).one
        exact ⟨⟨j + 1, r, by omega, by go_num, Hcs, hS4.nil, hS4.rdv (i := 0) rfl⟩, by simp [intOf]; omega⟩
    · obtain rfl : j = n := by omega
      have Hc : Hid (cat by' xs = some acc) := Lib.hid (by have := Ha.out; rwa [List.take_of_length_le (by have := Hn.out; omega)] at this)
      go_wp2_with (first | ((with_reducible refine g_conv ?_); refine wl_run rfl (x_toString rfl rfl rfl rfl hB rfl) ?_) | fail)
      go_ret2
      rw [Hp.out, Hc.out]
      exact ⟨rfl, hS⟩
set_option maxHeartbeats 2000000 in
theorem putsTransfer_any {α : Type} (f : FuncId) (hcf : ∀ args w, (callFunc f args).run Try.prog w = .ok (.enter f args) w) (val : α → List Value) (by' : α → Option (List UInt8)) (xs : List α) (vl : Value) (n : Nat) (w : World) (hn : xs.length = n) (hv : ∀ x, (val x).length = 4) (_ho : ∀ x, ∀ u ∈ val x, u.oneCell' = true)
    (hs : ∀ x s, by' x = some s → s.length ≤ 32) (hE : ∀ x ∈ xs, EachOK Try.prog f 5 (fun x => ag (val x)) by' x) (hL : Rd w 4 vl n (xs.flatMap val)) :
    Calls Try.prog 28 #[vl, .func (.func f) #[] #[]] w fun e w' => e = .returned (.tuple #[.string ⟨(putS by' xs).1.toArray⟩, .int .i64 (putS by' xs).2]) ∧ St [] w w' [] := by
  have Hn := Lib.hid hn
  clear hn
  by_cases h0 : n = 0
  · have d1 : ((n : Int) == 0) = true := by rw [h0]; rfl
    have hp : putS by' xs = ([], 1) := by unfold putS; rw [if_pos (by have := Hn.out; omega)]
    rw [hp]
    clear h0
    go_enter Try.func28, Try.ntmps28
    refine St.startAt w fun w1 hS => ?_
    go_wp2_with (first | ((with_reducible refine g_len ?_); refine wl_run rfl (x_len rfl (hS.old0 hL) rfl rfl) ?_) | fail)
    go_ret2
    exact ⟨rfl, hS⟩
  have d1 : ((n : Int) == 0) = false := beq_eq_false_iff_ne.2 (by omega)
  by_cases h4 : 4 < n
  · have d2 : decide ((4 : Int) < n) = true := by simp; omega
    have hp : putS by' xs = ([], 1) := by unfold putS; rw [if_pos (by have := Hn.out; omega)]
    rw [hp]
    clear h0
    go_enter Try.func28, Try.ntmps28
    refine St.startAt w fun w1 hS => ?_
    go_wp2_with (first | ((with_reducible refine g_len ?_); refine wl_run rfl (x_len rfl (hS.old0 hL) rfl rfl) ?_) | fail)
    go_ret2
    exact ⟨rfl, hS⟩
  have d2 : decide ((4 : Int) < n) = false := by simp; omega
  have hp : putS by' xs = (match cat by' xs with | some s => (s, 0) | none => ([], 1)) := by unfold putS; rw [if_neg (by have := Hn.out; omega)]
  have Hp := Lib.hid hp
  clear hp
  go_enter Try.func28, Try.ntmps28
  refine St.startAt w fun w1 hS => ?_
  go_wp2_with (first | ((with_reducible refine g_len ?_); refine wl_run rfl (x_len rfl (hS.old0 hL) rfl rfl) ?_) | fail)
  go_loopw [6, 21] (fun b i wr => ∃ (j : Nat) (acc : List UInt8), j ≤ n ∧ i = .int .i64 j ∧ Hid (cat by' (xs.take j) = some acc) ∧ St [] w wr [] ∧ Rd wr 1 b acc.length (B acc)) (fun _ i _ => n - (intOf i).toNat)
  case atStart => exact ⟨0, [], by omega, rfl, Lib.hid rfl, hS, Rd.nil _ _⟩
  case round =>
    clear hS
    obtain ⟨j, acc, hj, rfl, Ha, hS, hB⟩ := hrel
    by_cases hlt : j < n
    · have hjl : j < xs.length := by have := Hn.out; omega
      have hx := hE xs[j] (List.getElem_mem hjl)
      have hal : acc.length + 64 ≤ 140737488355328 := by
        have := cat_len by' hs _ _ Ha.out
        rw [List.length_take] at this
        omega
      have hld := flatMap_cells val 4 hv xs j hjl
      have hS0 := hS
      have hLr := hS0.old0 hL
      clear hS
      have hS := St.init wr
      have a1 : (Value.agg (val xs[j]).toArray).cells.size = 4 := by { simp [Value.cells, hv] }; have a2 : 0 + (Value.agg (val xs[j]).toArray).cells.size ≤ 4 := by { rw [a1]; omega }; have a3 : ∀ u ∈ (Value.agg (val xs[j]).toArray).cells.toList, u.oneCell' = true := by { intro u hu; exact _ho xs[j] u (by simpa [Value.cells] using hu) }; have a4 : ∀ zs : List Value, zs.length = 4 → zs.take 0 ++ (Value.agg (val xs[j]).toArray).cells.toList ++ zs.drop (0 + (Value.agg (val xs[j]).toArray).cells.size) = val xs[j] := by { intro zs hz; rw [a1, List.drop_eq_nil_of_le (by omega)]; simp [Value.cells] }; have a5 : ((val xs[j]).drop 0).take 4 = val xs[j] := by { rw [List.drop_zero, List.take_of_length_le (by rw [hv]; exact Nat.le_refl _)] }; have A1 := Lib.hid a1; clear a1; have A2 := Lib.hid a2; clear a2; have A3 := Lib.hid a3; clear a3; have A4 := Lib.hid a4; clear a4; have A5 := Lib.hid a5; clear a5; have Hld := Lib.hid hld; clear hld; go_wp2_with (first | ((with_reducible refine g_index ?_); refine wl_run rfl (x_index rfl (hS.old0 hLr) rfl rfl rfl rfl rfl (by omega) (by omega)) ?_) | ((with_reducible refine g_load ?_); refine wl_run rfl (x_loadSA (ti := Try.t45) rfl (hS.old0 hLr) rfl rfl rfl rfl Hld.out (hv _) (by omega)) ?_) | ((with_reducible refine g_alloc ?_); refine wl_of rfl ?_; refine wp_alloc hS rfl rfl rfl rfl ?_; clear hS; intro gb w1 hS) | ((with_reducible refine g_store ?_); refine wl_of rfl ?_; refine wp_store1 (ti := Try.t45) (v := .agg (val xs[j]).toArray) hS rfl rfl rfl rfl A1.out 0 rfl A2.out (fun j _ => nf0 _) A3.out (A4.out _ rfl) ?_; clear hS; intro w2 hS) | ((with_reducible refine g_load ?_); refine wl_run rfl (x_loadA (ti := Try.t45) (cs := val xs[j]) (vs := val xs[j]) hS rfl rfl rfl rfl rfl 0 rfl (by exact A5.out) (by exact hv _)) ?_) | fail)
      refine (hx acc _ _ hal (hS.old0 hB)).mono ?_
      rintro e w2 ⟨v', rfl, hok, hS2⟩
      have hcs := cat_succ by' xs j hjl acc Ha.out
      cases hby : by' xs[j] with
      | none =>
        rw [hby] at hcs
        have Hcs := Lib.hid hcs
        clear hcs hok
        go_wp2
        go_ret2
        rw [Hp.out, Hcs.out]
        exact ⟨rfl, hS0.call (hS.call hS2).nil⟩
      | some s =>
        rw [hby] at hcs
        obtain ⟨r, hr, hS3⟩ := hok s hby
        have Hcs : Hid (cat by' (xs.take (j + 1)) = some r) := Lib.hid (by rw [hr]; exact hcs)
        clear hcs hok hr
        go_wp2
        have hS4 := hS0.call (hS.call hS3).one
        exact ⟨⟨j + 1, r, by omega, by go_num, Hcs, hS4.nil, hS4.rdv (i := 0) rfl⟩, by simp [intOf]; omega⟩
    · obtain rfl : j = n := by omega
      have Hc : Hid (cat by' xs = some acc) := Lib.hid (by have := Ha.out; rwa [List.take_of_length_le (by have := Hn.out; omega)] at this)
      go_wp2_with (first | ((with_reducible refine g_conv ?_); refine wl_run rfl (x_toString rfl rfl rfl rfl hB rfl) ?_) | fail)
      go_ret2
      rw [Hp.out, Hc.out]
      exact ⟨rfl, hS⟩
end Go.Proofs.Ytggngdjncokanaa
