/-
  event.numbers, event.at.
  event.put at its three types of elements.
  The functions that event.put is handed.
  event.take at its three types of elements.
  The function values that event's put and take are handed.
  event's exported functions on lists, by the contracts of put and take.
-/
import Derived.Test.YtjjiibcnknljfaaGreatNum
import Derived.Test.YtjjiibcnknljfaaGreatGen
set_option linter.unusedSimpArgs false
set_option linter.unusedVariables false
set_option linter.unusedSectionVars false
set_option maxRecDepth 100000
namespace Go.Proofs.YtjjiibcnknljfaaGreat
open Go.RowKit Go.Cmp
set_option maxRecDepth 100000

set_option maxHeartbeats 400000 in
theorem numbers_any (lb : List UInt8) (l : List Nat) (v vl : Value) (n : Nat) (w : World) (hn : l.length = n) (h0 : 0 < n) (hl : ∀ x ∈ l, x < 256 ^ 8) (hb : lb.length + 8 * n + 8 ≤ 140737488355328) (hR : Rd w 1 v lb.length (B lb)) (hL : Rd w 1 vl n (U l)) :
    Calls Tryz.prog 116 #[v, vl] w fun e w' => ∃ v' r, e = .returned v' ∧ r = lb ++ l.flatMap (leB 8) ∧ St [] w w' [.vec v' 5 1 r.length (B r)] := by
  have Hn := Lib.hid hn
  clear hn
  go_enter Tryz.func116, Tryz.ntmps116
  refine St.startAt w fun w1 hS => ?_
  go_wp2_with (first | ((with_reducible refine g_len ?_); refine wl_run rfl (x_len rfl (hS.old0 hL) rfl rfl) ?_) | fail)
  go_loopw [0, 9] (fun b i wr => ∃ (j : Nat) (acc : List UInt8), j ≤ n ∧ i = .int .i64 j ∧ Hid (acc = lb ++ (l.take j).flatMap (leB 8)) ∧ St [] w wr [] ∧ Rd wr 1 b acc.length (B acc) ∧ (0 < j → St [] w wr [.vec b 5 1 acc.length (B acc)])) (fun _ i _ => n - (intOf i).toNat)
  case atStart => exact ⟨0, lb, by omega, rfl, Lib.hid (by simp), hS, hS.old0 hR, by omega⟩
  case round =>
    clear hS
    obtain ⟨j, acc, hj, rfl, Ha, hS, hB, hV⟩ := hrel
    by_cases hlt : j < n
    · have hjl : j < l.length := by have := Hn.out; omega
      have hx := hl l[j] (List.getElem_mem hjl)
      have hal : acc.length + 8 ≤ 140737488355328 := by
        rw [Ha.out, List.length_append, flatMap_leB_length, List.length_take]; omega
      go_wp2_with (first | ((with_reducible refine g_index ?_); refine wl_run rfl (x_index rfl (hS.old0 hL) rfl rfl rfl rfl rfl (by omega) (by omega)) ?_) | ((with_reducible refine g_load ?_); refine wl_run rfl (x_loadS1 rfl (hS.old0 hL) rfl rfl rfl (by simpa using U_get hjl)) ?_) | fail)
      refine (put_in acc _ l[j] 8 _ (by omega) (by omega) hx hal hB).mono ?_
      rintro e w2 ⟨v', rfl, hS2⟩
      go_wp2
      have hS3 := hS.call hS2
      have e1 : acc.length + 8 = (acc ++ leB 8 l[j]).length := by simp [leB_length]
      rw [e1] at hS3
      refine ⟨⟨j + 1, acc ++ leB 8 l[j], by omega, by go_num, ?_, hS3.nil, hS3.rdv (i := 0) rfl, fun _ => hS3⟩, by simp [intOf]; omega⟩
      refine Lib.hid ?_
      rw [flatMap_take_succ _ _ _ hjl, Ha.out, List.append_assoc]
    · go_wp2
      go_ret
      obtain rfl : j = n := by omega
      refine ⟨_, acc, rfl, ?_, hV h0⟩
      rw [Ha.out, List.take_of_length_le (by have := Hn.out; omega)]

/-- event.at: eight bytes from a place on. -/
theorem at_in (l : List UInt8) (i : Nat) (w : World) (hi : i + 8 ≤ l.length) (hl : l.length ≤ 140737488355328) :
    Calls Tryz.prog 124 #[.string ⟨l.toArray⟩, .int .i64 i] w fun e w' => e = .returned (.int .u64 (leN ((l.drop i).take 8))) ∧ St [] w w' [] := by
  go_enter Tryz.func124, Tryz.ntmps124
  refine St.startAt w fun w1 hS => ?_
  have hm : l.length ≤ maxLen := by unfold maxLen; omega
  go_wp2_with (first | ((with_reducible refine g_conv ?_); refine wl_of rfl ?_; refine wp_toBytes hS rfl rfl rfl rfl rfl hm ?_; clear hS; intro v1 w1 hS) | fail)
  refine (take_in l _ i 8 _ (by omega) (by omega) hi hl (hS.rdv (i := 0) rfl)).mono ?_
  rintro e w2 ⟨rfl, hS2⟩
  go_wp2
  go_ret
  exact ⟨rfl, (hS.call hS2).nil⟩

end Go.Proofs.YtjjiibcnknljfaaGreat
namespace Go.Proofs.YtjjiibcnknljfaaGreat
open Go.RowKit Go.Cmp
set_option maxRecDepth 100000

/-- The bytes of a list, each one's by a function; none: one can't be. -/
def cat {α : Type} (f : α → Option (List UInt8)) : List α → Option (List UInt8)
  | [] => some []
  | x :: r => match f x with
    | none => none
    | some a => match cat f r with
      | none => none
      | some b => some (a ++ b)
def putS {α : Type} (f : α → Option (List UInt8)) (xs : List α) : List UInt8 × Int :=
  if xs.length = 0 ∨ 4 < xs.length then ([], 1) else match cat f xs with | some s => (s, 0) | none => ([], 1)

theorem cat_append {α : Type} (f : α → Option (List UInt8)) (a b : List α) : cat f (a ++ b) = match cat f a with | none => none | some x => match cat f b with | none => none | some y => some (x ++ y) := by
  induction a with
  | nil => simp only [List.nil_append, cat]; cases cat f b <;> simp
  | cons x a ih =>
    simp only [List.cons_append, cat, ih]
    cases f x with
    | none => rfl
    | some s =>
      cases cat f a with
      | none => rfl
      | some t => cases cat f b <;> simp
theorem cat_succ {α : Type} (f : α → Option (List UInt8)) (xs : List α) (j : Nat) (h : j < xs.length) (acc : List UInt8) (ha : cat f (xs.take j) = some acc) :
    match f xs[j] with | none => cat f xs = none | some s => cat f (xs.take (j + 1)) = some (acc ++ s) := by
  have e1 : cat f (xs.take (j + 1)) = match f xs[j] with | none => none | some s => some (acc ++ s) := by
    rw [List.take_succ_eq_append_getElem h, cat_append, ha]
    simp only [cat]
    cases f xs[j] <;> simp
  cases hf : f xs[j] with
  | none =>
    rw [hf] at e1
    show cat f xs = none
    conv => lhs; rw [← List.take_append_drop (j + 1) xs, cat_append, e1]
  | some s => rw [hf] at e1; exact e1
theorem cat_len {α : Type} (f : α → Option (List UInt8)) (hs : ∀ x s, f x = some s → s.length ≤ 32) : ∀ (xs : List α) (acc : List UInt8), cat f xs = some acc → acc.length ≤ 32 * xs.length
  | [], acc, h => by simp only [cat, Option.some.injEq] at h; subst h; simp
  | x :: xs, acc, h => by
    simp only [cat] at h
    cases hf : f x with
    | none => rw [hf] at h; cases h
    | some a =>
      rw [hf] at h
      cases hc : cat f xs with
      | none => rw [hc] at h; cases h
      | some b =>
        rw [hc] at h
        simp only [Option.some.injEq] at h
        subst h
        have h1 := hs x a hf
        have h2 := cat_len f hs xs b hc
        simp only [List.length_append, List.length_cons]
        omega
theorem flatMap_cells {α : Type} (val : α → List Value) (k : Nat) (hv : ∀ x, (val x).length = k) (xs : List α) (j : Nat) (h : j < xs.length) : ((xs.flatMap val).drop (j * k)).take k = val xs[j] := by
  induction xs generalizing j with
  | nil => simp at h
  | cons x xs ih =>
    cases j with
    | zero => simp only [Nat.zero_mul, List.drop_zero, List.flatMap_cons, List.getElem_cons_zero]; rw [List.take_left' (hv x)]
    | succ j =>
      simp only [List.flatMap_cons, List.getElem_cons_succ]
      rw [List.drop_append, List.drop_eq_nil_of_le (by rw [hv, Nat.succ_mul]; omega), List.nil_append, hv, Nat.succ_mul, Nat.add_sub_cancel]
      exact ih j (by simpa using h)

/-- What 'put' asks of its function. -/
def EachOK {α : Type} (P : Program) (f : FuncId) (e : TypeId) (val : α → Value) (by' : α → Option (List UInt8)) (x : α) : Prop :=
  ∀ (lb : List UInt8) (v : Value) (w : World), lb.length + 64 ≤ 140737488355328 → Rd w 1 v lb.length (B lb) → Calls P f #[v, val x] w fun e' w' => ∃ v', e' = .returned (.tuple #[v', .bool (by' x).isSome]) ∧
    (∀ s, by' x = some s → ∃ r, r = lb ++ s ∧ St [] w w' [.vec v' e 1 r.length (B r)]) ∧ St [] w w' []

/-- A one-cell list's value. -/
def hd (l : List Value) : Value := l.headD undef
/-- A struct's value. -/
abbrev ag (l : List Value) : Value := .agg l.toArray
set_option maxHeartbeats 2000000 in
theorem putsTransfer_any {α : Type} (f : FuncId) (hcf : ∀ args w, (callFunc f args).run Tryz.prog w = .ok (.enter f args) w) (val : α → List Value) (by' : α → Option (List UInt8)) (xs : List α) (vl : Value) (n : Nat) (w : World) (hn : xs.length = n) (hv : ∀ x, (val x).length = 4) (_ho : ∀ x, ∀ u ∈ val x, u.oneCell' = true)
    (hs : ∀ x s, by' x = some s → s.length ≤ 32) (hE : ∀ x ∈ xs, EachOK Tryz.prog f 5 (fun x => ag (val x)) by' x) (hL : Rd w 4 vl n (xs.flatMap val)) :
    Calls Tryz.prog 117 #[vl, .func (.func f) #[] #[]] w fun e w' => e = .returned (.tuple #[.string ⟨(putS by' xs).1.toArray⟩, .int .i64 (putS by' xs).2]) ∧ St [] w w' [] := by
  have Hn := Lib.hid hn
  clear hn
  by_cases h0 : n = 0
  · have d1 : ((n : Int) == 0) = true := by rw [h0]; rfl
    have hp : putS by' xs = ([], 1) := by unfold putS; rw [if_pos (by have := Hn.out; omega)]
    rw [hp]
    clear h0
    go_enter Tryz.func117, Tryz.ntmps117
    refine St.startAt w fun w1 hS => ?_
    go_wp2_with (first | ((with_reducible refine g_len ?_); refine wl_run rfl (x_len rfl (hS.old0 hL) rfl rfl) ?_) | fail)
    go_ret2
    exact ⟨rfl, hS⟩
  have d1 : ((n : Int) == 0) = false := beq_eq_false_iff_ne.2 (by omega)
  by_cases h4 : 4 < n
  · have d2 : decide ((4 : Int) < n) = true := by simp; omega
    have hp : putS by' xs = ([], 1) := by unfold putS; rw [if_pos (by have := Hn.out; omega)]
    rw [hp]
    clear h0
    go_enter Tryz.func117, Tryz.ntmps117
    refine St.startAt w fun w1 hS => ?_
    go_wp2_with (first | ((with_reducible refine g_len ?_); refine wl_run rfl (x_len rfl (hS.old0 hL) rfl rfl) ?_) | fail)
    go_ret2
    exact ⟨rfl, hS⟩
  have d2 : decide ((4 : Int) < n) = false := by simp; omega
  have hp : putS by' xs = (match cat by' xs with | some s => (s, 0) | none => ([], 1)) := by unfold putS; rw [if_neg (by have := Hn.out; omega)]
  have Hp := Lib.hid hp
  clear hp
  go_enter Tryz.func117, Tryz.ntmps117
  refine St.startAt w fun w1 hS => ?_
  go_wp2_with (first | ((with_reducible refine g_len ?_); refine wl_run rfl (x_len rfl (hS.old0 hL) rfl rfl) ?_) | fail)
  go_loopw [6, 21] (fun b i wr => ∃ (j : Nat) (acc : List UInt8), j ≤ n ∧ i = .int .i64 j ∧ Hid (cat by' (xs.take j) = some acc) ∧ St [] w wr [] ∧ Rd wr 1 b acc.length (B acc)) (fun _ i _ => n - (intOf i).toNat)
  case atStart => exact ⟨0, [], by omega, rfl, Lib.hid rfl, hS, Rd.nil _ _⟩
  case round =>
    clear hS
    obtain ⟨j, acc, hj, rfl, Ha, hS, hB⟩ := hrel
    by_cases hlt : j < n
    · have hjl : j < xs.length := by have := Hn.out; omega
      have hx := hE xs[j] (List.getElem_mem hjl)
      have hal : acc.length + 64 ≤ 140737488355328 := by
        have := cat_len by' hs _ _ Ha.out
        rw [List.length_take] at this
        omega
      have hld := flatMap_cells val 4 hv xs j hjl
      have hS0 := hS
      have hLr := hS0.old0 hL
      clear hS
      have hS := St.init wr
      have a1 : (Value.agg (val xs[j]).toArray).cells.size = 4 := by { simp [Value.cells, hv] }; have a2 : 0 + (Value.agg (val xs[j]).toArray).cells.size ≤ 4 := by { rw [a1]; omega }; have a3 : ∀ u ∈ (Value.agg (val xs[j]).toArray).cells.toList, u.oneCell' = true := by { intro u hu; exact _ho xs[j] u (by simpa [Value.cells] using hu) }; have a4 : ∀ zs : List Value, zs.length = 4 → zs.take 0 ++ (Value.agg (val xs[j]).toArray).cells.toList ++ zs.drop (0 + (Value.agg (val xs[j]).toArray).cells.size) = val xs[j] := by { intro zs hz; rw [a1, List.drop_eq_nil_of_le (by omega)]; simp [Value.cells] }; have a5 : ((val xs[j]).drop 0).take 4 = val xs[j] := by { rw [List.drop_zero, List.take_of_length_le (by rw [hv]; exact Nat.le_refl _)] }; have A1 := Lib.hid a1; clear a1; have A2 := Lib.hid a2; clear a2; have A3 := Lib.hid a3; clear a3; have A4 := Lib.hid a4; clear a4; have A5 := Lib.hid a5; clear a5; have Hld := Lib.hid hld; clear hld; go_wp2_with (first | ((with_reducible refine g_index ?_); refine wl_run rfl (x_index rfl (hS.old0 hLr) rfl rfl rfl rfl rfl (by omega) (by omega)) ?_) | ((with_reducible refine g_load ?_); refine wl_run rfl (x_loadSA (ti := Tryz.t91) rfl (hS.old0 hLr) rfl rfl rfl rfl Hld.out (hv _) (by omega)) ?_) | ((with_reducible refine g_alloc ?_); refine wl_of rfl ?_; refine wp_alloc hS rfl rfl rfl rfl ?_; clear hS; intro gb w1 hS) | ((with_reducible refine g_store ?_); refine wl_of rfl ?_; refine wp_store1 (ti := Tryz.t91) (v := .agg (val xs[j]).toArray) hS rfl rfl rfl rfl A1.out 0 rfl A2.out (fun j _ => nf0 _) A3.out (A4.out _ rfl) ?_; clear hS; intro w2 hS) | ((with_reducible refine g_load ?_); refine wl_run rfl (x_loadA (ti := Tryz.t91) (cs := val xs[j]) (vs := val xs[j]) hS rfl rfl rfl rfl rfl 0 rfl (by exact A5.out) (by exact hv _)) ?_) | fail)
      refine (hx acc _ _ hal (hS.old0 hB)).mono ?_
      rintro e w2 ⟨v', rfl, hok, hS2⟩
      have hcs := cat_succ by' xs j hjl acc Ha.out
      cases hby : by' xs[j] with
      | none =>
        rw [hby] at hcs
        have Hcs := Lib.hid hcs
        clear hcs hok
        go_wp2
        go_ret2
        rw [Hp.out, Hcs.out]
        exact ⟨rfl, hS0.call (hS.call hS2).nil⟩
      | some s =>
        rw [hby] at hcs
        obtain ⟨r, hr, hS3⟩ := hok s hby
        have Hcs : Hid (cat by' (xs.take (j + 1)) = some r) := Lib.hid (by rw [hr]; exact hcs)
        clear hcs hok hr
        go_wp2
        have hS4 := hS0.call (hS.call hS3).one
        exact ⟨⟨j + 1, r, by omega, by go_num, Hcs, hS4.nil, hS4.rdv (i := 0) rfl⟩, by simp [intOf]; omega⟩
    · obtain rfl : j = n := by omega
      have Hc : Hid (cat by' xs = some acc) := Lib.hid (by have := Ha.out; rwa [List.take_of_length_le (by have := Hn.out; omega)] at this)
      go_wp2_with (first | ((with_reducible refine g_conv ?_); refine wl_run rfl (x_toString rfl rfl rfl rfl hB rfl) ?_) | fail)
      go_ret2
      rw [Hp.out, Hc.out]
      exact ⟨rfl, hS⟩
end Go.Proofs.YtjjiibcnknljfaaGreat
namespace Go.Proofs.YtjjiibcnknljfaaGreat
open Go.RowKit Go.Cmp
set_option maxRecDepth 100000

structure Acc where
  id : Nat
  flags : Int
  deb : Nat
  cred : Nat
structure Tra where
  id : Nat
  deb : Nat
  cred : Nat
  amt : Nat
def Acc.cells (a : Acc) : List Value := [.int .u64 a.id, .int .i64 a.flags, .int .u64 a.deb, .int .u64 a.cred]
def Tra.cells (a : Tra) : List Value := [.int .u64 a.id, .int .u64 a.deb, .int .u64 a.cred, .int .u64 a.amt]
def Acc.Ok (a : Acc) : Prop := a.id < 256 ^ 8 ∧ a.deb < 256 ^ 8 ∧ a.cred < 256 ^ 8 ∧ -9223372036854775808 ≤ a.flags ∧ a.flags ≤ 9223372036854775807
def Tra.Ok (a : Tra) : Prop := a.id < 256 ^ 8 ∧ a.deb < 256 ^ 8 ∧ a.cred < 256 ^ 8 ∧ a.amt < 256 ^ 8
/-- A number as a byte. -/
def fb (n : Int) : UInt8 := UInt8.ofNat (n % 256).toNat
theorem fb_wrap (n : Int) : IntKind.u8.wrap n = ((fb n).toNat : Int) := by
  unfold fb
  simp only [IntKind.wrap, IntKind.bits, IntKind.signed, UInt8.toNat_ofNat']
  simp
  omega
def byAcc (a : Acc) : Option (List UInt8) := if 0 ≤ a.flags ∧ a.flags ≤ 255 then some (leB 8 a.id ++ [fb a.flags]) else none
def byTra (a : Tra) : Option (List UInt8) := some (leB 8 a.id ++ leB 8 a.deb ++ leB 8 a.cred ++ leB 8 a.amt)
def byID (n : Nat) : Option (List UInt8) := some (leB 8 n)

set_option maxHeartbeats 2000000 in
theorem asked_ok (a : Acc) (h : a.Ok) (lb : List UInt8) (v : Value) (w : World) (hb : lb.length + 64 ≤ 140737488355328) (hR : Rd w 1 v lb.length (B lb)) :
    Calls Tryz.prog 115 #[v, ag a.cells] w fun e w' => ∃ v' r, e = .returned (.tuple #[v', .bool (byAcc a).isSome]) ∧ r = lb ++ (leB 8 a.id ++ [fb a.flags]) ∧ St [] w w' [.vec v' 5 1 r.length (B r)] := by
  obtain ⟨h1, _, _, h4, h5⟩ := h
  have hw := fb_wrap a.flags
  have hc : (0 ≤ a.flags ∧ a.flags ≤ 255 ∧ (byAcc a).isSome = true) ∨ (a.flags < 0 ∧ (byAcc a).isSome = false) ∨ (0 ≤ a.flags ∧ 255 < a.flags ∧ (byAcc a).isSome = false) := by
    unfold byAcc
    split
    · rename_i hh; exact .inl ⟨hh.1, hh.2, rfl⟩
    · have : a.flags < 0 ∨ (0 ≤ a.flags ∧ 255 < a.flags) := by omega
      rcases this with h | h
      · exact .inr (.inl ⟨h, rfl⟩)
      · exact .inr (.inr ⟨h.1, h.2, rfl⟩)
  generalize (byAcc a).isSome = bo at hc ⊢
  obtain ⟨id, flags, deb, cred⟩ := a
  simp only [Acc.cells] at *
  have hgo : ∀ (t1 t2 : Bool), decide (0 ≤ flags) = t1 → (t1 = true → decide (flags ≤ 255) = t2) → bo = (t1 && t2) → Calls Tryz.prog 115 #[v, ag [.int .u64 id, .int .i64 flags, .int .u64 deb, .int .u64 cred]] w fun e w' => ∃ v' r, e = .returned (.tuple #[v', .bool bo]) ∧ r = lb ++ (leB 8 id ++ [fb flags]) ∧ St [] w w' [.vec v' 5 1 r.length (B r)] := by
    intro t1 t2 ht1 ht2 hbo
    have Hbo := Lib.hid hbo
    clear hbo hc
    go_enter Tryz.func115, Tryz.ntmps115
    refine St.startAt w fun w1 hS => ?_
    go_wp2_with (first | ((with_reducible refine g_box ?_); refine wl_of rfl ?_; refine wp_box hS rfl rfl rfl ?_; clear hS; intro gb w1 hS) | fail)
    have hS0 := hS
    have hRw := hS.old0 hR
    have c0 : w1.cell? ⟨gb, 0, none⟩ = some (.int .u64 (id : Int)) := (row_cell (hS.row (i := 0) rfl) 0).trans rfl
    have c1 : w1.cell? ⟨gb, 1, none⟩ = some (.int .i64 flags) := (row_cell (hS.row (i := 0) rfl) 1).trans rfl
    clear hS
    have hS : St [] w1 w1.drew [] := (St.init w1).drew
    refine wp_region_held (S := fun W => Mod [] w1 W) (by kernel_rfl) ?_
    change wpAnyH _ _ _ _ _ _ _ _ w1.drew
    generalize w1.drew = w2 at hS ⊢
    (refine whd_take 0 rfl rfl (by kernel_rfl) (by kernel_rfl) (by kernel_rfl) (fun _ _ _ h => h) rfl (fun W hW => by (go_simp; try with_reducible rfl)) hS.base ?_; simp only [Act.put, List.setIfInBounds_toArray, List.set_cons_zero, List.set_cons_succ])
    (refine whd_take 1 rfl rfl (by kernel_rfl) (by kernel_rfl) (by kernel_rfl) (fun _ _ _ h => h) rfl (fun W hW => by (go_simp; try with_reducible rfl)) hS.base ?_; simp only [Act.put, List.setIfInBounds_toArray, List.set_cons_zero, List.set_cons_succ])
    (refine whd_take 2 rfl rfl (by kernel_rfl) (by kernel_rfl) (by kernel_rfl) (fun _ _ _ h => h) rfl (fun W hW => (x_loadC rfl rfl rfl rfl (hW.cellOf c0))) hS.base ?_; simp only [Act.put, List.setIfInBounds_toArray, List.set_cons_zero, List.set_cons_succ])
    (refine whd_take 5 rfl rfl (by kernel_rfl) (by kernel_rfl) (by kernel_rfl) (fun _ _ _ h => h) rfl (fun W hW => by (go_simp; try with_reducible rfl)) hS.base ?_; simp only [Act.put, List.setIfInBounds_toArray, List.set_cons_zero, List.set_cons_succ])
    (refine whd_take 6 rfl rfl (by kernel_rfl) (by kernel_rfl) (by kernel_rfl) (fun _ _ _ h => h) rfl (fun W hW => (x_loadC rfl rfl rfl rfl (hW.cellOf c1))) hS.base ?_; simp only [Act.put, List.setIfInBounds_toArray, List.set_cons_zero, List.set_cons_succ])
    (refine whd_take 7 rfl rfl (by kernel_rfl) (by kernel_rfl) (by kernel_rfl) (fun _ _ _ h => h) rfl (fun W hW => by (go_simp; try with_reducible rfl)) hS.base ?_; simp only [Act.put, List.setIfInBounds_toArray, List.set_cons_zero, List.set_cons_succ])
    (refine whd_take 10 rfl rfl (by kernel_rfl) (by kernel_rfl) (by kernel_rfl) (fun _ _ _ h => h) rfl (fun W hW => by (go_simp; try with_reducible rfl)) hS.base ?_; simp only [Act.put, List.setIfInBounds_toArray, List.set_cons_zero, List.set_cons_succ])
    (refine whd_take 11 rfl rfl (by kernel_rfl) (by kernel_rfl) (by kernel_rfl) (fun _ _ _ h => h) rfl (fun W hW => (x_loadC rfl rfl rfl rfl (hW.cellOf c1))) hS.base ?_; simp only [Act.put, List.setIfInBounds_toArray, List.set_cons_zero, List.set_cons_succ])
    (refine whd_take 12 rfl rfl (by kernel_rfl) (by kernel_rfl) (by kernel_rfl) (fun _ _ _ h => h) rfl (fun W hW => by (go_simp; try with_reducible rfl)) hS.base ?_; simp only [Act.put, List.setIfInBounds_toArray, List.set_cons_zero, List.set_cons_succ])
    (refine wpAnyH_all (rs := [3, 8]) (by kernel_rfl) (by simp) ?_; intro i hi; simp only [List.mem_cons, List.not_mem_nil, or_false] at hi)
    have ht2' := ht2
    clear ht2
    cases t1
    all_goals
      (first | (have ht2 : decide (flags ≤ 255) = t2 := ht2' rfl; clear ht2') | clear ht2')
      rcases hi with rfl | rfl
      · (refine wod_of rfl rfl rfl (wp_buildSlice1 (vs := [.int .u64 (id : Int)]) hS rfl rfl rfl rfl rfl rfl (by decide) ⟨rfl, by simp [Value.cells]⟩ ?_); clear hS; intro v9 w3 hS; refine ⟨hS.base, ?_⟩; simp only [Act.put, List.setIfInBounds_toArray, List.set_cons_zero, List.set_cons_succ])
        (refine wpAnyH_all (rs := [4, 8]) (by kernel_rfl) (by simp) ?_; intro i hi; simp only [List.mem_cons, List.not_mem_nil, or_false] at hi)
        rcases hi with rfl | rfl
        · (refine wod_of rfl rfl rfl (wp_call (by go_simp) (numbers_any lb [id] v _ 1 _ rfl (by omega) (by simpa using h1) (by omega) (hS.old0 hRw) (hS.rdv (i := 0) rfl)) ?_); rintro e w4 ⟨v10, r, rfl, hr, hS2⟩; have Hr := Lib.hid hr; clear hr; replace hS := hS.call hS2; clear hS2; refine ⟨v10, rfl, hS.base, ?_⟩; simp only [Act.put, List.setIfInBounds_toArray, List.set_cons_zero, List.set_cons_succ])
          (refine wpAnyH_all (rs := [8]) (by kernel_rfl) (by simp) ?_; intro i hi; simp only [List.mem_cons, List.not_mem_nil, or_false] at hi)
          subst hi
          (refine wod_of rfl rfl rfl (wp_buildSlice1 (vs := B [fb flags]) hS rfl rfl rfl rfl rfl rfl (by decide) ⟨rfl, by simp [B, Value.cells]⟩ ?_); clear hS; intro v14 w3 hS; refine ⟨hS.base, ?_⟩; simp only [Act.put, List.setIfInBounds_toArray, List.set_cons_zero, List.set_cons_succ])
          ((refine wpAnyH_all (rs := [9]) (by kernel_rfl) (by simp) ?_; intro i hi; simp only [List.mem_cons, List.not_mem_nil, or_false] at hi); subst hi; have hbl : (r.length + 1) * 1 ≤ 140737488355328 := (by rw [Hr.out, List.length_append, flatMap_leB_length, List.length_singleton]; omega); refine wod_of rfl rfl rfl (wp_append hS rfl 1 rfl (hS.rdv (i := 0) rfl) rfl rfl rfl rfl rfl rfl (by decide) rfl (B_one _) hbl ?_); clear hS; intro v15 w5 hS _; refine ⟨hS.base, ?_⟩; simp only [Act.put, List.setIfInBounds_toArray, List.set_cons_zero, List.set_cons_succ])
          ((refine whd_take 13 rfl rfl (by kernel_rfl) (by kernel_rfl) (by kernel_rfl) (fun _ _ _ h => h) rfl (fun W hW => by (go_simp; try with_reducible rfl)) hS.base ?_; simp only [Act.put, List.setIfInBounds_toArray, List.set_cons_zero, List.set_cons_succ]); first | ((refine whd_take 14 rfl rfl (by kernel_rfl) (by kernel_rfl) (by kernel_rfl) (fun _ _ _ h => h) rfl (fun W hW => by (go_simp; try with_reducible rfl)) hS.base ?_; simp only [Act.put, List.setIfInBounds_toArray, List.set_cons_zero, List.set_cons_succ]); (refine whd_take 15 rfl rfl (by kernel_rfl) (by kernel_rfl) (by kernel_rfl) (fun _ _ _ h => h) rfl (fun W hW => (x_loadC rfl rfl rfl rfl (hW.cellOf c1))) hS.base ?_; simp only [Act.put, List.setIfInBounds_toArray, List.set_cons_zero, List.set_cons_succ]); (refine whd_take 16 rfl rfl (by kernel_rfl) (by kernel_rfl) (by kernel_rfl) (fun _ _ _ h => h) rfl (fun W hW => by (go_simp; try with_reducible rfl)) hS.base ?_; simp only [Act.put, List.setIfInBounds_toArray, List.set_cons_zero, List.set_cons_succ])) | ((refine whd_skip 14 rfl rfl (by kernel_rfl) (by kernel_rfl) (by kernel_rfl) (fun _ _ _ h => h) rfl hS.base ?_; simp only [Act.put, List.setIfInBounds_toArray, List.set_cons_zero, List.set_cons_succ]); (refine whd_skip 15 rfl rfl (by kernel_rfl) (by kernel_rfl) (by kernel_rfl) (fun _ _ _ h => h) rfl hS.base ?_; simp only [Act.put, List.setIfInBounds_toArray, List.set_cons_zero, List.set_cons_succ]); (refine whd_skip 16 rfl rfl (by kernel_rfl) (by kernel_rfl) (by kernel_rfl) (fun _ _ _ h => h) rfl hS.base ?_; simp only [Act.put, List.setIfInBounds_toArray, List.set_cons_zero, List.set_cons_succ])))
          ((refine whd_take 17 rfl rfl (by kernel_rfl) (by kernel_rfl) (by kernel_rfl) (fun _ _ _ h => h) rfl (fun W hW => by (go_simp; try with_reducible rfl)) hS.base ?_; simp only [Act.put, List.setIfInBounds_toArray, List.set_cons_zero, List.set_cons_succ]); (refine whd_take 18 rfl rfl (by kernel_rfl) (by kernel_rfl) (by kernel_rfl) (fun _ _ _ h => h) rfl (fun W hW => by (go_simp; try with_reducible rfl)) hS.base ?_; simp only [Act.put, List.setIfInBounds_toArray, List.set_cons_zero, List.set_cons_succ]); (refine whd_take 19 rfl rfl (by kernel_rfl) (by kernel_rfl) (by kernel_rfl) (fun _ _ _ h => h) rfl (fun W hW => by (go_simp; try with_reducible rfl)) hS.base ?_; simp only [Act.put, List.setIfInBounds_toArray, List.set_cons_zero, List.set_cons_succ]); (refine wpAnyH_done (by kernel_rfl) ?_ _); go_wp2; go_ret2; refine ⟨v15, r ++ [fb flags], by rw [Hbo.out]; simp, by rw [Hr.out]; simp, ?_⟩; have hf := hS0.call ((hS.front 1 rfl).one); simpa [B_append, List.length_append] using hf.one)
        · (refine wod_of rfl rfl rfl (wp_buildSlice1 (vs := B [fb flags]) hS rfl rfl rfl rfl rfl rfl (by decide) ⟨rfl, by simp [B, Value.cells]⟩ ?_); clear hS; intro v14 w3 hS; refine ⟨hS.base, ?_⟩; simp only [Act.put, List.setIfInBounds_toArray, List.set_cons_zero, List.set_cons_succ])
          (refine wpAnyH_all (rs := [4]) (by kernel_rfl) (by simp) ?_; intro i hi; simp only [List.mem_cons, List.not_mem_nil, or_false] at hi)
          subst hi
          (refine wod_of rfl rfl rfl (wp_call (by go_simp) (numbers_any lb [id] v _ 1 _ rfl (by omega) (by simpa using h1) (by omega) (hS.old0 hRw) (hS.rdv (i := 1) rfl)) ?_); rintro e w4 ⟨v10, r, rfl, hr, hS2⟩; have Hr := Lib.hid hr; clear hr; replace hS := hS.call hS2; clear hS2; refine ⟨v10, rfl, hS.base, ?_⟩; simp only [Act.put, List.setIfInBounds_toArray, List.set_cons_zero, List.set_cons_succ])
          ((refine wpAnyH_all (rs := [9]) (by kernel_rfl) (by simp) ?_; intro i hi; simp only [List.mem_cons, List.not_mem_nil, or_false] at hi); subst hi; have hbl : (r.length + 1) * 1 ≤ 140737488355328 := (by rw [Hr.out, List.length_append, flatMap_leB_length, List.length_singleton]; omega); refine wod_of rfl rfl rfl (wp_append hS rfl 0 rfl (hS.rdv (i := 1) rfl) rfl rfl rfl rfl rfl rfl (by decide) rfl (B_one _) hbl ?_); clear hS; intro v15 w5 hS _; refine ⟨hS.base, ?_⟩; simp only [Act.put, List.setIfInBounds_toArray, List.set_cons_zero, List.set_cons_succ])
          ((refine whd_take 13 rfl rfl (by kernel_rfl) (by kernel_rfl) (by kernel_rfl) (fun _ _ _ h => h) rfl (fun W hW => by (go_simp; try with_reducible rfl)) hS.base ?_; simp only [Act.put, List.setIfInBounds_toArray, List.set_cons_zero, List.set_cons_succ]); first | ((refine whd_take 14 rfl rfl (by kernel_rfl) (by kernel_rfl) (by kernel_rfl) (fun _ _ _ h => h) rfl (fun W hW => by (go_simp; try with_reducible rfl)) hS.base ?_; simp only [Act.put, List.setIfInBounds_toArray, List.set_cons_zero, List.set_cons_succ]); (refine whd_take 15 rfl rfl (by kernel_rfl) (by kernel_rfl) (by kernel_rfl) (fun _ _ _ h => h) rfl (fun W hW => (x_loadC rfl rfl rfl rfl (hW.cellOf c1))) hS.base ?_; simp only [Act.put, List.setIfInBounds_toArray, List.set_cons_zero, List.set_cons_succ]); (refine whd_take 16 rfl rfl (by kernel_rfl) (by kernel_rfl) (by kernel_rfl) (fun _ _ _ h => h) rfl (fun W hW => by (go_simp; try with_reducible rfl)) hS.base ?_; simp only [Act.put, List.setIfInBounds_toArray, List.set_cons_zero, List.set_cons_succ])) | ((refine whd_skip 14 rfl rfl (by kernel_rfl) (by kernel_rfl) (by kernel_rfl) (fun _ _ _ h => h) rfl hS.base ?_; simp only [Act.put, List.setIfInBounds_toArray, List.set_cons_zero, List.set_cons_succ]); (refine whd_skip 15 rfl rfl (by kernel_rfl) (by kernel_rfl) (by kernel_rfl) (fun _ _ _ h => h) rfl hS.base ?_; simp only [Act.put, List.setIfInBounds_toArray, List.set_cons_zero, List.set_cons_succ]); (refine whd_skip 16 rfl rfl (by kernel_rfl) (by kernel_rfl) (by kernel_rfl) (fun _ _ _ h => h) rfl hS.base ?_; simp only [Act.put, List.setIfInBounds_toArray, List.set_cons_zero, List.set_cons_succ])))
          ((refine whd_take 17 rfl rfl (by kernel_rfl) (by kernel_rfl) (by kernel_rfl) (fun _ _ _ h => h) rfl (fun W hW => by (go_simp; try with_reducible rfl)) hS.base ?_; simp only [Act.put, List.setIfInBounds_toArray, List.set_cons_zero, List.set_cons_succ]); (refine whd_take 18 rfl rfl (by kernel_rfl) (by kernel_rfl) (by kernel_rfl) (fun _ _ _ h => h) rfl (fun W hW => by (go_simp; try with_reducible rfl)) hS.base ?_; simp only [Act.put, List.setIfInBounds_toArray, List.set_cons_zero, List.set_cons_succ]); (refine whd_take 19 rfl rfl (by kernel_rfl) (by kernel_rfl) (by kernel_rfl) (fun _ _ _ h => h) rfl (fun W hW => by (go_simp; try with_reducible rfl)) hS.base ?_; simp only [Act.put, List.setIfInBounds_toArray, List.set_cons_zero, List.set_cons_succ]); (refine wpAnyH_done (by kernel_rfl) ?_ _); go_wp2; go_ret2; refine ⟨v15, r ++ [fb flags], by rw [Hbo.out]; simp, by rw [Hr.out]; simp, ?_⟩; have hf := hS0.call ((hS.front 0 rfl).one); simpa [B_append, List.length_append] using hf.one)
      · (refine wod_of rfl rfl rfl (wp_buildSlice1 (vs := B [fb flags]) hS rfl rfl rfl rfl rfl rfl (by decide) ⟨rfl, by simp [B, Value.cells]⟩ ?_); clear hS; intro v14 w3 hS; refine ⟨hS.base, ?_⟩; simp only [Act.put, List.setIfInBounds_toArray, List.set_cons_zero, List.set_cons_succ])
        (refine wpAnyH_all (rs := [3]) (by kernel_rfl) (by simp) ?_; intro i hi; simp only [List.mem_cons, List.not_mem_nil, or_false] at hi)
        subst hi
        (refine wod_of rfl rfl rfl (wp_buildSlice1 (vs := [.int .u64 (id : Int)]) hS rfl rfl rfl rfl rfl rfl (by decide) ⟨rfl, by simp [Value.cells]⟩ ?_); clear hS; intro v9 w3 hS; refine ⟨hS.base, ?_⟩; simp only [Act.put, List.setIfInBounds_toArray, List.set_cons_zero, List.set_cons_succ])
        (refine wpAnyH_all (rs := [4]) (by kernel_rfl) (by simp) ?_; intro i hi; simp only [List.mem_cons, List.not_mem_nil, or_false] at hi)
        subst hi
        (refine wod_of rfl rfl rfl (wp_call (by go_simp) (numbers_any lb [id] v _ 1 _ rfl (by omega) (by simpa using h1) (by omega) (hS.old0 hRw) (hS.rdv (i := 0) rfl)) ?_); rintro e w4 ⟨v10, r, rfl, hr, hS2⟩; have Hr := Lib.hid hr; clear hr; replace hS := hS.call hS2; clear hS2; refine ⟨v10, rfl, hS.base, ?_⟩; simp only [Act.put, List.setIfInBounds_toArray, List.set_cons_zero, List.set_cons_succ])
        ((refine wpAnyH_all (rs := [9]) (by kernel_rfl) (by simp) ?_; intro i hi; simp only [List.mem_cons, List.not_mem_nil, or_false] at hi); subst hi; have hbl : (r.length + 1) * 1 ≤ 140737488355328 := (by rw [Hr.out, List.length_append, flatMap_leB_length, List.length_singleton]; omega); refine wod_of rfl rfl rfl (wp_append hS rfl 0 rfl (hS.rdv (i := 2) rfl) rfl rfl rfl rfl rfl rfl (by decide) rfl (B_one _) hbl ?_); clear hS; intro v15 w5 hS _; refine ⟨hS.base, ?_⟩; simp only [Act.put, List.setIfInBounds_toArray, List.set_cons_zero, List.set_cons_succ])
        ((refine whd_take 13 rfl rfl (by kernel_rfl) (by kernel_rfl) (by kernel_rfl) (fun _ _ _ h => h) rfl (fun W hW => by (go_simp; try with_reducible rfl)) hS.base ?_; simp only [Act.put, List.setIfInBounds_toArray, List.set_cons_zero, List.set_cons_succ]); first | ((refine whd_take 14 rfl rfl (by kernel_rfl) (by kernel_rfl) (by kernel_rfl) (fun _ _ _ h => h) rfl (fun W hW => by (go_simp; try with_reducible rfl)) hS.base ?_; simp only [Act.put, List.setIfInBounds_toArray, List.set_cons_zero, List.set_cons_succ]); (refine whd_take 15 rfl rfl (by kernel_rfl) (by kernel_rfl) (by kernel_rfl) (fun _ _ _ h => h) rfl (fun W hW => (x_loadC rfl rfl rfl rfl (hW.cellOf c1))) hS.base ?_; simp only [Act.put, List.setIfInBounds_toArray, List.set_cons_zero, List.set_cons_succ]); (refine whd_take 16 rfl rfl (by kernel_rfl) (by kernel_rfl) (by kernel_rfl) (fun _ _ _ h => h) rfl (fun W hW => by (go_simp; try with_reducible rfl)) hS.base ?_; simp only [Act.put, List.setIfInBounds_toArray, List.set_cons_zero, List.set_cons_succ])) | ((refine whd_skip 14 rfl rfl (by kernel_rfl) (by kernel_rfl) (by kernel_rfl) (fun _ _ _ h => h) rfl hS.base ?_; simp only [Act.put, List.setIfInBounds_toArray, List.set_cons_zero, List.set_cons_succ]); (refine whd_skip 15 rfl rfl (by kernel_rfl) (by kernel_rfl) (by kernel_rfl) (fun _ _ _ h => h) rfl hS.base ?_; simp only [Act.put, List.setIfInBounds_toArray, List.set_cons_zero, List.set_cons_succ]); (refine whd_skip 16 rfl rfl (by kernel_rfl) (by kernel_rfl) (by kernel_rfl) (fun _ _ _ h => h) rfl hS.base ?_; simp only [Act.put, List.setIfInBounds_toArray, List.set_cons_zero, List.set_cons_succ])))
        ((refine whd_take 17 rfl rfl (by kernel_rfl) (by kernel_rfl) (by kernel_rfl) (fun _ _ _ h => h) rfl (fun W hW => by (go_simp; try with_reducible rfl)) hS.base ?_; simp only [Act.put, List.setIfInBounds_toArray, List.set_cons_zero, List.set_cons_succ]); (refine whd_take 18 rfl rfl (by kernel_rfl) (by kernel_rfl) (by kernel_rfl) (fun _ _ _ h => h) rfl (fun W hW => by (go_simp; try with_reducible rfl)) hS.base ?_; simp only [Act.put, List.setIfInBounds_toArray, List.set_cons_zero, List.set_cons_succ]); (refine whd_take 19 rfl rfl (by kernel_rfl) (by kernel_rfl) (by kernel_rfl) (fun _ _ _ h => h) rfl (fun W hW => by (go_simp; try with_reducible rfl)) hS.base ?_; simp only [Act.put, List.setIfInBounds_toArray, List.set_cons_zero, List.set_cons_succ]); (refine wpAnyH_done (by kernel_rfl) ?_ _); go_wp2; go_ret2; refine ⟨v15, r ++ [fb flags], by rw [Hbo.out]; simp, by rw [Hr.out]; simp, ?_⟩; have hf := hS0.call ((hS.front 0 rfl).one); simpa [B_append, List.length_append] using hf.one)
  rcases hc with ⟨k1, k2, k3⟩ | ⟨k1, k3⟩ | ⟨k1, k2, k3⟩
  · exact hgo true true (by simpa using k1) (fun _ => by simpa using k2) (by simpa using k3)
  · exact hgo false false (by simpa using k1) (fun h => by cases h) (by simpa using k3)
  · exact hgo true false (by simpa using k1) (fun _ => by simpa using k2) (by simpa using k3)
end Go.Proofs.YtjjiibcnknljfaaGreat
namespace Go.Proofs.YtjjiibcnknljfaaGreat
open Go.RowKit Go.Cmp
set_option maxRecDepth 100000

/-- Piece i of so many bytes. -/
def chunk (l : List UInt8) (size i : Nat) : List UInt8 := (l.drop (i * size)).take size
def takeS {α : Type} (g : List UInt8 → α) (size : Nat) (l : List UInt8) : List α × Bool :=
  if l.length = 0 ∨ l.length % size ≠ 0 ∨ 4 < l.length / size then ([], false) else ((List.range (l.length / size)).map fun i => g (chunk l size i), true)
theorem hd_cells {l : List Value} (h : l.length = 1) (h1 : ∀ u ∈ l, u.oneCell' = true) : (hd l).cells = l.toArray := by
  match l, h with
  | [u], _ => have := h1 u (by simp); cases u <;> first | rfl | (simp [Value.oneCell'] at this)
set_option maxHeartbeats 1000000 in
theorem takesID_any {α : Type} (f : FuncId) (hcf : ∀ args w, (callFunc f args).run Tryz.prog w = .ok (.enter f args) w) (val : α → List Value) (g : List UInt8 → α) (l : List UInt8) (size : Nat) (w : World) (hv : ∀ x, (val x).length = 1) (ho : ∀ x, ∀ u ∈ val x, u.oneCell' = true) (hz : 0 < size) (hz2 : size ≤ 32)
    (hl : l.length ≤ 140737488355328)
    (hE : ∀ c : List UInt8, c.length = size → ∀ w, Calls Tryz.prog f #[.string ⟨c.toArray⟩] w fun e w' => e = .returned (hd (val (g c))) ∧ St [] w w' []) :
    Calls Tryz.prog 135 #[.string ⟨l.toArray⟩, .int .i64 size, .func (.func f) #[] #[]] w fun e w' => ∃ v, e = .returned (.tuple #[v, .bool (takeS g size l).2]) ∧ St [] w w' [.vec v 32 1 (takeS g size l).1.length ((takeS g size l).1.flatMap val)] := by
  have HE := Lib.hid hE
  have HO := Lib.hid ho
  have HV := Lib.hid hv
  clear hE ho hv
  have hdiv : (l.length : Int) / (size : Int) = ((l.length / size : Nat) : Int) := by push_cast; rfl
  have hdle : l.length / size ≤ l.length := Nat.div_le_self _ _
  obtain ⟨m, hm⟩ : ∃ m, l.length / size = m := ⟨_, rfl⟩
  have Hm := Lib.hid hm
  rw [hm] at hdiv hdle
  have s1 : wrap64 ((l.length : Int) / (size : Int)) = (m : Int) := by rw [hdiv]; exact IntWalk.wrap64_in _ ⟨by omega, by omega⟩
  have hsz : ((size : Int) == 0) = false := beq_eq_false_iff_ne.2 (by omega)
  have hsz' : ¬ size = 0 := by omega
  clear hm hdiv
  by_cases h0 : l = []
  · have hp : takeS g size l = ([], false) := by unfold takeS; rw [if_pos (.inl (by rw [h0]; rfl))]
    rw [hp]
    go_enter Tryz.func135, Tryz.ntmps135
    refine St.startAt w fun w1 hS => ?_
    go_wp2_with (fail)
    go_ret2
    exact ⟨_, rfl, hS.addNil _ _⟩
  have h0' : ((l.length : Int) == 0) = false := beq_eq_false_iff_ne.2 (by have := List.length_pos_iff.2 h0; omega)
  by_cases h1 : l.length % size = 0
  · have h1' : (l.length : Int) % (size : Int) = 0 := by rw [← Int.natCast_emod, h1]; rfl
    by_cases h4 : 4 < m
    · have hp : takeS g size l = ([], false) := by unfold takeS; rw [if_pos (.inr (.inr (by rw [Hm.out]; exact h4)))]
      rw [hp]
      have d4 : (4 : Int) < m := by omega
      go_enter Tryz.func135, Tryz.ntmps135
      refine St.startAt w fun w1 hS => ?_
      go_wp2_with (fail)
      go_ret2
      exact ⟨_, rfl, hS.addNil _ _⟩
    · have hp : takeS g size l = ((List.range m).map fun i => g (chunk l size i), true) := by
        unfold takeS; rw [if_neg (by rw [Hm.out]; have := List.length_pos_iff.2 h0; omega), Hm.out]
      rw [hp]
      have d4 : (m : Int) ≤ 4 := by omega
      have d4' : decide ((4 : Int) < m) = false := by simp; omega
      go_enter Tryz.func135, Tryz.ntmps135
      refine St.startAt w fun w1 hS => ?_
      go_wp2_with (fail)
      have hlm : l.length = m * size := by
        have := Nat.div_add_mod l.length size
        rw [h1, Hm.out, Nat.add_zero, Nat.mul_comm] at this
        exact this.symm
      have Hlm := Lib.hid hlm
      clear hlm hp s1 h0' h1' d4'
      replace hS := hS.addNil 32 1
      go_loopw [0, 8] (fun s v wr => ∃ (j : Nat) (r : List UInt8), j ≤ m ∧ s = .string ⟨r.toArray⟩ ∧ Hid (r = l.drop (j * size)) ∧ St [] w wr [.vec v 32 1 j (((List.range j).map fun i => g (chunk l size i)).flatMap val)]) (fun s _ _ => match s with | .string b => b.size | _ => 0)
      case atStart => exact ⟨0, l, by omega, rfl, Lib.hid (by simp), hS⟩
      case round =>
        clear hS
        obtain ⟨j, r, hj, rfl, Hr, hS⟩ := hrel
        by_cases hlt : j < m
        · have hrl : size ≤ r.length := by
            rw [Hr.out, List.length_drop, Hlm.out]
            have : (j + 1) * size ≤ m * size := Nat.mul_le_mul_right _ hlt
            rw [Nat.add_mul, Nat.one_mul] at this
            omega
          have hr0 : r.isEmpty = false := by cases r with | nil => simp at hrl; omega | cons => rfl
          have hx1 : (⟨r.toArray⟩ : ByteArray).extract 0 size = ⟨(r.take size).toArray⟩ := by rw [bx, List.drop_zero]
          have hx2 : (⟨r.toArray⟩ : ByteArray).extract size r.length = ⟨(r.drop size).toArray⟩ := by rw [bx, List.take_length]
          have hrs : (0 : Int) ≤ (size : Int) := by omega
          have hrs2 : (size : Int) ≤ (r.length : Int) := by omega
          have hch : r.take size = chunk l size j := by rw [Hr.out]; rfl
          have Hch := Lib.hid hch
          clear hch
          have hcl : (r.take size).length = size := by simp; omega
          have Hcl := Lib.hid hcl
          clear hcl
          have hS0 := hS
          clear hS
          go_wp2_with (fail)
          refine (HE.out _ Hcl.out _).mono ?_
          rintro e w2 ⟨rfl, hS2⟩
          have hS := hS0.call hS2
          clear hS2 hS0
          have hbl : (j + 1) * 8 ≤ 140737488355328 := by omega
          go_wp2_with (first | ((with_reducible refine g_bs ?_); refine wl_of rfl ?_; refine wp_build1 (ti := Tryz.t32) (cs := val (g (r.take size))) hS rfl rfl (hd_cells (HV.out _) (HO.out _)) rfl rfl rfl (HV.out _) (by decide) rfl ?_; clear hS; intro v1 w3 hS) | ((with_reducible refine g_append ?_); refine wl_of rfl ?_; refine wp_append (ti := Tryz.t32) hS rfl 1 rfl (hS.rdv (i := 0) rfl) rfl rfl rfl rfl rfl rfl (by decide) rfl (HO.out _) hbl ?_; clear hS; intro v2 w4 hS _) | fail)
          refine ⟨⟨j + 1, r.drop size, by omega, rfl, Lib.hid ?_, ?_⟩, ?_⟩
          · rw [Hr.out, List.drop_drop, Nat.add_mul, Nat.one_mul]
          · have hf := (hS.front 1 rfl).one
            rw [List.range_succ, List.map_append, List.flatMap_append]
            rw [Hch.out] at hf
            simpa using hf
          · have hsr : ∀ q : List UInt8, (⟨q.toArray⟩ : ByteArray).size = q.length := fun q => by simp [ByteArray.size]
            simp only [hsr, List.length_drop]
            omega
        · have hr0 : r = [] := by
            rw [Hr.out]
            obtain rfl : j = m := by omega
            exact List.drop_eq_nil_of_le (by rw [Hlm.out]; exact Nat.le_refl _)
          subst hr0
          obtain rfl : j = m := by omega
          go_wp2
          go_ret2
          exact ⟨_, rfl, by simpa using hS⟩
  · have h1' : ¬ (l.length : Int) % (size : Int) = 0 := by rw [← Int.natCast_emod]; omega
    have hp : takeS g size l = ([], false) := by unfold takeS; rw [if_pos (.inr (.inl h1))]
    rw [hp]
    go_enter Tryz.func135, Tryz.ntmps135
    refine St.startAt w fun w1 hS => ?_
    go_wp2_with (fail)
    go_ret2
    exact ⟨_, rfl, hS.addNil _ _⟩
set_option maxHeartbeats 1000000 in
theorem takesAccount_any {α : Type} (f : FuncId) (hcf : ∀ args w, (callFunc f args).run Tryz.prog w = .ok (.enter f args) w) (val : α → List Value) (g : List UInt8 → α) (l : List UInt8) (size : Nat) (w : World) (hv : ∀ x, (val x).length = 4) (ho : ∀ x, ∀ u ∈ val x, u.oneCell' = true) (hz : 0 < size) (hz2 : size ≤ 32)
    (hl : l.length ≤ 140737488355328)
    (hE : ∀ c : List UInt8, c.length = size → ∀ w, Calls Tryz.prog f #[.string ⟨c.toArray⟩] w fun e w' => e = .returned (ag (val (g c))) ∧ St [] w w' []) :
    Calls Tryz.prog 122 #[.string ⟨l.toArray⟩, .int .i64 size, .func (.func f) #[] #[]] w fun e w' => ∃ v, e = .returned (.tuple #[v, .bool (takeS g size l).2]) ∧ St [] w w' [.vec v 86 4 (takeS g size l).1.length ((takeS g size l).1.flatMap val)] := by
  have HE := Lib.hid hE
  have HO := Lib.hid ho
  have HV := Lib.hid hv
  clear hE ho hv
  have hdiv : (l.length : Int) / (size : Int) = ((l.length / size : Nat) : Int) := by push_cast; rfl
  have hdle : l.length / size ≤ l.length := Nat.div_le_self _ _
  obtain ⟨m, hm⟩ : ∃ m, l.length / size = m := ⟨_, rfl⟩
  have Hm := Lib.hid hm
  rw [hm] at hdiv hdle
  have s1 : wrap64 ((l.length : Int) / (size : Int)) = (m : Int) := by rw [hdiv]; exact IntWalk.wrap64_in _ ⟨by omega, by omega⟩
  have hsz : ((size : Int) == 0) = false := beq_eq_false_iff_ne.2 (by omega)
  have hsz' : ¬ size = 0 := by omega
  clear hm hdiv
  by_cases h0 : l = []
  · have hp : takeS g size l = ([], false) := by unfold takeS; rw [if_pos (.inl (by rw [h0]; rfl))]
    rw [hp]
    go_enter Tryz.func122, Tryz.ntmps122
    refine St.startAt w fun w1 hS => ?_
    go_wp2_with (fail)
    go_ret2
    exact ⟨_, rfl, hS.addNil _ _⟩
  have h0' : ((l.length : Int) == 0) = false := beq_eq_false_iff_ne.2 (by have := List.length_pos_iff.2 h0; omega)
  by_cases h1 : l.length % size = 0
  · have h1' : (l.length : Int) % (size : Int) = 0 := by rw [← Int.natCast_emod, h1]; rfl
    by_cases h4 : 4 < m
    · have hp : takeS g size l = ([], false) := by unfold takeS; rw [if_pos (.inr (.inr (by rw [Hm.out]; exact h4)))]
      rw [hp]
      have d4 : (4 : Int) < m := by omega
      go_enter Tryz.func122, Tryz.ntmps122
      refine St.startAt w fun w1 hS => ?_
      go_wp2_with (fail)
      go_ret2
      exact ⟨_, rfl, hS.addNil _ _⟩
    · have hp : takeS g size l = ((List.range m).map fun i => g (chunk l size i), true) := by
        unfold takeS; rw [if_neg (by rw [Hm.out]; have := List.length_pos_iff.2 h0; omega), Hm.out]
      rw [hp]
      have d4 : (m : Int) ≤ 4 := by omega
      have d4' : decide ((4 : Int) < m) = false := by simp; omega
      go_enter Tryz.func122, Tryz.ntmps122
      refine St.startAt w fun w1 hS => ?_
      go_wp2_with (fail)
      have hlm : l.length = m * size := by
        have := Nat.div_add_mod l.length size
        rw [h1, Hm.out, Nat.add_zero, Nat.mul_comm] at this
        exact this.symm
      have Hlm := Lib.hid hlm
      clear hlm hp s1 h0' h1' d4'
      replace hS := hS.addNil 86 4
      go_loopw [0, 8] (fun s v wr => ∃ (j : Nat) (r : List UInt8), j ≤ m ∧ s = .string ⟨r.toArray⟩ ∧ Hid (r = l.drop (j * size)) ∧ St [] w wr [.vec v 86 4 j (((List.range j).map fun i => g (chunk l size i)).flatMap val)]) (fun s _ _ => match s with | .string b => b.size | _ => 0)
      case atStart => exact ⟨0, l, by omega, rfl, Lib.hid (by simp), hS⟩
      case round =>
        clear hS
        obtain ⟨j, r, hj, rfl, Hr, hS⟩ := hrel
        by_cases hlt : j < m
        · have hrl : size ≤ r.length := by
            rw [Hr.out, List.length_drop, Hlm.out]
            have : (j + 1) * size ≤ m * size := Nat.mul_le_mul_right _ hlt
            rw [Nat.add_mul, Nat.one_mul] at this
            omega
          have hr0 : r.isEmpty = false := by cases r with | nil => simp at hrl; omega | cons => rfl
          have hx1 : (⟨r.toArray⟩ : ByteArray).extract 0 size = ⟨(r.take size).toArray⟩ := by rw [bx, List.drop_zero]
          have hx2 : (⟨r.toArray⟩ : ByteArray).extract size r.length = ⟨(r.drop size).toArray⟩ := by rw [bx, List.take_length]
          have hrs : (0 : Int) ≤ (size : Int) := by omega
          have hrs2 : (size : Int) ≤ (r.length : Int) := by omega
          have hch : r.take size = chunk l size j := by rw [Hr.out]; rfl
          have Hch := Lib.hid hch
          clear hch
          have hcl : (r.take size).length = size := by simp; omega
          have Hcl := Lib.hid hcl
          clear hcl
          have hS0 := hS
          clear hS
          go_wp2_with (fail)
          refine (HE.out _ Hcl.out _).mono ?_
          rintro e w2 ⟨rfl, hS2⟩
          have hS := hS0.call hS2
          clear hS2 hS0
          have hbl : (j + 1) * 32 ≤ 140737488355328 := by omega
          go_wp2_with (first | ((with_reducible refine g_bs ?_); refine wl_of rfl ?_; refine wp_build1 (ti := Tryz.t86) (cs := val (g (r.take size))) hS rfl rfl rfl rfl rfl rfl (HV.out _) (by decide) rfl ?_; clear hS; intro v1 w3 hS) | ((with_reducible refine g_append ?_); refine wl_of rfl ?_; refine wp_append (ti := Tryz.t86) hS rfl 1 rfl (hS.rdv (i := 0) rfl) rfl rfl rfl rfl rfl rfl (by decide) rfl (HO.out _) hbl ?_; clear hS; intro v2 w4 hS _) | fail)
          refine ⟨⟨j + 1, r.drop size, by omega, rfl, Lib.hid ?_, ?_⟩, ?_⟩
          · rw [Hr.out, List.drop_drop, Nat.add_mul, Nat.one_mul]
          · have hf := (hS.front 1 rfl).one
            rw [List.range_succ, List.map_append, List.flatMap_append]
            rw [Hch.out] at hf
            simpa using hf
          · have hsr : ∀ q : List UInt8, (⟨q.toArray⟩ : ByteArray).size = q.length := fun q => by simp [ByteArray.size]
            simp only [hsr, List.length_drop]
            omega
        · have hr0 : r = [] := by
            rw [Hr.out]
            obtain rfl : j = m := by omega
            exact List.drop_eq_nil_of_le (by rw [Hlm.out]; exact Nat.le_refl _)
          subst hr0
          obtain rfl : j = m := by omega
          go_wp2
          go_ret2
          exact ⟨_, rfl, by simpa using hS⟩
  · have h1' : ¬ (l.length : Int) % (size : Int) = 0 := by rw [← Int.natCast_emod]; omega
    have hp : takeS g size l = ([], false) := by unfold takeS; rw [if_pos (.inr (.inl h1))]
    rw [hp]
    go_enter Tryz.func122, Tryz.ntmps122
    refine St.startAt w fun w1 hS => ?_
    go_wp2_with (fail)
    go_ret2
    exact ⟨_, rfl, hS.addNil _ _⟩
set_option maxHeartbeats 1000000 in
theorem takesTransfer_any {α : Type} (f : FuncId) (hcf : ∀ args w, (callFunc f args).run Tryz.prog w = .ok (.enter f args) w) (val : α → List Value) (g : List UInt8 → α) (l : List UInt8) (size : Nat) (w : World) (hv : ∀ x, (val x).length = 4) (ho : ∀ x, ∀ u ∈ val x, u.oneCell' = true) (hz : 0 < size) (hz2 : size ≤ 32)
    (hl : l.length ≤ 140737488355328)
    (hE : ∀ c : List UInt8, c.length = size → ∀ w, Calls Tryz.prog f #[.string ⟨c.toArray⟩] w fun e w' => e = .returned (ag (val (g c))) ∧ St [] w w' []) :
    Calls Tryz.prog 125 #[.string ⟨l.toArray⟩, .int .i64 size, .func (.func f) #[] #[]] w fun e w' => ∃ v, e = .returned (.tuple #[v, .bool (takeS g size l).2]) ∧ St [] w w' [.vec v 91 4 (takeS g size l).1.length ((takeS g size l).1.flatMap val)] := by
  have HE := Lib.hid hE
  have HO := Lib.hid ho
  have HV := Lib.hid hv
  clear hE ho hv
  have hdiv : (l.length : Int) / (size : Int) = ((l.length / size : Nat) : Int) := by push_cast; rfl
  have hdle : l.length / size ≤ l.length := Nat.div_le_self _ _
  obtain ⟨m, hm⟩ : ∃ m, l.length / size = m := ⟨_, rfl⟩
  have Hm := Lib.hid hm
  rw [hm] at hdiv hdle
  have s1 : wrap64 ((l.length : Int) / (size : Int)) = (m : Int) := by rw [hdiv]; exact IntWalk.wrap64_in _ ⟨by omega, by omega⟩
  have hsz : ((size : Int) == 0) = false := beq_eq_false_iff_ne.2 (by omega)
  have hsz' : ¬ size = 0 := by omega
  clear hm hdiv
  by_cases h0 : l = []
  · have hp : takeS g size l = ([], false) := by unfold takeS; rw [if_pos (.inl (by rw [h0]; rfl))]
    rw [hp]
    go_enter Tryz.func125, Tryz.ntmps125
    refine St.startAt w fun w1 hS => ?_
    go_wp2_with (fail)
    go_ret2
    exact ⟨_, rfl, hS.addNil _ _⟩
  have h0' : ((l.length : Int) == 0) = false := beq_eq_false_iff_ne.2 (by have := List.length_pos_iff.2 h0; omega)
  by_cases h1 : l.length % size = 0
  · have h1' : (l.length : Int) % (size : Int) = 0 := by rw [← Int.natCast_emod, h1]; rfl
    by_cases h4 : 4 < m
    · have hp : takeS g size l = ([], false) := by unfold takeS; rw [if_pos (.inr (.inr (by rw [Hm.out]; exact h4)))]
      rw [hp]
      have d4 : (4 : Int) < m := by omega
      go_enter Tryz.func125, Tryz.ntmps125
      refine St.startAt w fun w1 hS => ?_
      go_wp2_with (fail)
      go_ret2
      exact ⟨_, rfl, hS.addNil _ _⟩
    · have hp : takeS g size l = ((List.range m).map fun i => g (chunk l size i), true) := by
        unfold takeS; rw [if_neg (by rw [Hm.out]; have := List.length_pos_iff.2 h0; omega), Hm.out]
      rw [hp]
      have d4 : (m : Int) ≤ 4 := by omega
      have d4' : decide ((4 : Int) < m) = false := by simp; omega
      go_enter Tryz.func125, Tryz.ntmps125
      refine St.startAt w fun w1 hS => ?_
      go_wp2_with (fail)
      have hlm : l.length = m * size := by
        have := Nat.div_add_mod l.length size
        rw [h1, Hm.out, Nat.add_zero, Nat.mul_comm] at this
        exact this.symm
      have Hlm := Lib.hid hlm
      clear hlm hp s1 h0' h1' d4'
      replace hS := hS.addNil 91 4
      go_loopw [0, 8] (fun s v wr => ∃ (j : Nat) (r : List UInt8), j ≤ m ∧ s = .string ⟨r.toArray⟩ ∧ Hid (r = l.drop (j * size)) ∧ St [] w wr [.vec v 91 4 j (((List.range j).map fun i => g (chunk l size i)).flatMap val)]) (fun s _ _ => match s with | .string b => b.size | _ => 0)
      case atStart => exact ⟨0, l, by omega, rfl, Lib.hid (by simp), hS⟩
      case round =>
        clear hS
        obtain ⟨j, r, hj, rfl, Hr, hS⟩ := hrel
        by_cases hlt : j < m
        · have hrl : size ≤ r.length := by
            rw [Hr.out, List.length_drop, Hlm.out]
            have : (j + 1) * size ≤ m * size := Nat.mul_le_mul_right _ hlt
            rw [Nat.add_mul, Nat.one_mul] at this
            omega
          have hr0 : r.isEmpty = false := by cases r with | nil => simp at hrl; omega | cons => rfl
          have hx1 : (⟨r.toArray⟩ : ByteArray).extract 0 size = ⟨(r.take size).toArray⟩ := by rw [bx, List.drop_zero]
          have hx2 : (⟨r.toArray⟩ : ByteArray).extract size r.length = ⟨(r.drop size).toArray⟩ := by rw [bx, List.take_length]
          have hrs : (0 : Int) ≤ (size : Int) := by omega
          have hrs2 : (size : Int) ≤ (r.length : Int) := by omega
          have hch : r.take size = chunk l size j := by rw [Hr.out]; rfl
          have Hch := Lib.hid hch
          clear hch
          have hcl : (r.take size).length = size := by simp; omega
          have Hcl := Lib.hid hcl
          clear hcl
          have hS0 := hS
          clear hS
          go_wp2_with (fail)
          refine (HE.out _ Hcl.out _).mono ?_
          rintro e w2 ⟨rfl, hS2⟩
          have hS := hS0.call hS2
          clear hS2 hS0
          have hbl : (j + 1) * 32 ≤ 140737488355328 := by omega
          go_wp2_with (first | ((with_reducible refine g_bs ?_); refine wl_of rfl ?_; refine wp_build1 (ti := Tryz.t91) (cs := val (g (r.take size))) hS rfl rfl rfl rfl rfl rfl (HV.out _) (by decide) rfl ?_; clear hS; intro v1 w3 hS) | ((with_reducible refine g_append ?_); refine wl_of rfl ?_; refine wp_append (ti := Tryz.t91) hS rfl 1 rfl (hS.rdv (i := 0) rfl) rfl rfl rfl rfl rfl rfl (by decide) rfl (HO.out _) hbl ?_; clear hS; intro v2 w4 hS _) | fail)
          refine ⟨⟨j + 1, r.drop size, by omega, rfl, Lib.hid ?_, ?_⟩, ?_⟩
          · rw [Hr.out, List.drop_drop, Nat.add_mul, Nat.one_mul]
          · have hf := (hS.front 1 rfl).one
            rw [List.range_succ, List.map_append, List.flatMap_append]
            rw [Hch.out] at hf
            simpa using hf
          · have hsr : ∀ q : List UInt8, (⟨q.toArray⟩ : ByteArray).size = q.length := fun q => by simp [ByteArray.size]
            simp only [hsr, List.length_drop]
            omega
        · have hr0 : r = [] := by
            rw [Hr.out]
            obtain rfl : j = m := by omega
            exact List.drop_eq_nil_of_le (by rw [Hlm.out]; exact Nat.le_refl _)
          subst hr0
          obtain rfl : j = m := by omega
          go_wp2
          go_ret2
          exact ⟨_, rfl, by simpa using hS⟩
  · have h1' : ¬ (l.length : Int) % (size : Int) = 0 := by rw [← Int.natCast_emod]; omega
    have hp : takeS g size l = ([], false) := by unfold takeS; rw [if_pos (.inr (.inl h1))]
    rw [hp]
    go_enter Tryz.func125, Tryz.ntmps125
    refine St.startAt w fun w1 hS => ?_
    go_wp2_with (fail)
    go_ret2
    exact ⟨_, rfl, hS.addNil _ _⟩
end Go.Proofs.YtjjiibcnknljfaaGreat
namespace Go.Proofs.YtjjiibcnknljfaaGreat
open Go.RowKit Go.Cmp
set_option maxRecDepth 100000

theorem eachAcc (a : Acc) (h : a.Ok) : EachOK Tryz.prog 115 5 (fun a : Acc => ag a.cells) byAcc a := by
  intro lb v w hb hR
  refine (asked_ok a h lb v w hb hR).mono ?_
  rintro e w' ⟨v', r, rfl, hr, hS⟩
  refine ⟨v', rfl, ?_, hS.nil⟩
  intro s hs
  unfold byAcc at hs
  split at hs
  · simp only [Option.some.injEq] at hs
    subst hs
    exact ⟨r, hr, hS⟩
  · cases hs

set_option maxHeartbeats 400000 in
theorem eachTra (a : Tra) (h : a.Ok) : EachOK Tryz.prog 118 5 (fun a : Tra => ag a.cells) byTra a := by
  intro lb v w hb hR
  obtain ⟨id, deb, cred, amt⟩ := a
  obtain ⟨h1, h2, h3, h4⟩ := h
  simp only [Tra.cells] at *
  go_enter Tryz.func118, Tryz.ntmps118
  refine St.startAt w fun w1 hS => ?_
  go_wp2_with (first | ((with_reducible refine g_box ?_); refine wl_of rfl ?_; refine wp_box hS rfl rfl rfl ?_; clear hS; intro gb w1 hS) | ((with_reducible refine g_load ?_); refine wl_run rfl (x_load1 hS rfl rfl rfl rfl 0 rfl rfl) ?_) | ((with_reducible refine g_bs ?_); refine wl_of rfl ?_; refine wp_buildSlice1 (vs := [.int .u64 (id : Int), .int .u64 (deb : Int), .int .u64 (cred : Int), .int .u64 (amt : Int)]) hS rfl rfl rfl rfl rfl rfl (by decide) ⟨rfl, by simp [Value.cells]⟩ ?_; clear hS; intro v1 w1 hS) | fail)
  refine (numbers_any lb [id, deb, cred, amt] v _ 4 _ rfl (by omega) ?_ (by omega) (hS.old0 hR) (hS.rdv (i := 0) rfl)).mono ?_
  · intro x hx
    simp only [List.mem_cons, List.not_mem_nil, or_false] at hx
    rcases hx with rfl | rfl | rfl | rfl <;> assumption
  rintro e w2 ⟨v', r, rfl, hr, hS2⟩
  go_wp2
  go_ret2
  refine ⟨v', rfl, ?_, (hS.call hS2).nil⟩
  intro s hs
  simp only [byTra, Option.some.injEq] at hs
  subst hs
  exact ⟨r, by rw [hr]; simp, (hS.call hS2).one⟩

def gID (c : List UInt8) : Nat := leN (c.take 8)
def gAcc (c : List UInt8) : Acc := ⟨leN (c.take 8), ((c.getD 8 0).toNat : Int), 0, 0⟩
def gTra (c : List UInt8) : Tra := ⟨leN (c.take 8), leN ((c.drop 8).take 8), leN ((c.drop 16).take 8), leN ((c.drop 24).take 8)⟩

theorem ids1 (c : List UInt8) (h : c.length = 8) (w : World) : Calls Tryz.prog 136 #[.string ⟨c.toArray⟩] w fun e w' => e = .returned (hd [.int .u64 (gID c : Int)]) ∧ St [] w w' [] := by
  go_enter Tryz.func136, Tryz.ntmps136
  refine St.startAt w fun w1 hS => ?_
  go_wp2_with (fail)
  refine (at_in c 0 _ (by omega) (by omega)).mono ?_
  rintro e w2 ⟨rfl, hS2⟩
  go_wp2
  go_ret
  exact ⟨by simp [hd, gID], (hS.call hS2).nil⟩

set_option maxHeartbeats 400000 in
theorem transfers1 (c : List UInt8) (h : c.length = 32) (w : World) : Calls Tryz.prog 126 #[.string ⟨c.toArray⟩] w fun e w' => e = .returned (ag (gTra c).cells) ∧ St [] w w' [] := by
  have H := Lib.hid h
  clear h
  go_enter Tryz.func126, Tryz.ntmps126
  refine St.startAt w fun w1 hS => ?_
  go_wp2_with (first | ((with_reducible refine g_alloc ?_); refine wl_of rfl ?_; refine wp_alloc hS rfl rfl rfl rfl ?_; clear hS; intro gb w1 hS) | fail)
  refine (at_in c 0 _ (by rw [H.out]; omega) (by rw [H.out]; omega)).mono ?_
  rintro e w2 ⟨rfl, hS2⟩
  replace hS := hS.call hS2
  clear hS2
  go_wp2_with (fail)
  refine (at_in c 8 _ (by rw [H.out]; omega) (by rw [H.out]; omega)).mono ?_
  rintro e w3 ⟨rfl, hS2⟩
  replace hS := hS.call hS2
  clear hS2
  go_wp2_with (fail)
  refine (at_in c 16 _ (by rw [H.out]; omega) (by rw [H.out]; omega)).mono ?_
  rintro e w4 ⟨rfl, hS2⟩
  replace hS := hS.call hS2
  clear hS2
  go_wp2_with (fail)
  refine (at_in c 24 _ (by rw [H.out]; omega) (by rw [H.out]; omega)).mono ?_
  rintro e w5 ⟨rfl, hS2⟩
  replace hS := hS.call hS2
  clear hS2
  go_wp2_with (first | ((with_reducible refine g_store ?_); refine wl_of rfl ?_; refine wp_store1 (v := .agg _) hS rfl rfl rfl rfl rfl 0 rfl (by simp [Value.cells]) (fun j _ => nf0 _) (by simp [Value.cells, Value.oneCell']) rfl ?_; clear hS; intro w2 hS; simp only [Value.cells] at hS) | fail)
  refine end_cell hS rfl rfl 0 rfl rfl rfl rfl rfl ⟨?_, hS.nil⟩
  simp [gTra, Tra.cells, ag]

set_option maxHeartbeats 400000 in
theorem accounts1 (c : List UInt8) (h : c.length = 9) (w : World) : Calls Tryz.prog 123 #[.string ⟨c.toArray⟩] w fun e w' => e = .returned (ag (gAcc c).cells) ∧ St [] w w' [] := by
  have H := Lib.hid h
  clear h
  go_enter Tryz.func123, Tryz.ntmps123
  refine St.startAt w fun w1 hS => ?_
  go_wp2_with (first | ((with_reducible refine g_alloc ?_); refine wl_of rfl ?_; refine wp_alloc hS rfl rfl rfl rfl ?_; clear hS; intro gb w1 hS) | fail)
  refine region_end0 6 hS (by kernel_rfl) ?_
  clear hS
  intro wx hR hB hS
  (refine we_take 0 rfl rfl (by kernel_rfl) (by kernel_rfl) (by kernel_rfl) (fun _ _ _ h => h) (by kernel_rfl) rfl (fun W hW => (by (go_simp; try with_reducible rfl))) hS.base ?_; simp only [Act.put, List.setIfInBounds_toArray, List.set_cons_zero, List.set_cons_succ])
  (refine we_take 2 rfl rfl (by kernel_rfl) (by kernel_rfl) (by kernel_rfl) (fun _ _ _ h => h) (by kernel_rfl) rfl (fun W hW => (by (go_simp; try with_reducible rfl))) hS.base ?_; simp only [Act.put, List.setIfInBounds_toArray, List.set_cons_zero, List.set_cons_succ])
  (refine we_take 3 rfl rfl (by kernel_rfl) (by kernel_rfl) (by kernel_rfl) (fun _ _ _ h => h) (by kernel_rfl) rfl (fun W hW => (x_strIndex rfl rfl rfl rfl (by omega) (by rw [H.out]; omega))) hS.base ?_; simp only [Act.put, List.setIfInBounds_toArray, List.set_cons_zero, List.set_cons_succ])
  (refine we_take 4 rfl rfl (by kernel_rfl) (by kernel_rfl) (by kernel_rfl) (fun _ _ _ h => h) (by kernel_rfl) rfl (fun W hW => (by (go_simp; try with_reducible rfl))) hS.base ?_; simp only [Act.put, List.setIfInBounds_toArray, List.set_cons_zero, List.set_cons_succ])
  (refine we_all (rs := [1]) (by kernel_rfl) (by simp) ?_; intro i hi; have hi := List.mem_singleton.1 hi; subst hi)
  refine wod_of rfl rfl rfl (wp_call (by go_simp) (at_in c 0 _ (by rw [H.out]; omega) (by rw [H.out]; omega)) ?_)
  rintro e w3 ⟨rfl, hS2⟩
  replace hS := hS.call hS2
  clear hS2
  refine ⟨_, rfl, ?_⟩
  (refine ⟨fun _ => hS.base, ?_⟩; simp only [Act.put, List.setIfInBounds_toArray, List.set_cons_zero, List.set_cons_succ])
  (refine we_take 5 rfl rfl (by kernel_rfl) (by kernel_rfl) (by kernel_rfl) (fun _ _ _ h => h) (by kernel_rfl) rfl (fun W hW => (by (go_simp; try with_reducible rfl))) hS.base ?_; simp only [Act.put, List.setIfInBounds_toArray, List.set_cons_zero, List.set_cons_succ])
  (refine we_all (rs := [6]) (by kernel_rfl) (by simp) ?_; intro i hi; have hi := List.mem_singleton.1 hi; subst hi)
  replace hS := hB _ _ hS
  simp only [List.nil_append] at hS
  refine won_of rfl rfl rfl (k_sta hS rfl rfl rfl (h := ?_))
  clear hS
  intro w4 hS
  simp only [List.take, List.drop, List.cons_append, List.nil_append, List.length_cons, List.length_nil] at hS
  (refine ⟨fun h => absurd rfl h, ?_⟩; refine we_done (by kernel_rfl) ?_ _)
  go_wp2
  refine end_cell hS rfl rfl 0 rfl rfl rfl rfl rfl ⟨?_, hS.nil⟩
  have hwb : ∀ x : UInt8, IntKind.i64.wrap (x.toNat : Int) = (x.toNat : Int) := fun x => IntWalk.i64_in _ (by have := x.toNat_lt; omega)
  simp [gAcc, Acc.cells, ag, hwb]
end Go.Proofs.YtjjiibcnknljfaaGreat
namespace Go.Proofs.YtjjiibcnknljfaaGreat
open Go.RowKit Go.Cmp
set_option maxRecDepth 100000

theorem U_flatMap (l : List Nat) : U l = l.flatMap (fun x : Nat => [.int .u64 (x : Int)]) := by
  unfold U
  induction l with
  | nil => rfl
  | cons a r ih => simp_all

theorem byID_len (x : Nat) (s : List UInt8) (h : byID x = some s) : s.length ≤ 32 := by
  simp only [byID, Option.some.injEq] at h
  subst h
  simp [leB_length]

theorem byAcc_len (x : Acc) (s : List UInt8) (h : byAcc x = some s) : s.length ≤ 32 := by
  unfold byAcc at h
  split at h
  · simp only [Option.some.injEq] at h
    subst h
    simp [leB_length]
  · cases h

theorem byTra_len (x : Tra) (s : List UInt8) (h : byTra x = some s) : s.length ≤ 32 := by
  simp only [byTra, Option.some.injEq] at h
  subst h
  simp [leB_length]

theorem putTransfers_any (xs : List Tra) (vl : Value) (n : Nat) (w : World) (hn : xs.length = n) (hx : ∀ x ∈ xs, x.Ok) (hL : Rd w 4 vl n (xs.flatMap Tra.cells)) :
    Calls Tryz.prog 87 #[vl] w fun e w' => e = .returned (.tuple #[.string ⟨(putS byTra xs).1.toArray⟩, .int .i64 (putS byTra xs).2]) ∧ St [] w w' [] := by
  go_enter Tryz.func87, Tryz.ntmps87
  refine St.startAt w fun w1 hS => ?_
  go_wp2_with (fail)
  refine (putsTransfer_any 118 (Tryz.call118) Tra.cells byTra xs vl n _ hn (fun _ => rfl) (by intro x u hu; simp [Tra.cells] at hu; rcases hu with rfl | rfl | rfl | rfl <;> rfl) byTra_len (fun x h => eachTra x (hx x h)) (hS.old0 hL)).mono ?_
  rintro e w2 ⟨rfl, hS2⟩
  go_wp2
  go_ret2
  exact ⟨rfl, hS.call hS2⟩

theorem iDs_any (l : List UInt8) (w : World) (hl : l.length ≤ 140737488355328) :
    Calls Tryz.prog 127 #[.string ⟨l.toArray⟩] w fun e w' => ∃ v, e = .returned (.tuple #[v, .bool (takeS gID 8 l).2]) ∧ St [] w w' [.vec v 32 1 (takeS gID 8 l).1.length (U (takeS gID 8 l).1)] := by
  go_enter Tryz.func127, Tryz.ntmps127
  refine St.startAt w fun w1 hS => ?_
  go_wp2_with (fail)
  refine (takesID_any 136 (Tryz.call136) (fun x : Nat => [.int .u64 (x : Int)]) gID l 8 _ (fun _ => rfl) (by intro x u hu; simp at hu; subst hu; rfl) (by omega) (by omega) hl (fun c h w => ids1 c h w)).mono ?_
  rintro e w2 ⟨v, rfl, hS2⟩
  go_wp2
  go_ret2
  exact ⟨v, rfl, by rw [U_flatMap]; exact hS.call hS2⟩

theorem accounts_any (l : List UInt8) (w : World) (hl : l.length ≤ 140737488355328) :
    Calls Tryz.prog 96 #[.string ⟨l.toArray⟩] w fun e w' => ∃ v, e = .returned (.tuple #[v, .bool (takeS gAcc 9 l).2]) ∧ St [] w w' [.vec v 86 4 (takeS gAcc 9 l).1.length ((takeS gAcc 9 l).1.flatMap Acc.cells)] := by
  go_enter Tryz.func96, Tryz.ntmps96
  refine St.startAt w fun w1 hS => ?_
  go_wp2_with (fail)
  refine (takesAccount_any 123 (Tryz.call123) Acc.cells gAcc l 9 _ (fun _ => rfl) (by intro x u hu; simp [Acc.cells] at hu; rcases hu with rfl | rfl | rfl | rfl <;> rfl) (by omega) (by omega) hl (fun c h w => accounts1 c h w)).mono ?_
  rintro e w2 ⟨v, rfl, hS2⟩
  go_wp2
  go_ret2
  exact ⟨_, rfl, hS.call hS2⟩

theorem transfers_any (l : List UInt8) (w : World) (hl : l.length ≤ 140737488355328) :
    Calls Tryz.prog 99 #[.string ⟨l.toArray⟩] w fun e w' => ∃ v, e = .returned (.tuple #[v, .bool (takeS gTra 32 l).2]) ∧ St [] w w' [.vec v 91 4 (takeS gTra 32 l).1.length ((takeS gTra 32 l).1.flatMap Tra.cells)] := by
  go_enter Tryz.func99, Tryz.ntmps99
  refine St.startAt w fun w1 hS => ?_
  go_wp2_with (fail)
  refine (takesTransfer_any 126 (Tryz.call126) Tra.cells gTra l 32 _ (fun _ => rfl) (by intro x u hu; simp [Tra.cells] at hu; rcases hu with rfl | rfl | rfl | rfl <;> rfl) (by omega) (by omega) hl (fun c h w => transfers1 c h w)).mono ?_
  rintro e w2 ⟨v, rfl, hS2⟩
  go_wp2
  go_ret2
  exact ⟨_, rfl, hS.call hS2⟩

end Go.Proofs.YtjjiibcnknljfaaGreat
