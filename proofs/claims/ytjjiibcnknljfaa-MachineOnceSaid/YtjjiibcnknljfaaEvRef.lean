/-
  The document's answers: numbers' bytes.
  The document's answer: the number of eight bytes from a place on.
  The document's answer: ids of bytes.
  The document's answers: lists' bytes.
  The document's answers: the same lists?
  The examples of the chapter.
  What is laid is read as it was: plain lists.
  The document's answers: the same lists of structs?
  The document's answer: transfers of bytes.
  The document's answer: accounts of bytes.
  The document's answer: transfers' bytes.
  The document's answer: accounts' bytes.
  Whole accounts: what their bytes are; both Whole and both PutWhole.
-/
import Derived.Test.YtjjiibcnknljfaaEv
import Derived.Test.YtjjiibcnknljfaaGen
set_option linter.unusedSimpArgs false
set_option linter.unusedVariables false
set_option linter.unusedSectionVars false
set_option maxRecDepth 100000
namespace Go.Proofs.Ytjjiibcnknljfaa
open Go.RowKit Go.Cmp
set_option maxRecDepth 100000

end Go.Proofs.Ytjjiibcnknljfaa
namespace Go.Proofs.Ytjjiibcnknljfaa
open Go.RowKit Go.Cmp
set_option maxRecDepth 100000

theorem leN_drop (c : List UInt8) (j : Nat) (h : j < c.length) : leN (c.drop j) = leN (c.drop (j + 1)) * 256 + c[j].toNat := by
  rw [List.drop_eq_getElem_cons h]
  simp only [leN]
  omega

end Go.Proofs.Ytjjiibcnknljfaa
namespace Go.Proofs.Ytjjiibcnknljfaa
open Go.RowKit Go.Cmp
set_option maxRecDepth 100000

end Go.Proofs.Ytjjiibcnknljfaa
namespace Go.Proofs.Ytjjiibcnknljfaa
open Go.RowKit Go.Cmp
set_option maxRecDepth 100000

theorem bcat (a b : List UInt8) : (⟨a.toArray⟩ : ByteArray) ++ ⟨b.toArray⟩ = ⟨(a ++ b).toArray⟩ := by
  apply ByteArray.ext
  simp

end Go.Proofs.Ytjjiibcnknljfaa
namespace Go.Proofs.Ytjjiibcnknljfaa
open Go.RowKit Go.Cmp
set_option maxRecDepth 100000

theorem Rd_le {w : World} {k : Nat} {v : Value} {n : Nat} {xs : List Value} (h : Rd w k v n xs) : n ≤ 9223372036854775807 := by
  obtain ⟨_, p, cap, rfl, h2, h3, _, _⟩ := h
  unfold maxLen at h3
  omega

end Go.Proofs.Ytjjiibcnknljfaa
namespace Go.Proofs.Ytjjiibcnknljfaa
open Go.RowKit Go.Cmp
set_option maxRecDepth 100000

end Go.Proofs.Ytjjiibcnknljfaa
namespace Go.Proofs.Ytjjiibcnknljfaa
open Go.RowKit Go.Cmp
set_option maxRecDepth 100000

theorem putS_cases {α : Type} (f : α → Option (List UInt8)) (xs : List α) :
    (∃ s, putS f xs = (s, 0) ∧ cat f xs = some s ∧ 1 ≤ xs.length ∧ xs.length ≤ 4) ∨ putS f xs = ([], 1) := by
  unfold putS
  split
  · exact .inr rfl
  · rename_i h
    cases hc : cat f xs with
    | none => exact .inr rfl
    | some s => exact .inl ⟨s, rfl, rfl, by omega, by omega⟩

theorem cat_read {α : Type} (f : α → Option (List UInt8)) (g : List UInt8 → α) (nrm : α → α) (size : Nat) : ∀ (xs : List α) (acc : List UInt8),
    (∀ x ∈ xs, ∀ s, f x = some s → s.length = size ∧ g s = nrm x) → cat f xs = some acc → acc.length = xs.length * size ∧ (List.range xs.length).map (fun i => g (chunk acc size i)) = xs.map nrm
  | [], acc, _, h => by simp only [cat, Option.some.injEq] at h; subst h; simp
  | x :: xs, acc, hf, h => by
    simp only [cat] at h
    cases hx : f x with
    | none => rw [hx] at h; cases h
    | some a =>
      rw [hx] at h
      cases hc : cat f xs with
      | none => rw [hc] at h; cases h
      | some b =>
        rw [hc] at h
        simp only [Option.some.injEq] at h
        subst h
        obtain ⟨h1, h2⟩ := hf x (by simp) a hx
        obtain ⟨h3, h4⟩ := cat_read f g nrm size xs b (fun y hy => hf y (by simp [hy])) hc
        constructor
        · rw [List.length_append, h1, h3, List.length_cons, Nat.add_mul]; omega
        · rw [List.length_cons, List.range_succ_eq_map, List.map_cons, List.map_map, List.map_cons]
          congr 1
          · rw [← h2]
            congr 1
            unfold chunk
            rw [Nat.zero_mul, List.drop_zero, List.take_left' h1]
          · rw [← h4]
            apply List.map_congr_left
            intro i _
            simp only [Function.comp]
            congr 1
            unfold chunk
            rw [Nat.succ_mul, Nat.add_comm, ← h1, List.drop_append, List.drop_eq_nil_of_le (by omega), List.nil_append]
            congr 2
            omega

theorem takeS_cat {α : Type} (f : α → Option (List UInt8)) (g : List UInt8 → α) (nrm : α → α) (size : Nat) (hz : 0 < size) (xs : List α) (acc : List UInt8)
    (hf : ∀ x ∈ xs, ∀ s, f x = some s → s.length = size ∧ g s = nrm x) (hc : cat f xs = some acc) (h1 : 1 ≤ xs.length) (h4 : xs.length ≤ 4) : takeS g size acc = (xs.map nrm, true) := by
  obtain ⟨hl, hr⟩ := cat_read f g nrm size xs acc hf hc
  have hd : acc.length / size = xs.length := by rw [hl]; exact Nat.mul_div_cancel _ hz
  have hm : acc.length % size = 0 := by rw [hl]; exact Nat.mul_mod_left _ _
  have h0 : acc.length ≠ 0 := by
    rw [hl]
    exact Nat.mul_ne_zero (by omega) (by omega)
  unfold takeS
  rw [if_neg (by rw [hd]; omega), hd, hr]

theorem gID_by (x : Nat) (h : x < 256 ^ 8) (s : List UInt8) (hs : byID x = some s) : s.length = 8 ∧ gID s = x := by
  simp only [byID, Option.some.injEq] at hs
  subst hs
  refine ⟨leB_length _ _, ?_⟩
  unfold gID
  rw [List.take_of_length_le (by rw [leB_length]; exact Nat.le_refl _), leN_leB, Nat.mod_eq_of_lt h]

/-- Numbers that came in. -/
theorem rd_ints {w : World} {a : Option Addr} {len cap : Nat} {zs : List Int}
    (h : (a = none ∧ len = 0 ∧ cap = 0 ∧ zs = []) ∨ ∃ x, a = some x ∧ len ≤ cap ∧ cap ≤ maxLen ∧ zs.length = cap ∧ (∀ i, i < zs.length → w.cell? (x.add i) = some (.int .u64 (zs.getD i 0))) ∧ ∀ n ∈ zs, (Lit.int .u64 n).wf = true) :
    ∃ xs : List Nat, xs.length = len ∧ (∀ x ∈ xs, x < 256 ^ 8) ∧ Rd w 1 (.slice a len cap) len (U xs) := by
  rcases h with ⟨rfl, rfl, rfl, rfl⟩ | ⟨x, rfl, h1, h2, h3, h4, h5⟩
  · exact ⟨[], rfl, by simp, Rd.nil _ _⟩
  · have hw : ∀ n ∈ zs, 0 ≤ n ∧ n < 18446744073709551616 := by
      intro n hn
      have := h5 n hn
      have e1 : IntKind.u64.min = 0 := rfl
      have e2 : IntKind.u64.max = 18446744073709551615 := rfl
      simp [Lit.wf, e1, e2] at this
      omega
    refine ⟨(zs.take len).map Int.toNat, by simp; omega, ?_, ?_, some x, cap, rfl, h1, h2, by simp, ?_⟩
    · intro n hn
      simp only [List.mem_map] at hn
      obtain ⟨z, hz, rfl⟩ := hn
      have := hw z (List.mem_of_mem_take hz)
      rw [pow8]
      omega
    · rw [U_length]; simp; omega
    · intro b hb i y hy
      cases hb
      have hi : i < len := by
        have := (List.getElem?_eq_some_iff.1 hy).1
        rw [U_length] at this
        simp at this
        omega
      have hiz : i < zs.length := by omega
      rw [h4 i hiz]
      have hg := hw zs[i] (List.getElem_mem hiz)
      simp [U, hi, hiz] at hy
      rw [← hy, List.getD_eq_getElem?_getD, List.getElem?_eq_getElem hiz]
      simp
      omega

end Go.Proofs.Ytjjiibcnknljfaa
namespace Go.Proofs.Ytjjiibcnknljfaa
open Go.RowKit Go.Cmp
set_option maxRecDepth 100000

instance : DecidableEq Tra := fun X Y => decidable_of_iff (X.id = Y.id ∧ X.deb = Y.deb ∧ X.cred = Y.cred ∧ X.amt = Y.amt) (by cases X; cases Y; simp)
instance : DecidableEq Acc := fun X Y => decidable_of_iff (X.id = Y.id ∧ X.flags = Y.flags ∧ X.deb = Y.deb ∧ X.cred = Y.cred) (by cases X; cases Y; simp)

theorem sameTra_op (X Y : Tra) {o : Oper} {a : Act} {w : World} {x y : Operand} {r : TypeId} (ho : o.op = .binOp .neq 99 x y r) (hx : a.eval x = .agg X.cells.toArray) (hy : a.eval y = .agg Y.cells.toArray) :
    (execOp a.eval o).run Try.prog w = .ok (.value (.bool (!decide (X = Y)))) w := by
  obtain ⟨a1, a2, a3, a4⟩ := X
  obtain ⟨b1, b2, b3, b4⟩ := Y
  have e : decide ((⟨a1, a2, a3, a4⟩ : Tra) = ⟨b1, b2, b3, b4⟩) = (decide (a1 = b1) && decide (a2 = b2) && decide (a3 = b3) && decide (a4 = b4)) := by
    rw [Bool.eq_iff_iff]
    simp [and_assoc]
  rw [e]
  clear e
  simp only [Tra.cells] at hx hy
  simp only [execOp, ho, hx, hy]
  go_simp
  by_cases h1 : a1 = b1 <;> by_cases h2 : a2 = b2 <;> by_cases h3 : a3 = b3 <;> by_cases h4 : a4 = b4 <;> simp [h1, h2, h3, h4, Int.ofNat_inj]
theorem sameAcc_op (X Y : Acc) {o : Oper} {a : Act} {w : World} {x y : Operand} {r : TypeId} (ho : o.op = .binOp .neq 102 x y r) (hx : a.eval x = .agg X.cells.toArray) (hy : a.eval y = .agg Y.cells.toArray) :
    (execOp a.eval o).run Try.prog w = .ok (.value (.bool (!decide (X = Y)))) w := by
  obtain ⟨a1, a2, a3, a4⟩ := X
  obtain ⟨b1, b2, b3, b4⟩ := Y
  have e : decide ((⟨a1, a2, a3, a4⟩ : Acc) = ⟨b1, b2, b3, b4⟩) = (decide (a1 = b1) && decide (a2 = b2) && decide (a3 = b3) && decide (a4 = b4)) := by
    rw [Bool.eq_iff_iff]
    simp [and_assoc]
  rw [e]
  clear e
  simp only [Acc.cells] at hx hy
  simp only [execOp, ho, hx, hy]
  go_simp
  by_cases h1 : a1 = b1 <;> by_cases h2 : a2 = b2 <;> by_cases h3 : a3 = b3 <;> by_cases h4 : a4 = b4 <;> simp [h1, h2, h3, h4, Int.ofNat_inj]

end Go.Proofs.Ytjjiibcnknljfaa
namespace Go.Proofs.Ytjjiibcnknljfaa
open Go.RowKit Go.Cmp
set_option maxRecDepth 100000

theorem wp_build0 {P : Program} {S : List Nat} {w0 w : World} {M : List Ent} {o : Oper} {a : Act} {K : Act → World → Prop} {Q : Exit → Act → World → Prop} (hS : St S w0 w M) {t : TypeId} (ho : o.op = .buildSlice t 0 #[]) {e : TypeId} (ht : P.underlying t = some (.slice e)) {ti : TypeInfo} (hi : P.info? e = some ti) {k : Nat} (hk : ti.size = k) (hz : ti.zero.isSome = true)
    (h : ∀ v w', St S w0 w' (.vec v e k 0 [] :: M) → K (a.put o.dst v) w') : o.wp P a w K Q := by
  obtain ⟨z, hz⟩ := Option.isSome_iff_exists.1 hz
  refine wp_buildSlice hS ho ht hi hk (cs := []) ?_ (by simp) (by omega) (by omega) h
  unfold buildCells
  rw [hz]
  simp [Instr.fill]

end Go.Proofs.Ytjjiibcnknljfaa
namespace Go.Proofs.Ytjjiibcnknljfaa
open Go.RowKit Go.Cmp
set_option maxRecDepth 100000

theorem strI {l : List UInt8} {i : Nat} {y : UInt8} (h : l[i]? = some y) {o : Oper} {a : Act} {w : World} {P : Program} {t : TypeId} {x z : Operand} (ho : o.op = .index t x z) (hs : P.underlying t = some .string) (hx : a.eval x = .string ⟨l.toArray⟩) (hz : a.eval z = .int .i64 (i : Int)) : (execOp a.eval o).run P w = .ok (.value (.int .u8 (y.toNat : Int))) w := by
  have hi := (List.getElem?_eq_some_iff.1 h).1
  have e : l.getD i 0 = y := by rw [List.getD_eq_getElem?_getD, h]; rfl
  rw [← e]
  exact x_strIndex ho hx hz hs (by omega) (by omega)

end Go.Proofs.Ytjjiibcnknljfaa
namespace Go.Proofs.Ytjjiibcnknljfaa
open Go.RowKit Go.Cmp
set_option maxRecDepth 100000

theorem x_field {P : Program} {o : Oper} {a : Act} {w : World} {t : TypeId} {x : Operand} {f : Nat} (ho : o.op = .fieldAddr t x f) {u : Value} {k n : Nat} {xs : List Value} (hR : Rd w k u n xs) (h0 : 0 < n) {off : Nat} (hx : a.eval x = ptrAt u off)
    {fields : Array Field} (hd : P.underlying t = some (.struct fields)) {fl : Field} (hf : fields[f]? = some fl) {d : Nat} (he : fl.offset = d) {ti : TypeInfo} (hi : P.info? fl.type = some ti) (hz : (ti.size == 0) = false) : (execOp a.eval o).run P w = .ok (.value (ptrAt u (off + d))) w := by
  obtain ⟨p, cap, rfl⟩ := hR.some h0
  subst he
  have hz' : ¬ ti.size = 0 := by simpa using hz
  simp [execOp, ho, hx, Instr.fieldAt, Instr.sureAddr, fieldPlace, run_underlying hd, ptrAt, hf, ← add_add, sizeOf, typeInfo, hi, hz']

theorem x_concat {P : Program} {o : Oper} {a : Act} {w : World} {t r : TypeId} {x y : Operand} (ho : o.op = .binOp .add t x y r) {l m : List UInt8} (hx : a.eval x = .string ⟨l.toArray⟩) (hy : a.eval y = .string ⟨m.toArray⟩) (h : l.length + m.length ≤ 9223372036854775807) :
    (execOp a.eval o).run P w = .ok (.value (.string ⟨(l ++ m).toArray⟩)) w := by
  have hov : ¬ 9223372036854775807 < l.length + m.length := by omega
  rw [← bcat]
  simp only [execOp, ho, hx, hy]
  go_simp

end Go.Proofs.Ytjjiibcnknljfaa
namespace Go.Proofs.Ytjjiibcnknljfaa
open Go.RowKit Go.Cmp
set_option maxRecDepth 100000

end Go.Proofs.Ytjjiibcnknljfaa
namespace Go.Proofs.Ytjjiibcnknljfaa
open Go.RowKit Go.Cmp
set_option maxRecDepth 100000

def wholeB (a : Acc) : List UInt8 := leB 8 a.id ++ [fb a.flags] ++ leB 8 a.deb ++ leB 8 a.cred
def putW (a : Acc) : List UInt8 × Int := if 0 ≤ a.flags ∧ a.flags ≤ 255 then (wholeB a, 0) else ([], 1)
def getW (l : List UInt8) : Acc × Bool := if l.length = 25 then (⟨leN (l.take 8), ((l.getD 8 0).toNat : Int), leN ((l.drop 9).take 8), leN ((l.drop 17).take 8)⟩, true) else (⟨0, 0, 0, 0⟩, false)

set_option maxHeartbeats 1000000 in
theorem whole_any (l : List UInt8) (w : World) :
    Calls Try.prog 57 #[.string ⟨l.toArray⟩] w fun e w' => e = .returned (.tuple #[.agg (getW l).1.cells.toArray, .bool (getW l).2]) ∧ St [] w w' [] := by
  by_cases h : l.length = 25
  · have hl : l.length ≤ 140737488355328 := by omega
    have h1 : (l.length : Int) = 25 := by omega
    obtain ⟨y1, hy1⟩ : ∃ y, l[8]? = some y := ⟨_, List.getElem?_eq_getElem (by omega)⟩
    have e : getW l = (⟨leN (l.take 8), (y1.toNat : Int), leN ((l.drop 9).take 8), leN ((l.drop 17).take 8)⟩, true) := by
      unfold getW
      rw [if_pos h, List.getD_eq_getElem?_getD, hy1]
      rfl
    rw [e]
    clear e
    have C0 := fun w => at_in l 0 w (by omega) hl
    have C1 := fun w => at_in l 9 w (by omega) hl
    have C2 := fun w => at_in l 17 w (by omega) hl
    simp only [List.drop_zero] at C0
    generalize leN (l.take 8) = n0 at C0 ⊢
    generalize leN ((l.drop 9).take 8) = n1 at C1 ⊢
    generalize leN ((l.drop 17).take 8) = n2 at C2 ⊢
    have K0 := Lib.hid C0
    have K1 := Lib.hid C1
    have K2 := Lib.hid C2
    have Hy1 := Lib.hid hy1
    have hwb : IntKind.i64.wrap (y1.toNat : Int) = (y1.toNat : Int) := IntWalk.i64_in _ (by have := y1.toNat_lt; omega)
    clear C0 C1 C2 hy1 h
    simp only [Acc.cells]
    go_enter Try.func57, Try.ntmps57
    refine St.startAt w fun w1 hS => ?_
    go_wp2_with (first | refine au1 (n := ?_) | (refine au2 (n := ?_); clear hS; intro w' hS) | (refine au3 (n := ?_); clear hS; intro gb w1 hS) | (refine au4 (n := ?_); clear hS; intro v1 w' hS) | ((with_reducible refine wl_guard ?_); refine stop_mem rfl rfl ?_))
    refine region_end 11 [.row gb [.int .u64 0, .int .i64 0, .int .u64 0, .int .u64 0] 102 (0, 0)] [] hS.pick (by kernel_rfl) ?_
    clear hS
    intro F wx hR hB hS
    (refine we_take 0 rfl rfl (by kernel_rfl) (by kernel_rfl) (by kernel_rfl) (fun _ _ _ h => h) (by kernel_rfl) rfl (fun W hW => (by (go_simp; try with_reducible rfl))) hS.base ?_; simp only [Act.put, List.setIfInBounds_toArray, List.set_cons_zero, List.set_cons_succ])
    (refine we_take 2 rfl rfl (by kernel_rfl) (by kernel_rfl) (by kernel_rfl) (fun _ _ _ h => h) (by kernel_rfl) rfl (fun W hW => (by (go_simp; try with_reducible rfl))) hS.base ?_; simp only [Act.put, List.setIfInBounds_toArray, List.set_cons_zero, List.set_cons_succ])
    (refine we_take 3 rfl rfl (by kernel_rfl) (by kernel_rfl) (by kernel_rfl) (fun _ _ _ h => h) (by kernel_rfl) rfl (fun W hW => (strI Hy1.out rfl rfl rfl rfl)) hS.base ?_; simp only [Act.put, List.setIfInBounds_toArray, List.set_cons_zero, List.set_cons_succ])
    (refine we_take (v := (.int .i64 (y1.toNat : Int))) 4 rfl rfl (by kernel_rfl) (by kernel_rfl) (by kernel_rfl) (fun _ _ _ h => h) (by kernel_rfl) rfl (fun W hW => by (go_simp; try simp [hwb])) hS.base ?_; simp only [Act.put, List.setIfInBounds_toArray, List.set_cons_zero, List.set_cons_succ])
    (refine we_take 5 rfl rfl (by kernel_rfl) (by kernel_rfl) (by kernel_rfl) (fun _ _ _ h => h) (by kernel_rfl) rfl (fun W hW => (by (go_simp; try with_reducible rfl))) hS.base ?_; simp only [Act.put, List.setIfInBounds_toArray, List.set_cons_zero, List.set_cons_succ])
    (refine we_take 7 rfl rfl (by kernel_rfl) (by kernel_rfl) (by kernel_rfl) (fun _ _ _ h => h) (by kernel_rfl) rfl (fun W hW => (by (go_simp; try with_reducible rfl))) hS.base ?_; simp only [Act.put, List.setIfInBounds_toArray, List.set_cons_zero, List.set_cons_succ])
    (refine we_all (rs := [1]) (by kernel_rfl) (by simp) ?_; intro i hi; have hi := List.mem_singleton.1 hi; subst hi)
    refine wod_of rfl rfl rfl (wp_call (by go_simp) (K0.out _) ?_)
    rintro e w3 ⟨rfl, hS2⟩
    replace hS := hS.call hS2
    clear hS2
    refine ⟨_, rfl, ?_⟩
    (refine ⟨fun _ => hS.base, ?_⟩; simp only [Act.put, List.setIfInBounds_toArray, List.set_cons_zero, List.set_cons_succ])
    (refine we_all (rs := [6]) (by kernel_rfl) (by simp) ?_; intro i hi; have hi := List.mem_singleton.1 hi; subst hi)
    refine wod_of rfl rfl rfl (wp_call (by go_simp) (K1.out _) ?_)
    rintro e w3 ⟨rfl, hS2⟩
    replace hS := hS.call hS2
    clear hS2
    refine ⟨_, rfl, ?_⟩
    (refine ⟨fun _ => hS.base, ?_⟩; simp only [Act.put, List.setIfInBounds_toArray, List.set_cons_zero, List.set_cons_succ])
    (refine we_all (rs := [8]) (by kernel_rfl) (by simp) ?_; intro i hi; have hi := List.mem_singleton.1 hi; subst hi)
    refine wod_of rfl rfl rfl (wp_call (by go_simp) (K2.out _) ?_)
    rintro e w3 ⟨rfl, hS2⟩
    replace hS := hS.call hS2
    clear hS2
    refine ⟨_, rfl, ?_⟩
    (refine ⟨fun _ => hS.base, ?_⟩; simp only [Act.put, List.setIfInBounds_toArray, List.set_cons_zero, List.set_cons_succ])
    simp only [List.nil_append] at hS
    (refine we_take 9 rfl rfl (by kernel_rfl) (by kernel_rfl) (by kernel_rfl) (fun _ _ _ h => h) (by kernel_rfl) rfl (fun W hW => (by (go_simp; try with_reducible rfl))) hS.base ?_; simp only [Act.put, List.setIfInBounds_toArray, List.set_cons_zero, List.set_cons_succ])
    (refine we_all (rs := [10]) (by kernel_rfl) (by simp) ?_; intro i hi; have hi := List.mem_singleton.1 hi; subst hi)
    refine won_of rfl rfl rfl (k_sta hS rfl rfl rfl (h := ?_))
    clear hS
    intro w4 hS
    simp only [List.take, List.drop, List.cons_append, List.nil_append, List.length_cons, List.length_nil] at hS
    (refine ⟨fun _ => hS.base, ?_⟩; simp only [Act.put, List.setIfInBounds_toArray, List.set_cons_zero, List.set_cons_succ])
    (refine we_all (rs := [11]) (by kernel_rfl) (by simp) ?_; intro i hi; have hi := List.mem_singleton.1 hi; subst hi)
    refine wod_of rfl rfl rfl (wp_run (by (go_simp; first | done | exact ⟨rfl, rfl⟩ | with_reducible rfl)) ?_)
    (refine ⟨fun h => absurd rfl h, ?_⟩; refine we_done (by kernel_rfl) ?_ _)
    replace hS := hB _ _ hS
    try simp only [List.append_nil] at hS
    simp only [Act.put, List.setIfInBounds_toArray, List.set_cons_zero, List.set_cons_succ]
    go_wp2_with (fail)
    exact end_cell2 hS rfl rfl rfl rfl rfl rfl (h := ⟨rfl, hS.nil⟩)
  · have h1 : ¬ (l.length : Int) = 25 := by omega
    have e : getW l = (⟨0, 0, 0, 0⟩, false) := by unfold getW; rw [if_neg h]
    rw [e]
    clear e h
    simp only [Acc.cells]
    go_enter Try.func57, Try.ntmps57
    refine St.startAt w fun w1 hS => ?_
    go_wp2_with (first | refine au1 (n := ?_) | (refine au2 (n := ?_); clear hS; intro w' hS) | (refine au3 (n := ?_); clear hS; intro gb w1 hS) | (refine au4 (n := ?_); clear hS; intro v1 w' hS) | ((with_reducible refine wl_guard ?_); refine stop_mem rfl rfl ?_))
    exact end_cell2 hS rfl rfl rfl rfl rfl rfl (h := ⟨rfl, hS.nil⟩)

set_option maxHeartbeats 1000000 in
theorem putWhole_any (a : Acc) (h : a.Ok) (w : World) :
    Calls Try.prog 53 #[.agg a.cells.toArray] w fun e w' => e = .returned (.tuple #[.string ⟨(putW a).1.toArray⟩, .int .i64 (putW a).2]) ∧ St [] w w' [] := by
  have HA := Lib.hid (fun (w : World) => asked_ok a h [] (.slice none 0 0) w (by simp) (Rd.nil _ _))
  have HN := Lib.hid (fun (r : List UInt8) (hr : r.length ≤ 100) (v vl : Value) (w : World) (hR : Rd w 1 v r.length (B r)) (hL : Rd w 1 vl 2 (U [a.deb, a.cred])) => numbers_any r [a.deb, a.cred] v vl 2 w rfl (by omega) (by obtain ⟨_, h2, h3, _⟩ := h; intro x hx; simp only [List.mem_cons, List.not_mem_nil, or_false] at hx; rcases hx with rfl | rfl <;> assumption) (by omega) hR hL)
  clear h
  obtain ⟨id, flags, deb, cred⟩ := a
  simp only [ag, Acc.cells] at HA HN ⊢
  by_cases hf : 0 ≤ flags ∧ flags ≤ 255
  · have e1 : (byAcc ⟨id, flags, deb, cred⟩).isSome = true := by unfold byAcc; rw [if_pos hf]; rfl
    have e2 : putW ⟨id, flags, deb, cred⟩ = (wholeB ⟨id, flags, deb, cred⟩, 0) := by unfold putW; rw [if_pos hf]
    rw [e1] at HA
    rw [e2]
    clear e1 e2 hf
    go_enter Try.func53, Try.ntmps53
    refine St.startAt w fun w1 hS => ?_
    go_wp2_with (first | (go_at_call 81; refine (HA.out _).mono ?_; rintro e w2 ⟨v2, r, rfl, hr, hS2⟩; replace hS := hS.call hS2; clear hS2; simp only [List.cons_append, List.nil_append] at hS hr) | ((with_reducible refine g_bs ?_); refine wl_of rfl ?_; refine wp_buildSlice1 (vs := [.int .u64 (deb : Int), .int .u64 (cred : Int)]) hS rfl rfl rfl rfl rfl rfl (by decide) ⟨rfl, by simp [Value.cells]⟩ ?_; clear hS; intro v1 w1 hS) | (first | refine au1 (n := ?_) | (refine au2 (n := ?_); clear hS; intro w' hS) | (refine au3 (n := ?_); clear hS; intro gb w1 hS) | (refine au4 (n := ?_); clear hS; intro v1 w' hS) | ((with_reducible refine wl_guard ?_); refine stop_mem rfl rfl ?_)))
    have hrl : r.length ≤ 100 := by rw [hr]; simp [leB_length]
    refine (HN.out r hrl v2 _ _ ?_ ?_).mono ?_
    · exact hS.rdv (i := 1) rfl
    · exact hS.rdv (i := 0) rfl
    rintro e w2 ⟨v3, r3, rfl, hr3, hS2⟩
    replace hS := hS.call hS2
    clear hS2
    rw [B_flat] at hS
    simp only [List.cons_append, List.nil_append] at hS
    go_wp2_with (first | refine au1 (n := ?_) | (refine au2 (n := ?_); clear hS; intro w' hS) | (refine au3 (n := ?_); clear hS; intro gb w1 hS) | (refine au4 (n := ?_); clear hS; intro v1 w' hS) | ((with_reducible refine wl_guard ?_); refine stop_mem rfl rfl ?_))
    go_ret2
    refine ⟨?_, hS.nil⟩
    subst hr3
    subst hr
    simp [wholeB]
  · have e1 : (byAcc ⟨id, flags, deb, cred⟩).isSome = false := by unfold byAcc; rw [if_neg hf]; rfl
    have e2 : putW ⟨id, flags, deb, cred⟩ = ([], 1) := by unfold putW; rw [if_neg hf]
    rw [e1] at HA
    rw [e2]
    clear e1 e2 hf
    go_enter Try.func53, Try.ntmps53
    refine St.startAt w fun w1 hS => ?_
    go_wp2_with (first | (go_at_call 81; refine (HA.out _).mono ?_; rintro e w2 ⟨v2, r, rfl, hr, hS2⟩; replace hS := hS.call hS2; clear hS2) | (first | refine au1 (n := ?_) | (refine au2 (n := ?_); clear hS; intro w' hS) | (refine au3 (n := ?_); clear hS; intro gb w1 hS) | (refine au4 (n := ?_); clear hS; intro v1 w' hS) | ((with_reducible refine wl_guard ?_); refine stop_mem rfl rfl ?_)))
    go_ret2
    exact ⟨rfl, hS.nil⟩

end Go.Proofs.Ytjjiibcnknljfaa
