/-
  Lemmas that hold for every program: a heap told by entries ('St'), what a call may change ('Mod'), what a slice reads as ('Rd').
-/
import Derived.WalkKit
import Derived.WalkSpells
import Derived.WalkLawsBesides
import Derived.Laws.CopyOwn
import Derived.Lib.Hide
namespace Go.Cmp
open Go.RowKit

/-- 'w'' is w, but for blocks in S and for new blocks. -/
structure Mod (S : List Nat) (w w' : World) : Prop where
  os : w'.os = w.os
  tape : w'.tape = w.tape
  output : w'.output = w.output
  size : w.heap.size ≤ w'.heap.size
  block : ∀ k, k < w.heap.size → k ∉ S → w'.heap[k]? = w.heap[k]?

theorem Mod.refl (S : List Nat) (w : World) : Mod S w w := ⟨rfl, rfl, rfl, Nat.le_refl _, fun _ _ _ => rfl⟩
theorem Mod.trans {S : List Nat} {a b c : World} (h : Mod S a b) (k : Mod S b c) : Mod S a c :=
  ⟨k.os.trans h.os, k.tape.trans h.tape, k.output.trans h.output, Nat.le_trans h.size k.size,
   fun i hi hn => (k.block i (Nat.lt_of_lt_of_le hi h.size) hn).trans (h.block i hi hn)⟩
theorem Mod.weaken {S T : List Nat} {a b : World} (h : Mod S a b) (hs : ∀ x, x ∈ S → x ∈ T) : Mod T a b :=
  ⟨h.os, h.tape, h.output, h.size, fun i hi hn => h.block i hi (fun hx => hn (hs _ hx))⟩
theorem Mod.nil {S : List Nat} {a b : World} (h : Mod [] a b) : Mod S a b := h.weaken (by simp)
/-- Changed blocks that are new to 'a' don't count. -/
theorem Mod.comp {S T : List Nat} {a b c : World} (h : Mod S a b) (k : Mod T b c) (ht : ∀ x, x ∈ T → x ∈ S ∨ a.heap.size ≤ x) : Mod S a c :=
  ⟨k.os.trans h.os, k.tape.trans h.tape, k.output.trans h.output, Nat.le_trans h.size k.size,
   fun i hi hn => (k.block i (Nat.lt_of_lt_of_le hi h.size) (fun hx => by rcases ht _ hx with h1 | h1; exact hn h1; omega)).trans (h.block i hi hn)⟩
theorem Mod.drew {S : List Nat} {a b : World} (h : Mod S a b) : Mod S a b.drew := ⟨h.os, h.tape, h.output, h.size, h.block⟩
theorem Mod.below {a b : World} (h : Mod [] a b) : Below a.heap.size a b := ⟨h.os, h.tape, h.output, h.size, fun k hk => h.block k hk (by simp)⟩
theorem Mod.ofBelow {a b : World} (h : Below a.heap.size a b) : Mod [] a b := ⟨h.os, h.tape, h.output, h.size, fun k hk _ => h.block k hk⟩
theorem Mod.cell {S : List Nat} {a b : World} (h : Mod S a b) {p : Addr} (hp : p.block < a.heap.size) (hn : p.block ∉ S) : b.cell? p = a.cell? p :=
  World.cell?_of_block (h.block _ hp hn)
theorem Mod.cellOf {a b : World} (h : Mod [] a b) {p : Addr} {v : Value} (hc : a.cell? p = some v) : b.cell? p = some v := (h.cell (block_lt_of_cell hc) (by simp)).trans hc
theorem mod_alloc (w : World) (o : Obj) : Mod [] w (w.alloc o) := ⟨rfl, rfl, rfl, by simp, fun k hk _ => Below.heap_alloc w o k hk⟩
theorem mod_setCell (w : World) (a : Addr) (v : Value) : Mod [a.block] w (w.setCell a v) :=
  ⟨rfl, rfl, rfl, by simp [World.setCell], fun k _ hn => Below.heap_setCell w a v k (by simpa using hn)⟩
theorem mod_setRow (w : World) (g : Nat) (cs : Array Value) : Mod [g] w (w.setRow g cs) :=
  ⟨rfl, rfl, rfl, by simp [World.setRow], fun k _ hn => setRow_other w g k cs (by simpa using hn)⟩

/-! ### What a slice reads as: n elements of k cells each -/

def Rd (w : World) (k : Nat) (v : Value) (n : Nat) (xs : List Value) : Prop :=
  xs.length = n * k ∧ ∃ (p : Option Addr) (cap : Nat), v = .slice p n cap ∧ n ≤ cap ∧ cap ≤ maxLen ∧ (p = none → cap = 0) ∧
    ∀ a, p = some a → ∀ (i : Nat) x, xs[i]? = some x → w.cell? (a.add i) = some x

theorem add_block (a : Addr) (i : Nat) : (a.add i).block = a.block := by unfold Addr.add; split <;> rfl
theorem add_add (a : Addr) (i j : Nat) : (a.add i).add j = a.add (i + j) := by
  unfold Addr.add
  by_cases hi : i = 0
  · subst hi; simp
  · by_cases hj : j = 0
    · subst hj; simp [hi]
    · simp [hi, hj]; omega
theorem add_lit (b o i : Nat) : (⟨b, o, none⟩ : Addr).add i = ⟨b, o + i, none⟩ := by unfold Addr.add; split <;> simp_all

theorem Rd.mod {S : List Nat} {w w' : World} {k : Nat} {v : Value} {n : Nat} {xs : List Value} (h : Rd w k v n xs) (m : Mod S w w') (hS : ∀ b, v.ownBlock = some b → b ∉ S) : Rd w' k v n xs := by
  obtain ⟨h1, p, cap, rfl, h2, h3, h4, h5⟩ := h
  refine ⟨h1, p, cap, rfl, h2, h3, h4, fun a ha i x hx => ?_⟩
  have hc := h5 a ha i x hx
  have hl := block_lt_of_cell hc
  subst ha
  rw [m.cell hl (by rw [add_block]; exact hS _ rfl)]
  exact hc
theorem Rd.grow {w w' : World} {k : Nat} {v : Value} {n : Nat} {xs : List Value} (h : Rd w k v n xs) (m : Mod [] w w') : Rd w' k v n xs := h.mod m (by simp)

/-- The address of cell 'off' of a slice. -/
def ptrAt (v : Value) (off : Nat) : Value := match v with | .slice (some a) _ _ => .pointer (some (a.add off)) | _ => undef
/-- v[l:h], elements of k cells. -/
def cutSl (v : Value) (k l h : Nat) : Value := match v with | .slice p _ cap => .slice (if cap = l then p else p.map (·.add (l * k))) (h - l) (cap - l) | x => x

theorem Rd.cut {w : World} {k : Nat} {v : Value} {n : Nat} {xs : List Value} (h : Rd w k v n xs) (l hi : Nat) (h1 : l ≤ hi) (h2 : hi ≤ n) : Rd w k (cutSl v k l hi) (hi - l) ((xs.take (hi * k)).drop (l * k)) := by
  obtain ⟨e1, p, cap, rfl, e2, e3, e4, e5⟩ := h
  have hle : hi * k ≤ n * k := Nat.mul_le_mul_right _ h2
  refine ⟨by rw [List.length_drop, List.length_take, e1, Nat.min_eq_left hle, Nat.sub_mul], _, _, rfl, by omega, by omega, ?_, ?_⟩
  · intro hp
    split at hp
    · omega
    · cases p with
      | none => have := e4 rfl; omega
      | some a => simp at hp
  · intro a ha i x hx
    rw [List.getElem?_drop, List.getElem?_take] at hx
    split at hx
    · split at ha
      · rename_i hc hcap
        have : hi = l := by omega
        subst this
        omega
      · cases p with
        | none => simp at ha
        | some b =>
          simp only [Option.map_some, Option.some.injEq] at ha
          subst ha
          rw [add_add]
          exact e5 b rfl _ x hx
    · cases hx

/-! ### The entries of a heap -/

/-- A block that is known whole; or a slice at the head of a block of its own (or nil). -/
inductive Ent where
  | row (g : Nat) (cs : List Value) (e : TypeId) (fr : Nat × Nat)
  | vec (v : Value) (e : TypeId) (k n : Nat) (xs : List Value)

def Ent.fp : Ent → List Nat
  | .row g _ _ _ => [g]
  | .vec v _ _ _ _ => v.ownBlock.toList

def notFrozen (fr : Nat × Nat) (i : Nat) : Prop := ¬ (fr.1 ≤ i ∧ i < fr.2)

def VecAt (w : World) (v : Value) (e : TypeId) (k n : Nat) (xs : List Value) : Prop :=
  xs.length = n * k ∧ ((v = .slice none 0 0 ∧ n = 0) ∨
    ∃ (g cap : Nat) (rest : List Value) (fr : Nat × Nat), v = .slice (some ⟨g, 0, none⟩) n cap ∧ w.heap[g]? = some (.cells (xs ++ rest).toArray e fr) ∧ n ≤ cap ∧ cap ≤ maxLen ∧ cap * k ≤ (xs ++ rest).length ∧
      ∀ i, i < cap * k → notFrozen fr i)

def Ent.At (w : World) : Ent → Prop
  | .row g cs e fr => w.heap[g]? = some (.cells cs.toArray e fr)
  | .vec v e k n xs => VecAt w v e k n xs

theorem sublist_flatMap {α β : Type} (f : α → List β) : ∀ {l m : List α}, l.Sublist m → (l.flatMap f).Sublist (m.flatMap f)
  | _, _, .slnil => by simp
  | _, _, .cons a h => by
    rw [List.flatMap_cons]
    exact (sublist_flatMap f h).trans (List.sublist_append_right _ _)
  | _, _, .cons_cons a h => by
    rw [List.flatMap_cons, List.flatMap_cons]
    exact (List.Sublist.refl _).append (sublist_flatMap f h)
theorem cons_eraseIdx_perm {α : Type} : ∀ (l : List α) (i : Nat) (h : i < l.length), (l[i] :: l.eraseIdx i).Perm l
  | x :: l, 0, _ => by simp
  | x :: l, i + 1, h => by
    simp only [List.getElem_cons_succ, List.eraseIdx_cons_succ]
    exact (List.Perm.swap _ _ _).trans ((cons_eraseIdx_perm l i (by simpa using h)).cons x)

theorem heap_lt {w : World} {g : Nat} {o : Obj} (h : w.heap[g]? = some o) : g < w.heap.size := (Array.getElem?_eq_some_iff.1 h).1

theorem Ent.At.lt {w : World} {m : Ent} (h : m.At w) : ∀ g ∈ m.fp, g < w.heap.size := by
  intro g hg
  cases m with
  | row g' cs e fr => simp only [Ent.fp, List.mem_singleton] at hg; subst hg; exact heap_lt h
  | vec v e k n xs =>
    rcases h.2 with ⟨rfl, _⟩ | ⟨g', cap, rest, fr, rfl, hh, _⟩
    · simp [Ent.fp, Value.ownBlock] at hg
    · simp [Ent.fp, Value.ownBlock] at hg; subst hg; exact heap_lt hh
theorem Ent.At.mod {S : List Nat} {w w' : World} {m : Ent} (h : m.At w) (k : Mod S w w') (hn : ∀ g ∈ m.fp, g ∉ S) : m.At w' := by
  cases m with
  | row g cs e fr =>
    simp only [Ent.At] at h ⊢
    rw [k.block g (heap_lt h) (hn g (by simp [Ent.fp]))]; exact h
  | vec v e kk n xs =>
    refine ⟨h.1, ?_⟩
    rcases h.2 with hn' | ⟨g, cap, rest, fr, rfl, hh, r⟩
    · exact .inl hn'
    · exact .inr ⟨g, cap, rest, fr, rfl, by rw [k.block g (heap_lt hh) (hn g (by simp [Ent.fp, Value.ownBlock]))]; exact hh, r⟩

/-- The heap at a point of a call: w0 the world at the call's begin, S the old blocks that may be changed, M the entries that are known, apart from each other. -/
structure St (S : List Nat) (w0 w : World) (M : List Ent) : Prop where
  base : Mod S w0 w
  rows : ∀ m ∈ M, m.At w
  nodup : (M.flatMap Ent.fp).Nodup
  own : ∀ g ∈ M.flatMap Ent.fp, g ∈ S ∨ w0.heap.size ≤ g

theorem St.init (w : World) : St [] w w [] := ⟨Mod.refl _ _, by simp, by simp, by simp⟩
/-- What is known at the call's begin: 'Has w M'. -/
structure Has (w : World) (M : List Ent) : Prop where
  rows : ∀ m ∈ M, m.At w
  nodup : (M.flatMap Ent.fp).Nodup
theorem St.initS {w : World} {M : List Ent} (h : Has w M) : St (M.flatMap Ent.fp) w w M := ⟨Mod.refl _ _, h.rows, h.nodup, fun _ hg => .inl hg⟩
theorem St.has {S : List Nat} {w0 w : World} {M : List Ent} (h : St S w0 w M) : Has w M := ⟨h.rows, h.nodup⟩
theorem St.lt {S : List Nat} {w0 w : World} {M : List Ent} (h : St S w0 w M) : ∀ g ∈ M.flatMap Ent.fp, g < w.heap.size := by
  intro g hg
  obtain ⟨m, hm, hg'⟩ := List.mem_flatMap.1 hg
  exact (h.rows m hm).lt g hg'
theorem St.drew {S : List Nat} {w0 w : World} {M : List Ent} (h : St S w0 w M) : St S w0 w.drew M :=
  ⟨h.base.drew, fun m hm => (h.rows m hm).mod (S := []) ⟨rfl, rfl, rfl, Nat.le_refl _, fun _ _ _ => rfl⟩ (by simp), h.nodup, h.own⟩
theorem St.startAt {G : World → Prop} (w : World) (h : ∀ w1, St [] w w1 [] → G w1) : G w := h w (St.init w)
theorem St.startHas {M : List Ent} {G : World → Prop} {w : World} (hM : Has w M) (h : ∀ w1, St (M.flatMap Ent.fp) w w1 M → G w1) : G w := h w (St.initS hM)

/-- THE FRAME: a call that was handed A and hands back B. -/
theorem St.frame {S : List Nat} {w0 w w' : World} {A B M : List Ent} (h : St S w0 w (A ++ M)) (k : St (A.flatMap Ent.fp) w w' B) : St S w0 w' (B ++ M) := by
  have hnd := h.nodup
  rw [List.flatMap_append, List.nodup_append] at hnd
  obtain ⟨n1, n2, n3⟩ := hnd
  have hMlt : ∀ g ∈ M.flatMap Ent.fp, g < w.heap.size := fun g hg => h.lt g (by rw [List.flatMap_append]; exact List.mem_append_right _ hg)
  have hMA : ∀ g ∈ M.flatMap Ent.fp, g ∉ A.flatMap Ent.fp := fun g hg ha => n3 g ha g hg rfl
  refine ⟨?_, ?_, ?_, ?_⟩
  · refine h.base.comp k.base fun x hx => ?_
    exact h.own x (by rw [List.flatMap_append]; exact List.mem_append_left _ hx)
  · intro m hm
    rcases List.mem_append.1 hm with hm | hm
    · exact k.rows m hm
    · refine (h.rows m (List.mem_append_right _ hm)).mod k.base fun g hg => hMA g (List.mem_flatMap.2 ⟨m, hm, hg⟩)
  · rw [List.flatMap_append, List.nodup_append]
    refine ⟨k.nodup, n2, fun a ha b hb e => ?_⟩
    subst e
    rcases k.own a ha with h1 | h1
    · exact hMA a hb h1
    · have := hMlt a hb; omega
  · intro g hg
    rw [List.flatMap_append] at hg
    rcases List.mem_append.1 hg with hg | hg
    · rcases k.own g hg with h1 | h1
      · exact h.own g (by rw [List.flatMap_append]; exact List.mem_append_left _ h1)
      · exact .inr (Nat.le_trans h.base.size h1)
    · exact h.own g (by rw [List.flatMap_append]; exact List.mem_append_right _ hg)
/-- .. that was handed nothing. -/
theorem St.call {S : List Nat} {w0 w w' : World} {B M : List Ent} (h : St S w0 w M) (k : St [] w w' B) : St S w0 w' (B ++ M) := St.frame (A := []) h k
theorem St.same {S : List Nat} {w0 w w' : World} {M : List Ent} (h : St S w0 w M) (k : Mod [] w w') : St S w0 w' M :=
  St.frame (A := []) (B := []) h ⟨k, by simp, by simp, by simp⟩
theorem St.perm {S : List Nat} {w0 w : World} {M N : List Ent} (h : St S w0 w M) (p : M.Perm N) : St S w0 w N :=
  ⟨h.base, fun m hm => h.rows m (p.mem_iff.2 hm), (p.flatMap_right Ent.fp).nodup_iff.1 h.nodup, fun g hg => h.own g ((p.flatMap_right Ent.fp).mem_iff.2 hg)⟩
theorem St.sub {S : List Nat} {w0 w : World} {M N : List Ent} (h : St S w0 w M) (p : N.Sublist M) : St S w0 w N :=
  ⟨h.base, fun m hm => h.rows m (p.subset hm), h.nodup.sublist (sublist_flatMap _ p), fun g hg => h.own g ((sublist_flatMap _ p).subset hg)⟩
theorem St.nil {S : List Nat} {w0 w : World} {M : List Ent} (h : St S w0 w M) : St S w0 w [] := h.sub (List.nil_sublist _)
theorem St.tail {S : List Nat} {w0 w : World} {m : Ent} {M : List Ent} (h : St S w0 w (m :: M)) : St S w0 w M := h.sub (List.sublist_cons_self _ _)
theorem St.one {S : List Nat} {w0 w : World} {m : Ent} {M : List Ent} (h : St S w0 w (m :: M)) : St S w0 w [m] := h.sub (by simp)
/-- Entry i comes to the front. -/
theorem St.front {S : List Nat} {w0 w : World} {M : List Ent} (h : St S w0 w M) (i : Nat) {m : Ent} (hi : M[i]? = some m) : St S w0 w (m :: M.eraseIdx i) := by
  refine h.perm ?_
  obtain ⟨hlt, e⟩ := List.getElem?_eq_some_iff.1 hi
  subst e
  exact (cons_eraseIdx_perm M i hlt).symm

theorem St.add {S : List Nat} {w0 w w' : World} {M : List Ent} (h : St S w0 w M) (k : Mod [] w w') {m : Ent} (hm : m.At w') (hg : ∀ g ∈ m.fp, w.heap.size ≤ g) (hn : m.fp.Nodup) : St S w0 w' (m :: M) :=
  St.call (B := [m]) h ⟨k, by simpa using hm, by simpa using hn, fun g hgm => .inr (hg g (by simpa using hgm))⟩
theorem Ent.fp_nodup (m : Ent) : m.fp.Nodup := by
  cases m with
  | row => simp [Ent.fp]
  | vec v => simp only [Ent.fp]; generalize v.ownBlock = o; cases o <;> simp
theorem St.alloc {S : List Nat} {w0 w : World} {M : List Ent} (h : St S w0 w M) (cs : List Value) (e : TypeId) : St S w0 (w.alloc (.cells cs.toArray e)) (.row w.heap.size cs e (0, 0) :: M) :=
  h.add (mod_alloc w _) (m := .row w.heap.size cs e (0, 0)) (heap_alloc_new w _) (by simp [Ent.fp]) (Ent.fp_nodup _)
/-- The block of the first entry is changed. -/
theorem St.chg {S : List Nat} {w0 w w' : World} {M : List Ent} {m m' : Ent} (h : St S w0 w (m :: M)) (k : Mod m.fp w w') (hm : m'.At w') (hg : ∀ g ∈ m'.fp, g ∈ m.fp ∨ w.heap.size ≤ g) : St S w0 w' (m' :: M) :=
  St.frame (A := [m]) (B := [m']) h ⟨by simpa using k, by simpa using hm, by simpa using Ent.fp_nodup m', fun g hgm => by simpa using hg g (by simpa using hgm)⟩
/-- The block of entry i is changed. -/
theorem St.chgAt {S : List Nat} {w0 w w' : World} {M : List Ent} {m m' : Ent} (h : St S w0 w M) (i : Nat) (hi : M[i]? = some m) (k : Mod m.fp w w') (hm : m'.At w') (hg : ∀ g ∈ m'.fp, g ∈ m.fp ∨ w.heap.size ≤ g) : St S w0 w' (M.set i m') := by
  refine ((h.front i hi).chg k hm hg).perm ?_
  obtain ⟨hlt, e⟩ := List.getElem?_eq_some_iff.1 hi
  have h1 : (M.set i m').eraseIdx i = M.eraseIdx i := by
    rw [List.eraseIdx_set_eq]
  have h2 : (M.set i m')[i]'(by simpa using hlt) = m' := by simp
  have h3 := cons_eraseIdx_perm (M.set i m') i (by simpa using hlt)
  rw [h2, h1] at h3
  exact h3

theorem St.row {S : List Nat} {w0 w : World} {M : List Ent} (h : St S w0 w M) {i g : Nat} {cs : List Value} {e : TypeId} {fr : Nat × Nat} (hi : M[i]? = some (.row g cs e fr)) : w.heap[g]? = some (.cells cs.toArray e fr) :=
  h.rows _ (List.mem_of_getElem? hi)
theorem St.vec {S : List Nat} {w0 w : World} {M : List Ent} (h : St S w0 w M) {i : Nat} {v : Value} {e : TypeId} {k n : Nat} {xs : List Value} (hi : M[i]? = some (.vec v e k n xs)) : VecAt w v e k n xs :=
  h.rows _ (List.mem_of_getElem? hi)
theorem St.old {S : List Nat} {w0 w : World} {M : List Ent} (h : St S w0 w M) {k : Nat} {v : Value} {n : Nat} {xs : List Value} (hr : Rd w0 k v n xs) (hS : ∀ b, v.ownBlock = some b → b ∉ S) : Rd w k v n xs := hr.mod h.base hS
theorem St.old0 {w0 w : World} {M : List Ent} (h : St [] w0 w M) {k : Nat} {v : Value} {n : Nat} {xs : List Value} (hr : Rd w0 k v n xs) : Rd w k v n xs := hr.mod h.base (by simp)

theorem row_cell {w : World} {g : Nat} {cs : List Value} {e : TypeId} {fr : Nat × Nat} (h : w.heap[g]? = some (.cells cs.toArray e fr)) (i : Nat) : w.cell? ⟨g, i, none⟩ = cs[i]? := by simp [World.cell?, h]
theorem row_free {w : World} {g : Nat} {cs : List Value} {e : TypeId} {fr : Nat × Nat} (h : w.heap[g]? = some (.cells cs.toArray e fr)) {i : Nat} (hf : notFrozen fr i) : w.frozen? ⟨g, i, none⟩ = false := by
  unfold notFrozen at hf
  simp [World.frozen?, h]
  omega

theorem VecAt.rd {w : World} {v : Value} {e : TypeId} {k n : Nat} {xs : List Value} (h : VecAt w v e k n xs) : Rd w k v n xs := by
  rcases h with ⟨h1, ⟨rfl, rfl⟩ | ⟨g, cap, rest, fr, rfl, hh, h2, h3, h4, h5⟩⟩
  · exact ⟨h1, none, 0, rfl, Nat.le_refl _, by simp [maxLen], by simp, by simp⟩
  · refine ⟨h1, _, cap, rfl, h2, h3, by simp, ?_⟩
    intro a ha i x hx
    simp only [Option.some.injEq] at ha
    subst ha
    rw [add_lit, Nat.zero_add, row_cell hh, List.getElem?_append_left (List.getElem?_eq_some_iff.1 hx).1]
    exact hx
theorem St.rdv {S : List Nat} {w0 w : World} {M : List Ent} (h : St S w0 w M) {i : Nat} {v : Value} {e : TypeId} {k n : Nat} {xs : List Value} (hi : M[i]? = some (.vec v e k n xs)) : Rd w k v n xs := (h.vec hi).rd
/-- A slice over a part of a row. -/
theorem Rd.ofRow {w : World} {g : Nat} {cs : List Value} {e : TypeId} {fr : Nat × Nat} (h : w.heap[g]? = some (.cells cs.toArray e fr)) (k off n cap : Nat) (xs : List Value) (hx : xs = (cs.drop off).take (n * k)) (hfit : off + n * k ≤ cs.length) (hn : n ≤ cap) (hc : cap ≤ maxLen) :
    Rd w k (.slice (some ⟨g, off, none⟩) n cap) n xs := by
  subst hx
  refine ⟨by rw [List.length_take, List.length_drop]; omega, _, cap, rfl, hn, hc, by simp, ?_⟩
  intro a ha i x hx
  simp only [Option.some.injEq] at ha
  subst ha
  rw [add_lit, row_cell h]
  rw [List.getElem?_take] at hx
  split at hx
  · rwa [List.getElem?_drop] at hx
  · cases hx
theorem Rd.nil (w : World) (k : Nat) : Rd w k (.slice none 0 0) 0 [] := ⟨by simp, none, 0, rfl, Nat.le_refl _, by simp [maxLen], by simp, by simp⟩
theorem vec_nil (w : World) (e : TypeId) (k : Nat) : VecAt w (.slice none 0 0) e k 0 [] := ⟨by simp, .inl ⟨rfl, rfl⟩⟩
theorem St.addNil {S : List Nat} {w0 w : World} {M : List Ent} (h : St S w0 w M) (e : TypeId) (k : Nat) : St S w0 w (.vec (.slice none 0 0) e k 0 [] :: M) :=
  h.add (Mod.refl _ _) (m := .vec (.slice none 0 0) e k 0 []) (vec_nil w e k) (by simp [Ent.fp, Value.ownBlock]) (Ent.fp_nodup _)
/-- A row that a slice value covers whole is a slice of its own. -/
theorem St.toVec {S : List Nat} {w0 w : World} {M : List Ent} {g : Nat} {cs : List Value} {e : TypeId} {fr : Nat × Nat} (h : St S w0 w (.row g cs e fr :: M)) (k n cap : Nat) (xs rest : List Value) (hcs : cs = xs ++ rest) (hx : xs.length = n * k) (hl : cap * k ≤ cs.length) (hn : n ≤ cap) (hc : cap ≤ maxLen)
    (hf : ∀ i, i < cap * k → notFrozen fr i) : St S w0 w (.vec (.slice (some ⟨g, 0, none⟩) n cap) e k n xs :: M) := by
  have hr := h.row (i := 0) rfl
  subst hcs
  refine h.chg (m' := .vec (.slice (some ⟨g, 0, none⟩) n cap) e k n xs) (Mod.refl _ _) ⟨hx, .inr ⟨g, cap, rest, fr, rfl, hr, hn, hc, hl, hf⟩⟩ ?_
  intro x hx
  exact .inl (by simpa [Ent.fp, Value.ownBlock] using hx)
theorem nf0 (i : Nat) : notFrozen (0, 0) i := by unfold notFrozen; omega

end Go.Cmp
