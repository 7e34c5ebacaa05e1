/-
  Lemmas that hold for every program: a heap told by entries ('St'), what a call may change ('Mod'), what a slice reads as ('Rd').
  Steps of a walk over a heap told by entries. Every lemma holds for every program.
  More steps of a walk, for every program.
  Steps of a walk that find their entries by themselves; slices of things. Every lemma holds for every program.
  Lemmas that hold for every program: a region that draws its order, of which a part of the heap is changed.
  Lemmas that hold for every program: guards for a calm walk.
  Lemmas that hold for every program: one more guard for a calm walk.
  Lemmas that hold for every program: what is taken out of a slice (append of a slice's own end, clear, a shorter slice).
  Where the first one stands, in plain lists.
  Lemmas that hold for every program: a nil check of the address of an element.
  Lemmas that hold for every program: a slice compared with nil.
  What came in, opened: slices of things, and what they hold. Every lemma holds for every program.
  Plain facts on bytes and numbers; no program in sight.
  bytes.Join of two parts or more, nothing between them.
-/
import Derived.WalkKit
import Derived.WalkSpells
import Derived.WalkLawsBesides
import Derived.Laws.CopyOwn
import Derived.Lib.Hide
import Derived.StillTail
import Derived.Deep.Quiet
import Derived.OrdersHeld
import Derived.Deep.RegionHeld3
import Derived.Deep.Slices
import Derived.Deep.Fields
import Derived.ChangeSame
import Derived.Lib.SmallJoins
import Derived.Laws.Bits64b
import Derived.Test.YtnjboimjlbgdiaaChecked
import Derived.Lib.MakeNoZero
set_option linter.unusedSimpArgs false
set_option linter.unusedVariables false
set_option linter.unusedSectionVars false
set_option maxRecDepth 100000
namespace Go.Cmp
open Go.RowKit

/-- 'w'' is w, but for blocks in S and for new blocks. -/
structure Mod (S : List Nat) (w w' : World) : Prop where
  os : w'.os = w.os
  tape : w'.tape = w.tape
  output : w'.output = w.output
  size : w.heap.size ≤ w'.heap.size
  block : ∀ k, k < w.heap.size → k ∉ S → w'.heap[k]? = w.heap[k]?

theorem Mod.refl (S : List Nat) (w : World) : Mod S w w := ⟨rfl, rfl, rfl, Nat.le_refl _, fun _ _ _ => rfl⟩
theorem Mod.trans {S : List Nat} {a b c : World} (h : Mod S a b) (k : Mod S b c) : Mod S a c :=
  ⟨k.os.trans h.os, k.tape.trans h.tape, k.output.trans h.output, Nat.le_trans h.size k.size,
   fun i hi hn => (k.block i (Nat.lt_of_lt_of_le hi h.size) hn).trans (h.block i hi hn)⟩
theorem Mod.weaken {S T : List Nat} {a b : World} (h : Mod S a b) (hs : ∀ x, x ∈ S → x ∈ T) : Mod T a b :=
  ⟨h.os, h.tape, h.output, h.size, fun i hi hn => h.block i hi (fun hx => hn (hs _ hx))⟩
theorem Mod.nil {S : List Nat} {a b : World} (h : Mod [] a b) : Mod S a b := h.weaken (by simp)
/-- Changed blocks that are new to 'a' don't count. -/
theorem Mod.comp {S T : List Nat} {a b c : World} (h : Mod S a b) (k : Mod T b c) (ht : ∀ x, x ∈ T → x ∈ S ∨ a.heap.size ≤ x) : Mod S a c :=
  ⟨k.os.trans h.os, k.tape.trans h.tape, k.output.trans h.output, Nat.le_trans h.size k.size,
   fun i hi hn => (k.block i (Nat.lt_of_lt_of_le hi h.size) (fun hx => by rcases ht _ hx with h1 | h1; exact hn h1; omega)).trans (h.block i hi hn)⟩
theorem Mod.drew {S : List Nat} {a b : World} (h : Mod S a b) : Mod S a b.drew := ⟨h.os, h.tape, h.output, h.size, h.block⟩
theorem Mod.below {a b : World} (h : Mod [] a b) : Below a.heap.size a b := ⟨h.os, h.tape, h.output, h.size, fun k hk => h.block k hk (by simp)⟩
theorem Mod.ofBelow {a b : World} (h : Below a.heap.size a b) : Mod [] a b := ⟨h.os, h.tape, h.output, h.size, fun k hk _ => h.block k hk⟩
theorem Mod.cell {S : List Nat} {a b : World} (h : Mod S a b) {p : Addr} (hp : p.block < a.heap.size) (hn : p.block ∉ S) : b.cell? p = a.cell? p :=
  World.cell?_of_block (h.block _ hp hn)
theorem Mod.cellOf {a b : World} (h : Mod [] a b) {p : Addr} {v : Value} (hc : a.cell? p = some v) : b.cell? p = some v := (h.cell (block_lt_of_cell hc) (by simp)).trans hc
theorem mod_alloc (w : World) (o : Obj) : Mod [] w (w.alloc o) := ⟨rfl, rfl, rfl, by simp, fun k hk _ => Below.heap_alloc w o k hk⟩
theorem mod_setCell (w : World) (a : Addr) (v : Value) : Mod [a.block] w (w.setCell a v) :=
  ⟨rfl, rfl, rfl, by simp [World.setCell], fun k _ hn => Below.heap_setCell w a v k (by simpa using hn)⟩
theorem mod_setRow (w : World) (g : Nat) (cs : Array Value) : Mod [g] w (w.setRow g cs) :=
  ⟨rfl, rfl, rfl, by simp [World.setRow], fun k _ hn => setRow_other w g k cs (by simpa using hn)⟩

/-! ### What a slice reads as: n elements of k cells each -/

def Rd (w : World) (k : Nat) (v : Value) (n : Nat) (xs : List Value) : Prop :=
  xs.length = n * k ∧ ∃ (p : Option Addr) (cap : Nat), v = .slice p n cap ∧ n ≤ cap ∧ cap ≤ maxLen ∧ (p = none → cap = 0) ∧
    ∀ a, p = some a → ∀ (i : Nat) x, xs[i]? = some x → w.cell? (a.add i) = some x

theorem add_block (a : Addr) (i : Nat) : (a.add i).block = a.block := by unfold Addr.add; split <;> rfl
theorem add_add (a : Addr) (i j : Nat) : (a.add i).add j = a.add (i + j) := by
  unfold Addr.add
  by_cases hi : i = 0
  · subst hi; simp
  · by_cases hj : j = 0
    · subst hj; simp [hi]
    · simp [hi, hj]; omega
theorem add_lit (b o i : Nat) : (⟨b, o, none⟩ : Addr).add i = ⟨b, o + i, none⟩ := by unfold Addr.add; split <;> simp_all

theorem Rd.mod {S : List Nat} {w w' : World} {k : Nat} {v : Value} {n : Nat} {xs : List Value} (h : Rd w k v n xs) (m : Mod S w w') (hS : ∀ b, v.ownBlock = some b → b ∉ S) : Rd w' k v n xs := by
  obtain ⟨h1, p, cap, rfl, h2, h3, h4, h5⟩ := h
  refine ⟨h1, p, cap, rfl, h2, h3, h4, fun a ha i x hx => ?_⟩
  have hc := h5 a ha i x hx
  have hl := block_lt_of_cell hc
  subst ha
  rw [m.cell hl (by rw [add_block]; exact hS _ rfl)]
  exact hc
theorem Rd.grow {w w' : World} {k : Nat} {v : Value} {n : Nat} {xs : List Value} (h : Rd w k v n xs) (m : Mod [] w w') : Rd w' k v n xs := h.mod m (by simp)

/-- The address of cell 'off' of a slice. -/
def ptrAt (v : Value) (off : Nat) : Value := match v with | .slice (some a) _ _ => .pointer (some (a.add off)) | _ => undef
/-- v[l:h], elements of k cells. -/
def cutSl (v : Value) (k l h : Nat) : Value := match v with | .slice p _ cap => .slice (if cap = l then p else p.map (·.add (l * k))) (h - l) (cap - l) | x => x

theorem Rd.cut {w : World} {k : Nat} {v : Value} {n : Nat} {xs : List Value} (h : Rd w k v n xs) (l hi : Nat) (h1 : l ≤ hi) (h2 : hi ≤ n) : Rd w k (cutSl v k l hi) (hi - l) ((xs.take (hi * k)).drop (l * k)) := by
  obtain ⟨e1, p, cap, rfl, e2, e3, e4, e5⟩ := h
  have hle : hi * k ≤ n * k := Nat.mul_le_mul_right _ h2
  refine ⟨by rw [List.length_drop, List.length_take, e1, Nat.min_eq_left hle, Nat.sub_mul], _, _, rfl, by omega, by omega, ?_, ?_⟩
  · intro hp
    split at hp
    · omega
    · cases p with
      | none => have := e4 rfl; omega
      | some a => simp at hp
  · intro a ha i x hx
    rw [List.getElem?_drop, List.getElem?_take] at hx
    split at hx
    · split at ha
      · rename_i hc hcap
        have : hi = l := by omega
        subst this
        omega
      · cases p with
        | none => simp at ha
        | some b =>
          simp only [Option.map_some, Option.some.injEq] at ha
          subst ha
          rw [add_add]
          exact e5 b rfl _ x hx
    · cases hx

/-! ### The entries of a heap -/

def notFrozen (fr : Nat × Nat) (i : Nat) : Prop := ¬ (fr.1 ≤ i ∧ i < fr.2)

def VecAt (w : World) (v : Value) (e : TypeId) (k n : Nat) (xs : List Value) : Prop :=
  xs.length = n * k ∧ ((v = .slice none 0 0 ∧ n = 0) ∨
    ∃ (g cap : Nat) (rest : List Value) (fr : Nat × Nat), v = .slice (some ⟨g, 0, none⟩) n cap ∧ w.heap[g]? = some (.cells (xs ++ rest).toArray e fr) ∧ n ≤ cap ∧ cap ≤ maxLen ∧ cap * k ≤ (xs ++ rest).length ∧
      ∀ i, i < cap * k → notFrozen fr i)

theorem heap_lt {w : World} {g : Nat} {o : Obj} (h : w.heap[g]? = some o) : g < w.heap.size := (Array.getElem?_eq_some_iff.1 h).1
theorem VecAt.lt {w : World} {v : Value} {e : TypeId} {k n : Nat} {xs : List Value} (h : VecAt w v e k n xs) : ∀ g ∈ v.ownBlock.toList, g < w.heap.size := by
  intro g hg
  rcases h.2 with ⟨rfl, _⟩ | ⟨g', cap, rest, fr, rfl, hh, _⟩
  · simp [Value.ownBlock] at hg
  · simp [Value.ownBlock] at hg; subst hg; exact heap_lt hh
theorem VecAt.mod {S : List Nat} {w w' : World} {v : Value} {e : TypeId} {k n : Nat} {xs : List Value} (h : VecAt w v e k n xs) (m : Mod S w w') (hn : ∀ g ∈ v.ownBlock.toList, g ∉ S) : VecAt w' v e k n xs := by
  refine ⟨h.1, ?_⟩
  rcases h.2 with hn' | ⟨g, cap, rest, fr, rfl, hh, r⟩
  · exact .inl hn'
  · exact .inr ⟨g, cap, rest, fr, rfl, by rw [m.block g (heap_lt hh) (hn g (by simp [Value.ownBlock]))]; exact hh, r⟩
theorem ownBlock_nodup (v : Value) : v.ownBlock.toList.Nodup := by generalize v.ownBlock = o; cases o <;> simp

/-- What owns blocks: what it says of a world and of the blocks that it owns there. -/
structure Own where
  own : World → List Nat → Prop
  lt : ∀ w F, own w F → ∀ g ∈ F, g < w.heap.size
  mod : ∀ S w w' F, own w F → Mod S w w' → (∀ g ∈ F, g ∉ S) → own w' F

/-- A block that is known whole; a slice at the head of a block of its own (or nil); a thing that owns blocks. -/
inductive Ent where
  | row (g : Nat) (cs : List Value) (e : TypeId) (fr : Nat × Nat)
  | vec (v : Value) (e : TypeId) (k n : Nat) (xs : List Value)
  | obj (O : Own)

def Ent.own (w : World) : Ent → List Nat → Prop
  | .row g cs e fr, F => F = [g] ∧ w.heap[g]? = some (.cells cs.toArray e fr)
  | .vec v e k n xs, F => F = v.ownBlock.toList ∧ VecAt w v e k n xs
  | .obj O, F => O.own w F

theorem Ent.own.lt {w : World} {m : Ent} {F : List Nat} (h : m.own w F) : ∀ g ∈ F, g < w.heap.size := by
  cases m with
  | row g cs e fr => obtain ⟨rfl, h⟩ := h; intro x hx; simp only [List.mem_singleton] at hx; subst hx; exact heap_lt h
  | vec v e k n xs => obtain ⟨rfl, h⟩ := h; exact h.lt
  | obj O => exact O.lt _ _ h
theorem Ent.own.mod {S : List Nat} {w w' : World} {m : Ent} {F : List Nat} (h : m.own w F) (k : Mod S w w') (hn : ∀ g ∈ F, g ∉ S) : m.own w' F := by
  cases m with
  | row g cs e fr => obtain ⟨rfl, h⟩ := h; exact ⟨rfl, by rw [k.block g (heap_lt h) (hn g (by simp))]; exact h⟩
  | vec v e kk n xs => obtain ⟨rfl, h⟩ := h; exact ⟨rfl, h.mod k hn⟩
  | obj O => exact O.mod _ _ _ _ h k hn

/-- A list of entries, and all blocks that they own, in a row. -/
def Owns (w : World) : List Ent → List Nat → Prop
  | [], F => F = []
  | m :: M, F => ∃ f F', F = f ++ F' ∧ m.own w f ∧ Owns w M F'

theorem Owns.lt {w : World} : ∀ {M : List Ent} {F : List Nat}, Owns w M F → ∀ g ∈ F, g < w.heap.size
  | [], F, h => by simp only [Owns] at h; subst h; simp
  | m :: M, F, h => by
    obtain ⟨f, F', rfl, h1, h2⟩ := h
    intro g hg
    rcases List.mem_append.1 hg with hg | hg
    · exact h1.lt g hg
    · exact Owns.lt h2 g hg
theorem Owns.mod {S : List Nat} {w w' : World} (k : Mod S w w') : ∀ {M : List Ent} {F : List Nat}, Owns w M F → (∀ g ∈ F, g ∉ S) → Owns w' M F
  | [], F, h, _ => h
  | m :: M, F, h, hn => by
    obtain ⟨f, F', rfl, h1, h2⟩ := h
    exact ⟨f, F', rfl, h1.mod k (fun g hg => hn g (List.mem_append_left _ hg)), Owns.mod k h2 (fun g hg => hn g (List.mem_append_right _ hg))⟩
theorem Owns.append {w : World} : ∀ {A M : List Ent} {F : List Nat}, Owns w (A ++ M) F ↔ ∃ a b, F = a ++ b ∧ Owns w A a ∧ Owns w M b
  | [], M, F => ⟨fun h => ⟨[], F, rfl, rfl, h⟩, fun ⟨a, b, e, h1, h2⟩ => by simp only [Owns] at h1; subst h1; subst e; exact h2⟩
  | m :: A, M, F => by
    constructor
    · rintro ⟨f, F', rfl, h1, h2⟩
      obtain ⟨a, b, rfl, h3, h4⟩ := Owns.append.1 h2
      exact ⟨f ++ a, b, by simp, ⟨f, a, rfl, h1, h3⟩, h4⟩
    · rintro ⟨a, b, rfl, ⟨f, a', rfl, h1, h3⟩, h4⟩
      exact ⟨f, a' ++ b, by simp, h1, Owns.append.2 ⟨a', b, rfl, h3, h4⟩⟩
theorem Owns.perm {w : World} {M N : List Ent} (p : M.Perm N) : ∀ {F : List Nat}, Owns w M F → ∃ G, F.Perm G ∧ Owns w N G := by
  induction p with
  | nil => intro F h; exact ⟨F, List.Perm.refl _, h⟩
  | cons x _ ih =>
    rintro F ⟨f, F', rfl, h1, h2⟩
    obtain ⟨G, p, h3⟩ := ih h2
    exact ⟨f ++ G, p.append_left f, f, G, rfl, h1, h3⟩
  | swap x y l =>
    rintro F ⟨f, F', rfl, h1, f2, F2, rfl, h2, h3⟩
    refine ⟨f2 ++ (f ++ F2), ?_, f2, _, rfl, h2, f, F2, rfl, h1, h3⟩
    rw [← List.append_assoc, ← List.append_assoc]
    exact (List.perm_append_comm).append_right _
  | trans _ _ ih1 ih2 =>
    intro F h
    obtain ⟨G, p, h1⟩ := ih1 h
    obtain ⟨G2, p2, h2⟩ := ih2 h1
    exact ⟨G2, p.trans p2, h2⟩
theorem Owns.sub {w : World} {M N : List Ent} (p : N.Sublist M) : ∀ {F : List Nat}, Owns w M F → ∃ G, G.Sublist F ∧ Owns w N G := by
  induction p with
  | slnil => intro F h; exact ⟨[], List.nil_sublist _, rfl⟩
  | cons x _ ih =>
    rintro F ⟨f, F', rfl, h1, h2⟩
    obtain ⟨G, p, h3⟩ := ih h2
    exact ⟨G, p.trans (List.sublist_append_right _ _), h3⟩
  | cons_cons x _ ih =>
    rintro F ⟨f, F', rfl, h1, h2⟩
    obtain ⟨G, p, h3⟩ := ih h2
    exact ⟨f ++ G, (List.Sublist.refl _).append p, f, G, rfl, h1, h3⟩

theorem cons_eraseIdx_perm {α : Type} : ∀ (l : List α) (i : Nat) (h : i < l.length), (l[i] :: l.eraseIdx i).Perm l
  | x :: l, 0, _ => by simp
  | x :: l, i + 1, h => by
    simp only [List.getElem_cons_succ, List.eraseIdx_cons_succ]
    exact (List.Perm.swap _ _ _).trans ((cons_eraseIdx_perm l i (by simpa using h)).cons x)

/-- The heap at a point of a call: w0 the world at the call's begin, S the old blocks that may be changed, M the entries that are known, apart from each other. -/
structure St (S : List Nat) (w0 w : World) (M : List Ent) : Prop where
  base : Mod S w0 w
  owns : ∃ F, Owns w M F ∧ F.Nodup ∧ ∀ g ∈ F, g ∈ S ∨ w0.heap.size ≤ g

theorem St.init (w : World) : St [] w w [] := ⟨Mod.refl _ _, [], rfl, by simp, by simp⟩
theorem St.drew {S : List Nat} {w0 w : World} {M : List Ent} (h : St S w0 w M) : St S w0 w.drew M := by
  obtain ⟨F, h1, h2, h3⟩ := h.owns
  exact ⟨h.base.drew, F, h1.mod (Mod.drew (Mod.refl [] w)) (by simp), h2, h3⟩
theorem St.startAt {G : World → Prop} (w : World) (h : ∀ w1, St [] w w1 [] → G w1) : G w := h w (St.init w)

/-- THE FRAME: what is done to A, M stays. -/
theorem St.split {S : List Nat} {w0 w : World} {A M : List Ent} (h : St S w0 w (A ++ M)) :
    ∃ F, St F w w A ∧ (∀ w', Mod F w w' → St S w0 w' M) ∧ ∀ w' B, St F w w' B → St S w0 w' (B ++ M) := by
  obtain ⟨G, h1, h2, h3⟩ := h.owns
  obtain ⟨a, b, rfl, h4, h5⟩ := Owns.append.1 h1
  rw [List.nodup_append] at h2
  obtain ⟨n1, n2, n3⟩ := h2
  have hba : ∀ g ∈ b, g ∉ a := fun g hg ha => n3 g ha g hg rfl
  have hbase : ∀ w', Mod a w w' → Mod S w0 w' := fun w' k => h.base.comp k (fun x hx => h3 x (List.mem_append_left _ hx))
  refine ⟨a, ⟨Mod.refl _ _, a, h4, n1, fun g hg => .inl hg⟩, fun w' k => ⟨hbase w' k, b, h5.mod k hba, n2, fun g hg => h3 g (List.mem_append_right _ hg)⟩, ?_⟩
  intro w' B k
  obtain ⟨c, k1, k2, k3⟩ := k.owns
  refine ⟨hbase w' k.base, c ++ b, Owns.append.2 ⟨c, b, rfl, k1, h5.mod k.base hba⟩, ?_, ?_⟩
  · rw [List.nodup_append]
    refine ⟨k2, n2, fun x hx y hy e => ?_⟩
    subst e
    rcases k3 x hx with h6 | h6
    · exact hba x hy h6
    · have := h5.lt x hy; omega
  · intro g hg
    rcases List.mem_append.1 hg with hg | hg
    · rcases k3 g hg with h6 | h6
      · exact h3 g (List.mem_append_left _ h6)
      · exact .inr (Nat.le_trans h.base.size h6)
    · exact h3 g (List.mem_append_right _ hg)
/-- .. a call that was handed nothing. -/
theorem St.call {S : List Nat} {w0 w w' : World} {B M : List Ent} (h : St S w0 w M) (k : St [] w w' B) : St S w0 w' (B ++ M) := by
  obtain ⟨F, h1, _, h2⟩ := St.split (A := []) h
  obtain ⟨G, h3, h4, h5⟩ := k.owns
  refine h2 w' B ⟨k.base.nil, G, h3, h4, fun g hg => ?_⟩
  rcases h5 g hg with h6 | h6
  · cases h6
  · exact .inr h6
theorem St.same {S : List Nat} {w0 w w' : World} {M : List Ent} (h : St S w0 w M) (k : Mod [] w w') : St S w0 w' M :=
  St.call (B := []) h ⟨k, [], rfl, by simp, by simp⟩
theorem St.perm {S : List Nat} {w0 w : World} {M N : List Ent} (h : St S w0 w M) (p : M.Perm N) : St S w0 w N := by
  obtain ⟨F, h1, h2, h3⟩ := h.owns
  obtain ⟨G, q, h4⟩ := h1.perm p
  exact ⟨h.base, G, h4, q.nodup_iff.1 h2, fun g hg => h3 g (q.mem_iff.2 hg)⟩
theorem St.sub {S : List Nat} {w0 w : World} {M N : List Ent} (h : St S w0 w M) (p : N.Sublist M) : St S w0 w N := by
  obtain ⟨F, h1, h2, h3⟩ := h.owns
  obtain ⟨G, q, h4⟩ := h1.sub p
  exact ⟨h.base, G, h4, h2.sublist q, fun g hg => h3 g (q.subset hg)⟩
theorem St.nil {S : List Nat} {w0 w : World} {M : List Ent} (h : St S w0 w M) : St S w0 w [] := h.sub (List.nil_sublist _)
theorem St.tail {S : List Nat} {w0 w : World} {m : Ent} {M : List Ent} (h : St S w0 w (m :: M)) : St S w0 w M := h.sub (List.sublist_cons_self _ _)
theorem St.one {S : List Nat} {w0 w : World} {m : Ent} {M : List Ent} (h : St S w0 w (m :: M)) : St S w0 w [m] := h.sub (by simp)
theorem St.left {S : List Nat} {w0 w : World} {A M : List Ent} (h : St S w0 w (A ++ M)) : St S w0 w A := h.sub (List.sublist_append_left _ _)
theorem St.right {S : List Nat} {w0 w : World} {A M : List Ent} (h : St S w0 w (A ++ M)) : St S w0 w M := h.sub (List.sublist_append_right _ _)
theorem St.rot {S : List Nat} {w0 w : World} {A M : List Ent} (h : St S w0 w (A ++ M)) : St S w0 w (M ++ A) := h.perm List.perm_append_comm
/-- Entry i comes to the front. -/
theorem St.front {S : List Nat} {w0 w : World} {M : List Ent} (h : St S w0 w M) (i : Nat) {m : Ent} (hi : M[i]? = some m) : St S w0 w (m :: M.eraseIdx i) := by
  refine h.perm ?_
  obtain ⟨hlt, e⟩ := List.getElem?_eq_some_iff.1 hi
  subst e
  exact (cons_eraseIdx_perm M i hlt).symm

/-- An entry that owns just these blocks. -/
def Ent.has (w : World) (m : Ent) (F : List Nat) : Prop := m.own w F ∧ F.Nodup
theorem St.add {S : List Nat} {w0 w w' : World} {M : List Ent} (h : St S w0 w M) (k : Mod [] w w') {m : Ent} {F : List Nat} (hm : m.own w' F) (hg : ∀ g ∈ F, w.heap.size ≤ g) (hn : F.Nodup) : St S w0 w' (m :: M) :=
  St.call (B := [m]) h ⟨k, F, ⟨F, [], by simp, hm, rfl⟩, hn, fun g hgm => .inr (hg g hgm)⟩
theorem St.alloc {S : List Nat} {w0 w : World} {M : List Ent} (h : St S w0 w M) (cs : List Value) (e : TypeId) : St S w0 (w.alloc (.cells cs.toArray e)) (.row w.heap.size cs e (0, 0) :: M) :=
  h.add (mod_alloc w _) (m := .row w.heap.size cs e (0, 0)) (F := [w.heap.size]) ⟨rfl, heap_alloc_new w _⟩ (by simp) (by simp)
/-- The blocks of the first entry are changed. -/
theorem St.chg {S : List Nat} {w0 w w' : World} {M : List Ent} {m m' : Ent} (h : St S w0 w (m :: M)) {F' : List Nat} (hF : ∀ F, m.own w F → Mod F w w' ∧ ∀ g ∈ F', g ∈ F ∨ w.heap.size ≤ g) (hm : m'.own w' F') (hn : F'.Nodup) : St S w0 w' (m' :: M) := by
  obtain ⟨F, h1, _, h2⟩ := St.split (A := [m]) h
  obtain ⟨G, h3, h4, h5⟩ := h1.owns
  obtain ⟨f, G', rfl, h6, h7⟩ := h3
  simp only [Owns] at h7
  subst h7
  simp only [List.append_nil] at h4 h5
  obtain ⟨k1, k2⟩ := hF f h6
  have hfF : ∀ g ∈ f, g ∈ F := fun g hg => by
    rcases h5 g hg with h8 | h8
    · exact h8
    · have := h6.lt g hg; omega
  refine h2 w' [m'] ⟨k1.weaken hfF, F', ⟨F', [], by simp, hm, rfl⟩, hn, fun g hg => ?_⟩
  rcases k2 g hg with h8 | h8
  · exact .inl (hfF g h8)
  · exact .inr h8
/-- The blocks of entry i are changed. -/
theorem St.chgAt {S : List Nat} {w0 w w' : World} {M : List Ent} {m m' : Ent} (h : St S w0 w M) (i : Nat) (hi : M[i]? = some m) {F' : List Nat} (hF : ∀ F, m.own w F → Mod F w w' ∧ ∀ g ∈ F', g ∈ F ∨ w.heap.size ≤ g) (hm : m'.own w' F') (hn : F'.Nodup) : St S w0 w' (M.set i m') := by
  refine ((h.front i hi).chg hF hm hn).perm ?_
  obtain ⟨hlt, e⟩ := List.getElem?_eq_some_iff.1 hi
  have h1 : (M.set i m').eraseIdx i = M.eraseIdx i := by
    rw [List.eraseIdx_set_eq]
  have h2 : (M.set i m')[i]'(by simpa using hlt) = m' := by simp
  have h3 := cons_eraseIdx_perm (M.set i m') i (by simpa using hlt)
  rw [h2, h1] at h3
  exact h3
theorem St.chgRow {S : List Nat} {w0 w w' : World} {M : List Ent} {g : Nat} {cs cs' : List Value} {e : TypeId} {fr : Nat × Nat} (h : St S w0 w M) (i : Nat) (hi : M[i]? = some (.row g cs e fr)) (k : Mod [g] w w') (hm : w'.heap[g]? = some (.cells cs'.toArray e fr)) : St S w0 w' (M.set i (.row g cs' e fr)) :=
  h.chgAt i hi (m' := .row g cs' e fr) (F' := [g]) (fun F hF => by obtain ⟨rfl, _⟩ := hF; exact ⟨k, fun x hx => .inl hx⟩) ⟨rfl, hm⟩ (by simp)
theorem St.chgVec {S : List Nat} {w0 w w' : World} {M : List Ent} {v v' : Value} {e e' : TypeId} {k k' n n' : Nat} {xs xs' : List Value} (h : St S w0 w M) (i : Nat) (hi : M[i]? = some (.vec v e k n xs)) (hk : Mod v.ownBlock.toList w w') (hm : VecAt w' v' e' k' n' xs') (hg : ∀ g ∈ v'.ownBlock.toList, g ∈ v.ownBlock.toList ∨ w.heap.size ≤ g) : St S w0 w' (M.set i (.vec v' e' k' n' xs')) :=
  h.chgAt i hi (m' := .vec v' e' k' n' xs') (F' := v'.ownBlock.toList) (fun F hF => by obtain ⟨rfl, _⟩ := hF; exact ⟨hk, hg⟩) ⟨rfl, hm⟩ (ownBlock_nodup _)

theorem Owns.get {w : World} : ∀ {M : List Ent} {F : List Nat}, Owns w M F → ∀ {i : Nat} {m : Ent}, M[i]? = some m → ∃ f, m.own w f
  | [], _, _, i, m, hi => by simp at hi
  | x :: M, F, h, 0, m, hi => by
    obtain ⟨f, F', rfl, h1, h2⟩ := h
    simp only [List.getElem?_cons_zero, Option.some.injEq] at hi
    subst hi
    exact ⟨f, h1⟩
  | x :: M, F, h, i + 1, m, hi => by
    obtain ⟨f, F', rfl, h1, h2⟩ := h
    exact Owns.get h2 (by simpa using hi)
theorem St.row {S : List Nat} {w0 w : World} {M : List Ent} (h : St S w0 w M) {i g : Nat} {cs : List Value} {e : TypeId} {fr : Nat × Nat} (hi : M[i]? = some (.row g cs e fr)) : w.heap[g]? = some (.cells cs.toArray e fr) := by
  obtain ⟨F, h1, _⟩ := h.owns
  obtain ⟨f, h2⟩ := h1.get hi
  exact h2.2
theorem St.vec {S : List Nat} {w0 w : World} {M : List Ent} (h : St S w0 w M) {i : Nat} {v : Value} {e : TypeId} {k n : Nat} {xs : List Value} (hi : M[i]? = some (.vec v e k n xs)) : VecAt w v e k n xs := by
  obtain ⟨F, h1, _⟩ := h.owns
  obtain ⟨f, h2⟩ := h1.get hi
  exact h2.2
theorem St.old {S : List Nat} {w0 w : World} {M : List Ent} (h : St S w0 w M) {k : Nat} {v : Value} {n : Nat} {xs : List Value} (hr : Rd w0 k v n xs) (hS : ∀ b, v.ownBlock = some b → b ∉ S) : Rd w k v n xs := hr.mod h.base hS
theorem St.old0 {w0 w : World} {M : List Ent} (h : St [] w0 w M) {k : Nat} {v : Value} {n : Nat} {xs : List Value} (hr : Rd w0 k v n xs) : Rd w k v n xs := hr.mod h.base (by simp)

/-! ### Things made of entries -/

/-- Some x with p x, and the entries l x. -/
def pack {α : Type} (p : α → Prop) (l : α → List Ent) : Ent := .obj
  { own := fun w F => ∃ x, p x ∧ Owns w (l x) F
    lt := fun _ _ ⟨_, _, h⟩ => h.lt
    mod := fun _ _ _ _ ⟨x, hp, h⟩ k hn => ⟨x, hp, h.mod k hn⟩ }
theorem St.unpack {S : List Nat} {w0 w : World} {M : List Ent} {α : Type} {p : α → Prop} {l : α → List Ent} (h : St S w0 w (pack p l :: M)) : ∃ x, p x ∧ St S w0 w (l x ++ M) := by
  obtain ⟨F, ⟨f, F', rfl, ⟨x, hp, h1⟩, h2⟩, h3, h4⟩ := h.owns
  exact ⟨x, hp, h.base, f ++ F', Owns.append.2 ⟨f, F', rfl, h1, h2⟩, h3, h4⟩
theorem St.pack {S : List Nat} {w0 w : World} {M : List Ent} {α : Type} {p : α → Prop} {l : α → List Ent} (x : α) (hp : p x) (h : St S w0 w (l x ++ M)) : St S w0 w (pack p l :: M) := by
  obtain ⟨F, h1, h3, h4⟩ := h.owns
  obtain ⟨f, F', rfl, h5, h6⟩ := Owns.append.1 h1
  exact ⟨h.base, f ++ F', ⟨f, F', rfl, ⟨x, hp, h5⟩, h6⟩, h3, h4⟩

/-- What can be read whatever becomes of the entries M. -/
def Reads (S : List Nat) (w0 : World) (M : List Ent) (k : Nat) (v : Value) (n : Nat) (xs : List Value) : Prop := ∀ w, St S w0 w M → Rd w k v n xs
theorem Reads.sub {S : List Nat} {w0 : World} {M N : List Ent} {k : Nat} {v : Value} {n : Nat} {xs : List Value} (h : Reads S w0 M k v n xs) (p : M.Sublist N) : Reads S w0 N k v n xs := fun w hw => h w (hw.sub p)
theorem Reads.old {w0 : World} {M : List Ent} {k : Nat} {v : Value} {n : Nat} {xs : List Value} (h : Rd w0 k v n xs) : Reads [] w0 M k v n xs := fun _ hw => hw.old0 h

theorem row_cell {w : World} {g : Nat} {cs : List Value} {e : TypeId} {fr : Nat × Nat} (h : w.heap[g]? = some (.cells cs.toArray e fr)) (i : Nat) : w.cell? ⟨g, i, none⟩ = cs[i]? := by simp [World.cell?, h]
theorem row_free {w : World} {g : Nat} {cs : List Value} {e : TypeId} {fr : Nat × Nat} (h : w.heap[g]? = some (.cells cs.toArray e fr)) {i : Nat} (hf : notFrozen fr i) : w.frozen? ⟨g, i, none⟩ = false := by
  unfold notFrozen at hf
  simp [World.frozen?, h]
  omega

theorem VecAt.rd {w : World} {v : Value} {e : TypeId} {k n : Nat} {xs : List Value} (h : VecAt w v e k n xs) : Rd w k v n xs := by
  rcases h with ⟨h1, ⟨rfl, rfl⟩ | ⟨g, cap, rest, fr, rfl, hh, h2, h3, h4, h5⟩⟩
  · exact ⟨h1, none, 0, rfl, Nat.le_refl _, by simp [maxLen], by simp, by simp⟩
  · refine ⟨h1, _, cap, rfl, h2, h3, by simp, ?_⟩
    intro a ha i x hx
    simp only [Option.some.injEq] at ha
    subst ha
    rw [add_lit, Nat.zero_add, row_cell hh, List.getElem?_append_left (List.getElem?_eq_some_iff.1 hx).1]
    exact hx
theorem St.rdv {S : List Nat} {w0 w : World} {M : List Ent} (h : St S w0 w M) {i : Nat} {v : Value} {e : TypeId} {k n : Nat} {xs : List Value} (hi : M[i]? = some (.vec v e k n xs)) : Rd w k v n xs := (h.vec hi).rd
/-- A slice over a part of a row. -/
theorem Rd.ofRow {w : World} {g : Nat} {cs : List Value} {e : TypeId} {fr : Nat × Nat} (h : w.heap[g]? = some (.cells cs.toArray e fr)) (k off n cap : Nat) (xs : List Value) (hx : xs = (cs.drop off).take (n * k)) (hfit : off + n * k ≤ cs.length) (hn : n ≤ cap) (hc : cap ≤ maxLen) :
    Rd w k (.slice (some ⟨g, off, none⟩) n cap) n xs := by
  subst hx
  refine ⟨by rw [List.length_take, List.length_drop]; omega, _, cap, rfl, hn, hc, by simp, ?_⟩
  intro a ha i x hx
  simp only [Option.some.injEq] at ha
  subst ha
  rw [add_lit, row_cell h]
  rw [List.getElem?_take] at hx
  split at hx
  · rwa [List.getElem?_drop] at hx
  · cases hx
theorem Rd.nil (w : World) (k : Nat) : Rd w k (.slice none 0 0) 0 [] := ⟨by simp, none, 0, rfl, Nat.le_refl _, by simp [maxLen], by simp, by simp⟩
theorem vec_nil (w : World) (e : TypeId) (k : Nat) : VecAt w (.slice none 0 0) e k 0 [] := ⟨by simp, .inl ⟨rfl, rfl⟩⟩
theorem St.addNil {S : List Nat} {w0 w : World} {M : List Ent} (h : St S w0 w M) (e : TypeId) (k : Nat) : St S w0 w (.vec (.slice none 0 0) e k 0 [] :: M) :=
  h.add (Mod.refl _ _) (m := .vec (.slice none 0 0) e k 0 []) (F := []) ⟨rfl, vec_nil w e k⟩ (by simp) (by simp)
/-- A row that a slice value covers whole is a slice of its own. -/
theorem St.toVec {S : List Nat} {w0 w : World} {M : List Ent} {g : Nat} {cs : List Value} {e : TypeId} {fr : Nat × Nat} (h : St S w0 w (.row g cs e fr :: M)) (k n cap : Nat) (xs rest : List Value) (hcs : cs = xs ++ rest) (hx : xs.length = n * k) (hl : cap * k ≤ cs.length) (hn : n ≤ cap) (hc : cap ≤ maxLen)
    (hf : ∀ i, i < cap * k → notFrozen fr i) : St S w0 w (.vec (.slice (some ⟨g, 0, none⟩) n cap) e k n xs :: M) := by
  have hr := h.row (i := 0) rfl
  subst hcs
  exact h.chg (m' := .vec (.slice (some ⟨g, 0, none⟩) n cap) e k n xs) (F' := [g]) (fun F hF => by obtain ⟨rfl, _⟩ := hF; exact ⟨Mod.refl _ _, fun x hx => .inl hx⟩) ⟨rfl, hx, .inr ⟨g, cap, rest, fr, rfl, hr, hn, hc, hl, hf⟩⟩ (by simp)
theorem nf0 (i : Nat) : notFrozen (0, 0) i := by unfold notFrozen; omega

end Go.Cmp
namespace Go.Cmp
open Go.RowKit
section
variable {P : Program} {ops : Array Oper} {rest : List Oper} {o : Oper} {a : Act} {K : Act → World → Prop} {Q : Exit → Act → World → Prop} {w w0 : World} {S : List Nat} {M : List Ent}

/-- One operation that yields a value. -/
theorem wl_run {v : Value} {w' : World} (hw : Region.wanted o (yielded ops a.tmps) = true) (hr : (execOp a.eval o).run P w = .ok (.value v) w') (h : wpList P ops Q rest (a.put o.dst v) w') : wpList P ops Q (o :: rest) a w := by
  unfold wpList
  rw [if_pos hw]
  refine .inl ?_
  unfold Oper.wp
  rw [hr]
  exact h
theorem wl_runS {w' : World} (hw : Region.wanted o (yielded ops a.tmps) = true) (hr : (execOp a.eval o).run P w = .ok .skip w') (h : wpList P ops Q rest (a.put o.dst undef) w') : wpList P ops Q (o :: rest) a w := by
  unfold wpList
  rw [if_pos hw]
  refine .inl ?_
  unfold Oper.wp
  rw [hr]
  exact h

theorem wl_guard (h : wpList P ops Q (o :: rest) a w) : wpList P ops Q (o :: rest) a w := h
/-! Guards: they look at the head operation alone. -/
theorem g_alloc {d : Option Tmp} {ty : TypeId} {pos : String} {af : Array Edge} {gd : Option (Nat × Bool)} {e : TypeId} (H : wpList P ops Q (⟨d, .alloc e, ty, pos, af, gd⟩ :: rest) a w) : wpList P ops Q (⟨d, .alloc e, ty, pos, af, gd⟩ :: rest) a w := H
theorem g_box {d : Option Tmp} {ty : TypeId} {pos : String} {af : Array Edge} {gd : Option (Nat × Bool)} {e : TypeId} {v : Operand} (H : wpList P ops Q (⟨d, .box e v, ty, pos, af, gd⟩ :: rest) a w) : wpList P ops Q (⟨d, .box e v, ty, pos, af, gd⟩ :: rest) a w := H
theorem g_load {d : Option Tmp} {ty : TypeId} {pos : String} {af : Array Edge} {gd : Option (Nat × Bool)} {t : TypeId} {x : Operand} (H : wpList P ops Q (⟨d, .load t x, ty, pos, af, gd⟩ :: rest) a w) : wpList P ops Q (⟨d, .load t x, ty, pos, af, gd⟩ :: rest) a w := H
theorem g_store {d : Option Tmp} {ty : TypeId} {pos : String} {af : Array Edge} {gd : Option (Nat × Bool)} {t : TypeId} {x : Operand} {y : Operand} (H : wpList P ops Q (⟨d, .store t x y, ty, pos, af, gd⟩ :: rest) a w) : wpList P ops Q (⟨d, .store t x y, ty, pos, af, gd⟩ :: rest) a w := H
theorem g_index {d : Option Tmp} {ty : TypeId} {pos : String} {af : Array Edge} {gd : Option (Nat × Bool)} {t : TypeId} {x : Operand} {y : Operand} (H : wpList P ops Q (⟨d, .indexAddr t x y, ty, pos, af, gd⟩ :: rest) a w) : wpList P ops Q (⟨d, .indexAddr t x y, ty, pos, af, gd⟩ :: rest) a w := H
theorem g_indexV {d : Option Tmp} {ty : TypeId} {pos : String} {af : Array Edge} {gd : Option (Nat × Bool)} {t : TypeId} {x : Operand} {y : Operand} (H : wpList P ops Q (⟨d, .index t x y, ty, pos, af, gd⟩ :: rest) a w) : wpList P ops Q (⟨d, .index t x y, ty, pos, af, gd⟩ :: rest) a w := H
theorem g_bs {d : Option Tmp} {ty : TypeId} {pos : String} {af : Array Edge} {gd : Option (Nat × Bool)} {t : TypeId} {n : Nat} {ps : Array (Nat × Operand)} (H : wpList P ops Q (⟨d, .buildSlice t n ps, ty, pos, af, gd⟩ :: rest) a w) : wpList P ops Q (⟨d, .buildSlice t n ps, ty, pos, af, gd⟩ :: rest) a w := H
theorem g_len {d : Option Tmp} {ty : TypeId} {pos : String} {af : Array Edge} {gd : Option (Nat × Bool)} {as' : Array Operand} {ts : Array TypeId} (H : wpList P ops Q (⟨d, .call ⟨.builtin .len, as', ts⟩, ty, pos, af, gd⟩ :: rest) a w) : wpList P ops Q (⟨d, .call ⟨.builtin .len, as', ts⟩, ty, pos, af, gd⟩ :: rest) a w := H
theorem g_append {d : Option Tmp} {ty : TypeId} {pos : String} {af : Array Edge} {gd : Option (Nat × Bool)} {as' : Array Operand} {ts : Array TypeId} (H : wpList P ops Q (⟨d, .call ⟨.builtin .append, as', ts⟩, ty, pos, af, gd⟩ :: rest) a w) : wpList P ops Q (⟨d, .call ⟨.builtin .append, as', ts⟩, ty, pos, af, gd⟩ :: rest) a w := H
theorem g_copy {d : Option Tmp} {ty : TypeId} {pos : String} {af : Array Edge} {gd : Option (Nat × Bool)} {as' : Array Operand} {ts : Array TypeId} (H : wpList P ops Q (⟨d, .call ⟨.builtin .copy, as', ts⟩, ty, pos, af, gd⟩ :: rest) a w) : wpList P ops Q (⟨d, .call ⟨.builtin .copy, as', ts⟩, ty, pos, af, gd⟩ :: rest) a w := H
theorem g_call {d : Option Tmp} {ty : TypeId} {pos : String} {af : Array Edge} {gd : Option (Nat × Bool)} {f : Operand} {as' : Array Operand} {ts : Array TypeId} (H : wpList P ops Q (⟨d, .call ⟨.value f, as', ts⟩, ty, pos, af, gd⟩ :: rest) a w) : wpList P ops Q (⟨d, .call ⟨.value f, as', ts⟩, ty, pos, af, gd⟩ :: rest) a w := H
theorem g_cut {d : Option Tmp} {ty : TypeId} {pos : String} {af : Array Edge} {gd : Option (Nat × Bool)} {t : TypeId} {x : Operand} {l : Option Operand} {h : Option Operand} {m : Option Operand} (H : wpList P ops Q (⟨d, .slice t x l h m, ty, pos, af, gd⟩ :: rest) a w) : wpList P ops Q (⟨d, .slice t x l h m, ty, pos, af, gd⟩ :: rest) a w := H
theorem g_conv {d : Option Tmp} {ty : TypeId} {pos : String} {af : Array Edge} {gd : Option (Nat × Bool)} {t : TypeId} {u : TypeId} {x : Operand} (H : wpList P ops Q (⟨d, .convert t u x, ty, pos, af, gd⟩ :: rest) a w) : wpList P ops Q (⟨d, .convert t u x, ty, pos, af, gd⟩ :: rest) a w := H
theorem g_make {d : Option Tmp} {ty : TypeId} {pos : String} {af : Array Edge} {gd : Option (Nat × Bool)} {t : TypeId} {x : Operand} {y : Operand} (H : wpList P ops Q (⟨d, .makeSlice t x y, ty, pos, af, gd⟩ :: rest) a w) : wpList P ops Q (⟨d, .makeSlice t x y, ty, pos, af, gd⟩ :: rest) a w := H
theorem g_field {d : Option Tmp} {ty : TypeId} {pos : String} {af : Array Edge} {gd : Option (Nat × Bool)} {t : TypeId} {x : Operand} {n : Nat} (H : wpList P ops Q (⟨d, .fieldAddr t x n, ty, pos, af, gd⟩ :: rest) a w) : wpList P ops Q (⟨d, .fieldAddr t x n, ty, pos, af, gd⟩ :: rest) a w := H
theorem wl_of (hw : Region.wanted o (yielded ops a.tmps) = true) (h : o.wp P a w (wpList P ops Q rest) Q) : wpList P ops Q (o :: rest) a w := by
  unfold wpList
  rw [if_pos hw]
  exact .inl h
theorem wo_of {i : Nat} (hi : ops[i]? = some o) (hw : Region.wanted o (yielded ops a.tmps) = true) (h : o.wp P a w K Q) : wpOp P ops Q i K a w := by
  unfold wpOp
  simp only [hi]
  rw [if_pos hw]
  exact .inl h
theorem wp_run {v : Value} {w' : World} (hr : (execOp a.eval o).run P w = .ok (.value v) w') (h : K (a.put o.dst v) w') : o.wp P a w K Q := by
  unfold Oper.wp
  rw [hr]
  exact h
theorem wp_runS {w' : World} (hr : (execOp a.eval o).run P w = .ok .skip w') (h : K (a.put o.dst undef) w') : o.wp P a w K Q := by
  unfold Oper.wp
  rw [hr]
  exact h
/-- A call of a function, met by its contract. -/
theorem wp_call {f : FuncId} {args : Array Value} (hr : (execOp a.eval o).run P w = .ok (.enter f args) w) {R : Ending → World → Prop} (hc : Calls P f args w R) (h : ∀ e w', R e w' → ∃ v, e = .returned v ∧ K (a.put o.dst v) w') : o.wp P a w K Q := by
  unfold Oper.wp
  rw [hr]
  refine hc.mono fun e w' hR => ?_
  obtain ⟨v, rfl, hk⟩ := h e w' hR
  exact hk
/-- In a region that draws its order: an operation that only reads is taken first. -/
theorem wh_take {md : Region.Mode} {C : World → Prop} (i : Nat) {fuel : Nat} {listed : Array Bool} {v : Value} (hi : ops[i]? = some o) (hs : Region.noSelect ops = true) (hf : Region.free md ops listed i = true) (hr : (Region.ready md ops listed).contains i = true)
    (hQ : ∀ c a w, Q (.panic c) (a.put o.dst v) w → Q (.panic c) a w) (hw : Region.wanted o (yielded ops a.tmps) = true) (hy : ∀ w, C w → (execOp a.eval o).run P w = .ok (.value v) w) (hC : C w)
    (h : wpAnyH P md ops Q C fuel (listed.setIfInBounds i true) (a.put o.dst v) w) : wpAnyH P md ops Q C (fuel + 1) listed a w :=
  wpAnyH_take hi hs hf hr hQ (.inl ⟨hw, hy⟩) hC h
theorem wh_skip {md : Region.Mode} {C : World → Prop} (i : Nat) {fuel : Nat} {listed : Array Bool} (hi : ops[i]? = some o) (hs : Region.noSelect ops = true) (hf : Region.free md ops listed i = true) (hr : (Region.ready md ops listed).contains i = true)
    (hQ : ∀ c a w, Q (.panic c) (a.put o.dst undef) w → Q (.panic c) a w) (hw : Region.wanted o (yielded ops a.tmps) = false) (hC : C w)
    (h : wpAnyH P md ops Q C fuel (listed.setIfInBounds i true) (a.put o.dst undef) w) : wpAnyH P md ops Q C (fuel + 1) listed a w :=
  wpAnyH_take hi hs hf hr hQ (.inr ⟨hw, rfl⟩) hC h
theorem ws_run {v : Value} {K : Act → Prop} (hw : Region.wanted o (yielded ops a.tmps) = true) (hr : (execOp a.eval o).run P w = .ok (.value v) w) (h : wpStill P ops w K rest (a.put o.dst v)) : wpStill P ops w K (o :: rest) a := by
  unfold wpStill
  rw [if_pos hw]
  unfold Oper.still
  rw [hr]
  exact ⟨rfl, h⟩
theorem wq_run {v : Value} {C : World → Prop} {K : Act → Prop} (hw : Region.wanted o (yielded ops a.tmps) = true) (hr : ∀ w, C w → (execOp a.eval o).run P w = .ok (.value v) w) (h : wpQuiet P ops C K rest (a.put o.dst v)) : wpQuiet P ops C K (o :: rest) a := by
  unfold wpQuiet
  rw [if_pos hw]
  refine ⟨v, fun w hC => ?_, h⟩
  unfold Oper.quietAt
  rw [hr w hC]
  exact ⟨rfl, rfl⟩
theorem wq_skip {C : World → Prop} {K : Act → Prop} (hw : Region.wanted o (yielded ops a.tmps) = false) (h : wpQuiet P ops C K rest (a.put o.dst undef)) : wpQuiet P ops C K (o :: rest) a := by
  unfold wpQuiet
  rw [hw]
  exact h
/-- A call in a region that draws its order: one value from every world of the class. -/
theorem wq_call {v : Value} {C : World → Prop} {K : Act → Prop} (hw : Region.wanted o (yielded ops a.tmps) = true) {f : FuncId} {args : Array Value} (hr : ∀ w, (execOp a.eval o).run P w = .ok (.enter f args) w) (hc : ∀ w, C w → Calls P f args w fun e w' => e = .returned v ∧ C w')
    (h : wpQuiet P ops C K rest (a.put o.dst v)) : wpQuiet P ops C K (o :: rest) a := by
  unfold wpQuiet
  rw [if_pos hw]
  refine ⟨v, fun w hC => ?_, h⟩
  unfold Oper.quietAt
  rw [hr w]
  exact ⟨rfl, hc w hC⟩
/-- A region that draws its order, whose operations read, and call what only makes. -/
theorem wp_region_grow {id : Nat} {l : List Oper} (hm : P.follows .mixedOrders = true) (hB : Region.lexB .any l.toArray = true) (hS : St S w0 w M)
    (h : wpQuiet P l.toArray (fun w' => Mod [] w w') (fun a' => ∀ w', St S w0 w' M → Q .normal a' w') l a) : (Code.region id l.toArray true).wp P Q a w := by
  refine wp_region_quiet (C := fun w' => Mod [] w w') hm hB ⟨rfl, rfl, rfl, Nat.le_refl _, fun _ _ _ => rfl⟩ ?_
  have e : l.toArray.toList = l := by simp
  rw [e]
  have hmono : ∀ (l' : List Oper) (a : Act), wpQuiet P l.toArray (fun w' => Mod [] w w') (fun a' => ∀ w', St S w0 w' M → Q .normal a' w') l' a → wpQuiet P l.toArray (fun w' => Mod [] w w') (fun a' => ∀ w', Mod [] w w' → Q .normal a' w') l' a := by
    intro l'
    induction l' with
    | nil => intro a h w' hw'; exact h w' (hS.same hw')
    | cons o r ih =>
      intro a h
      unfold wpQuiet at h ⊢
      split
      · rename_i hw; rw [if_pos hw] at h; exact Oper.quiet_mono (fun a' => ih a') h
      · rename_i hw; rw [if_neg hw] at h; exact ih _ h
  exact hmono l a h
/-- A region that draws its order, in which a tail in one order stands behind operations that only read. -/
theorem wp_region_tail {id : Nat} {l : List Oper} (n : Nat) (hm : P.follows .mixedOrders = true) (hB : Region.lexTailB .any l.toArray n = true) (hS : St S w0 w M)
    (h : ∀ w', St S w0 w' M → wpStill P l.toArray w' (fun a' => wpList P l.toArray Q (l.drop n) a' w') (l.take n) a) : (Code.region id l.toArray true).wp P Q a w :=
  wp_region_still_tail n hm hB (h _ (St.drew hS))

theorem wp_alloc (hS : St S w0 w M) {e : TypeId} (ho : o.op = .alloc e) {i : TypeInfo} (hi : P.info? e = some i) {z : Value} (hz : i.zero = some z) {cs : List Value} (hcs : z.cells = cs.toArray)
    (h : ∀ g w', St S w0 w' (.row g cs e (0, 0) :: M) → K (a.put o.dst (.pointer (some ⟨g, 0, none⟩))) w') : o.wp P a w K Q := by
  refine wp_run ?_ (h w.heap.size _ (hS.alloc cs e))
  simp [execOp, ho, Instr.alloc, zeroValue, typeInfo, hi, hz, newVar, newRow, hcs]

theorem wp_box (hS : St S w0 w M) {e : TypeId} {x : Operand} (ho : o.op = .box e x) {v : Value} (hx : a.eval x = v) {cs : List Value} (hcs : v.cells = cs.toArray)
    (h : ∀ g w', St S w0 w' (.row g cs e (0, 0) :: M) → K (a.put o.dst (.pointer (some ⟨g, 0, none⟩))) w') : o.wp P a w K Q := by
  refine wp_run ?_ (h w.heap.size _ (hS.alloc cs e))
  simp [execOp, ho, hx, Instr.box, newVar, newRow, hcs]

/-! ### Loads -/

theorem run_load1 {t : TypeId} {d : TypeDesc} (hd : P.underlying t = some d) (hn : (match d with | .struct _ | .array _ _ => true | _ => false) = false) {p : Addr} {v : Value} (hc : w.cell? p = some v) :
    (loadVar t p).run P w = .ok v w := by
  have : (isAgg t).run P w = .ok false w := by
    unfold isAgg
    rw [Sem.run_bind, run_underlying hd w]
    cases d <;> simp_all
  simp [loadVar, this, hc]
theorem run_loadA {t : TypeId} {d : TypeDesc} (hd : P.underlying t = some d) (hn : (match d with | .struct _ | .array _ _ => true | _ => false) = true) {i : TypeInfo} (hi : P.info? t = some i) {p : Addr} {cs : List Value} (hl : cs.length = i.size)
    (hc : ∀ (j : Nat) x, cs[j]? = some x → w.cell? (p.add j) = some x) : (loadVar t p).run P w = .ok (.agg cs.toArray) w := by
  have : (isAgg t).run P w = .ok true w := by
    unfold isAgg
    rw [Sem.run_bind, run_underlying hd w]
    cases d <;> simp_all
  have h2 := run_loadCells_list (P := P) w p cs hc
  rw [hl] at h2
  simp [loadVar, this, sizeOf, typeInfo, hi, h2]

/-- A load of one cell of a row. -/
theorem x_load1 (hS : St S w0 w M) {t : TypeId} {x : Operand} (ho : o.op = .load t x) {g off : Nat} (hx : a.eval x = .pointer (some ⟨g, off, none⟩))
    {d : TypeDesc} (hd : P.underlying t = some d) (hn : (match d with | .struct _ | .array _ _ => true | _ => false) = false) (i : Nat) {cs : List Value} {e : TypeId} {fr : Nat × Nat} (hM : M[i]? = some (.row g cs e fr))
    {v : Value} (hv : cs[off]? = some v) : (execOp a.eval o).run P w = .ok (.value v) w := by
  have := run_load1 (P := P) (w := w) hd hn (p := ⟨g, off, none⟩) ((row_cell (hS.row hM) off).trans hv)
  simp [execOp, ho, hx, Instr.loadAt, Instr.sureAddr, this]
/-- A load of a struct or an array out of a row. -/
theorem x_loadA (hS : St S w0 w M) {t : TypeId} {x : Operand} (ho : o.op = .load t x) {g off : Nat} (hx : a.eval x = .pointer (some ⟨g, off, none⟩))
    {d : TypeDesc} (hd : P.underlying t = some d) (hn : (match d with | .struct _ | .array _ _ => true | _ => false) = true) {ti : TypeInfo} (hi : P.info? t = some ti) (i : Nat) {cs : List Value} {e : TypeId} {fr : Nat × Nat} (hM : M[i]? = some (.row g cs e fr))
    {vs : List Value} (hv : (cs.drop off).take ti.size = vs) (hl : vs.length = ti.size) : (execOp a.eval o).run P w = .ok (.value (.agg vs.toArray)) w := by
  have := run_loadA (P := P) (w := w) hd hn hi (p := ⟨g, off, none⟩) hl (fun j y hy => by
    rw [add_lit, row_cell (hS.row hM)]
    rw [← hv, List.getElem?_take] at hy
    split at hy
    · rwa [List.getElem?_drop] at hy
    · cases hy)
  simp [execOp, ho, hx, Instr.loadAt, Instr.sureAddr, this]

theorem ptrAt_slice (p : Addr) (n cap off : Nat) : ptrAt (.slice (some p) n cap) off = .pointer (some (p.add off)) := rfl
theorem Rd.some {w : World} {k : Nat} {v : Value} {n : Nat} {xs : List Value} (h : Rd w k v n xs) (h0 : 0 < n) : ∃ p cap, v = .slice (some p) n cap := by
  obtain ⟨_, p, cap, rfl, h2, _, h4, _⟩ := h
  cases p with
  | none => have := h4 rfl; omega
  | some p => exact ⟨p, cap, rfl⟩

/-- A load of one cell through a slice. -/
theorem x_loadS1 {t : TypeId} {x : Operand} (ho : o.op = .load t x) {u : Value} {k n : Nat} {xs : List Value} (hR : Rd w k u n xs) {off : Nat} (hx : a.eval x = ptrAt u off)
    {d : TypeDesc} (hd : P.underlying t = some d) (hn : (match d with | .struct _ | .array _ _ => true | _ => false) = false)
    {v : Value} (hv : xs[off]? = some v) : (execOp a.eval o).run P w = .ok (.value v) w := by
  have hlt : off < xs.length := (List.getElem?_eq_some_iff.1 hv).1
  have h0 : 0 < n := by have := hR.1; rcases Nat.eq_zero_or_pos n with e | e; subst e; simp at this; simp [this] at hlt; exact e
  obtain ⟨p, cap, rfl⟩ := hR.some h0
  obtain ⟨_, p', cap', e, _, _, _, hc⟩ := hR
  simp only [Value.slice.injEq] at e
  have := run_load1 (P := P) (w := w) hd hn (p := p.add off) (hc p e.1.symm off v hv)
  simp [execOp, ho, hx, ptrAt, Instr.loadAt, Instr.sureAddr, this]
/-- A load of a struct through a slice. -/
theorem x_loadSA {t : TypeId} {x : Operand} (ho : o.op = .load t x) {u : Value} {k n : Nat} {xs : List Value} (hR : Rd w k u n xs) {off : Nat} (hx : a.eval x = ptrAt u off)
    {d : TypeDesc} (hd : P.underlying t = some d) (hn : (match d with | .struct _ | .array _ _ => true | _ => false) = true) {ti : TypeInfo} (hi : P.info? t = some ti)
    {vs : List Value} (hv : (xs.drop off).take ti.size = vs) (hl : vs.length = ti.size) (h0 : 0 < n) : (execOp a.eval o).run P w = .ok (.value (.agg vs.toArray)) w := by
  obtain ⟨p, cap, rfl⟩ := hR.some h0
  obtain ⟨_, p', cap', e, _, _, _, hc⟩ := hR
  simp only [Value.slice.injEq] at e
  have := run_loadA (P := P) (w := w) hd hn hi (p := p.add off) hl (fun j y hy => by
    rw [add_add]
    refine hc p e.1.symm _ _ ?_
    rw [← hv, List.getElem?_take] at hy
    split at hy
    · rwa [List.getElem?_drop] at hy
    · cases hy)
  simp [execOp, ho, hx, ptrAt, Instr.loadAt, Instr.sureAddr, this]

/-! ### Slices: length, address of an element, cut -/

theorem x_len {x : Operand} {t : TypeId} (ho : o.op = .call { callee := .builtin .len, args := #[x], argTypes := #[t] }) {u : Value} {k n : Nat} {xs : List Value} (hR : Rd w k u n xs) (hx : a.eval x = u)
    {e : TypeId} (ht : P.underlying t = some (.slice e)) : (execOp a.eval o).run P w = .ok (.value (.int .i64 (n : Int))) w := by
  obtain ⟨_, p, cap, rfl, _⟩ := hR
  simp [execOp, ho, resolve, invoke, builtin, hx, Builtin.len_, goInt, run_underlying ht]
theorem x_index {x i : Operand} {t : TypeId} (ho : o.op = .indexAddr t x i) {u : Value} {k n : Nat} {xs : List Value} (hR : Rd w k u n xs) (hx : a.eval x = u) {j : Int} {ik : IntKind} (hi : a.eval i = .int ik j)
    {e : TypeId} (ht : P.underlying t = some (.slice e)) {ti : TypeInfo} (he : P.info? e = some ti) (hk : ti.size = k) (h0 : 0 ≤ j) (hj : j < n) : (execOp a.eval o).run P w = .ok (.value (ptrAt u (j.toNat * k))) w := by
  obtain ⟨p, cap, rfl⟩ := hR.some (by omega)
  have hb : (0 ≤ j ∧ j < (n : Int)) := ⟨h0, hj⟩
  simp [execOp, ho, hx, hi, Instr.indexAt, asIntOf, run_underlying ht, sizeOf, typeInfo, he, hk, ptrAt, hb]

/-- x[l:h] of a slice. -/
theorem run_cut {t e : TypeId} (ht : P.underlying t = some (.slice e)) {ti : TypeInfo} (he : P.info? e = some ti) {u : Value} {n : Nat} {xs : List Value} (hR : Rd w ti.size u n xs) (l hi : Nat) (h1 : l ≤ hi) (h2 : hi ≤ n) :
    (Instr.slice t u (some (.int .i64 l)) (some (.int .i64 hi)) none).run P w = .ok (cutSl u ti.size l hi) w := by
  obtain ⟨_, p, cap, rfl, hc, _⟩ := hR
  have h3 : hi ≤ cap := by omega
  simp [Instr.slice, run_underlying ht, Instr.sliceBounds, Instr.sliceBound, asIntOf, h3, h1, sizeOf, typeInfo, he, cutSl]
theorem run_cutLo {t e : TypeId} (ht : P.underlying t = some (.slice e)) {ti : TypeInfo} (he : P.info? e = some ti) {u : Value} {n : Nat} {xs : List Value} (hR : Rd w ti.size u n xs) (l : Nat) (h1 : l ≤ n) :
    (Instr.slice t u (some (.int .i64 l)) none none).run P w = .ok (cutSl u ti.size l n) w := by
  obtain ⟨_, p, cap, rfl, hc, _⟩ := hR
  simp [Instr.slice, run_underlying ht, Instr.sliceBounds, Instr.sliceBound, asIntOf, h1, sizeOf, typeInfo, he, cutSl]
theorem run_cutHi {t e : TypeId} (ht : P.underlying t = some (.slice e)) {ti : TypeInfo} (he : P.info? e = some ti) {u : Value} {n : Nat} {xs : List Value} (hR : Rd w ti.size u n xs) (hi : Nat) (h2 : hi ≤ n) :
    (Instr.slice t u none (some (.int .i64 hi)) none).run P w = .ok (cutSl u ti.size 0 hi) w := by
  obtain ⟨_, p, cap, rfl, hc, _⟩ := hR
  have h3 : hi ≤ cap := by omega
  simp [Instr.slice, run_underlying ht, Instr.sliceBounds, Instr.sliceBound, asIntOf, h3, sizeOf, typeInfo, he, cutSl]
theorem not_array {t e : TypeId} (ht : P.underlying t = some (.slice e)) (x : Value) (lo hi mx : Option Value) : (Instr.sliceAt t x lo hi mx).run P w = (Instr.slice t x lo hi mx).run P w := by
  simp [Instr.sliceAt, run_underlying ht]
theorem x_cut {x lo hi : Operand} {t : TypeId} (ho : o.op = .slice t x (some lo) (some hi) none) {u : Value} {k n : Nat} {xs : List Value} (hR : Rd w k u n xs) (hx : a.eval x = u) {l h : Int} (hl : a.eval lo = .int .i64 l) (hh : a.eval hi = .int .i64 h)
    {e : TypeId} (ht : P.underlying t = some (.slice e)) {ti : TypeInfo} (he : P.info? e = some ti) (hk : ti.size = k) (h0 : 0 ≤ l) (h1 : l ≤ h) (h2 : h ≤ n) : (execOp a.eval o).run P w = .ok (.value (cutSl u k l.toNat h.toNat)) w := by
  subst hk
  obtain ⟨l, rfl⟩ := Int.eq_ofNat_of_zero_le h0
  obtain ⟨h, rfl⟩ := Int.eq_ofNat_of_zero_le (Int.le_trans h0 h1)
  simp [execOp, ho, hx, hl, hh, not_array ht, run_cut (P := P) ht he hR l h (by omega) (by omega)]
theorem x_cutLo {x lo : Operand} {t : TypeId} (ho : o.op = .slice t x (some lo) none none) {u : Value} {k n : Nat} {xs : List Value} (hR : Rd w k u n xs) (hx : a.eval x = u) {l : Int} (hl : a.eval lo = .int .i64 l)
    {e : TypeId} (ht : P.underlying t = some (.slice e)) {ti : TypeInfo} (he : P.info? e = some ti) (hk : ti.size = k) (h0 : 0 ≤ l) (h1 : l ≤ n) : (execOp a.eval o).run P w = .ok (.value (cutSl u k l.toNat n)) w := by
  subst hk
  obtain ⟨l, rfl⟩ := Int.eq_ofNat_of_zero_le h0
  simp [execOp, ho, hx, hl, not_array ht, run_cutLo (P := P) ht he hR l (by omega)]
theorem x_cutHi {x hi : Operand} {t : TypeId} (ho : o.op = .slice t x none (some hi) none) {u : Value} {k n : Nat} {xs : List Value} (hR : Rd w k u n xs) (hx : a.eval x = u) {h : Int} (hh : a.eval hi = .int .i64 h)
    {e : TypeId} (ht : P.underlying t = some (.slice e)) {ti : TypeInfo} (he : P.info? e = some ti) (hk : ti.size = k) (h0 : 0 ≤ h) (h2 : h ≤ n) : (execOp a.eval o).run P w = .ok (.value (cutSl u k 0 h.toNat)) w := by
  subst hk
  obtain ⟨h, rfl⟩ := Int.eq_ofNat_of_zero_le h0
  simp [execOp, ho, hx, hh, not_array ht, run_cutHi (P := P) ht he hR h (by omega)]

/-! ### Stores -/

theorem run_storeCells_nf (g off : Nat) (e : TypeId) (fr : Nat × Nat) : ∀ (vs : List Value) (i : Nat) (cur : List Value) (w : World), w.heap[g]? = some (.cells cur.toArray e fr) → off + i + vs.length ≤ cur.length →
    (∀ j, j < vs.length → notFrozen fr (off + i + j)) → (∀ v ∈ vs, v.oneCell' = true) →
    ∃ w', (storeCells ⟨g, off, none⟩ vs i).run P w = .ok () w' ∧ w'.heap[g]? = some (.cells (cur.take (off + i) ++ vs ++ cur.drop (off + i + vs.length)).toArray e fr) ∧ Mod [g] w w'
  | [], i, cur, w, h, _, _, _ => ⟨w, by simp [storeCells], by simpa using h, Mod.refl _ _⟩
  | v :: vs, i, cur, w, h, hl, hf, h1 => by
    simp only [List.length_cons] at hl hf
    have hlt : off + i < cur.length := by omega
    have hcell := (row_cell h (off + i)).trans (List.getElem?_eq_getElem hlt)
    have hfree := row_free h (i := off + i) (by simpa using hf 0 (by omega))
    have hset : (w.setCell ⟨g, off + i, none⟩ v).heap[g]? = some (.cells (cur.set (off + i) v).toArray e fr) := by
      simp [World.setCell, Array.getElem?_modify, h]
    obtain ⟨w', r1, r2, r3⟩ := run_storeCells_nf g off e fr vs (i + 1) (cur.set (off + i) v) (w.setCell ⟨g, off + i, none⟩ v) hset (by simp; omega)
      (fun j hj => by have := hf (j + 1) (by omega); rwa [show off + i + (j + 1) = off + (i + 1) + j by omega] at this) (fun u hu => h1 u (List.mem_cons_of_mem _ hu))
    refine ⟨w', ?_, ?_, (mod_setCell w ⟨g, off + i, none⟩ v).trans r3⟩
    · simp only [storeCells, Sem.run_bind, add_lit, run_store P w _ v _ (h1 v List.mem_cons_self), hcell, hfree]
      simpa using r1
    · rw [r2]
      have : (cur.set (off + i) v).take (off + (i + 1)) ++ vs ++ (cur.set (off + i) v).drop (off + (i + 1) + vs.length) = cur.take (off + i) ++ (v :: vs) ++ cur.drop (off + i + (vs.length + 1)) := by
        have := list_seg_step cur (off + i) v vs (by omega)
        rw [show off + (i + 1) = off + i + 1 by omega, show off + i + 1 + vs.length = off + i + 1 + vs.length from rfl]
        rw [this]
      rw [this]
      simp

/-- A store of one cell into a row. -/
theorem wp_store1 (hS : St S w0 w M) {t : TypeId} {x y : Operand} (ho : o.op = .store t x y) {g off : Nat} (hx : a.eval x = .pointer (some ⟨g, off, none⟩)) {v : Value} (hy : a.eval y = v)
    {ti : TypeInfo} (hi : P.info? t = some ti) (hs : v.cells.size = ti.size) (i : Nat) {cs : List Value} {e : TypeId} {fr : Nat × Nat} (hM : M[i]? = some (.row g cs e fr))
    (hoff : off + v.cells.size ≤ cs.length) (hf : ∀ j, j < v.cells.size → notFrozen fr (off + j)) (h1 : ∀ u ∈ v.cells.toList, u.oneCell' = true) {cs' : List Value} (hcs : cs.take off ++ v.cells.toList ++ cs.drop (off + v.cells.size) = cs')
    (h : ∀ w', St S w0 w' (M.set i (.row g cs' e fr)) → K (a.put o.dst undef) w') : o.wp P a w K Q := by
  obtain ⟨w', r1, r2, r3⟩ := run_storeCells_nf (P := P) g off e fr v.cells.toList 0 cs w (hS.row hM) (by simpa using hoff) (by simpa using hf) h1
  refine wp_runS ?_ (h w' (hS.chgRow i hM r3 ?_))
  · simp [execOp, ho, hx, hy, Instr.storeAt, Instr.sureAddr, storeVar, sizeOf, typeInfo, hi, hs, r1]
  · subst hcs
    simpa using r2
/-- A store through a slice of its own. -/
theorem wp_storeS (hS : St S w0 w M) {t : TypeId} {x y : Operand} (ho : o.op = .store t x y) {u : Value} {off : Nat} (hx : a.eval x = ptrAt u off) {v : Value} (hy : a.eval y = v)
    {ti : TypeInfo} (hi : P.info? t = some ti) (hs : v.cells.size = ti.size) (i : Nat) {e : TypeId} {k n : Nat} {xs : List Value} (hM : M[i]? = some (.vec u e k n xs)) (h0 : 0 < n)
    (hoff : off + v.cells.size ≤ xs.length) (h1 : ∀ u ∈ v.cells.toList, u.oneCell' = true) {xs' : List Value} (hxs : xs.take off ++ v.cells.toList ++ xs.drop (off + v.cells.size) = xs')
    (h : ∀ w', St S w0 w' (M.set i (.vec u e k n xs')) → K (a.put o.dst undef) w') : o.wp P a w K Q := by
  rcases hS.vec hM with ⟨e1, ⟨rfl, rfl⟩ | ⟨g, cap, rest', fr, rfl, hh, e2, e3, e4, e5⟩⟩
  · omega
  · obtain ⟨w', r1, r2, r3⟩ := run_storeCells_nf (P := P) g off e fr v.cells.toList 0 (xs ++ rest') w hh (by simp only [List.length_append, Array.length_toList]; omega) (by intro j hj; simp only [Array.length_toList] at hj; exact e5 _ (by have := Nat.mul_le_mul_right k e2; omega)) h1
    have hcat : (xs ++ rest').take (off + 0) ++ v.cells.toList ++ (xs ++ rest').drop (off + 0 + v.cells.toList.length) = xs' ++ rest' := by
      subst hxs
      simp only [Nat.add_zero, Array.length_toList]
      rw [List.take_append_of_le_length (by omega), List.drop_append_of_le_length (by omega)]
      simp
    rw [hcat] at r2
    have hl : xs'.length = xs.length := by subst hxs; simp; omega
    refine wp_runS ?_ (h w' (hS.chgVec i hM (by simpa [Value.ownBlock] using r3) (v' := .slice (some ⟨g, 0, none⟩) n cap) ?_ (fun _ hy => .inl hy)))
    · simp [execOp, ho, hx, hy, Instr.storeAt, Instr.sureAddr, ptrAt, add_lit, storeVar, sizeOf, typeInfo, hi, hs, r1]
    · exact ⟨by omega, .inr ⟨g, cap, rest', fr, rfl, r2, e2, e3, by simp only [List.length_append] at e4 ⊢; omega, e5⟩⟩

/-! ### Bytes and strings -/

def B (l : List UInt8) : List Value := l.map fun x => Value.int .u8 (x.toNat : Int)
theorem B_length (l : List UInt8) : (B l).length = l.length := by simp [B]
theorem B_append (l m : List UInt8) : B (l ++ m) = B l ++ B m := by simp [B]
theorem B_nil : B [] = [] := rfl
theorem B_cons (x : UInt8) (l : List UInt8) : B (x :: l) = Value.int .u8 (x.toNat : Int) :: B l := rfl
theorem B_get {l : List UInt8} {i : Nat} (h : i < l.length) : (B l)[i]? = some (Value.int .u8 (l[i].toNat : Int)) := by simp [B, h]
theorem B_take (l : List UInt8) (n : Nat) : B (l.take n) = (B l).take n := by simp [B, List.map_take]
theorem B_drop (l : List UInt8) (n : Nat) : B (l.drop n) = (B l).drop n := by simp [B, List.map_drop]
theorem B_one (l : List UInt8) : ∀ u ∈ B l, u.oneCell' = true := by
  intro u hu
  simp only [B, List.mem_map] at hu
  obtain ⟨x, _, rfl⟩ := hu
  rfl
theorem B_inj {l m : List UInt8} (h : B l = B m) : l = m := by
  induction l generalizing m with
  | nil => cases m with
    | nil => rfl
    | cons => simp [B] at h
  | cons x l ih => cases m with
    | nil => simp [B] at h
    | cons y m =>
      simp only [B_cons, List.cons.injEq, Value.int.injEq, true_and] at h
      rw [ih h.2, UInt8.toNat_inj.1 (by omega : x.toNat = y.toNat)]

/-- string(b). -/
theorem x_toString {src dst e : TypeId} {x : Operand} (ho : o.op = .convert src dst x) (hs : P.underlying src = some (.slice e)) (he : P.underlying e = some (.int .u8)) (hd : P.underlying dst = some .string)
    {u : Value} {n : Nat} {l : List UInt8} (hR : Rd w 1 u n (B l)) (hx : a.eval x = u) : (execOp a.eval o).run P w = .ok (.value (.string ⟨l.toArray⟩)) w := by
  obtain ⟨h1, p, cap, rfl, h2, h3, h4, h5⟩ := hR
  rw [B_length, Nat.mul_one] at h1
  subst h1
  cases p with
  | none =>
    have hc := h4 rfl
    obtain rfl : l = [] := List.eq_nil_of_length_eq_zero (by omega)
    have := run_convert_bytes_nil (P := P) (w := w) src e hs he 0 cap dst hd
    simp only [List.length_nil] at hx
    simp [execOp, ho, hx, this]
    rfl
  | some p =>
    have := run_convert_bytes_back (P := P) w src dst e p cap l hs he hd (fun j hj => h5 p rfl j _ (B_get hj))
    simp [execOp, ho, hx, this]

/-! ### append, copy, make -/

theorem VecAt.grown {w : World} {e : TypeId} {k : Nat} {n : Nat} {xs : List Value} (zs : Array Value) (hz : zs.size = k) (cap : Nat) (h1 : xs.length = n * k) (h2 : n ≤ cap) (h3 : cap ≤ maxLen) :
    VecAt (w.alloc (.cells (xs.toArray ++ Builtin.zeroCells zs (cap - n)) e)) (.slice (some ⟨w.heap.size, 0, none⟩) n cap) e k n xs := by
  refine ⟨h1, .inr ⟨w.heap.size, cap, (Builtin.zeroCells zs (cap - n)).toList, (0, 0), rfl, ?_, h2, h3, ?_, fun i _ => nf0 i⟩⟩
  · rw [heap_alloc_new]
    congr 2
    apply Array.ext'
    simp
  · simp only [List.length_append, h1, Array.length_toList, size_zeroCells, hz, ← Nat.add_mul]
    exact Nat.mul_le_mul_right _ (by omega)

theorem run_append_vec {t e : TypeId} (ty : TypeId) (ht : P.underlying t = some (.slice e)) {i : TypeInfo} (hi : P.info? e = some i) {z : Value} (hz : i.zero = some z) (hzs : z.cells.size = i.size) (hby : 0 < i.bytes)
    {v : Value} {n : Nat} {xs : List Value} (hv : VecAt w v e i.size n xs) {x : Value} {m : Nat} {news : List Value} (hR : Rd w i.size x m news) (h1 : ∀ u ∈ news, u.oneCell' = true) (hb : (n + m) * i.bytes ≤ 140737488355328) :
    ∃ v' w', (Builtin.append_ #[t, t] ty #[v, x]).run P w = .ok v' w' ∧ VecAt w' v' e i.size (n + m) (xs ++ news) ∧ Mod v.ownBlock.toList w w' ∧ (∀ g ∈ v'.ownBlock.toList, g ∈ v.ownBlock.toList ∨ w.heap.size ≤ g) ∧
      (v' = .slice none 0 0 ↔ v = .slice none 0 0 ∧ m = 0) := by
  have h47 : n + m ≤ 140737488355328 := Nat.le_trans (Nat.le_mul_of_pos_right _ hby) hb
  have hml : n + m ≤ maxLen := by unfold maxLen; omega
  obtain ⟨hnl, p, cx, rfl, hxc, hxm, hxn, hxx⟩ := hR
  have hlen : (xs ++ news).length = (n + m) * i.size := by rw [List.length_append, hv.1, hnl, Nat.add_mul]
  by_cases hm : m = 0
  · subst hm
    have hn : news = [] := List.eq_nil_of_length_eq_zero (by simpa using hnl)
    subst hn
    refine ⟨v, w, ?_, by simpa using hv, Mod.refl _ _, fun g hg => .inl hg, by simp⟩
    rcases hv.2 with ⟨rfl, rfl⟩ | ⟨g, cap, rest', fr, rfl, hh, e2, e3, e4, e5⟩
    · cases p <;> simp [Builtin.append_, run_underlying ht, sizeOf, typeInfo, hi, Builtin.lenOf, Builtin.firstCells, loadCells, loadCellsFrom]
    · cases p <;> simp [Builtin.append_, run_underlying ht, sizeOf, typeInfo, hi, Builtin.lenOf, Builtin.firstCells, loadCells, loadCellsFrom, e2, storeCells]
  · cases p with
    | none => have := hxn rfl; omega
    | some ax =>
      have hnews := hxx ax rfl
      rcases hv.2 with ⟨rfl, rfl⟩ | ⟨g, cap, rest', fr, rfl, hh, e2, e3, e4, e5⟩
      · have hx : xs = [] := List.eq_nil_of_length_eq_zero (by simpa using hv.1)
        subst hx
        have hr := run_append_nil (P := P) w t ty e i z ht hi hz ax m cx news hnl hnews (by omega) (by omega) (by have hb := hb; simp only [Nat.zero_add] at hb; omega)
        simp only [Nat.zero_add, List.nil_append] at hlen ⊢
        refine ⟨_, _, hr, VecAt.grown (w := w.drew) z.cells hzs _ hlen (grownCap_ge _ _ _ _) (grownCap_le_maxLen _ _ _ _ (by omega)), ?_, ?_, by simp [hm]⟩
        · exact (Mod.refl _ _).drew.trans (mod_alloc w.drew _).nil
        · intro g hg; simp [Value.ownBlock] at hg; exact .inr (by omega)
      · by_cases hroom : n + m ≤ cap
        · have hfc : n * i.size + news.length ≤ cap * i.size := by rw [hnl, ← Nat.add_mul]; exact Nat.mul_le_mul_right _ hroom
          have hfit : n * i.size + news.length ≤ (xs ++ rest').length := by omega
          obtain ⟨w', r1, r2, r3⟩ := run_storeCells_nf (P := P) g (n * i.size) e fr news 0 (xs ++ rest') w hh (by simpa using hfit) (by intro j hj; exact e5 _ (by omega)) h1
          have hcat : (xs ++ rest').take (n * i.size + 0) ++ news ++ (xs ++ rest').drop (n * i.size + 0 + news.length) = (xs ++ news) ++ rest'.drop news.length := by
            simp only [Nat.add_zero]
            rw [← hv.1, List.take_left, Nat.add_comm, List.drop_append, List.drop_eq_nil_of_le (by omega)]
            simp
          rw [hcat] at r2
          have hf := run_firstCells_some (P := P) w i.size m ax m cx news hnl hnews
          refine ⟨.slice (some ⟨g, 0, none⟩) (n + m) cap, w', ?_, ⟨hlen, .inr ⟨g, cap, _, fr, rfl, r2, hroom, e3, ?_, e5⟩⟩, by simpa [Value.ownBlock] using r3, fun y hy => .inl hy, by simp⟩
          · simp [Builtin.append_, run_underlying ht, sizeOf, typeInfo, hi, Builtin.lenOf, hroom, hf, add_lit, r1]
          · have hv1 := hv.1; simp only [List.length_append, List.length_drop] at e4 hfit ⊢; omega
        · have holds : ∀ (j : Nat) u, xs[j]? = some u → w.cell? ((⟨g, 0, none⟩ : Addr).add j) = some u := fun j u hu => by
            rw [add_lit, Nat.zero_add, row_cell hh, List.getElem?_append_left (List.getElem?_eq_some_iff.1 hu).1]; exact hu
          have hr := run_append_grow (P := P) w t ty e i z ht hi hz ⟨g, 0, none⟩ n cap xs hv.1 holds ax m cx news hnl hnews (by omega) (by omega) (growslice_fits (by omega) hb)
          refine ⟨_, _, hr, ?_, (Mod.refl _ _).drew.trans (mod_alloc w.drew _).nil, ?_, by simp⟩
          · have := VecAt.grown (w := w.drew) (e := e) z.cells hzs (grownCap w (n + m) cap e) hlen (grownCap_ge _ _ _ _) (grownCap_le_maxLen _ _ _ _ (by omega))
            rw [← List.append_toArray] at this
            exact this
          · intro y hy; simp [Value.ownBlock] at hy; exact .inr (by omega)

theorem wp_append (hS : St S w0 w M) {s x : Operand} {t : TypeId} (ho : o.op = .call { callee := .builtin .append, args := #[s, x], argTypes := #[t, t] })
    {v u : Value} {e : TypeId} {k : Nat} (i : Nat) {n : Nat} {xs : List Value} (hM : M[i]? = some (.vec v e k n xs)) {m : Nat} {news : List Value} (hR : Rd w k u m news) (hs : a.eval s = v) (hx : a.eval x = u) (ht : P.underlying t = some (.slice e)) {ti : TypeInfo} (hi : P.info? e = some ti) {z : Value} (hz : ti.zero = some z) (hzs : z.cells.size = ti.size) (hby : 0 < ti.bytes) (hk : ti.size = k)
    (h1 : ∀ u ∈ news, u.oneCell' = true) (hb : (n + m) * ti.bytes ≤ 140737488355328)
    (h : ∀ v' w', St S w0 w' (M.set i (.vec v' e k (n + m) (xs ++ news))) → (v' = .slice none 0 0 ↔ v = .slice none 0 0 ∧ m = 0) → K (a.put o.dst v') w') : o.wp P a w K Q := by
  subst hk
  obtain ⟨v', w', r1, r2, r3, r4, r5⟩ := run_append_vec (P := P) o.type ht hi hz hzs hby (hS.vec hM) hR h1 hb
  refine wp_run ?_ (h v' w' (hS.chgVec i hM r3 r2 r4) r5)
  simp [execOp, ho, resolve, invoke, builtin, hs, hx, r1]

theorem shape_of {w : World} {g : Nat} {cs : List Value} {e : TypeId} {fr : Nat × Nat} (h : w.heap[g]? = some (.cells cs.toArray e fr)) : w.shape? g = some (e, cs.length) := by simp [World.shape?, h]
theorem freeze_row {w : World} {g off : Nat} {cs : List Value} {e : TypeId} (h : w.heap[g]? = some (.cells cs.toArray e (0, 0))) : (w.freeze ⟨g, off, none⟩ 1).heap[g]? = some (.cells cs.toArray e (off, off + 1)) := by
  simp [World.freeze, Array.getElem?_modify, h]
theorem mod_freeze (w : World) (p : Addr) (n : Nat) : Mod [p.block] w (w.freeze p n) := by
  unfold World.freeze
  split
  · exact Mod.refl _ _
  · refine ⟨rfl, rfl, rfl, by simp, fun k _ hn => ?_⟩
    simp only [List.mem_singleton] at hn
    simp only [Array.getElem?_modify]
    rw [if_neg (fun e => hn e.symm)]

/-- []byte(s). -/
theorem wp_toBytes (hS : St S w0 w M) {src dst e : TypeId} {x : Operand} (ho : o.op = .convert src dst x) (hs : P.underlying src = some .string) (hd : P.underlying dst = some (.slice e)) (he : P.underlying e = some (.int .u8))
    {l : List UInt8} (hx : a.eval x = .string ⟨l.toArray⟩) (hl : l.length ≤ maxLen) (h : ∀ v w', St S w0 w' (.vec v e 1 l.length (B l) :: M) → K (a.put o.dst v) w') : o.wp P a w K Q := by
  obtain ⟨cap, hcap⟩ : ∃ cap, (Question.appendCap l.length 0 e).cut (w.tape w.drawn (Question.appendCap l.length 0 e)) = cap := ⟨_, rfl⟩
  have hge : l.length ≤ cap := by rw [← hcap]; simp [Question.cut]
  have hle : cap ≤ maxLen := by
    have hlt := Nat.mod_lt (w.tape w.drawn (.appendCap l.length 0 e)) (show 0 < 2 ^ 63 - l.length by simp only [maxLen] at hl; omega)
    rw [← hcap]
    simp only [Question.cut, maxLen] at hl ⊢
    omega
  have hcells : (Array.map (fun b : UInt8 => Value.int .u8 (b.toNat : Int)) l.toArray ++ Array.replicate (cap - l.length) (Value.int .u8 0)) = (B l ++ List.replicate (cap - l.length) (Value.int .u8 0)).toArray := by
    apply Array.ext'; simp [B]
  obtain ⟨cs, hcs⟩ : ∃ cs, B l ++ List.replicate (cap - l.length) (Value.int .u8 0) = cs := ⟨_, rfl⟩
  have hlen : cs.length = cap := by rw [← hcs, List.length_append, B_length, List.length_replicate]; omega
  rw [hcs] at hcells
  have hsz : (⟨l.toArray⟩ : ByteArray).size = l.length := by simp [ByteArray.size]
  have hrow : ((w.alloc (.cells cs.toArray e)).drew).heap[w.heap.size]? = some (.cells cs.toArray e (0, 0)) := heap_alloc_new w _
  have hrun : (convert src dst (.string ⟨l.toArray⟩)).run P w = .ok (.slice (some ⟨w.heap.size, 0, none⟩) l.length cap) (((w.alloc (.cells cs.toArray e)).drew).freeze ⟨w.heap.size, cap, none⟩ 1) := by
    simp only [convert, Sem.run_bind, run_underlying hs, run_underlying hd, run_underlying he, Result.andThen_ok]
    simp only [Conv.stringToBytes, Sem.run_bind, run_choose, Question.forced, Bool.false_eq_true, if_false, Result.andThen_ok, hsz, hcap, newRow, run_newObj, Sem.run_pure, markStringish, run_shape, hcells]
    have e1 : ({ heap := w.heap.push (.cells cs.toArray e), tape := w.tape, drawn := w.drawn + 1, os := w.os, output := w.output } : World) = (w.alloc (.cells cs.toArray e)).drew := rfl
    rw [e1, shape_of hrow]
    simp [hlen]
  refine wp_run (v := .slice (some ⟨w.heap.size, 0, none⟩) l.length cap) ?_ (h _ (((w.alloc (.cells cs.toArray e)).drew).freeze ⟨w.heap.size, cap, none⟩ 1) ?_)
  · simp [execOp, ho, hx, hrun]
  · refine hS.add ?_ (m := .vec (.slice (some ⟨w.heap.size, 0, none⟩) l.length cap) e 1 l.length (B l)) (F := [w.heap.size]) ⟨rfl, by rw [B_length, Nat.mul_one], .inr ⟨w.heap.size, cap, List.replicate (cap - l.length) (Value.int .u8 0), (cap, cap + 1), rfl, ?_, hge, hle, ?_, ?_⟩⟩ (by simp) (by simp)
    · have h1 : Mod [] w (w.alloc (.cells cs.toArray e)).drew := (mod_alloc w _).drew
      exact h1.comp (mod_freeze _ _ _) (by simp)
    · rw [hcs, freeze_row hrow]
    · rw [hcs, hlen, Nat.mul_one]; exact Nat.le_refl _
    · intro i hi; unfold notFrozen; omega

/-! ### A slice of written-out elements; make; copy -/

/-- The cells of '[]T{..}'. -/
def buildCells (zero : Option Value) (size len : Nat) (parts : List (Nat × Value)) : Option (List Value) :=
  match zero with
  | none => none
  | some z => (Instr.fill (fun i => some (i * size, size)) ((Array.range (len * size)).map ((if len * size = 0 then #[] else z.cells)[· % (if len * size = 0 then #[] else z.cells).size]!)) parts).map (·.toList)

theorem vec_of_row {w : World} {g : Nat} {cs : List Value} {e : TypeId} (h : w.heap[g]? = some (.cells cs.toArray e (0, 0))) (k n : Nat) (hl : cs.length = n * k) (hn : n ≤ maxLen) : VecAt w (.slice (some ⟨g, 0, none⟩) n n) e k n cs :=
  ⟨hl, .inr ⟨g, n, [], (0, 0), rfl, by simpa using h, Nat.le_refl _, hn, by simp [hl], fun i _ => nf0 i⟩⟩
theorem St.allocVec (hS : St S w0 w M) (cs : List Value) (e : TypeId) (k n : Nat) (hl : cs.length = n * k) (hn : n ≤ maxLen) : St S w0 (w.alloc (.cells cs.toArray e)) (.vec (.slice (some ⟨w.heap.size, 0, none⟩) n n) e k n cs :: M) :=
  hS.add (mod_alloc w _) (m := .vec (.slice (some ⟨w.heap.size, 0, none⟩) n n) e k n cs) (F := [w.heap.size]) ⟨rfl, vec_of_row (heap_alloc_new w _) k n hl hn⟩ (by simp) (by simp)

theorem wp_buildSlice (hS : St S w0 w M) {t : TypeId} {len : Nat} {parts : Array (Nat × Operand)} (ho : o.op = .buildSlice t len parts) {e : TypeId} (ht : P.underlying t = some (.slice e)) {ti : TypeInfo} (hi : P.info? e = some ti)
    {k : Nat} (hk : ti.size = k) {cs : List Value} (hf : buildCells ti.zero k len (parts.toList.map fun p => (p.1, a.eval p.2)) = some cs) (hl : cs.length = len * k) (hsmall : len * k ≤ 16777216) (hn : len ≤ 16777216)
    (h : ∀ v w', St S w0 w' (.vec v e k len cs :: M) → K (a.put o.dst v) w') : o.wp P a w K Q := by
  subst hk
  refine wp_run ?_ (h _ _ (hS.allocVec cs e ti.size len hl (by unfold maxLen; omega)))
  unfold buildCells at hf
  split at hf
  · cases hf
  · rename_i z hz
    obtain ⟨arr, harr, rfl⟩ := Option.map_eq_some_iff.1 hf
    have hs' : ¬ (16777216 < len * ti.size) := by omega
    have hparts : (parts.map fun p => (p.1, a.eval p.2)).toList = parts.toList.map fun p => (p.1, a.eval p.2) := by simp
    have hrun : (Instr.buildSlice t len (parts.map fun p => (p.1, a.eval p.2))).run P w = .ok (.slice (some ⟨w.heap.size, 0, none⟩) len len) (w.alloc (.cells arr e)) := by
      by_cases h0 : len * ti.size = 0
      · simp only [h0, if_true] at harr
        simp only [Instr.buildSlice, Sem.run_bind, run_underlying ht, Result.andThen_ok, sizeOf, typeInfo, run_program, hi, Sem.run_pure, h0, if_true, Nat.not_lt_zero, if_false, gt_iff_lt, hparts, harr, newRow, run_newObj]
        rfl
      · simp only [h0, if_false] at harr
        simp only [Instr.buildSlice, Sem.run_bind, run_underlying ht, Result.andThen_ok, sizeOf, typeInfo, run_program, hi, Sem.run_pure, h0, if_false, gt_iff_lt, hs', zeroValue, hz, hparts, harr, newRow, run_newObj]
        rfl
    simp [execOp, ho, hrun]

theorem fill_ones (vs : List Value) (h1 : ∀ v ∈ vs, v.cells = #[v]) : ∀ (k : Nat) (cells : Array Value), cells.size = k + vs.length →
    Instr.fill (fun i => some (i * 1, 1)) cells ((List.range' k vs.length).zip vs) = some (cells.toList.take k ++ vs).toArray := by
  induction vs with
  | nil =>
    intro k cells h
    simp only [List.length_nil, Nat.add_zero] at h
    subst h
    have : List.take cells.size cells.toList = cells.toList := List.take_of_length_le (by simp)
    simp [Instr.fill, this]
  | cons v vs ih =>
    intro k cells h
    simp only [List.length_cons] at h ⊢
    have hv := h1 v List.mem_cons_self
    have hlt : k < cells.size := by omega
    have := ih (fun u hu => h1 u (List.mem_cons_of_mem _ hu)) (k + 1) (cells.setIfInBounds k v) (by simp; omega)
    simp only [List.range'_succ, List.zip_cons_cons, Instr.fill, hv, Nat.mul_one]
    have hne : ¬ (#[v].size ≠ 1 ∨ k + #[v].size > cells.size) := by simp; omega
    have hf : ((#[v].zipIdx.foldl (fun cs (c, j) => cs.setIfInBounds (k + j) c) cells)) = cells.setIfInBounds k v := by simp
    simp only [ne_eq, List.size_toArray, List.length_cons, List.length_nil, Nat.zero_add, not_true_eq_false, gt_iff_lt, decide_eq_true_eq, false_or, decide_false, Bool.false_or] at hne ⊢
    rw [if_neg (by omega)]
    simp only [Nat.mul_one] at this
    rw [hf, this]
    congr 2
    simp only [Array.toList_setIfInBounds]
    rw [List.take_succ_eq_append_getElem (by simpa using hlt), List.take_set, List.set_eq_of_length_le (by simp; omega)]
    simp
/-- '[]T{..}', T of one cell. -/
theorem wp_buildSlice1 {vs : List Value} (hS : St S w0 w M) {t : TypeId} {len : Nat} {parts : Array (Nat × Operand)} (ho : o.op = .buildSlice t len parts) {e : TypeId} (ht : P.underlying t = some (.slice e)) {ti : TypeInfo} (hi : P.info? e = some ti) (hk : ti.size = 1)
    (hp : (parts.toList.map fun p => (p.1, a.eval p.2)) = (List.range' 0 vs.length).zip vs) (hl : vs.length = len) (hn : len ≤ 16777216) (h1 : ti.zero.isSome = true ∧ ∀ v ∈ vs, v.cells = #[v])
    (h : ∀ v w', St S w0 w' (.vec v e 1 len vs :: M) → K (a.put o.dst v) w') : o.wp P a w K Q := by
  obtain ⟨z, hz⟩ := Option.isSome_iff_exists.1 h1.1
  refine wp_buildSlice hS ho ht hi hk (cs := vs) ?_ (by omega) (by omega) hn h
  unfold buildCells
  rw [hz, hp]
  have := fill_ones vs h1.2 0 ((Array.range (len * 1)).map ((if len * 1 = 0 then #[] else z.cells)[· % (if len * 1 = 0 then #[] else z.cells).size]!)) (by simp; omega)
  simp only [] at this ⊢
  rw [this]
  simp
theorem Rd.cells {w : World} {k : Nat} {v : Value} {n : Nat} {xs : List Value} (h : Rd w k v n xs) : v.cells = #[v] := by
  obtain ⟨_, p, cap, rfl, _⟩ := h; rfl

/-- make([]T, n), T of one cell. -/
theorem wp_make (hS : St S w0 w M) {t : TypeId} {x y : Operand} (ho : o.op = .makeSlice t x y) {n : Int} (hx : a.eval x = .int .i64 n) (hy : a.eval y = .int .i64 n) {e : TypeId} (ht : P.underlying t = some (.slice e)) {ti : TypeInfo} (hi : P.info? e = some ti)
    (hk : ti.size = 1) {z : Value} (hz : ti.zero = some z) (hzc : z.cells = #[z]) (h0 : 0 ≤ n) (hb : n.toNat * ti.bytes ≤ 140737488355328) (hn : n ≤ 140737488355328)
    (h : ∀ v w', St S w0 w' (.vec v e 1 n.toNat (List.replicate n.toNat z) :: M) → K (a.put o.dst v) w') : o.wp P a w K Q := by
  obtain ⟨n, rfl⟩ := Int.eq_ofNat_of_zero_le h0
  simp only [Int.toNat_natCast] at *
  refine wp_run ?_ (h _ _ (hS.allocVec (List.replicate n z) e 1 n (by simp) (by unfold maxLen; omega)))
  have h1 : (IntKind.i64.wrap (n : Int)) = n := IntWalk.i64_in _ (by omega)
  have h2 : ¬ ((ti.bytes : Int) * (n : Int) > 281474976710656) := by
    have : (ti.bytes : Int) * (n : Int) = ((n * ti.bytes : Nat) : Int) := by rw [Int.natCast_mul, Int.mul_comm]
    omega
  have hcells : (Array.range n).map (fun i => (if n = 0 then (#[] : Array Value) else z.cells)[i % (if n = 0 then (#[] : Array Value) else z.cells).size]!) = (List.replicate n z).toArray := by
    apply Array.ext
    · simp
    · intro i h1 h2
      simp at h1
      have : ¬ n = 0 := by omega
      simp [this, hzc, Nat.mod_one]
  by_cases hn0 : n = 0
  · subst hn0
    have h10 : IntKind.i64.wrap 0 = 0 := rfl
    simp at hx hy
    simp [execOp, ho, hx, hy, Instr.makeSlice, run_underlying ht, typeInfo, hi, asInt, asIntOf, h10, sizeOf, newRow]
    have e0 : Array.range 0 = #[] := by apply Array.ext <;> simp
    simp [e0]
  · simp only [hn0, if_false] at hcells
    have h3 : ¬ (281474976710656 < (ti.bytes : Int) * (n : Int)) := by omega
    simp [execOp, ho, hx, hy, Instr.makeSlice, run_underlying ht, typeInfo, hi, asInt, asIntOf, h1, sizeOf, hk, newRow, h3, hn0, zeroValue, hz, hcells]
    intro h; omega

theorem run_firstCells_rd {w : World} {k : Nat} {x : Value} {n : Nat} {xs : List Value} (hR : Rd w k x n xs) (m : Nat) (hm : m ≤ n) : (Builtin.firstCells k m x).run P w = .ok (xs.take (m * k)).toArray w := by
  obtain ⟨h1, p, cap, rfl, _, _, h4, h5⟩ := hR
  have hle : m * k ≤ n * k := Nat.mul_le_mul_right _ hm
  cases p with
  | none =>
    have := h4 rfl
    have hn0 : m = 0 := by omega
    subst hn0
    simp [Builtin.firstCells]
  | some p =>
    have := run_firstCells_some (P := P) w k m p n cap (xs.take (m * k)) (by rw [List.length_take]; omega) (fun j v hv => by
      refine h5 p rfl j v ?_
      rw [List.getElem?_take] at hv
      split at hv
      · exact hv
      · cases hv)
    exact this

/-- copy(dst, src), dst over a part of a row. -/
theorem wp_copyRow (hS : St S w0 w M) {d s : Operand} {dT sT : TypeId} (ho : o.op = .call { callee := .builtin .copy, args := #[d, s], argTypes := #[dT, sT] }) {u : Value} {k n : Nat} {xs : List Value} (hR : Rd w k u n xs) {g off dl dc : Nat} (i : Nat) {cs : List Value} {fr : Nat × Nat} {e' : TypeId} (hM : M[i]? = some (.row g cs e' fr)) (hd : a.eval d = .slice (some ⟨g, off, none⟩) dl dc) (hs : a.eval s = u)
    {e : TypeId} (ht : P.underlying dT = some (.slice e)) {ti : TypeInfo} (hi : P.info? e = some ti) (hk : ti.size = k)
    (hfit : off + min n dl * k ≤ cs.length) (hf : ∀ j, j < min n dl * k → notFrozen fr (off + j)) (h1 : ∀ u ∈ xs, u.oneCell' = true) {cs' : List Value} (hcs : cs.take off ++ xs.take (min n dl * k) ++ cs.drop (off + min n dl * k) = cs')
    (h : ∀ w', St S w0 w' (M.set i (.row g cs' e' fr)) → K (a.put o.dst (.int .i64 (min n dl : Nat))) w') : o.wp P a w K Q := by
  subst hk
  have hxl : (xs.take (min n dl * ti.size)).length = min n dl * ti.size := by
    rw [List.length_take, hR.1]; exact Nat.min_eq_left (Nat.mul_le_mul_right _ (Nat.min_le_left _ _))
  obtain ⟨w', r1, r2, r3⟩ := run_storeCells_nf (P := P) g off e' fr (xs.take (min n dl * ti.size)) 0 cs w (hS.row hM) (by rw [hxl]; simpa using hfit) (by rw [hxl]; simpa using hf) (fun v hv => h1 v (List.mem_of_mem_take hv))
  rw [hxl] at r2
  have hfc := run_firstCells_rd (P := P) hR (min n dl) (Nat.min_le_left _ _)
  refine wp_run ?_ (h w' (hS.chgRow i hM r3 ?_))
  · obtain ⟨_, p, cap, rfl, _⟩ := hR
    simp only [Nat.min_def] at hfc r1 ⊢
    simp [execOp, ho, resolve, invoke, builtin, hd, hs, Builtin.copy_, run_underlying ht, Builtin.lenOf, sizeOf, typeInfo, hi, Nat.min_def, hfc, r1, goInt]
  · subst hcs; simpa using r2

/-- copy(dst, src), dst a slice of its own. -/
theorem wp_copyVec (hS : St S w0 w M) {d s : Operand} {dT sT : TypeId} (ho : o.op = .call { callee := .builtin .copy, args := #[d, s], argTypes := #[dT, sT] }) {u v : Value} {k n : Nat} {xs : List Value} (hR : Rd w k u n xs) (i : Nat) {e' : TypeId} {dl : Nat} {ds : List Value} (hM : M[i]? = some (.vec v e' k dl ds)) (hd : a.eval d = v) (hs : a.eval s = u)
    {e : TypeId} (ht : P.underlying dT = some (.slice e)) {ti : TypeInfo} (hi : P.info? e = some ti) (hk : ti.size = k)
    (h1 : ∀ u ∈ xs, u.oneCell' = true) {ds' : List Value} (hds : xs.take (min n dl * k) ++ ds.drop (min n dl * k) = ds')
    (h : ∀ w', St S w0 w' (M.set i (.vec v e' k dl ds')) → K (a.put o.dst (.int .i64 (min n dl : Nat))) w') : o.wp P a w K Q := by
  subst hk
  have hle : min n dl * ti.size ≤ dl * ti.size := Nat.mul_le_mul_right _ (Nat.min_le_right _ _)
  have hxl : (xs.take (min n dl * ti.size)).length = min n dl * ti.size := by
    rw [List.length_take, hR.1]; exact Nat.min_eq_left (Nat.mul_le_mul_right _ (Nat.min_le_left _ _))
  have hfc := run_firstCells_rd (P := P) hR (min n dl) (Nat.min_le_left _ _)
  rcases hS.vec hM with ⟨e1, ⟨rfl, rfl⟩ | ⟨g, cap, rest', fr, rfl, hh, e2, e3, e4, e5⟩⟩
  · have hds0 : ds = [] := List.eq_nil_of_length_eq_zero (by simpa using e1)
    have hw' : ds' = ds := by subst hds; simp [hds0]
    have hM' : M.set i (.vec (.slice none 0 0) e' ti.size 0 ds') = M := by
      rw [hw']
      apply List.ext_getElem?
      intro j
      rw [List.getElem?_set]
      split
      · rename_i ej; subst ej; rw [hM]; simp [(List.getElem?_eq_some_iff.1 hM).1]
      · rfl
    rw [hM'] at h
    refine wp_run ?_ (h w hS)
    obtain ⟨_, p, cap, rfl, _⟩ := hR
    simp at hfc
    simp [execOp, ho, resolve, invoke, builtin, hd, hs, Builtin.copy_, run_underlying ht, Builtin.lenOf, sizeOf, typeInfo, hi, hfc, goInt]
  · obtain ⟨w', r1, r2, r3⟩ := run_storeCells_nf (P := P) g 0 e' fr (xs.take (min n dl * ti.size)) 0 (ds ++ rest') w hh (by rw [hxl]; simp only [List.length_append]; omega) (by intro j hj; rw [hxl] at hj; exact e5 _ (by have := Nat.mul_le_mul_right ti.size e2; omega)) (fun v hv => h1 v (List.mem_of_mem_take hv))
    rw [hxl] at r2
    have hcat : (ds ++ rest').take (0 + 0) ++ xs.take (min n dl * ti.size) ++ (ds ++ rest').drop (0 + 0 + min n dl * ti.size) = ds' ++ rest' := by
      subst hds
      simp only [Nat.zero_add, List.take_zero, List.nil_append]
      rw [List.drop_append_of_le_length (by omega), List.append_assoc]
    rw [hcat] at r2
    have hl : ds'.length = ds.length := by subst hds; rw [List.length_append, hxl, List.length_drop]; omega
    refine wp_run ?_ (h w' (hS.chgVec i hM (by simpa [Value.ownBlock] using r3) (v' := .slice (some ⟨g, 0, none⟩) dl cap) ?_ (fun _ hy => .inl hy)))
    · obtain ⟨_, p, cap', rfl, _⟩ := hR
      simp only [Nat.min_def] at hfc r1 ⊢
      simp [execOp, ho, resolve, invoke, builtin, hd, hs, Builtin.copy_, run_underlying ht, Builtin.lenOf, sizeOf, typeInfo, hi, Nat.min_def, hfc, r1, goInt]
    · exact ⟨by omega, .inr ⟨g, cap, rest', fr, rfl, r2, e2, e3, by simp only [List.length_append] at e4 ⊢; omega, e5⟩⟩

/-- copy(v[lo:hi], src), v a slice of its own. -/
theorem wp_copyCut (hS : St S w0 w M) {d s : Operand} {dT sT : TypeId} (ho : o.op = .call { callee := .builtin .copy, args := #[d, s], argTypes := #[dT, sT] }) {u v : Value} {k n : Nat} {xs : List Value} (hR : Rd w k u n xs) (i : Nat) {e' : TypeId} {dl : Nat} {ds : List Value} (hM : M[i]? = some (.vec v e' k dl ds)) {lo hi : Nat} (hd : a.eval d = cutSl v k lo hi) (hs : a.eval s = u)
    {e : TypeId} (ht : P.underlying dT = some (.slice e)) {ti : TypeInfo} (hti : P.info? e = some ti) (hk : ti.size = k) (hlo : lo ≤ hi) (hhi : hi ≤ dl)
    (h1 : ∀ u ∈ xs, u.oneCell' = true) {ds' : List Value} (hds : ds.take (lo * k) ++ xs.take (min n (hi - lo) * k) ++ ds.drop ((lo + min n (hi - lo)) * k) = ds')
    (h : ∀ w', St S w0 w' (M.set i (.vec v e' k dl ds')) → K (a.put o.dst (.int .i64 (min n (hi - lo) : Nat))) w') : o.wp P a w K Q := by
  subst hk
  obtain ⟨m, hm⟩ : ∃ m, min n (hi - lo) = m := ⟨_, rfl⟩
  rw [hm] at hds h
  have hmn : m ≤ n := by omega
  have hxl : (xs.take (m * ti.size)).length = m * ti.size := by
    rw [List.length_take, hR.1]; exact Nat.min_eq_left (Nat.mul_le_mul_right _ hmn)
  have hfc := run_firstCells_rd (P := P) hR m hmn
  have hdl := (hS.vec hM).1
  have hle : (lo + m) * ti.size ≤ dl * ti.size := Nat.mul_le_mul_right _ (by omega)
  rw [Nat.add_mul] at hle hds
  have hmin : Nat.min n (hi - lo) = m := hm
  have hmin' : (if n ≤ hi - lo then n else hi - lo) = m := by rw [← hm, Nat.min_def]
  by_cases hm0 : m = 0
  · subst hm0
    have hds0 : ds' = ds := by subst hds; simp
    have hM' : M.set i (.vec v e' ti.size dl ds') = M := by
      rw [hds0]
      apply List.ext_getElem?
      intro j
      rw [List.getElem?_set]
      split
      · rename_i ej; subst ej; rw [hM]; simp [(List.getElem?_eq_some_iff.1 hM).1]
      · rfl
    rw [hM'] at h
    refine wp_run ?_ (h w hS)
    simp at hfc
    obtain ⟨_, p, cap, rfl, _⟩ := hR
    rcases (hS.vec hM).2 with ⟨rfl, _⟩ | ⟨g, cap', _, _, rfl, _⟩
    · simp [execOp, ho, resolve, invoke, builtin, hd, hs, cutSl, Builtin.copy_, run_underlying ht, Builtin.lenOf, sizeOf, typeInfo, hti, hfc, goInt, hmin]
    · simp only [cutSl] at hd
      by_cases hc : cap' = lo
      · simp only [hc, if_true] at hd
        simp [execOp, ho, resolve, invoke, builtin, hd, hs, Builtin.copy_, run_underlying ht, Builtin.lenOf, sizeOf, typeInfo, hti, hfc, goInt, storeCells, hmin]
      · simp only [hc, if_false, Option.map_some] at hd
        simp [execOp, ho, resolve, invoke, builtin, hd, hs, Builtin.copy_, run_underlying ht, Builtin.lenOf, sizeOf, typeInfo, hti, hfc, goInt, storeCells, hmin]
  · rcases hS.vec hM with ⟨e1, ⟨rfl, rfl⟩ | ⟨g, cap, rest', fr, rfl, hh, e2, e3, e4, e5⟩⟩
    · omega
    · have hcl : ¬ cap = lo := by omega
      simp only [cutSl, hcl, if_false, Option.map_some, add_lit, Nat.zero_add] at hd
      have hle2 : dl * ti.size ≤ cap * ti.size := Nat.mul_le_mul_right _ e2
      obtain ⟨w', r1, r2, r3⟩ := run_storeCells_nf (P := P) g (lo * ti.size) e' fr (xs.take (m * ti.size)) 0 (ds ++ rest') w hh (by rw [hxl]; simp only [List.length_append]; omega) (by intro j hj; rw [hxl] at hj; exact e5 _ (by omega)) (fun v hv => h1 v (List.mem_of_mem_take hv))
      rw [hxl] at r2
      have hcat : (ds ++ rest').take (lo * ti.size + 0) ++ xs.take (m * ti.size) ++ (ds ++ rest').drop (lo * ti.size + 0 + m * ti.size) = ds' ++ rest' := by
        subst hds
        simp only [Nat.add_zero]
        rw [List.take_append_of_le_length (by omega), List.drop_append_of_le_length (by omega)]
        simp
      rw [hcat] at r2
      have hl : ds'.length = ds.length := by subst hds; simp only [List.length_append, hxl, List.length_take, List.length_drop]; omega
      refine wp_run ?_ (h w' (hS.chgVec i hM (by simpa [Value.ownBlock] using r3) (v' := .slice (some ⟨g, 0, none⟩) dl cap) ?_ (fun _ hy => .inl hy)))
      · obtain ⟨_, p, cap', rfl, _⟩ := hR
        simp [execOp, ho, resolve, invoke, builtin, hd, hs, Builtin.copy_, run_underlying ht, Builtin.lenOf, sizeOf, typeInfo, hti, hmin, hfc, r1, goInt]
      · exact ⟨by omega, .inr ⟨g, cap, rest', fr, rfl, r2, e2, e3, by simp only [List.length_append] at e4 ⊢; omega, e5⟩⟩
  
/-- x[:h] of an array that a pointer leads to. -/
theorem x_cutArr {x hi : Operand} {t : TypeId} (ho : o.op = .slice t x none (some hi) none) {p : Addr} (hx : a.eval x = .pointer (some p)) {h : Int} (hh : a.eval hi = .int .i64 h) {n : Nat} {e : TypeId} (ht : P.underlying t = some (.array n e)) {ti : TypeInfo} (he : P.info? e = some ti) (h0 : 0 ≤ h) (h1 : h ≤ n) :
    (execOp a.eval o).run P w = .ok (.value (.slice (some p) h.toNat n)) w := by
  obtain ⟨h, rfl⟩ := Int.eq_ofNat_of_zero_le h0
  have h2 : h ≤ n := by omega
  simp [execOp, ho, hx, hh, Instr.sliceAt, run_underlying ht, Instr.sureAddr, Instr.sliceBounds, Instr.sliceBound, asIntOf, h2, sizeOf, typeInfo, he, Addr.add]

/-- v[:n:n], n its length. -/
theorem wp_clip (hS : St S w0 w M) {t : TypeId} {x hi mx : Operand} (ho : o.op = .slice t x none (some hi) (some mx)) (i : Nat) {v : Value} {e : TypeId} {k n : Nat} {xs : List Value} (hM : M[i]? = some (.vec v e k n xs)) (hx : a.eval x = v) (hh : a.eval hi = .int .i64 (n : Int)) (hm : a.eval mx = .int .i64 (n : Int))
    {e' : TypeId} (ht : P.underlying t = some (.slice e')) {ti : TypeInfo} (hti : P.info? e' = some ti)
    (h : ∀ v' , St S w0 w (M.set i (.vec v' e k n xs)) → K (a.put o.dst v') w) : o.wp P a w K Q := by
  rcases hS.vec hM with ⟨e1, ⟨rfl, rfl⟩ | ⟨g, cap, rest', fr, rfl, hh', e2, e3, e4, e5⟩⟩
  · refine wp_run (v := .slice none 0 0) ?_ (h (.slice none 0 0) (hS.chgVec i hM (Mod.refl _ _) (v' := .slice none 0 0) (n' := 0) ⟨e1, .inl ⟨rfl, rfl⟩⟩ (by simp [Value.ownBlock])))
    simp at hh hm
    simp [execOp, ho, hx, hh, hm, not_array ht, Instr.slice, run_underlying ht, Instr.sliceBounds, Instr.sliceBound, asIntOf, sizeOf, typeInfo, hti]
  · refine wp_run (v := .slice (some ⟨g, 0, none⟩) n n) ?_ (h (.slice (some ⟨g, 0, none⟩) n n) (hS.chgVec i hM (Mod.refl _ _) (v' := .slice (some ⟨g, 0, none⟩) n n) ?_ (fun _ hy => .inl hy)))
    · simp [execOp, ho, hx, hh, hm, not_array ht, Instr.slice, run_underlying ht, Instr.sliceBounds, Instr.sliceBound, asIntOf, e2, sizeOf, typeInfo, hti, Addr.add]
    · have := Nat.mul_le_mul_right k e2
      exact ⟨e1, .inr ⟨g, n, rest', fr, rfl, hh', Nat.le_refl _, by omega, by omega, fun j hj => e5 j (by omega)⟩⟩

/-- x[i] of an array that is a value. -/
theorem x_indexA {t : TypeId} {x i : Operand} (ho : o.op = .index t x i) {cs : List Value} (hx : a.eval x = .agg cs.toArray) {j : Int} {ik : IntKind} (hi : a.eval i = .int ik j) {n : Nat} {e : TypeId} (ht : P.underlying t = some (.array n e)) {d : TypeDesc} (hd : P.underlying e = some d) (hn : (match d with | .struct _ | .array _ _ => true | _ => false) = false)
    {ti : TypeInfo} (he : P.info? e = some ti) (hk : ti.size = 1) (h0 : 0 ≤ j) (hj : j < n) {v : Value} (hv : cs[j.toNat]? = some v) : (execOp a.eval o).run P w = .ok (.value v) w := by
  have ha : (isAgg e).run P w = .ok false w := by
    unfold isAgg
    rw [Sem.run_bind, run_underlying hd w]
    cases d <;> simp_all
  have hb : (0 ≤ j ∧ j < (n : Int)) := ⟨h0, hj⟩
  simp [execOp, ho, hx, hi, Instr.index, asIntOf, run_underlying ht, hb, sizeOf, typeInfo, he, hk, part, ha, hv]

theorem parts2 {v0 v1 : Value} {l0 l1 : List UInt8} (h0 : Rd w 1 v0 l0.length (B l0)) (h1 : Rd w 1 v1 l1.length (B l1)) : ∀ (i : Nat) v l, [v0, v1][i]? = some v → [l0, l1][i]? = some l → Rd w 1 v l.length (B l) := by
  intro i v l hv hl
  match i with
  | 0 => simp at hv hl; subst hv; subst hl; exact h0
  | 1 => simp at hv hl; subst hv; subst hl; exact h1
  | i + 2 => simp at hv
theorem parts3 {v0 v1 v2 : Value} {l0 l1 l2 : List UInt8} (h0 : Rd w 1 v0 l0.length (B l0)) (h1 : Rd w 1 v1 l1.length (B l1)) (h2 : Rd w 1 v2 l2.length (B l2)) : ∀ (i : Nat) v l, [v0, v1, v2][i]? = some v → [l0, l1, l2][i]? = some l → Rd w 1 v l.length (B l) := by
  intro i v l hv hl
  match i with
  | 0 => simp at hv hl; subst hv; subst hl; exact h0
  | 1 => simp at hv hl; subst hv; subst hl; exact h1
  | 2 => simp at hv hl; subst hv; subst hl; exact h2
  | i + 3 => simp at hv

/-! ### Calls -/

/-- A contract's end, for a function that changes nothing that was there: it hands back v, and the entries B are new. -/
def Makes (w : World) (B : List Ent) (v : Value) (e : Ending) (w' : World) : Prop := e = .returned v ∧ St [] w w' B
end
end Go.Cmp
namespace Go.Cmp
open Go.RowKit
section
variable {P : Program} {ops : Array Oper} {rest : List Oper} {o : Oper} {a : Act} {K : Act → World → Prop} {Q : Exit → Act → World → Prop} {w w0 : World} {S : List Nat} {M : List Ent}
theorem wif {E : Prop} (hw : Region.wanted o (yielded ops a.tmps) = true) (h : Oper.wp P o a w K Q) : if Region.wanted o (yielded ops a.tmps) = true then Oper.wp P o a w K Q else E := by
  rw [if_pos hw]; exact h
/-- A load of one cell at an address that is known. -/
theorem x_loadC {t : TypeId} {x : Operand} (ho : o.op = .load t x) {p : Addr} (hx : a.eval x = .pointer (some p)) {d : TypeDesc} (hd : P.underlying t = some d) (hn : (match d with | .struct _ | .array _ _ => true | _ => false) = false) {v : Value} (hc : w.cell? p = some v) : (execOp a.eval o).run P w = .ok (.value v) w := by
  have := run_load1 (P := P) (w := w) hd hn hc
  simp [execOp, ho, hx, Instr.loadAt, Instr.sureAddr, this]
theorem wod_of {i d : Nat} (hi : ops[i]? = some o) (hd : o.dst = some d) (hw : Region.wanted o (yielded ops a.tmps) = true) (h : Oper.wp P ⟨some d, o.op, o.type, o.pos, o.after, o.guard⟩ a w K Q) : wpOp P ops Q i K a w := by
  refine wo_of hi hw ?_
  have e : (⟨some d, o.op, o.type, o.pos, o.after, o.guard⟩ : Oper) = o := by rw [← hd]
  rwa [e] at h
theorem won_of {i : Nat} (hi : ops[i]? = some o) (hd : o.dst = none) (hw : Region.wanted o (yielded ops a.tmps) = true) (h : Oper.wp P ⟨none, o.op, o.type, o.pos, o.after, o.guard⟩ a w K Q) : wpOp P ops Q i K a w := by
  refine wo_of hi hw ?_
  have e : (⟨none, o.op, o.type, o.pos, o.after, o.guard⟩ : Oper) = o := by rw [← hd]
  rwa [e] at h
/-- A byte of a string. -/
theorem x_strIndex {t : TypeId} {x i : Operand} (ho : o.op = .index t x i) {l : List UInt8} (hx : a.eval x = .string ⟨l.toArray⟩) {j : Int} {ik : IntKind} (hi : a.eval i = .int ik j) (ht : P.underlying t = some .string) (h0 : 0 ≤ j) (hj : j < l.length) : (execOp a.eval o).run P w = .ok (.value (.int .u8 ((l.getD j.toNat 0).toNat : Int))) w := by
  obtain ⟨j, rfl⟩ := Int.eq_ofNat_of_zero_le h0
  have hlt : j < l.length := by omega
  have hb : (⟨l.toArray⟩ : ByteArray)[j]? = some l[j] := by
    rw [getElem?_pos (⟨l.toArray⟩ : ByteArray) j (by simpa [ByteArray.size] using hlt)]
    rfl
  simp [execOp, ho, hx, hi, Instr.index, asIntOf, run_underlying ht, hb, List.getD, hlt]
theorem whd_take {md : Region.Mode} {C : World → Prop} (i : Nat) {d : Nat} {fuel : Nat} {listed : Array Bool} {v : Value} (hi : ops[i]? = some o) (hd : o.dst = some d) (hs : Region.noSelect ops = true) (hf : Region.free md ops listed i = true) (hr : (Region.ready md ops listed).contains i = true)
    (hQ : ∀ c a w, Q (.panic c) (a.put o.dst v) w → Q (.panic c) a w) (hw : Region.wanted o (yielded ops a.tmps) = true) (hy : ∀ w, C w → (execOp a.eval o).run P w = .ok (.value v) w) (hC : C w)
    (h : wpAnyH P md ops Q C fuel (listed.setIfInBounds i true) (a.put (some d) v) w) : wpAnyH P md ops Q C (fuel + 1) listed a w :=
  wh_take i hi hs hf hr hQ hw hy hC (by rw [hd]; exact h)
theorem whd_skip {md : Region.Mode} {C : World → Prop} (i : Nat) {d : Nat} {fuel : Nat} {listed : Array Bool} (hi : ops[i]? = some o) (hd : o.dst = some d) (hs : Region.noSelect ops = true) (hf : Region.free md ops listed i = true) (hr : (Region.ready md ops listed).contains i = true)
    (hQ : ∀ c a w, Q (.panic c) (a.put o.dst undef) w → Q (.panic c) a w) (hw : Region.wanted o (yielded ops a.tmps) = false) (hC : C w)
    (h : wpAnyH P md ops Q C fuel (listed.setIfInBounds i true) (a.put (some d) undef) w) : wpAnyH P md ops Q C (fuel + 1) listed a w :=
  wh_skip i hi hs hf hr hQ hw hC (by rw [hd]; exact h)
theorem bx (r : List UInt8) (a b : Nat) : (⟨r.toArray⟩ : ByteArray).extract a b = ⟨((r.take b).drop a).toArray⟩ := by
  apply ByteArray.ext
  rw [ByteArray.data_extract]
  apply Array.ext'
  simp [List.drop_take]
theorem set_fold : ∀ (cs : List Value) (k : Nat) (cells : Array Value), k + cs.length = cells.size →
    ((cs.zipIdx k).foldl (fun (a : Array Value) (x : Value × Nat) => a.setIfInBounds (0 + x.2) x.1) cells) = (cells.toList.take k ++ cs).toArray
  | [], k, cells, h => by
    simp only [List.length_nil, Nat.add_zero] at h
    subst h
    have : List.take cells.size cells.toList = cells.toList := List.take_of_length_le (by simp)
    simp [this]
  | v :: cs, k, cells, h => by
    simp only [List.length_cons] at h
    have hlt : k < cells.size := by omega
    simp only [List.zipIdx_cons, List.foldl_cons, Nat.zero_add]
    have := set_fold cs (k + 1) (cells.setIfInBounds k v) (by simp; omega)
    simp only [Nat.zero_add] at this
    rw [this]
    congr 1
    simp only [Array.toList_setIfInBounds]
    rw [List.take_succ_eq_append_getElem (by simpa using hlt), List.take_set, List.set_eq_of_length_le (by simp; omega)]
    simp
theorem fill_one (k : Nat) (v : Value) (cs : List Value) (hv : v.cells = cs.toArray) (hl : cs.length = k) (cells : Array Value) (hc : cells.size = k) : Instr.fill (fun i => some (i * k, k)) cells [(0, v)] = some cs.toArray := by
  have hf := set_fold cs 0 cells (by omega)
  simp only [Instr.fill, Nat.zero_mul, hv, List.size_toArray, hl]
  rw [if_neg (by simp; omega)]
  have e : cs.toArray.zipIdx = (cs.zipIdx).toArray := by apply Array.ext'; simp
  rw [e, List.size_toArray]
  have e2 : ∀ (f : Array Value → Value × Nat → Array Value) (b : Array Value) (l : List (Value × Nat)), Array.foldl f b l.toArray 0 l.length = l.foldl f b := fun f b l => by simp
  rw [e2, hf]
  simp
/-- '[]T{x}'. -/
theorem wp_build1 {v : Value} {cs : List Value} (hS : St S w0 w M) {t : TypeId} {x : Operand} (ho : o.op = .buildSlice t 1 #[(0, x)]) (hx : a.eval x = v) (hv : v.cells = cs.toArray) {e : TypeId} (ht : P.underlying t = some (.slice e)) {ti : TypeInfo} (hi : P.info? e = some ti) {k : Nat} (hk : ti.size = k) (hl : cs.length = k) (hk2 : k ≤ 16777216) (hz : ti.zero.isSome = true)
    (h : ∀ v w', St S w0 w' (.vec v e k 1 cs :: M) → K (a.put o.dst v) w') : o.wp P a w K Q := by
  obtain ⟨z, hz⟩ := Option.isSome_iff_exists.1 hz
  refine wp_buildSlice hS ho ht hi hk (cs := cs) ?_ (by omega) (by omega) (by omega) h
  unfold buildCells
  rw [hz]
  have := fill_one k v cs hv hl ((Array.range (1 * k)).map ((if 1 * k = 0 then #[] else z.cells)[· % (if 1 * k = 0 then #[] else z.cells).size]!)) (by simp)
  simp only [List.map_cons, List.map_nil, hx] at this ⊢
  rw [this]
  simp
/-- The end of a function whose one result is a struct in memory. -/
theorem end_cell (hS : St S w0 w M) {fn : Func} {R : Ending → World → Prop} {p : Tmp} {ty : TypeId} (hr : fn.results = #[.cell p ty]) {g : Nat} (hp : a.tmps.getD p undef = .pointer (some ⟨g, 0, none⟩)) (i : Nat) {cs : List Value} {e : TypeId} {fr : Nat × Nat} (hM : M[i]? = some (.row g cs e fr)) {d : TypeDesc} (hu : P.underlying ty = some d) (hd : (match d with | .struct _ | .array _ _ => true | _ => false) = true)
    (hi : (P.info? ty).map (·.size) = some cs.length) (hdf : a.defers = []) (h : R (.returned (.agg cs.toArray)) w) : bodyPost P fn R .ret a w :=
  bodyPost_ret (v := .agg cs.toArray) (results_cell_row hr a.tmps w g e cs.toArray fr d hp (hS.row hM) hu hd (by simpa using hi)) hdf h
theorem drew_mod (w : World) : Mod [] w w.drew := (Mod.refl _ _).drew
end
end Go.Cmp
namespace Go.Cmp
open Go.RowKit

/-- A goal at which the walk is to stop. -/
def Stop (G : Prop) : Prop := G
theorem Stop.mk {G : Prop} (h : Stop G) : G := h

/-- Entry i of M is m. -/
inductive Ix : List Ent → Nat → Ent → Prop
  | here {m : Ent} {M : List Ent} : Ix (m :: M) 0 m
  | there {x m : Ent} {M : List Ent} {i : Nat} (h : Ix M i m) : Ix (x :: M) (i + 1) m
theorem Ix.get {M : List Ent} {i : Nat} {m : Ent} (h : Ix M i m) : M[i]? = some m := by
  induction h with
  | here => rfl
  | there _ ih => simpa using ih
/-- M' is M, but for an m that is m' there. -/
inductive Sw : List Ent → Ent → Ent → List Ent → Prop
  | here {m m' : Ent} {M : List Ent} : Sw (m :: M) m m' (m' :: M)
  | there {x m m' : Ent} {M M' : List Ent} (h : Sw M m m' M') : Sw (x :: M) m m' (x :: M')
theorem Sw.set {M M' : List Ent} {m m' : Ent} (h : Sw M m m' M') : ∃ i, M[i]? = some m ∧ M.set i m' = M' := by
  induction h with
  | here => exact ⟨0, rfl, rfl⟩
  | there _ ih =>
    obtain ⟨i, h1, h2⟩ := ih
    exact ⟨i + 1, by simpa using h1, by simp [h2]⟩
/-- m taken out of M leaves M'. -/
inductive Out : List Ent → Ent → List Ent → Prop
  | here {m : Ent} {M : List Ent} : Out (m :: M) m M
  | there {x m : Ent} {M M' : List Ent} (h : Out M m M') : Out (x :: M) m (x :: M')
theorem Out.perm {M M' : List Ent} {m : Ent} (h : Out M m M') : M.Perm (m :: M') := by
  induction h with
  | here => exact List.Perm.refl _
  | there _ ih => exact (ih.cons _).trans (List.Perm.swap _ _ _)
theorem St.out {S : List Nat} {w0 w : World} {M M' : List Ent} {m : Ent} (h : St S w0 w M) (o : Out M m M') : St S w0 w (m :: M') := h.perm o.perm
/-- N is taken out of M. -/
inductive Sel : List Ent → List Ent → Prop
  | refl {M : List Ent} : Sel M M
  | nil {M : List Ent} : Sel M []
  | cons {m : Ent} {M M' N : List Ent} (o : Out M m M') (h : Sel M' N) : Sel M (m :: N)
  | drop {x : Ent} {M N : List Ent} (h : Sel M N) : Sel (x :: M) N
theorem St.sel {S : List Nat} {w0 w : World} {M N : List Ent} (h : St S w0 w M) (p : Sel M N) : St S w0 w N := by
  have key : ∃ K, M.Perm K ∧ N.Sublist K := by
    clear h
    induction p with
    | refl => exact ⟨_, List.Perm.refl _, List.Sublist.refl _⟩
    | nil => exact ⟨_, List.Perm.refl _, List.nil_sublist _⟩
    | cons o _ ih =>
      obtain ⟨K, p, q⟩ := ih
      exact ⟨_, o.perm.trans (p.cons _), q.cons_cons _⟩
    | drop _ ih =>
      obtain ⟨K, p, q⟩ := ih
      exact ⟨_, p.cons _, q.cons _⟩
  obtain ⟨K, p, q⟩ := key
  exact (h.perm p).sub q
theorem St.cast {S : List Nat} {w0 w : World} {M N : List Ent} (h : St S w0 w M) (e : M = N) : St S w0 w N := e ▸ h
theorem St.rdx {S : List Nat} {w0 w : World} {M : List Ent} (h : St S w0 w M) {i : Nat} {v : Value} {e : TypeId} {k n : Nat} {xs : List Value} (hi : Ix M i (.vec v e k n xs)) : Rd w k v n xs := h.rdv hi.get

/-! ### Slices of things -/

theorem flat_len {α : Type} {f : α → List Value} {k : Nat} (hf : ∀ x, (f x).length = k) : ∀ L : List α, (L.flatMap f).length = L.length * k
  | [] => by simp
  | x :: L => by rw [List.flatMap_cons, List.length_append, hf, flat_len hf L, List.length_cons, Nat.add_mul]; omega
theorem flat_drop {α : Type} {f : α → List Value} {k : Nat} (hf : ∀ x, (f x).length = k) : ∀ (L : List α) (j : Nat), (L.flatMap f).drop (j * k) = (L.drop j).flatMap f
  | L, 0 => by simp
  | [], j + 1 => by simp
  | x :: L, j + 1 => by
    rw [List.drop_succ_cons, ← flat_drop hf L j, List.flatMap_cons, Nat.succ_mul, Nat.add_comm, ← hf x, List.drop_append, List.drop_eq_nil_of_le (by omega), List.nil_append]
    congr 1
    omega
theorem flat_take {α : Type} {f : α → List Value} {k : Nat} (hf : ∀ x, (f x).length = k) : ∀ (L : List α) (j : Nat), (L.flatMap f).take (j * k) = (L.take j).flatMap f
  | L, 0 => by simp
  | [], j + 1 => by simp
  | x :: L, j + 1 => by
    rw [List.take_succ_cons, List.flatMap_cons, List.flatMap_cons, ← flat_take hf L j, Nat.succ_mul, Nat.add_comm, ← hf x, List.take_length_add_append]
theorem flat_seg {α : Type} {f : α → List Value} {k : Nat} (hf : ∀ x, (f x).length = k) (L : List α) (j : Nat) (x : α) (hx : L[j]? = some x) : ((L.flatMap f).drop (j * k)).take k = f x := by
  rw [flat_drop hf]
  obtain ⟨hlt, e⟩ := List.getElem?_eq_some_iff.1 hx
  rw [List.drop_eq_getElem_cons hlt, List.flatMap_cons, e, List.take_append_of_le_length (by rw [hf]; exact Nat.le_refl _), List.take_of_length_le (by rw [hf]; exact Nat.le_refl _)]
theorem flat_get {α : Type} {f : α → List Value} {k : Nat} (hf : ∀ x, (f x).length = k) (L : List α) (j : Nat) (x : α) (hx : L[j]? = some x) (d : Nat) (u : Value) (hu : (f x)[d]? = some u) : (L.flatMap f)[j * k + d]? = some u := by
  have h := flat_seg hf L j x hx
  have hd : d < k := by have := (List.getElem?_eq_some_iff.1 hu).1; rw [hf] at this; exact this
  rw [← h, List.getElem?_take_of_lt hd, List.getElem?_drop] at hu
  exact hu
theorem flat_set {α : Type} {f : α → List Value} {k : Nat} (hf : ∀ x, (f x).length = k) (L : List α) (j : Nat) (y : α) (hj : j < L.length) : (L.flatMap f).take (j * k) ++ f y ++ (L.flatMap f).drop (j * k + k) = (L.set j y).flatMap f := by
  rw [flat_take hf, show j * k + k = (j + 1) * k by rw [Nat.add_mul, Nat.one_mul], flat_drop hf, List.set_eq_take_append_cons_drop, if_pos hj]
  simp
theorem flat_setd {α : Type} {f : α → List Value} {k : Nat} (hf : ∀ x, (f x).length = k) (L : List α) (j : Nat) (x y : α) (hx : L[j]? = some x) (d : Nat) (u : Value) (hd : d < k) (hy : f y = (f x).set d u) :
    (L.flatMap f).take (j * k + d) ++ [u] ++ (L.flatMap f).drop (j * k + d + 1) = (L.set j y).flatMap f := by
  obtain ⟨hlt, e⟩ := List.getElem?_eq_some_iff.1 hx
  rw [← flat_set hf L j y hlt, hy, List.set_eq_take_append_cons_drop, if_pos (by rw [hf]; exact hd)]
  have h := flat_seg hf L j x hx
  rw [List.take_add, List.append_assoc, List.append_assoc, List.append_assoc]
  congr 1
  have h1 : (f x).take d = ((L.flatMap f).drop (j * k)).take d := by rw [← h, List.take_take, Nat.min_eq_left (by omega)]
  have h2 : (L.flatMap f).drop (j * k + d + 1) = (f x).drop (d + 1) ++ (L.flatMap f).drop (j * k + k) := by
    rw [← h, List.drop_take]
    have e0 : (L.flatMap f).drop (j * k + d + 1) = ((L.flatMap f).drop (j * k)).drop (d + 1) := by rw [List.drop_drop, Nat.add_assoc]
    have e1 : (L.flatMap f).drop (j * k + k) = (((L.flatMap f).drop (j * k)).drop (d + 1)).drop (k - (d + 1)) := by
      rw [List.drop_drop, List.drop_drop]; congr 1; omega
    rw [e0, e1, List.take_append_drop]
  rw [h1, h2]
  simp
def nth {α : Type} [Inhabited α] (L : List α) (j : Nat) : α := L.getD j default
theorem get_lt {α : Type} [Inhabited α] {L : List α} {j : Nat} (h : j < L.length) : L[j]? = some (nth L j) := by
  unfold nth
  rw [List.getD_eq_getElem?_getD, List.getElem?_eq_getElem h]
  rfl
theorem nth_eq {α : Type} [Inhabited α] {L : List α} {j : Nat} {x : α} (h : L[j]? = some x) : nth L j = x := by
  unfold nth
  rw [List.getD_eq_getElem?_getD, h]
  rfl
theorem nth_mem {α : Type} [Inhabited α] {L : List α} {j : Nat} (h : j < L.length) : nth L j ∈ L := List.mem_of_getElem? (get_lt h)
theorem nth_set {α : Type} [Inhabited α] {L : List α} {i j : Nat} {x : α} : nth (L.set i x) j = if i = j ∧ i < L.length then x else nth L j := by
  unfold nth
  rw [List.getD_eq_getElem?_getD, List.getD_eq_getElem?_getD, List.getElem?_set]
  by_cases h : i = j
  · subst h
    by_cases h2 : i < L.length
    · simp [h2]
    · simp [h2]
  · simp [h]
theorem nth_append {α : Type} [Inhabited α] {L K : List α} {j : Nat} : nth (L ++ K) j = if j < L.length then nth L j else nth K (j - L.length) := by
  unfold nth
  rw [List.getD_eq_getElem?_getD, List.getD_eq_getElem?_getD, List.getD_eq_getElem?_getD, List.getElem?_append]
  split <;> rfl
theorem nth_ext {α : Type} [Inhabited α] {L K : List α} (h : L.length = K.length) (h2 : ∀ j, j < L.length → nth L j = nth K j) : L = K := by
  apply List.ext_getElem?
  intro j
  by_cases hj : j < L.length
  · rw [get_lt hj, get_lt (by omega), h2 j hj]
  · rw [List.getElem?_eq_none (by omega), List.getElem?_eq_none (by omega)]

section
variable {P : Program} {ops : Array Oper} {rest : List Oper} {o : Oper} {a : Act} {K : Act → World → Prop} {Q : Exit → Act → World → Prop} {w w0 : World} {S : List Nat} {M M' : List Ent}

theorem g_xor {d : Option Tmp} {ty : TypeId} {pos : String} {af : Array Edge} {gd : Option (Nat × Bool)} {t u : TypeId} {x y : Operand} (H : wpList P ops Q (⟨d, .binOp .xor t x y u, ty, pos, af, gd⟩ :: rest) a w) : wpList P ops Q (⟨d, .binOp .xor t x y u, ty, pos, af, gd⟩ :: rest) a w := H
section
variable {Ks : Act → Prop}
theorem s_alloc {d : Option Tmp} {ty : TypeId} {pos : String} {af : Array Edge} {gd : Option (Nat × Bool)} {e : TypeId} (H : wpStill P ops w Ks (⟨d, .alloc e, ty, pos, af, gd⟩ :: rest) a) : wpStill P ops w Ks (⟨d, .alloc e, ty, pos, af, gd⟩ :: rest) a := H
theorem s_box {d : Option Tmp} {ty : TypeId} {pos : String} {af : Array Edge} {gd : Option (Nat × Bool)} {e : TypeId} {v : Operand} (H : wpStill P ops w Ks (⟨d, .box e v, ty, pos, af, gd⟩ :: rest) a) : wpStill P ops w Ks (⟨d, .box e v, ty, pos, af, gd⟩ :: rest) a := H
theorem s_load {d : Option Tmp} {ty : TypeId} {pos : String} {af : Array Edge} {gd : Option (Nat × Bool)} {t : TypeId} {x : Operand} (H : wpStill P ops w Ks (⟨d, .load t x, ty, pos, af, gd⟩ :: rest) a) : wpStill P ops w Ks (⟨d, .load t x, ty, pos, af, gd⟩ :: rest) a := H
theorem s_store {d : Option Tmp} {ty : TypeId} {pos : String} {af : Array Edge} {gd : Option (Nat × Bool)} {t : TypeId} {x : Operand} {y : Operand} (H : wpStill P ops w Ks (⟨d, .store t x y, ty, pos, af, gd⟩ :: rest) a) : wpStill P ops w Ks (⟨d, .store t x y, ty, pos, af, gd⟩ :: rest) a := H
theorem s_index {d : Option Tmp} {ty : TypeId} {pos : String} {af : Array Edge} {gd : Option (Nat × Bool)} {t : TypeId} {x : Operand} {y : Operand} (H : wpStill P ops w Ks (⟨d, .indexAddr t x y, ty, pos, af, gd⟩ :: rest) a) : wpStill P ops w Ks (⟨d, .indexAddr t x y, ty, pos, af, gd⟩ :: rest) a := H
theorem s_indexV {d : Option Tmp} {ty : TypeId} {pos : String} {af : Array Edge} {gd : Option (Nat × Bool)} {t : TypeId} {x : Operand} {y : Operand} (H : wpStill P ops w Ks (⟨d, .index t x y, ty, pos, af, gd⟩ :: rest) a) : wpStill P ops w Ks (⟨d, .index t x y, ty, pos, af, gd⟩ :: rest) a := H
theorem s_bs {d : Option Tmp} {ty : TypeId} {pos : String} {af : Array Edge} {gd : Option (Nat × Bool)} {t : TypeId} {n : Nat} {ps : Array (Nat × Operand)} (H : wpStill P ops w Ks (⟨d, .buildSlice t n ps, ty, pos, af, gd⟩ :: rest) a) : wpStill P ops w Ks (⟨d, .buildSlice t n ps, ty, pos, af, gd⟩ :: rest) a := H
theorem s_len {d : Option Tmp} {ty : TypeId} {pos : String} {af : Array Edge} {gd : Option (Nat × Bool)} {as' : Array Operand} {ts : Array TypeId} (H : wpStill P ops w Ks (⟨d, .call ⟨.builtin .len, as', ts⟩, ty, pos, af, gd⟩ :: rest) a) : wpStill P ops w Ks (⟨d, .call ⟨.builtin .len, as', ts⟩, ty, pos, af, gd⟩ :: rest) a := H
theorem s_append {d : Option Tmp} {ty : TypeId} {pos : String} {af : Array Edge} {gd : Option (Nat × Bool)} {as' : Array Operand} {ts : Array TypeId} (H : wpStill P ops w Ks (⟨d, .call ⟨.builtin .append, as', ts⟩, ty, pos, af, gd⟩ :: rest) a) : wpStill P ops w Ks (⟨d, .call ⟨.builtin .append, as', ts⟩, ty, pos, af, gd⟩ :: rest) a := H
theorem s_copy {d : Option Tmp} {ty : TypeId} {pos : String} {af : Array Edge} {gd : Option (Nat × Bool)} {as' : Array Operand} {ts : Array TypeId} (H : wpStill P ops w Ks (⟨d, .call ⟨.builtin .copy, as', ts⟩, ty, pos, af, gd⟩ :: rest) a) : wpStill P ops w Ks (⟨d, .call ⟨.builtin .copy, as', ts⟩, ty, pos, af, gd⟩ :: rest) a := H
theorem s_call {d : Option Tmp} {ty : TypeId} {pos : String} {af : Array Edge} {gd : Option (Nat × Bool)} {f : Operand} {as' : Array Operand} {ts : Array TypeId} (H : wpStill P ops w Ks (⟨d, .call ⟨.value f, as', ts⟩, ty, pos, af, gd⟩ :: rest) a) : wpStill P ops w Ks (⟨d, .call ⟨.value f, as', ts⟩, ty, pos, af, gd⟩ :: rest) a := H
theorem s_cut {d : Option Tmp} {ty : TypeId} {pos : String} {af : Array Edge} {gd : Option (Nat × Bool)} {t : TypeId} {x : Operand} {l : Option Operand} {h : Option Operand} {m : Option Operand} (H : wpStill P ops w Ks (⟨d, .slice t x l h m, ty, pos, af, gd⟩ :: rest) a) : wpStill P ops w Ks (⟨d, .slice t x l h m, ty, pos, af, gd⟩ :: rest) a := H
theorem s_conv {d : Option Tmp} {ty : TypeId} {pos : String} {af : Array Edge} {gd : Option (Nat × Bool)} {t : TypeId} {u : TypeId} {x : Operand} (H : wpStill P ops w Ks (⟨d, .convert t u x, ty, pos, af, gd⟩ :: rest) a) : wpStill P ops w Ks (⟨d, .convert t u x, ty, pos, af, gd⟩ :: rest) a := H
theorem s_make {d : Option Tmp} {ty : TypeId} {pos : String} {af : Array Edge} {gd : Option (Nat × Bool)} {t : TypeId} {x : Operand} {y : Operand} (H : wpStill P ops w Ks (⟨d, .makeSlice t x y, ty, pos, af, gd⟩ :: rest) a) : wpStill P ops w Ks (⟨d, .makeSlice t x y, ty, pos, af, gd⟩ :: rest) a := H
theorem s_field {d : Option Tmp} {ty : TypeId} {pos : String} {af : Array Edge} {gd : Option (Nat × Bool)} {t : TypeId} {x : Operand} {n : Nat} (H : wpStill P ops w Ks (⟨d, .fieldAddr t x n, ty, pos, af, gd⟩ :: rest) a) : wpStill P ops w Ks (⟨d, .fieldAddr t x n, ty, pos, af, gd⟩ :: rest) a := H
theorem s_bin {d : Option Tmp} {ty : TypeId} {pos : String} {af : Array Edge} {gd : Option (Nat × Bool)} {t u : TypeId} {x y : Operand} (H : wpStill P ops w Ks (⟨d, .binOp .add t x y u, ty, pos, af, gd⟩ :: rest) a) : wpStill P ops w Ks (⟨d, .binOp .add t x y u, ty, pos, af, gd⟩ :: rest) a := H
theorem g_bin {d : Option Tmp} {ty : TypeId} {pos : String} {af : Array Edge} {gd : Option (Nat × Bool)} {t u : TypeId} {x y : Operand} (H : wpList P ops Q (⟨d, .binOp .add t x y u, ty, pos, af, gd⟩ :: rest) a w) : wpList P ops Q (⟨d, .binOp .add t x y u, ty, pos, af, gd⟩ :: rest) a w := H
end

/-! ### Reads -/

theorem a_load1 (hS : St S w0 w M) {t : TypeId} {x : Operand} (ho : o.op = .load t x) {g off : Nat} (hx : a.eval x = .pointer (some ⟨g, off, none⟩))
    {d : TypeDesc} (hd : P.underlying t = some d) (hn : (match d with | .struct _ | .array _ _ => true | _ => false) = false) {i : Nat} {cs : List Value} {e : TypeId} {fr : Nat × Nat} (hM : Ix M i (.row g cs e fr))
    {v : Value} (hv : cs[off]? = some v) : (execOp a.eval o).run P w = .ok (.value v) w := x_load1 hS ho hx hd hn i hM.get hv
/-- A whole row, a struct. -/
theorem a_loadR (hS : St S w0 w M) {t : TypeId} {x : Operand} (ho : o.op = .load t x) {g : Nat} (hx : a.eval x = .pointer (some ⟨g, 0, none⟩))
    {d : TypeDesc} (hd : P.underlying t = some d) (hn : (match d with | .struct _ | .array _ _ => true | _ => false) = true) {i : Nat} {cs : List Value} {e : TypeId} {fr : Nat × Nat} (hM : Ix M i (.row g cs e fr))
    (hs : (P.info? t).map (·.size) = some cs.length) : (execOp a.eval o).run P w = .ok (.value (.agg cs.toArray)) w := by
  obtain ⟨ti, hi, hk⟩ := Option.map_eq_some_iff.1 hs
  exact x_loadA hS ho hx hd hn hi i hM.get (by rw [hk, List.drop_zero, List.take_length]) hk.symm
/-- A struct out of a row. -/
theorem a_loadA (hS : St S w0 w M) {t : TypeId} {x : Operand} (ho : o.op = .load t x) {g off : Nat} (hx : a.eval x = .pointer (some ⟨g, off, none⟩))
    {d : TypeDesc} (hd : P.underlying t = some d) (hn : (match d with | .struct _ | .array _ _ => true | _ => false) = true) {i : Nat} {cs : List Value} {e : TypeId} {fr : Nat × Nat} (hM : Ix M i (.row g cs e fr))
    (k : Nat) (hs : (P.info? t).map (·.size) = some k) {vs : List Value} (hv : (cs.drop off).take k = vs) (hl : vs.length = k) : (execOp a.eval o).run P w = .ok (.value (.agg vs.toArray)) w := by
  obtain ⟨ti, hi, hk⟩ := Option.map_eq_some_iff.1 hs
  exact x_loadA hS ho hx hd hn hi i hM.get (by rw [hk]; exact hv) (by rw [hk]; exact hl)
theorem a_loadE {t : TypeId} {x : Operand} (ho : o.op = .load t x) {v : Value} {α : Type} {f : α → List Value} {k : Nat} {L : List α} (hR : Rd w k v L.length (L.flatMap f)) {j : Nat} (hx : a.eval x = ptrAt v (j * k))
    {d : TypeDesc} (hd : P.underlying t = some d) (hn : (match d with | .struct _ | .array _ _ => true | _ => false) = false) (hf : ∀ x, (f x).length = k) {y : α} (hy : L[j]? = some y) {u : Value} (hu : (f y)[0]? = some u) : (execOp a.eval o).run P w = .ok (.value u) w :=
  x_loadS1 ho hR hx hd hn (flat_get hf L j y hy 0 u hu)
theorem a_loadF {t : TypeId} {x : Operand} (ho : o.op = .load t x) {v : Value} {α : Type} {f : α → List Value} {k : Nat} {L : List α} (hR : Rd w k v L.length (L.flatMap f)) {j c : Nat} (hx : a.eval x = ptrAt v (j * k + c))
    {d : TypeDesc} (hd : P.underlying t = some d) (hn : (match d with | .struct _ | .array _ _ => true | _ => false) = false) (hf : ∀ x, (f x).length = k) {y : α} (hy : L[j]? = some y) {u : Value} (hu : (f y)[c]? = some u) : (execOp a.eval o).run P w = .ok (.value u) w :=
  x_loadS1 ho hR hx hd hn (flat_get hf L j y hy c u hu)
/-- An element that is a struct. -/
theorem a_loadG {t : TypeId} {x : Operand} (ho : o.op = .load t x) {v : Value} {α : Type} {f : α → List Value} {k : Nat} {L : List α} (hR : Rd w k v L.length (L.flatMap f)) {j : Nat} (hx : a.eval x = ptrAt v (j * k))
    {d : TypeDesc} (hd : P.underlying t = some d) (hn : (match d with | .struct _ | .array _ _ => true | _ => false) = true) (hs : (P.info? t).map (·.size) = some k) (hf : ∀ x, (f x).length = k) {y : α} (hy : L[j]? = some y) {vs : List Value} (hv : f y = vs) : (execOp a.eval o).run P w = .ok (.value (.agg vs.toArray)) w := by
  obtain ⟨ti, hi, hk⟩ := Option.map_eq_some_iff.1 hs
  subst hv
  exact x_loadSA ho hR hx hd hn hi (by rw [hk]; exact flat_seg hf L j y hy) (by rw [hf, hk]) (by have := (List.getElem?_eq_some_iff.1 hy).1; omega)
theorem a_len {x : Operand} {t : TypeId} (ho : o.op = .call { callee := .builtin .len, args := #[x], argTypes := #[t] }) {u : Value} {k n : Nat} {xs : List Value} (hx : a.eval x = u) {e : TypeId} (ht : P.underlying t = some (.slice e)) (hR : Rd w k u n xs) : (execOp a.eval o).run P w = .ok (.value (.int .i64 (n : Int))) w := x_len ho hR hx ht
theorem a_index {x i : Operand} {t : TypeId} (ho : o.op = .indexAddr t x i) {u : Value} {k n : Nat} {xs : List Value} (hx : a.eval x = u) {j : Int} {ik : IntKind} (hi : a.eval i = .int ik j)
    {e : TypeId} (ht : P.underlying t = some (.slice e)) (hR : Rd w k u n xs) (hk : (P.info? e).map (·.size) = some k) (h0 : 0 ≤ j) (hj : j < n) : (execOp a.eval o).run P w = .ok (.value (ptrAt u (j.toNat * k))) w := by
  obtain ⟨ti, he, hk⟩ := Option.map_eq_some_iff.1 hk
  exact x_index ho hR hx hi ht he hk h0 hj
theorem a_indexW {x i : Operand} {t : TypeId} (ho : o.op = .indexAddr t x i) {u : Value} {k n : Nat} (hx : a.eval x = u) {j : Int} {ik : IntKind} (hi : a.eval i = .int ik j)
    {e : TypeId} (ht : P.underlying t = some (.slice e)) {w1 : World} {xs : List Value} (hR : Rd w1 k u n xs) (hk : (P.info? e).map (·.size) = some k) (h0 : 0 ≤ j) (hj : j < n) : (execOp a.eval o).run P w = .ok (.value (ptrAt u (j.toNat * k))) w := by
  obtain ⟨ti, he, hk⟩ := Option.map_eq_some_iff.1 hk
  subst hk
  obtain ⟨p, cap, rfl⟩ := hR.some (by omega)
  have hb : (0 ≤ j ∧ j < (n : Int)) := ⟨h0, hj⟩
  simp [execOp, ho, hx, hi, Instr.indexAt, asIntOf, run_underlying ht, sizeOf, typeInfo, he, ptrAt, hb]
theorem a_indexI (l : Nat) (hS : St S w0 w M) {x i : Operand} {t : TypeId} (ho : o.op = .indexAddr t x i) {u : Value} {k n : Nat} {xs : List Value} {e' : TypeId} (hM : M[l]? = some (.vec u e' k n xs)) (hx : a.eval x = u) {j : Int} {ik : IntKind} (hi : a.eval i = .int ik j)
    {e : TypeId} (ht : P.underlying t = some (.slice e)) (hk : (P.info? e).map (·.size) = some k) (h0 : 0 ≤ j) (hj : j < n) : (execOp a.eval o).run P w = .ok (.value (ptrAt u (j.toNat * k))) w :=
  a_index ho hx hi ht (hS.rdv hM) hk h0 hj
theorem a_field {t : TypeId} {x : Operand} {f : Nat} (ho : o.op = .fieldAddr t x f) {u : Value} {off : Nat} (hx : a.eval x = ptrAt u off) {k n : Nat} {xs : List Value} (hR : Rd w k u n xs) (h0 : 0 < n)
    {fields : Array Field} (hd : P.underlying t = some (.struct fields)) {fl : Field} (hf : fields[f]? = some fl) {d : Nat} (he : fl.offset = d) (hz : (P.info? fl.type).map (fun i => i.size == 0) = some false) : (execOp a.eval o).run P w = .ok (.value (ptrAt u (off + d))) w := by
  obtain ⟨p, cap, rfl⟩ := hR.some h0
  obtain ⟨ti, hi, hz⟩ := Option.map_eq_some_iff.1 hz
  subst he
  have hz' : ¬ ti.size = 0 := by simpa using hz
  simp [execOp, ho, hx, Instr.fieldAt, Instr.sureAddr, fieldPlace, run_underlying hd, ptrAt, hf, ← add_add, sizeOf, typeInfo, hi, hz']
theorem a_toString {src dst e : TypeId} {x : Operand} (ho : o.op = .convert src dst x) {u : Value} (hx : a.eval x = u) (hs : P.underlying src = some (.slice e)) (he : P.underlying e = some (.int .u8)) (hd : P.underlying dst = some .string)
    {l : List UInt8} {n : Nat} (hR : Rd w 1 u n (B l)) (hl : l.length = n) : (execOp a.eval o).run P w = .ok (.value (.string ⟨l.toArray⟩)) w := by
  subst hl; exact x_toString ho hs he hd hR hx
theorem a_concat {t r : TypeId} {x y : Operand} (ho : o.op = .binOp .add t x y r) {l m : List UInt8} (hx : a.eval x = .string ⟨l.toArray⟩) (hy : a.eval y = .string ⟨m.toArray⟩) (h : l.length + m.length ≤ 9223372036854775807) :
    (execOp a.eval o).run P w = .ok (.value (.string ⟨(l ++ m).toArray⟩)) w := by
  have hov : ¬ 9223372036854775807 < l.length + m.length := by omega
  have e : (⟨l.toArray⟩ : ByteArray) ++ ⟨m.toArray⟩ = ⟨(l ++ m).toArray⟩ := by
    apply ByteArray.ext
    simp [ByteArray.data_append]
  rw [← e]
  simp only [execOp, ho, hx, hy]
  go_simp

/-! ### Writes -/

theorem a_store1 (hS : St S w0 w M) {t : TypeId} {x y : Operand} (ho : o.op = .store t x y) {g off : Nat} (hx : a.eval x = .pointer (some ⟨g, off, none⟩)) {v : Value} (hy : a.eval y = v)
    (hvc : v.cells = #[v]) (h1 : v.oneCell' = true) (hs : (P.info? t).map (·.size) = some 1) {cs : List Value} {e : TypeId} {cs' : List Value} (hsw : Sw M (.row g cs e (0, 0)) (.row g cs' e (0, 0)) M') (hoff : off < cs.length) (hcs : cs.set off v = cs')
    (h : ∀ w', St S w0 w' M' → K (a.put o.dst undef) w') : o.wp P a w K Q := by
  obtain ⟨ti, hi, hk⟩ := Option.map_eq_some_iff.1 hs
  obtain ⟨i, hM, rfl⟩ := hsw.set
  refine wp_store1 hS ho hx hy hi (by rw [hvc]; exact hk.symm) i hM (by rw [hvc]; simp; omega) (fun j _ => nf0 _) (by rw [hvc]; simpa using h1) ?_ h
  rw [hvc, ← hcs, List.set_eq_take_append_cons_drop, if_pos hoff]
  simp
/-- A struct into a row. -/
theorem a_storeA (hS : St S w0 w M) {t : TypeId} {x y : Operand} (ho : o.op = .store t x y) {g off : Nat} (hx : a.eval x = .pointer (some ⟨g, off, none⟩)) {vs : List Value} (hy : a.eval y = .agg vs.toArray)
    (hs : (P.info? t).map (·.size) = some vs.length) (h1 : ∀ u ∈ vs, u.oneCell' = true) {cs : List Value} {e : TypeId} {cs' : List Value} (hsw : Sw M (.row g cs e (0, 0)) (.row g cs' e (0, 0)) M') (hoff : off + vs.length ≤ cs.length) (hcs : cs.take off ++ vs ++ cs.drop (off + vs.length) = cs')
    (h : ∀ w', St S w0 w' M' → K (a.put o.dst undef) w') : o.wp P a w K Q := by
  obtain ⟨ti, hi, hk⟩ := Option.map_eq_some_iff.1 hs
  obtain ⟨i, hM, rfl⟩ := hsw.set
  exact wp_store1 hS ho hx hy hi (by simpa [Value.cells] using hk.symm) i hM (by simpa [Value.cells] using hoff) (fun j _ => nf0 _) (by simpa [Value.cells] using h1) (by simpa [Value.cells] using hcs) h
/-- An element of one cell. -/
theorem a_storeE (hS : St S w0 w M) {t : TypeId} {x y : Operand} (ho : o.op = .store t x y) {u : Value} {j k : Nat} (hx : a.eval x = ptrAt u (j * k)) {v : Value} (hy : a.eval y = v)
    (hvc : v.cells = #[v]) (h1 : v.oneCell' = true) (hs : (P.info? t).map (·.size) = some 1) {α : Type} {f : α → List Value} {L : List α} {e : TypeId} {z : α} (hk : k = 1)
    (hsw : Sw M (.vec u e k L.length (L.flatMap f)) (.vec u e k (L.set j z).length ((L.set j z).flatMap f)) M') (hf : ∀ x, (f x).length = k) (hj : j < L.length) (hz : f z = [v])
    (h : ∀ w', St S w0 w' M' → K (a.put o.dst undef) w') : o.wp P a w K Q := by
  obtain ⟨ti, hi, hks⟩ := Option.map_eq_some_iff.1 hs
  rw [List.length_set] at hsw
  obtain ⟨i, hM, rfl⟩ := hsw.set
  refine wp_storeS hS ho hx hy hi (by rw [hvc]; exact hks.symm) i hM (by omega) ?_ (by rw [hvc]; simpa using h1) ?_ h
  · rw [hvc, flat_len hf, hk]; simp; omega
  · rw [hvc, ← flat_set hf L j z hj, hz]
    simp [hk]
/-- One cell of an element. -/
theorem a_storeF (hS : St S w0 w M) {t : TypeId} {x y : Operand} (ho : o.op = .store t x y) {u : Value} {j k c : Nat} (hx : a.eval x = ptrAt u (j * k + c)) {v : Value} (hy : a.eval y = v)
    (hvc : v.cells = #[v]) (h1 : v.oneCell' = true) (hs : (P.info? t).map (·.size) = some 1) {α : Type} {f : α → List Value} {L : List α} {e : TypeId} {q z : α}
    (hsw : Sw M (.vec u e k L.length (L.flatMap f)) (.vec u e k (L.set j z).length ((L.set j z).flatMap f)) M') (hf : ∀ x, (f x).length = k) (hq : L[j]? = some q) (hc : c < k) (hz : f z = (f q).set c v)
    (h : ∀ w', St S w0 w' M' → K (a.put o.dst undef) w') : o.wp P a w K Q := by
  obtain ⟨ti, hi, hks⟩ := Option.map_eq_some_iff.1 hs
  rw [List.length_set] at hsw
  obtain ⟨i, hM, rfl⟩ := hsw.set
  have hj := (List.getElem?_eq_some_iff.1 hq).1
  have hle : (j + 1) * k ≤ L.length * k := Nat.mul_le_mul_right _ hj
  rw [Nat.add_mul, Nat.one_mul] at hle
  refine wp_storeS hS ho hx hy hi (by rw [hvc]; exact hks.symm) i hM (by omega) ?_ (by rw [hvc]; simpa using h1) ?_ h
  · rw [hvc, flat_len hf]; simp; omega
  · rw [hvc]
    exact flat_setd hf L j q z hq c v hc hz
/-- A whole element that is a struct. -/
theorem a_storeG (hS : St S w0 w M) {t : TypeId} {x y : Operand} (ho : o.op = .store t x y) {u : Value} {j k : Nat} (hx : a.eval x = ptrAt u (j * k)) {vs : List Value} (hy : a.eval y = .agg vs.toArray)
    (hs : (P.info? t).map (·.size) = some k) (h1 : ∀ u ∈ vs, u.oneCell' = true) {α : Type} {f : α → List Value} {L : List α} {e : TypeId} {z : α}
    (hsw : Sw M (.vec u e k L.length (L.flatMap f)) (.vec u e k (L.set j z).length ((L.set j z).flatMap f)) M') (hf : ∀ x, (f x).length = k) (hj : j < L.length) (hz : f z = vs)
    (h : ∀ w', St S w0 w' M' → K (a.put o.dst undef) w') : o.wp P a w K Q := by
  obtain ⟨ti, hi, hks⟩ := Option.map_eq_some_iff.1 hs
  rw [List.length_set] at hsw
  obtain ⟨i, hM, rfl⟩ := hsw.set
  subst hz
  have hle : (j + 1) * k ≤ L.length * k := Nat.mul_le_mul_right _ hj
  rw [Nat.add_mul, Nat.one_mul] at hle
  refine wp_storeS hS ho hx hy hi (by simpa [Value.cells, hf] using hks.symm) i hM (by omega) ?_ (by simpa [Value.cells] using h1) ?_ h
  · rw [flat_len hf]; simp [Value.cells, hf]; omega
  · simp only [Value.cells, List.size_toArray, hf]
    exact flat_set hf L j z hj
theorem a_append (hS : St S w0 w M) {s x : Operand} {t : TypeId} (ho : o.op = .call { callee := .builtin .append, args := #[s, x], argTypes := #[t, t] })
    {v u : Value} {e : TypeId} {k : Nat} {n : Nat} {xs : List Value} {m : Nat} {news : List Value} (hs : a.eval s = v) (hx : a.eval x = u) (ht : P.underlying t = some (.slice e)) (hout : Out M (.vec v e k n xs) M')
    (hR : Rd w k u m news) (hi : (P.info? e).map (fun i => (i.zero.map (·.cells.size), i.size)) = some (some k, k)) (hb : (P.info? e).map (fun i => decide (0 < i.bytes) && decide (i.bytes ≤ 1024)) = some true) (hbl : n + m ≤ 137438953472) (h1 : ∀ u ∈ news, u.oneCell' = true)
    (h : ∀ v' w', St S w0 w' (.vec v' e k (n + m) (xs ++ news) :: M') → (v' = .slice none 0 0 ↔ v = .slice none 0 0 ∧ m = 0) → K (a.put o.dst v') w') : o.wp P a w K Q := by
  obtain ⟨ti, hti, hk⟩ := Option.map_eq_some_iff.1 hi
  simp only [Prod.mk.injEq] at hk
  obtain ⟨z, hz, hzs⟩ := Option.map_eq_some_iff.1 hk.1
  rw [hti] at hb
  simp only [Option.map_some, Option.some.injEq, Bool.and_eq_true, decide_eq_true_eq] at hb
  exact wp_append (hS.out hout) ho 0 rfl hR hs hx ht hti hz (by rw [hzs, hk.2]) hb.1 hk.2 h1 (Nat.le_trans (Nat.mul_le_mul hbl hb.2) (by omega)) (fun v' w' hS' hv => h v' w' hS' hv)
theorem flat_snoc {α : Type} (f : α → List Value) (L : List α) (z : α) : L.flatMap f ++ f z = (L ++ [z]).flatMap f := by simp
/-- append(v, z), z a thing. -/
theorem a_appendT (hS : St S w0 w M) {s x : Operand} {t : TypeId} (ho : o.op = .call { callee := .builtin .append, args := #[s, x], argTypes := #[t, t] })
    {v u : Value} {e : TypeId} {k : Nat} {α : Type} {f : α → List Value} {L : List α} {z : α} (hs : a.eval s = v) (hx : a.eval x = u) (ht : P.underlying t = some (.slice e)) (hout : Out M (.vec v e k L.length (L.flatMap f)) M')
    (hR : Rd w k u 1 (f z)) (hi : (P.info? e).map (fun i => (i.zero.map (·.cells.size), i.size)) = some (some k, k)) (hb : (P.info? e).map (fun i => decide (0 < i.bytes) && decide (i.bytes ≤ 1024)) = some true) (hbl : L.length + 1 ≤ 137438953472) (h1 : ∀ u ∈ f z, u.oneCell' = true)
    (h : ∀ v' w', St S w0 w' (.vec v' e k (L ++ [z]).length ((L ++ [z]).flatMap f) :: M') → v' ≠ .slice none 0 0 → K (a.put o.dst v') w') : o.wp P a w K Q := by
  refine a_append hS ho hs hx ht hout hR hi hb hbl h1 fun v' w' hS' hv => h v' w' ?_ (fun e => by have := (hv.1 e).2; omega)
  rw [← flat_snoc, List.length_append]
  exact hS'
theorem Rd.one {w : World} {k : Nat} {v : Value} {n : Nat} {xs : List Value} (h : Rd w k v n xs) : v.oneCell' = true := by
  obtain ⟨_, p, cap, rfl, _⟩ := h; rfl
theorem Reads.at {S : List Nat} {w0 w : World} {M M0 : List Ent} {k : Nat} {v : Value} {n : Nat} {xs : List Value} (h : Reads S w0 M0 k v n xs) (hS : St S w0 w M) (p : M0.Sublist M) : Rd w k v n xs := h w (hS.sub p)
/-- '[]T{x}'. -/
theorem a_build1 {v : Value} {cs : List Value} (hS : St S w0 w M) {t : TypeId} {x : Operand} (ho : o.op = .buildSlice t 1 #[(0, x)]) (hx : a.eval x = v) (hv : v.cells = cs.toArray) {e : TypeId} (ht : P.underlying t = some (.slice e)) (hk : (P.info? e).map (fun i => (i.size, i.zero.isSome)) = some (cs.length, true)) (hk2 : cs.length ≤ 16777216)
    (h : ∀ v w', St S w0 w' (.vec v e cs.length 1 cs :: M) → K (a.put o.dst v) w') : o.wp P a w K Q := by
  obtain ⟨ti, hi, hk⟩ := Option.map_eq_some_iff.1 hk
  simp only [Prod.mk.injEq] at hk
  exact wp_build1 hS ho hx hv ht hi hk.1 rfl hk2 hk.2 h
theorem a_build0 (hS : St S w0 w M) {t : TypeId} (ho : o.op = .buildSlice t 0 #[]) {e : TypeId} (ht : P.underlying t = some (.slice e)) {k : Nat} (hk : (P.info? e).map (fun i => (i.size, i.zero.isSome)) = some (k, true))
    (h : ∀ v w', St S w0 w' (.vec v e k 0 [] :: M) → K (a.put o.dst v) w') : o.wp P a w K Q := by
  obtain ⟨ti, hi, hk⟩ := Option.map_eq_some_iff.1 hk
  simp only [Prod.mk.injEq] at hk
  obtain ⟨z, hz⟩ := Option.isSome_iff_exists.1 hk.2
  refine wp_buildSlice hS ho ht hi hk.1 (cs := []) ?_ (by simp) (by simp) (by omega) h
  simp [buildCells, hz, Instr.fill]
theorem a_make (hS : St S w0 w M) {t : TypeId} {x y : Operand} (ho : o.op = .makeSlice t x y) {n : Int} (hx : a.eval x = .int .i64 n) (hy : a.eval y = .int .i64 n) {e : TypeId} (ht : P.underlying t = some (.slice e)) {z : Value} (hk : (P.info? e).map (fun i => (i.size, i.zero, decide (i.bytes ≤ 64))) = some (1, some z, true)) (hzc : z.cells = #[z])
    (h0 : 0 ≤ n) (hb : n ≤ 2199023255552)
    (h : ∀ v w', St S w0 w' (.vec v e 1 n.toNat (List.replicate n.toNat z) :: M) → K (a.put o.dst v) w') : o.wp P a w K Q := by
  obtain ⟨ti, hi, hk⟩ := Option.map_eq_some_iff.1 hk
  simp only [Prod.mk.injEq] at hk
  obtain ⟨k1, k2, k3⟩ := hk
  have k3 := of_decide_eq_true k3
  refine wp_make hS ho hx hy ht hi k1 k2 hzc h0 ?_ (by omega) h
  obtain ⟨m, rfl⟩ := Int.eq_ofNat_of_zero_le h0
  rw [Int.toNat_natCast]
  have h2 : m ≤ 2199023255552 := by omega
  exact Nat.le_trans (Nat.mul_le_mul h2 k3) (by omega)

/-! ### Strings -/

theorem bsize (l : List UInt8) : (⟨l.toArray⟩ : ByteArray).size = l.length := by simp [ByteArray.size]
theorem a_strHi {t : TypeId} {x hi : Operand} (ho : o.op = .slice t x none (some hi) none) {l : List UInt8} (hx : a.eval x = .string ⟨l.toArray⟩) {h : Int} (hh : a.eval hi = .int .i64 h) (ht : P.underlying t = some .string) (h0 : 0 ≤ h) (h1 : h ≤ l.length) :
    (execOp a.eval o).run P w = .ok (.value (.string ⟨(l.take h.toNat).toArray⟩)) w := by
  obtain ⟨h, rfl⟩ := Int.eq_ofNat_of_zero_le h0
  have h2 : h ≤ l.length := by omega
  simp [execOp, ho, hx, hh, Instr.sliceAt, Instr.slice, run_underlying ht, Instr.sliceBounds, Instr.sliceBound, asIntOf, bsize, h2, bx]
theorem a_strLo {t : TypeId} {x lo : Operand} (ho : o.op = .slice t x (some lo) none none) {l : List UInt8} (hx : a.eval x = .string ⟨l.toArray⟩) {h : Int} (hh : a.eval lo = .int .i64 h) (ht : P.underlying t = some .string) (h0 : 0 ≤ h) (h1 : h ≤ l.length) :
    (execOp a.eval o).run P w = .ok (.value (.string ⟨(l.drop h.toNat).toArray⟩)) w := by
  obtain ⟨h, rfl⟩ := Int.eq_ofNat_of_zero_le h0
  have h2 : h ≤ l.length := by omega
  simp [execOp, ho, hx, hh, Instr.sliceAt, Instr.slice, run_underlying ht, Instr.sliceBounds, Instr.sliceBound, asIntOf, bsize, h2, bx]
theorem a_strMid {t : TypeId} {x lo hi : Operand} (ho : o.op = .slice t x (some lo) (some hi) none) {l : List UInt8} (hx : a.eval x = .string ⟨l.toArray⟩) {b h : Int} (hb : a.eval lo = .int .i64 b) (hh : a.eval hi = .int .i64 h) (ht : P.underlying t = some .string) (h0 : 0 ≤ b) (h1 : b ≤ h) (h2 : h ≤ l.length) :
    (execOp a.eval o).run P w = .ok (.value (.string ⟨((l.take h.toNat).drop b.toNat).toArray⟩)) w := by
  obtain ⟨b, rfl⟩ := Int.eq_ofNat_of_zero_le h0
  obtain ⟨h, rfl⟩ := Int.eq_ofNat_of_zero_le (Int.le_trans h0 h1)
  have h3 : h ≤ l.length := by omega
  have h4 : b ≤ h := by omega
  simp [execOp, ho, hx, hb, hh, Instr.sliceAt, Instr.slice, run_underlying ht, Instr.sliceBounds, Instr.sliceBound, asIntOf, bsize, h3, h4, bx]
theorem a_strIndex {t : TypeId} {x i : Operand} (ho : o.op = .index t x i) {l : List UInt8} (hx : a.eval x = .string ⟨l.toArray⟩) {j : Int} {ik : IntKind} (hi : a.eval i = .int ik j) (ht : P.underlying t = some .string) (h0 : 0 ≤ j) (hj : j < l.length) : (execOp a.eval o).run P w = .ok (.value (.int .u8 ((nth l j.toNat).toNat : Int))) w :=
  x_strIndex (P := P) (w := w) ho hx hi ht h0 hj
theorem Rd.le {w : World} {k : Nat} {v : Value} {n : Nat} {xs : List Value} (h : Rd w k v n xs) : n ≤ 9223372036854775807 := by
  obtain ⟨_, p, cap, _, h1, h2, _⟩ := h
  unfold maxLen at h2
  omega
theorem Reads.len {S : List Nat} {w0 w : World} {x y z u : Ent} {M0 : List Ent} {k : Nat} {v : Value} {n : Nat} {xs : List Value} (h : Reads S w0 M0 k v n xs) (hS : St S w0 w (x :: y :: z :: u :: M0)) : n ≤ 9223372036854775807 :=
  (h w (hS.sub (((((List.Sublist.refl _).cons _).cons _).cons _).cons _))).le
/-! ### Bytes -/

def byt (x : UInt8) : List Value := [.int .u8 (x.toNat : Int)]
theorem B_flat (l : List UInt8) : B l = l.flatMap byt := by
  induction l with
  | nil => rfl
  | cons x l ih => rw [List.flatMap_cons, ← ih]; rfl
theorem u8_range (c : UInt8) : (0 : Int) ≤ (c.toNat : Int) ∧ (c.toNat : Int) ≤ 255 := by have := c.toNat_lt; omega
theorem u8_of {m : Int} (h0 : 0 ≤ m) (h1 : m ≤ 255) : ∃ d : UInt8, m = (d.toNat : Int) := ⟨UInt8.ofNat m.toNat, by simp; omega⟩
theorem a_xor8 {t r : TypeId} {x y : Operand} (ho : o.op = .binOp .xor t x y r) {c d : UInt8} (hx : a.eval x = .int .u8 (c.toNat : Int)) (hy : a.eval y = .int .u8 (d.toNat : Int)) :
    (execOp a.eval o).run P w = .ok (.value (.int .u8 (((c ^^^ d).toNat : Nat) : Int))) w := by
  have h1 := u8_range c
  have h2 := u8_range d
  rw [UInt8.toNat_xor]
  simp only [execOp, ho, hx, hy]
  go_simp
  exact u8_xor_nat _ _ c.toNat_lt d.toNat_lt
theorem a_toString2 {src dst e : TypeId} {x : Operand} (ho : o.op = .convert src dst x) {u : Value} (hx : a.eval x = u) (hs : P.underlying src = some (.slice e)) (he : P.underlying e = some (.int .u8)) (hd : P.underlying dst = some .string)
    {l : List UInt8} (hR : Rd w 1 u l.length (l.flatMap byt)) : (execOp a.eval o).run P w = .ok (.value (.string ⟨l.toArray⟩)) w := by
  rw [← B_flat] at hR; exact a_toString ho hx hs he hd hR rfl
theorem a_toBytes (hS : St S w0 w M) {src dst e : TypeId} {x : Operand} (ho : o.op = .convert src dst x) (hs : P.underlying src = some .string) (hd : P.underlying dst = some (.slice e)) (he : P.underlying e = some (.int .u8))
    {l : List UInt8} (hx : a.eval x = .string ⟨l.toArray⟩) (hl : l.length ≤ maxLen) (h : ∀ v w', St S w0 w' (.vec v e 1 l.length (l.flatMap byt) :: M) → K (a.put o.dst v) w') : o.wp P a w K Q :=
  wp_toBytes hS ho hs hd he hx hl (fun v w' hS' => h v w' (by rw [B_flat] at hS'; exact hS'))
theorem Rd.shape {w : World} {k : Nat} {v : Value} {n : Nat} {xs : List Value} (h : Rd w k v n xs) : ∃ p cap, v = .slice p n cap := by
  obtain ⟨_, p, cap, e, _⟩ := h; exact ⟨p, cap, e⟩
theorem a_toString3 {src dst e : TypeId} {x : Operand} (ho : o.op = .convert src dst x) {u : Value} (hx : a.eval x = u) (hs : P.underlying src = some (.slice e)) (he : P.underlying e = some (.int .u8)) (hd : P.underlying dst = some .string)
    {l : List UInt8} {n : Nat} (hR : Rd w 1 u n (l.flatMap byt)) (hl : l.length = n) : (execOp a.eval o).run P w = .ok (.value (.string ⟨l.toArray⟩)) w := by
  rw [← B_flat] at hR; exact a_toString ho hx hs he hd hR hl
/-! ### The steps as the walk takes them: what finds entries is written here once -/

section
variable {Ks : Act → Prop}
theorem k_read {v : Value} (hw : Region.wanted o (yielded ops a.tmps) = true) (hr : (execOp a.eval o).run P w = .ok (.value v) w := by (first | exact a_load1 hS rfl rfl rfl rfl (by (repeat (first | exact Ix.here | apply Ix.there))) (by rfl) | exact a_loadE rfl (by (first | exact St.rdx hS (by (repeat (first | exact Ix.here | apply Ix.there))) | exact Reads.at (by assumption) hS (by (repeat (first | exact List.Sublist.refl _ | apply List.Sublist.cons))) | exact St.old0 hS (by assumption))) rfl rfl rfl (by intro _; rfl) (by (first | assumption | exact get_lt (by first | omega | (simp; omega)))) (by rfl) | exact a_loadF rfl (by (first | exact St.rdx hS (by (repeat (first | exact Ix.here | apply Ix.there))) | exact Reads.at (by assumption) hS (by (repeat (first | exact List.Sublist.refl _ | apply List.Sublist.cons))) | exact St.old0 hS (by assumption))) rfl rfl rfl (by intro _; rfl) (by (first | assumption | exact get_lt (by first | omega | (simp; omega)))) (by rfl) | exact a_loadG (vs := [_, _]) rfl (by (first | exact St.rdx hS (by (repeat (first | exact Ix.here | apply Ix.there))) | exact Reads.at (by assumption) hS (by (repeat (first | exact List.Sublist.refl _ | apply List.Sublist.cons))) | exact St.old0 hS (by assumption))) rfl rfl rfl (by rfl) (by intro _; rfl) (by (first | assumption | exact get_lt (by first | omega | (simp; omega)))) (by rfl) | exact a_loadG (vs := [_, _, _]) rfl (by (first | exact St.rdx hS (by (repeat (first | exact Ix.here | apply Ix.there))) | exact Reads.at (by assumption) hS (by (repeat (first | exact List.Sublist.refl _ | apply List.Sublist.cons))) | exact St.old0 hS (by assumption))) rfl rfl rfl (by rfl) (by intro _; rfl) (by (first | assumption | exact get_lt (by first | omega | (simp; omega)))) (by rfl) | exact a_loadG (vs := [_, _, _, _]) rfl (by (first | exact St.rdx hS (by (repeat (first | exact Ix.here | apply Ix.there))) | exact Reads.at (by assumption) hS (by (repeat (first | exact List.Sublist.refl _ | apply List.Sublist.cons))) | exact St.old0 hS (by assumption))) rfl rfl rfl (by rfl) (by intro _; rfl) (by (first | assumption | exact get_lt (by first | omega | (simp; omega)))) (by rfl) | exact a_loadG (vs := [_, _, _, _, _]) rfl (by (first | exact St.rdx hS (by (repeat (first | exact Ix.here | apply Ix.there))) | exact Reads.at (by assumption) hS (by (repeat (first | exact List.Sublist.refl _ | apply List.Sublist.cons))) | exact St.old0 hS (by assumption))) rfl rfl rfl (by rfl) (by intro _; rfl) (by (first | assumption | exact get_lt (by first | omega | (simp; omega)))) (by rfl) | exact a_loadR hS rfl rfl rfl rfl (by (repeat (first | exact Ix.here | apply Ix.there))) (by rfl))) (h : wpList P ops Q rest (a.put o.dst v) w) : wpList P ops Q (o :: rest) a w := wl_run hw hr h
theorem z_read {v : Value} (hw : Region.wanted o (yielded ops a.tmps) = true) (hr : (execOp a.eval o).run P w = .ok (.value v) w := by (first | exact a_load1 hS rfl rfl rfl rfl (by (repeat (first | exact Ix.here | apply Ix.there))) (by rfl) | exact a_loadE rfl (by (first | exact St.rdx hS (by (repeat (first | exact Ix.here | apply Ix.there))) | exact Reads.at (by assumption) hS (by (repeat (first | exact List.Sublist.refl _ | apply List.Sublist.cons))) | exact St.old0 hS (by assumption))) rfl rfl rfl (by intro _; rfl) (by (first | assumption | exact get_lt (by first | omega | (simp; omega)))) (by rfl) | exact a_loadF rfl (by (first | exact St.rdx hS (by (repeat (first | exact Ix.here | apply Ix.there))) | exact Reads.at (by assumption) hS (by (repeat (first | exact List.Sublist.refl _ | apply List.Sublist.cons))) | exact St.old0 hS (by assumption))) rfl rfl rfl (by intro _; rfl) (by (first | assumption | exact get_lt (by first | omega | (simp; omega)))) (by rfl) | exact a_loadG (vs := [_, _]) rfl (by (first | exact St.rdx hS (by (repeat (first | exact Ix.here | apply Ix.there))) | exact Reads.at (by assumption) hS (by (repeat (first | exact List.Sublist.refl _ | apply List.Sublist.cons))) | exact St.old0 hS (by assumption))) rfl rfl rfl (by rfl) (by intro _; rfl) (by (first | assumption | exact get_lt (by first | omega | (simp; omega)))) (by rfl) | exact a_loadG (vs := [_, _, _]) rfl (by (first | exact St.rdx hS (by (repeat (first | exact Ix.here | apply Ix.there))) | exact Reads.at (by assumption) hS (by (repeat (first | exact List.Sublist.refl _ | apply List.Sublist.cons))) | exact St.old0 hS (by assumption))) rfl rfl rfl (by rfl) (by intro _; rfl) (by (first | assumption | exact get_lt (by first | omega | (simp; omega)))) (by rfl) | exact a_loadG (vs := [_, _, _, _]) rfl (by (first | exact St.rdx hS (by (repeat (first | exact Ix.here | apply Ix.there))) | exact Reads.at (by assumption) hS (by (repeat (first | exact List.Sublist.refl _ | apply List.Sublist.cons))) | exact St.old0 hS (by assumption))) rfl rfl rfl (by rfl) (by intro _; rfl) (by (first | assumption | exact get_lt (by first | omega | (simp; omega)))) (by rfl) | exact a_loadG (vs := [_, _, _, _, _]) rfl (by (first | exact St.rdx hS (by (repeat (first | exact Ix.here | apply Ix.there))) | exact Reads.at (by assumption) hS (by (repeat (first | exact List.Sublist.refl _ | apply List.Sublist.cons))) | exact St.old0 hS (by assumption))) rfl rfl rfl (by rfl) (by intro _; rfl) (by (first | assumption | exact get_lt (by first | omega | (simp; omega)))) (by rfl) | exact a_loadR hS rfl rfl rfl rfl (by (repeat (first | exact Ix.here | apply Ix.there))) (by rfl))) (h : wpStill P ops w Ks rest (a.put o.dst v)) : wpStill P ops w Ks (o :: rest) a := ws_run hw hr h
theorem k_len {v : Value} (hw : Region.wanted o (yielded ops a.tmps) = true) (hr : (execOp a.eval o).run P w = .ok (.value v) w := by exact a_len rfl rfl rfl (by (first | exact St.rdx hS (by (repeat (first | exact Ix.here | apply Ix.there))) | exact Reads.at (by assumption) hS (by (repeat (first | exact List.Sublist.refl _ | apply List.Sublist.cons))) | exact St.old0 hS (by assumption)))) (h : wpList P ops Q rest (a.put o.dst v) w) : wpList P ops Q (o :: rest) a w := wl_run hw hr h
theorem z_len {v : Value} (hw : Region.wanted o (yielded ops a.tmps) = true) (hr : (execOp a.eval o).run P w = .ok (.value v) w := by exact a_len rfl rfl rfl (by (first | exact St.rdx hS (by (repeat (first | exact Ix.here | apply Ix.there))) | exact Reads.at (by assumption) hS (by (repeat (first | exact List.Sublist.refl _ | apply List.Sublist.cons))) | exact St.old0 hS (by assumption)))) (h : wpStill P ops w Ks rest (a.put o.dst v)) : wpStill P ops w Ks (o :: rest) a := ws_run hw hr h
theorem k_idx {v : Value} (hw : Region.wanted o (yielded ops a.tmps) = true) (hr : (execOp a.eval o).run P w = .ok (.value v) w := by (first | exact a_indexI 0 hS rfl rfl rfl rfl rfl (by rfl) (by omega) (by omega) | exact a_indexI 1 hS rfl rfl rfl rfl rfl (by rfl) (by omega) (by omega) | exact a_indexI 2 hS rfl rfl rfl rfl rfl (by rfl) (by omega) (by omega) | exact a_indexI 3 hS rfl rfl rfl rfl rfl (by rfl) (by omega) (by omega) | exact a_indexI 4 hS rfl rfl rfl rfl rfl (by rfl) (by omega) (by omega) | exact a_indexI 5 hS rfl rfl rfl rfl rfl (by rfl) (by omega) (by omega) | exact a_indexI 6 hS rfl rfl rfl rfl rfl (by rfl) (by omega) (by omega) | exact a_indexI 7 hS rfl rfl rfl rfl rfl (by rfl) (by omega) (by omega) | exact a_indexI 8 hS rfl rfl rfl rfl rfl (by rfl) (by omega) (by omega) | exact a_indexI 9 hS rfl rfl rfl rfl rfl (by rfl) (by omega) (by omega) | exact a_index rfl rfl rfl rfl (by (first | exact St.rdx hS (by (repeat (first | exact Ix.here | apply Ix.there))) | exact Reads.at (by assumption) hS (by (repeat (first | exact List.Sublist.refl _ | apply List.Sublist.cons))) | exact St.old0 hS (by assumption))) (by rfl) (by omega) (by omega))) (h : wpList P ops Q rest (a.put o.dst v) w) : wpList P ops Q (o :: rest) a w := wl_run hw hr h
theorem z_idx {v : Value} (hw : Region.wanted o (yielded ops a.tmps) = true) (hr : (execOp a.eval o).run P w = .ok (.value v) w := by (first | exact a_indexI 0 hS rfl rfl rfl rfl rfl (by rfl) (by omega) (by omega) | exact a_indexI 1 hS rfl rfl rfl rfl rfl (by rfl) (by omega) (by omega) | exact a_indexI 2 hS rfl rfl rfl rfl rfl (by rfl) (by omega) (by omega) | exact a_indexI 3 hS rfl rfl rfl rfl rfl (by rfl) (by omega) (by omega) | exact a_indexI 4 hS rfl rfl rfl rfl rfl (by rfl) (by omega) (by omega) | exact a_indexI 5 hS rfl rfl rfl rfl rfl (by rfl) (by omega) (by omega) | exact a_indexI 6 hS rfl rfl rfl rfl rfl (by rfl) (by omega) (by omega) | exact a_indexI 7 hS rfl rfl rfl rfl rfl (by rfl) (by omega) (by omega) | exact a_indexI 8 hS rfl rfl rfl rfl rfl (by rfl) (by omega) (by omega) | exact a_indexI 9 hS rfl rfl rfl rfl rfl (by rfl) (by omega) (by omega) | exact a_index rfl rfl rfl rfl (by (first | exact St.rdx hS (by (repeat (first | exact Ix.here | apply Ix.there))) | exact Reads.at (by assumption) hS (by (repeat (first | exact List.Sublist.refl _ | apply List.Sublist.cons))) | exact St.old0 hS (by assumption))) (by rfl) (by omega) (by omega))) (h : wpStill P ops w Ks rest (a.put o.dst v)) : wpStill P ops w Ks (o :: rest) a := ws_run hw hr h
theorem k_fld {v : Value} (hw : Region.wanted o (yielded ops a.tmps) = true) (hr : (execOp a.eval o).run P w = .ok (.value v) w := by exact a_field rfl rfl (by (first | exact St.rdx hS (by (repeat (first | exact Ix.here | apply Ix.there))) | exact Reads.at (by assumption) hS (by (repeat (first | exact List.Sublist.refl _ | apply List.Sublist.cons))) | exact St.old0 hS (by assumption))) (by omega) rfl rfl rfl (by rfl)) (h : wpList P ops Q rest (a.put o.dst v) w) : wpList P ops Q (o :: rest) a w := wl_run hw hr h
theorem z_fld {v : Value} (hw : Region.wanted o (yielded ops a.tmps) = true) (hr : (execOp a.eval o).run P w = .ok (.value v) w := by exact a_field rfl rfl (by (first | exact St.rdx hS (by (repeat (first | exact Ix.here | apply Ix.there))) | exact Reads.at (by assumption) hS (by (repeat (first | exact List.Sublist.refl _ | apply List.Sublist.cons))) | exact St.old0 hS (by assumption))) (by omega) rfl rfl rfl (by rfl)) (h : wpStill P ops w Ks rest (a.put o.dst v)) : wpStill P ops w Ks (o :: rest) a := ws_run hw hr h
theorem k_str {v : Value} (hw : Region.wanted o (yielded ops a.tmps) = true) (hr : (execOp a.eval o).run P w = .ok (.value v) w := by (first | exact a_strHi rfl rfl rfl rfl (by omega) (by omega) | exact a_strLo rfl rfl rfl rfl (by omega) (by omega) | exact a_strMid rfl rfl rfl rfl rfl (by omega) (by omega) (by omega))) (h : wpList P ops Q rest (a.put o.dst v) w) : wpList P ops Q (o :: rest) a w := wl_run hw hr h
theorem z_str {v : Value} (hw : Region.wanted o (yielded ops a.tmps) = true) (hr : (execOp a.eval o).run P w = .ok (.value v) w := by (first | exact a_strHi rfl rfl rfl rfl (by omega) (by omega) | exact a_strLo rfl rfl rfl rfl (by omega) (by omega) | exact a_strMid rfl rfl rfl rfl rfl (by omega) (by omega) (by omega))) (h : wpStill P ops w Ks rest (a.put o.dst v)) : wpStill P ops w Ks (o :: rest) a := ws_run hw hr h
theorem k_six {v : Value} (hw : Region.wanted o (yielded ops a.tmps) = true) (hr : (execOp a.eval o).run P w = .ok (.value v) w := by exact a_strIndex rfl rfl rfl rfl (by omega) (by omega)) (h : wpList P ops Q rest (a.put o.dst v) w) : wpList P ops Q (o :: rest) a w := wl_run hw hr h
theorem z_six {v : Value} (hw : Region.wanted o (yielded ops a.tmps) = true) (hr : (execOp a.eval o).run P w = .ok (.value v) w := by exact a_strIndex rfl rfl rfl rfl (by omega) (by omega)) (h : wpStill P ops w Ks rest (a.put o.dst v)) : wpStill P ops w Ks (o :: rest) a := ws_run hw hr h
theorem k_cat {v : Value} (hw : Region.wanted o (yielded ops a.tmps) = true) (hr : (execOp a.eval o).run P w = .ok (.value v) w := by exact a_concat rfl rfl rfl (by first | omega | (simp; omega))) (h : wpList P ops Q rest (a.put o.dst v) w) : wpList P ops Q (o :: rest) a w := wl_run hw hr h
theorem z_cat {v : Value} (hw : Region.wanted o (yielded ops a.tmps) = true) (hr : (execOp a.eval o).run P w = .ok (.value v) w := by exact a_concat rfl rfl rfl (by first | omega | (simp; omega))) (h : wpStill P ops w Ks rest (a.put o.dst v)) : wpStill P ops w Ks (o :: rest) a := ws_run hw hr h
theorem k_tos {v : Value} (hw : Region.wanted o (yielded ops a.tmps) = true) (hr : (execOp a.eval o).run P w = .ok (.value v) w := by exact a_toString2 rfl rfl rfl rfl rfl (by (first | exact St.rdx hS (by (repeat (first | exact Ix.here | apply Ix.there))) | exact Reads.at (by assumption) hS (by (repeat (first | exact List.Sublist.refl _ | apply List.Sublist.cons))) | exact St.old0 hS (by assumption)))) (h : wpList P ops Q rest (a.put o.dst v) w) : wpList P ops Q (o :: rest) a w := wl_run hw hr h
theorem z_tos {v : Value} (hw : Region.wanted o (yielded ops a.tmps) = true) (hr : (execOp a.eval o).run P w = .ok (.value v) w := by exact a_toString2 rfl rfl rfl rfl rfl (by (first | exact St.rdx hS (by (repeat (first | exact Ix.here | apply Ix.there))) | exact Reads.at (by assumption) hS (by (repeat (first | exact List.Sublist.refl _ | apply List.Sublist.cons))) | exact St.old0 hS (by assumption)))) (h : wpStill P ops w Ks rest (a.put o.dst v)) : wpStill P ops w Ks (o :: rest) a := ws_run hw hr h
end
theorem k_readx {α : Type} {L : List α} {j : Nat} {y : α} (_hy : L[j]? = some y) {v : Value} (hw : Region.wanted o (yielded ops a.tmps) = true) (hr : (execOp a.eval o).run P w = .ok (.value v) w := by first | exact a_loadG (vs := [_, _]) rfl (by (first | exact St.rdx hS (by (repeat (first | exact Ix.here | apply Ix.there))) | exact Reads.at (by assumption) hS (by (repeat (first | exact List.Sublist.refl _ | apply List.Sublist.cons))) | exact St.old0 hS (by assumption))) rfl rfl rfl (by rfl) (by intro _; rfl) (by assumption) (by rfl) | exact a_loadG (vs := [_, _, _]) rfl (by (first | exact St.rdx hS (by (repeat (first | exact Ix.here | apply Ix.there))) | exact Reads.at (by assumption) hS (by (repeat (first | exact List.Sublist.refl _ | apply List.Sublist.cons))) | exact St.old0 hS (by assumption))) rfl rfl rfl (by rfl) (by intro _; rfl) (by assumption) (by rfl) | exact a_loadG (vs := [_, _, _, _]) rfl (by (first | exact St.rdx hS (by (repeat (first | exact Ix.here | apply Ix.there))) | exact Reads.at (by assumption) hS (by (repeat (first | exact List.Sublist.refl _ | apply List.Sublist.cons))) | exact St.old0 hS (by assumption))) rfl rfl rfl (by rfl) (by intro _; rfl) (by assumption) (by rfl) | exact a_loadG (vs := [_, _, _, _, _]) rfl (by (first | exact St.rdx hS (by (repeat (first | exact Ix.here | apply Ix.there))) | exact Reads.at (by assumption) hS (by (repeat (first | exact List.Sublist.refl _ | apply List.Sublist.cons))) | exact St.old0 hS (by assumption))) rfl rfl rfl (by rfl) (by intro _; rfl) (by assumption) (by rfl) | exact a_loadE rfl (by (first | exact St.rdx hS (by (repeat (first | exact Ix.here | apply Ix.there))) | exact Reads.at (by assumption) hS (by (repeat (first | exact List.Sublist.refl _ | apply List.Sublist.cons))) | exact St.old0 hS (by assumption))) rfl rfl rfl (by intro _; rfl) (by assumption) (by rfl) | exact a_loadF rfl (by (first | exact St.rdx hS (by (repeat (first | exact Ix.here | apply Ix.there))) | exact Reads.at (by assumption) hS (by (repeat (first | exact List.Sublist.refl _ | apply List.Sublist.cons))) | exact St.old0 hS (by assumption))) rfl rfl rfl (by intro _; rfl) (by assumption) (by rfl)) (h : wpList P ops Q rest (a.put o.dst v) w) : wpList P ops Q (o :: rest) a w := wl_run hw hr h
theorem k_st1 (hS : St S w0 w M) {t : TypeId} {x y : Operand} {g off : Nat} {v : Value} {cs : List Value} {e : TypeId} {cs' : List Value} (ho : o.op = .store t x y) (hx : a.eval x = .pointer (some ⟨g, off, none⟩)) (hy : a.eval y = v)
    (hvc : v.cells = #[v] := by (first | rfl | exact Rd.cells (by (first | exact St.rdx hS (by (repeat (first | exact Ix.here | apply Ix.there))) | exact Reads.at (by assumption) hS (by (repeat (first | exact List.Sublist.refl _ | apply List.Sublist.cons))) | exact St.old0 hS (by assumption))))) (h1 : v.oneCell' = true := by (first | rfl | exact Rd.one (by (first | exact St.rdx hS (by (repeat (first | exact Ix.here | apply Ix.there))) | exact Reads.at (by assumption) hS (by (repeat (first | exact List.Sublist.refl _ | apply List.Sublist.cons))) | exact St.old0 hS (by assumption))))) (hs : (P.info? t).map (·.size) = some 1 := by rfl) (hsw : Sw M (.row g cs e (0, 0)) (.row g cs' e (0, 0)) M' := by (repeat (first | exact Sw.here | apply Sw.there))) (hoff : off < cs.length := by simp) (hcs : cs.set off v = cs' := by rfl)
    (h : ∀ w', St S w0 w' M' → K (a.put o.dst undef) w') : o.wp P a w K Q := a_store1 hS ho hx hy hvc h1 hs hsw hoff hcs h
theorem k_ste (hS : St S w0 w M) {t : TypeId} {x y : Operand} {u : Value} {j k : Nat} {v : Value} {α : Type} {f : α → List Value} {L : List α} {e : TypeId} {z : α} (ho : o.op = .store t x y) (hx : a.eval x = ptrAt u (j * k)) (hy : a.eval y = v)
    (hvc : v.cells = #[v] := by (first | rfl | exact Rd.cells (by (first | exact St.rdx hS (by (repeat (first | exact Ix.here | apply Ix.there))) | exact Reads.at (by assumption) hS (by (repeat (first | exact List.Sublist.refl _ | apply List.Sublist.cons))) | exact St.old0 hS (by assumption))))) (h1 : v.oneCell' = true := by (first | rfl | exact Rd.one (by (first | exact St.rdx hS (by (repeat (first | exact Ix.here | apply Ix.there))) | exact Reads.at (by assumption) hS (by (repeat (first | exact List.Sublist.refl _ | apply List.Sublist.cons))) | exact St.old0 hS (by assumption))))) (hs : (P.info? t).map (·.size) = some 1 := by rfl) (hk : k = 1 := by rfl)
    (hsw : Sw M (.vec u e k L.length (L.flatMap f)) (.vec u e k (L.set j z).length ((L.set j z).flatMap f)) M' := by (repeat (first | exact Sw.here | apply Sw.there))) (hf : ∀ x, (f x).length = k := by intro _; rfl) (hj : j < L.length := by omega) (hz : f z = [v] := by rfl)
    (h : ∀ w', St S w0 w' M' → K (a.put o.dst undef) w') : o.wp P a w K Q := a_storeE hS ho hx hy hvc h1 hs hk hsw hf hj hz h
theorem k_sta (hS : St S w0 w M) {t : TypeId} {x y : Operand} {g off : Nat} {vs cs : List Value} {e : TypeId} {cs' : List Value} (ho : o.op = .store t x y) (hx : a.eval x = .pointer (some ⟨g, off, none⟩)) (hy : a.eval y = .agg vs.toArray)
    (hs : (P.info? t).map (·.size) = some vs.length := by rfl) (h1 : ∀ u ∈ vs, u.oneCell' = true := by simp [Value.oneCell']) (hsw : Sw M (.row g cs e (0, 0)) (.row g cs' e (0, 0)) M' := by (repeat (first | exact Sw.here | apply Sw.there))) (hoff : off + vs.length ≤ cs.length := by simp) (hcs : cs.take off ++ vs ++ cs.drop (off + vs.length) = cs' := by rfl)
    (h : ∀ w', St S w0 w' M' → K (a.put o.dst undef) w') : o.wp P a w K Q := a_storeA hS ho hx hy hs h1 hsw hoff hcs h
theorem k_app (hS : St S w0 w M) {s x : Operand} {t : TypeId} {v u : Value} {e : TypeId} {k : Nat} {α : Type} {f : α → List Value} {L : List α} {z : α} (ho : o.op = .call { callee := .builtin .append, args := #[s, x], argTypes := #[t, t] })
    (hs : a.eval s = v) (hx : a.eval x = u) (ht : P.underlying t = some (.slice e)) (hout : Out M (.vec v e k L.length (L.flatMap f)) M' := by (repeat (first | exact Out.here | apply Out.there))) (hR : Rd w k u 1 (f z) := by (first | exact St.rdx hS (by (repeat (first | exact Ix.here | apply Ix.there))) | exact Reads.at (by assumption) hS (by (repeat (first | exact List.Sublist.refl _ | apply List.Sublist.cons))) | exact St.old0 hS (by assumption)))
    (hi : (P.info? e).map (fun i => (i.zero.map (·.cells.size), i.size)) = some (some k, k) := by rfl) (hb : (P.info? e).map (fun i => decide (0 < i.bytes) && decide (i.bytes ≤ 1024)) = some true := by rfl) (hbl : L.length + 1 ≤ 137438953472 := by omega) (h1 : ∀ u ∈ f z, u.oneCell' = true)
    (h : ∀ v' w', St S w0 w' (.vec v' e k (L ++ [z]).length ((L ++ [z]).flatMap f) :: M') → v' ≠ .slice none 0 0 → K (a.put o.dst v') w') : o.wp P a w K Q := a_appendT hS ho hs hx ht hout hR hi hb hbl h1 h
/-- What the walk has no step of its own for. -/
def isMem : Op → Bool
  | .load _ _ | .store _ _ _ | .buildSlice _ _ _ | .indexAddr _ _ _ | .alloc _ | .box _ _ | .makeSlice _ _ _ => true
  | .call ⟨.builtin .append, _, _⟩ | .call ⟨.builtin .copy, _, _⟩ => true
  | _ => false
theorem stop_mem (_hm : isMem o.op = true) (_hw : Region.wanted o (yielded ops a.tmps) = true) (h : Stop (wpList P ops Q (o :: rest) a w)) : wpList P ops Q (o :: rest) a w := h
/-- N out of M. -/
theorem St.pick {w : World} {M N : List Ent} (h : St S w0 w M) (p : Sel M N := by (repeat (first | exact Sel.refl | exact Sel.nil | refine Sel.cons (by (repeat (first | exact Out.here | apply Out.there))) ?_ | refine Sel.drop ?_))) : St S w0 w N := h.sel p
theorem St.packs {α : Type} {l : α → List Ent} {w : World} {N M : List Ent} (x : α) (h : St S w0 w N) (p : Sel N (l x ++ M) := by (repeat (first | exact Sel.refl | exact Sel.nil | refine Sel.cons (by (repeat (first | exact Out.here | apply Out.there))) ?_ | refine Sel.drop ?_))) : St S w0 w (Cmp.pack (fun _ => True) l :: M) := St.pack x trivial (h.sel p)
/-- A region that draws its order, in which nothing of what is known changes. -/
theorem wp_region_calm {id : Nat} {l : List Oper} (hm : P.follows .mixedOrders = true) (hB : Region.lexB .any l.toArray = true) (hS : St S w0 w M)
    (h : wpQuiet P l.toArray (fun w' => St S w0 w' M) (fun a' => ∀ w', St S w0 w' M → Q .normal a' w') l a) : (Code.region id l.toArray true).wp P Q a w :=
  wp_region_quiet hm hB hS.drew (by simpa using h)
theorem q_pure {v : Value} {C : World → Prop} {Kq : Act → Prop} (hw : Region.wanted o (yielded ops a.tmps) = true) (hr : ∀ W, C W → (execOp a.eval o).run P W = .ok (.value v) W := by intro W hW; (go_simp; try with_reducible rfl)) (h : wpQuiet P ops C Kq rest (a.put o.dst v)) : wpQuiet P ops C Kq (o :: rest) a := wq_run hw hr h
theorem q_tos {v : Value} {Kq : Act → Prop} (hw : Region.wanted o (yielded ops a.tmps) = true) (hr : ∀ W, St S w0 W M → (execOp a.eval o).run P W = .ok (.value v) W := by intro W hW; exact a_toString2 rfl rfl rfl rfl rfl (by (first | exact St.rdx hW (by (repeat (first | exact Ix.here | apply Ix.there))) | exact Reads.at (by assumption) hW (by (repeat (first | exact List.Sublist.refl _ | apply List.Sublist.cons))) | exact St.old0 hW (by assumption)))) (h : wpQuiet P ops (fun W => St S w0 W M) Kq rest (a.put o.dst v)) : wpQuiet P ops (fun W => St S w0 W M) Kq (o :: rest) a := wq_run hw hr h
theorem q_read {v : Value} {Kq : Act → Prop} (hw : Region.wanted o (yielded ops a.tmps) = true) (hr : ∀ W, St S w0 W M → (execOp a.eval o).run P W = .ok (.value v) W := by intro W hW; (first | exact a_load1 hW rfl rfl rfl rfl (by (repeat (first | exact Ix.here | apply Ix.there))) (by rfl) | exact a_loadE rfl (by (first | exact St.rdx hW (by (repeat (first | exact Ix.here | apply Ix.there))) | exact Reads.at (by assumption) hW (by (repeat (first | exact List.Sublist.refl _ | apply List.Sublist.cons))) | exact St.old0 hW (by assumption))) rfl rfl rfl (by intro _; rfl) (by (first | assumption | exact get_lt (by first | omega | (simp; omega)))) (by rfl) | exact a_loadF rfl (by (first | exact St.rdx hW (by (repeat (first | exact Ix.here | apply Ix.there))) | exact Reads.at (by assumption) hW (by (repeat (first | exact List.Sublist.refl _ | apply List.Sublist.cons))) | exact St.old0 hW (by assumption))) rfl rfl rfl (by intro _; rfl) (by (first | assumption | exact get_lt (by first | omega | (simp; omega)))) (by rfl) | exact a_loadG (vs := [_, _]) rfl (by (first | exact St.rdx hW (by (repeat (first | exact Ix.here | apply Ix.there))) | exact Reads.at (by assumption) hW (by (repeat (first | exact List.Sublist.refl _ | apply List.Sublist.cons))) | exact St.old0 hW (by assumption))) rfl rfl rfl (by rfl) (by intro _; rfl) (by (first | assumption | exact get_lt (by first | omega | (simp; omega)))) (by rfl) | exact a_loadG (vs := [_, _, _]) rfl (by (first | exact St.rdx hW (by (repeat (first | exact Ix.here | apply Ix.there))) | exact Reads.at (by assumption) hW (by (repeat (first | exact List.Sublist.refl _ | apply List.Sublist.cons))) | exact St.old0 hW (by assumption))) rfl rfl rfl (by rfl) (by intro _; rfl) (by (first | assumption | exact get_lt (by first | omega | (simp; omega)))) (by rfl) | exact a_loadG (vs := [_, _, _, _]) rfl (by (first | exact St.rdx hW (by (repeat (first | exact Ix.here | apply Ix.there))) | exact Reads.at (by assumption) hW (by (repeat (first | exact List.Sublist.refl _ | apply List.Sublist.cons))) | exact St.old0 hW (by assumption))) rfl rfl rfl (by rfl) (by intro _; rfl) (by (first | assumption | exact get_lt (by first | omega | (simp; omega)))) (by rfl) | exact a_loadG (vs := [_, _, _, _, _]) rfl (by (first | exact St.rdx hW (by (repeat (first | exact Ix.here | apply Ix.there))) | exact Reads.at (by assumption) hW (by (repeat (first | exact List.Sublist.refl _ | apply List.Sublist.cons))) | exact St.old0 hW (by assumption))) rfl rfl rfl (by rfl) (by intro _; rfl) (by (first | assumption | exact get_lt (by first | omega | (simp; omega)))) (by rfl) | exact a_loadR hW rfl rfl rfl rfl (by (repeat (first | exact Ix.here | apply Ix.there))) (by rfl))) (h : wpQuiet P ops (fun W => St S w0 W M) Kq rest (a.put o.dst v)) : wpQuiet P ops (fun W => St S w0 W M) Kq (o :: rest) a := wq_run hw hr h
theorem q_len {v : Value} {Kq : Act → Prop} (hw : Region.wanted o (yielded ops a.tmps) = true) (hr : ∀ W, St S w0 W M → (execOp a.eval o).run P W = .ok (.value v) W := by intro W hW; exact a_len rfl rfl rfl (by (first | exact St.rdx hW (by (repeat (first | exact Ix.here | apply Ix.there))) | exact Reads.at (by assumption) hW (by (repeat (first | exact List.Sublist.refl _ | apply List.Sublist.cons))) | exact St.old0 hW (by assumption)))) (h : wpQuiet P ops (fun W => St S w0 W M) Kq rest (a.put o.dst v)) : wpQuiet P ops (fun W => St S w0 W M) Kq (o :: rest) a := wq_run hw hr h
/-- A call that leaves what is known, and hands back v. -/
def CalmC (P : Program) (S : List Nat) (w0 : World) (M : List Ent) (f : FuncId) (args : Array Value) (v : Value) : Prop := ∀ W, St S w0 W M → Calls P f args W fun e w' => e = .returned v ∧ St S w0 w' M
theorem q_call {v : Value} {Kq : Act → Prop} {f : FuncId} {args : Array Value} (hc : CalmC P S w0 M f args v) (hw : Region.wanted o (yielded ops a.tmps) = true) (hr : ∀ W, (execOp a.eval o).run P W = .ok (.enter f args) W := by intro W; go_simp) (h : wpQuiet P ops (fun W => St S w0 W M) Kq rest (a.put o.dst v)) : wpQuiet P ops (fun W => St S w0 W M) Kq (o :: rest) a :=
  wq_call hw hr hc h
theorem calm_same {f : FuncId} {args : Array Value} {v : Value} (h : ∀ W, St S w0 W M → Calls P f args W fun e w' => e = .returned v ∧ w' = W) : CalmC P S w0 M f args v := fun W hW => (h W hW).mono fun _ _ k => ⟨k.1, k.2 ▸ hW⟩
theorem calm_makes {f : FuncId} {args : Array Value} {v : Value} (h : ∀ W, Calls P f args W fun e w' => e = .returned v ∧ St [] W w' []) : CalmC P S w0 M f args v := fun W hW => (h W).mono fun _ _ k => ⟨k.1, hW.call k.2⟩
/-- The end of a function whose first of two results is a struct in memory. -/
theorem end_cell2 (hS : St S w0 w M) {fn : Func} {R : Ending → World → Prop} {p q : Tmp} {ty : TypeId} (hr : fn.results = #[.cell p ty, .tmp q]) {g : Nat} (hp : a.tmps.getD p undef = .pointer (some ⟨g, 0, none⟩)) {i : Nat} {cs : List Value} {e : TypeId} {fr : Nat × Nat} {d : TypeDesc} {u : Value} (hq : a.tmps.getD q undef = u) (hu : P.underlying ty = some d) (hd : (match d with | .struct _ | .array _ _ => true | _ => false) = true)
    (hdf : a.defers = []) (hM : Ix M i (.row g cs e fr) := by (repeat (first | exact Ix.here | apply Ix.there))) (hi : (P.info? ty).map (·.size) = some cs.length := by rfl) (h : R (.returned (.tuple #[.agg cs.toArray, u])) w) : bodyPost P fn R .ret a w := by
  refine bodyPost_ret (v := .tuple #[.agg cs.toArray, u]) ?_ hdf h
  have hp' : a.tmps[p]?.getD undef = .pointer (some ⟨g, 0, none⟩) := by simpa using hp
  have hq' : a.tmps[q]?.getD undef = u := by simpa using hq
  have hl := run_loadVar_row (P := P) w g e ty cs.toArray fr d (hS.row hM.get) hu hd (by simpa using hi)
  simp [results, hr, hp', hq', asAddr, hl]
end
/-! ### Short arms: the searches of the walk's arms, written once (N: the goal that is left) -/
/-- What is left to prove (no search takes it for a fact). -/
structure Nx (N : Prop) : Prop where
  out : N
theorem au1 {N G : Prop} (h : Nx N → G := by first | (intro n; first | (((with_reducible refine g_load ?_); refine k_read rfl (h := ?_)); exact n.out) | (((with_reducible refine g_len ?_); refine k_len rfl (h := ?_)); exact n.out) | (((with_reducible refine g_index ?_); refine k_idx rfl (h := ?_)); exact n.out) | (((with_reducible refine g_field ?_); refine k_fld rfl (h := ?_)); exact n.out) | (((with_reducible refine g_cut ?_); refine k_str rfl (h := ?_)); exact n.out) | (((with_reducible refine g_indexV ?_); refine k_six rfl (h := ?_)); exact n.out) | (((with_reducible refine g_bin ?_); refine k_cat rfl (h := ?_)); exact n.out) | (((with_reducible refine g_conv ?_); refine k_tos rfl (h := ?_)); exact n.out)) | fail) (n : N) : G := h ⟨n⟩
theorem au2 {N G : Prop} (h : Nx N → G := by first | (intro n; ((with_reducible refine g_store ?_); refine wl_of rfl ?_; first | (refine k_sta hS rfl rfl rfl (h := ?_); intro w' hS; simp only [List.take, List.drop, List.cons_append, List.nil_append, List.length_cons, List.length_nil] at hS) | (first | ((first | (refine k_st1 (v := .int _ _) hS rfl rfl rfl (h := ?_)) | (refine k_st1 (v := .bool _) hS rfl rfl rfl (h := ?_)) | (refine k_st1 (v := .string _) hS rfl rfl rfl (h := ?_)) | (refine k_st1 (v := .slice none 0 0) hS rfl rfl rfl (h := ?_))); intro w' hS; simp only [List.set_cons_zero, List.set_cons_succ] at hS) | ((refine k_st1  hS rfl rfl rfl (h := ?_)); intro w' hS; simp only [List.set_cons_zero, List.set_cons_succ] at hS; simp only [Act.eval, Array.getD_eq_getD_getElem?, List.getElem?_toArray, List.getElem?_cons_succ, List.getElem?_cons_zero, Option.getD_some] at hS)) | (first | (refine k_ste (v := .int _ _) hS rfl rfl rfl (h := ?_); intro w' hS) | (refine k_ste (v := .bool _) hS rfl rfl rfl (h := ?_); intro w' hS) | (refine k_ste (v := .string _) hS rfl rfl rfl (h := ?_); intro w' hS))); revert w' hS; exact n.out) | fail) (n : N) : G := h ⟨n⟩
theorem au3 {N G : Prop} (h : Nx N → G := by first | (intro n; first | ((with_reducible refine g_alloc ?_); refine wl_of rfl ?_; refine wp_alloc hS rfl rfl rfl rfl ?_; exact n.out) | ((with_reducible refine g_box ?_); refine wl_of rfl ?_; refine wp_box hS rfl rfl rfl ?_; exact n.out)) | fail) (n : N) : G := h ⟨n⟩
theorem au4 {N G : Prop} (h : Nx N → G := by first | (intro n; (with_reducible refine g_bs ?_); refine wl_of rfl ?_; (first | refine a_build1 (v := .int _ _) hS rfl rfl rfl rfl (by rfl) (by simp) ?_ | refine a_build1 (v := .string _) hS rfl rfl rfl rfl (by rfl) (by simp) ?_ | refine a_build1 (v := .bool _) hS rfl rfl rfl rfl (by rfl) (by simp) ?_ | refine a_build1 (v := .agg _) hS rfl rfl rfl rfl (by rfl) (by simp) ?_ | refine a_build1  hS rfl rfl rfl rfl (by rfl) (by simp) ?_); intro v1 w' hS; simp only [List.length_cons, List.length_nil, Nat.zero_add] at hS; (try simp only [Nat.reduceAdd] at hS); revert v1 w' hS; exact n.out) | fail) (n : N) : G := h ⟨n⟩
theorem au5 {N G : Prop} (h : Nx N → G := by first | (intro n; (with_reducible refine g_store ?_); refine wl_of rfl ?_; (refine k_sta hS rfl rfl rfl (h := ?_); intro w' hS; simp only [List.take, List.drop, List.cons_append, List.nil_append, List.length_cons, List.length_nil] at hS); revert w' hS; exact n.out) | fail) (n : N) : G := h ⟨n⟩
theorem rdR {p : Prop} (h : p := by first | ((first | exact a_load1 (hR W hW) rfl rfl rfl rfl (by (repeat (first | exact Ix.here | apply Ix.there))) (by rfl) | exact a_loadE rfl (by (first | exact St.rdx (hR W hW) (by (repeat (first | exact Ix.here | apply Ix.there))) | exact Reads.at (by assumption) (hR W hW) (by (repeat (first | exact List.Sublist.refl _ | apply List.Sublist.cons))) | exact St.old0 (hR W hW) (by assumption))) rfl rfl rfl (by intro _; rfl) (by (first | assumption | exact get_lt (by first | omega | (simp; omega)))) (by rfl) | exact a_loadF rfl (by (first | exact St.rdx (hR W hW) (by (repeat (first | exact Ix.here | apply Ix.there))) | exact Reads.at (by assumption) (hR W hW) (by (repeat (first | exact List.Sublist.refl _ | apply List.Sublist.cons))) | exact St.old0 (hR W hW) (by assumption))) rfl rfl rfl (by intro _; rfl) (by (first | assumption | exact get_lt (by first | omega | (simp; omega)))) (by rfl) | exact a_loadG (vs := [_, _]) rfl (by (first | exact St.rdx (hR W hW) (by (repeat (first | exact Ix.here | apply Ix.there))) | exact Reads.at (by assumption) (hR W hW) (by (repeat (first | exact List.Sublist.refl _ | apply List.Sublist.cons))) | exact St.old0 (hR W hW) (by assumption))) rfl rfl rfl (by rfl) (by intro _; rfl) (by (first | assumption | exact get_lt (by first | omega | (simp; omega)))) (by rfl) | exact a_loadG (vs := [_, _, _]) rfl (by (first | exact St.rdx (hR W hW) (by (repeat (first | exact Ix.here | apply Ix.there))) | exact Reads.at (by assumption) (hR W hW) (by (repeat (first | exact List.Sublist.refl _ | apply List.Sublist.cons))) | exact St.old0 (hR W hW) (by assumption))) rfl rfl rfl (by rfl) (by intro _; rfl) (by (first | assumption | exact get_lt (by first | omega | (simp; omega)))) (by rfl) | exact a_loadG (vs := [_, _, _, _]) rfl (by (first | exact St.rdx (hR W hW) (by (repeat (first | exact Ix.here | apply Ix.there))) | exact Reads.at (by assumption) (hR W hW) (by (repeat (first | exact List.Sublist.refl _ | apply List.Sublist.cons))) | exact St.old0 (hR W hW) (by assumption))) rfl rfl rfl (by rfl) (by intro _; rfl) (by (first | assumption | exact get_lt (by first | omega | (simp; omega)))) (by rfl) | exact a_loadG (vs := [_, _, _, _, _]) rfl (by (first | exact St.rdx (hR W hW) (by (repeat (first | exact Ix.here | apply Ix.there))) | exact Reads.at (by assumption) (hR W hW) (by (repeat (first | exact List.Sublist.refl _ | apply List.Sublist.cons))) | exact St.old0 (hR W hW) (by assumption))) rfl rfl rfl (by rfl) (by intro _; rfl) (by (first | assumption | exact get_lt (by first | omega | (simp; omega)))) (by rfl) | exact a_loadR (hR W hW) rfl rfl rfl rfl (by (repeat (first | exact Ix.here | apply Ix.there))) (by rfl))) | fail) : p := h
theorem rdW {p : Prop} (h : p := by first | ((first | exact a_load1 hW rfl rfl rfl rfl (by (repeat (first | exact Ix.here | apply Ix.there))) (by rfl) | exact a_loadE rfl (by (first | exact St.rdx hW (by (repeat (first | exact Ix.here | apply Ix.there))) | exact Reads.at (by assumption) hW (by (repeat (first | exact List.Sublist.refl _ | apply List.Sublist.cons))) | exact St.old0 hW (by assumption))) rfl rfl rfl (by intro _; rfl) (by (first | assumption | exact get_lt (by first | omega | (simp; omega)))) (by rfl) | exact a_loadF rfl (by (first | exact St.rdx hW (by (repeat (first | exact Ix.here | apply Ix.there))) | exact Reads.at (by assumption) hW (by (repeat (first | exact List.Sublist.refl _ | apply List.Sublist.cons))) | exact St.old0 hW (by assumption))) rfl rfl rfl (by intro _; rfl) (by (first | assumption | exact get_lt (by first | omega | (simp; omega)))) (by rfl) | exact a_loadG (vs := [_, _]) rfl (by (first | exact St.rdx hW (by (repeat (first | exact Ix.here | apply Ix.there))) | exact Reads.at (by assumption) hW (by (repeat (first | exact List.Sublist.refl _ | apply List.Sublist.cons))) | exact St.old0 hW (by assumption))) rfl rfl rfl (by rfl) (by intro _; rfl) (by (first | assumption | exact get_lt (by first | omega | (simp; omega)))) (by rfl) | exact a_loadG (vs := [_, _, _]) rfl (by (first | exact St.rdx hW (by (repeat (first | exact Ix.here | apply Ix.there))) | exact Reads.at (by assumption) hW (by (repeat (first | exact List.Sublist.refl _ | apply List.Sublist.cons))) | exact St.old0 hW (by assumption))) rfl rfl rfl (by rfl) (by intro _; rfl) (by (first | assumption | exact get_lt (by first | omega | (simp; omega)))) (by rfl) | exact a_loadG (vs := [_, _, _, _]) rfl (by (first | exact St.rdx hW (by (repeat (first | exact Ix.here | apply Ix.there))) | exact Reads.at (by assumption) hW (by (repeat (first | exact List.Sublist.refl _ | apply List.Sublist.cons))) | exact St.old0 hW (by assumption))) rfl rfl rfl (by rfl) (by intro _; rfl) (by (first | assumption | exact get_lt (by first | omega | (simp; omega)))) (by rfl) | exact a_loadG (vs := [_, _, _, _, _]) rfl (by (first | exact St.rdx hW (by (repeat (first | exact Ix.here | apply Ix.there))) | exact Reads.at (by assumption) hW (by (repeat (first | exact List.Sublist.refl _ | apply List.Sublist.cons))) | exact St.old0 hW (by assumption))) rfl rfl rfl (by rfl) (by intro _; rfl) (by (first | assumption | exact get_lt (by first | omega | (simp; omega)))) (by rfl) | exact a_loadR hW rfl rfl rfl rfl (by (repeat (first | exact Ix.here | apply Ix.there))) (by rfl))) | fail) : p := h
theorem rlW {p : Prop} (h : p := by first | (exact a_len rfl rfl rfl (by (first | exact St.rdx hW (by (repeat (first | exact Ix.here | apply Ix.there))) | exact Reads.at (by assumption) hW (by (repeat (first | exact List.Sublist.refl _ | apply List.Sublist.cons))) | exact St.old0 hW (by assumption)))) | fail) : p := h
end Go.Cmp
namespace Go.Cmp
open Go.RowKit

section
variable {P : Program} {md : Region.Mode} {ops : Array Oper} {a : Act} {Q : Exit → Act → World → Prop} {w w0 : World} {S : List Nat} {M : List Ent} {C : World → Prop} {o : Oper}
/-- What A tells may change; what M tells can be read in whatever order. -/
theorem region_held (A M : List Ent) {id : Nat} (hS : St S w0 w (A ++ M)) (hm : P.follows .mixedOrders = true)
    (h : ∀ F w1, (∀ w', Mod F w1 w' → St S w0 w' M) → (∀ w' B, St F w1 w' B → St S w0 w' (B ++ M)) → St F w1 w1 A →
      wpAnyH P .any ops Q (fun W => Mod F w1 W) ops.size (Array.replicate ops.size false) a w1) : (Code.region id ops true).wp P Q a w := by
  obtain ⟨F, h1, h2, h3⟩ := St.split hS.drew
  exact wp_region_held hm (h F w.drew h2 h3 h1)
/-- From here on more holds of the worlds. -/
theorem held_mono {C' : World → Prop} (h : ∀ W, C' W → C W) : ∀ (fuel : Nat) (listed : Array Bool) (a : Act) (w : World), wpAnyH P md ops Q C' fuel listed a w → wpAnyH P md ops Q C fuel listed a w
  | 0, _, _, _, k => k
  | fuel + 1, _, _, _, k => ⟨k.1, fun i hi => wpOp_mono (fun a' w' k' => ⟨h _ k'.1, held_mono h fuel _ a' w' k'.2⟩) (k.2 i hi)⟩

theorem p_move {x : Operand} {v : Value} (ho : o.op = .move x) (hx : a.eval x = v) : (execOp a.eval o).run P w = .ok (.value v) w := by simp only [execOp, ho, hx]; rfl
theorem p_assign {x : Operand} {v : Value} (ho : o.op = .assign x) (hx : a.eval x = v) : (execOp a.eval o).run P w = .ok (.value v) w := by simp only [execOp, ho, hx]; rfl
theorem p_pickT {c x y : Operand} {v : Value} (ho : o.op = .pick c x y) (hc : a.eval c = .bool true) (hx : a.eval x = v) : (execOp a.eval o).run P w = .ok (.value v) w := by simp only [execOp, ho, hc, hx]; rfl
theorem p_pickF {c x y : Operand} {v : Value} (ho : o.op = .pick c x y) (hc : a.eval c = .bool false) (hx : a.eval y = v) : (execOp a.eval o).run P w = .ok (.value v) w := by simp only [execOp, ho, hc, hx]; rfl
theorem p_not {t : TypeId} {x : Operand} {b : Bool} (ho : o.op = .unOp .not t x) (hx : a.eval x = .bool b) : (execOp a.eval o).run P w = .ok (.value (.bool (!b))) w := by simp only [execOp, ho, hx]; rfl
theorem p_nil {x : Operand} {p : Addr} (ho : o.op = .nilCheck x) (hx : a.eval x = .pointer (some p)) : (execOp a.eval o).run P w = .ok (.value (.pointer (some p))) w := by simp only [execOp, ho, hx]; rfl
/-- A calm walk behind a name that no tactic opens. -/
structure Calm (P : Program) (S : List Nat) (w0 : World) (M : List Ent) (ops : Array Oper) (K : Act → Prop) (l : List Oper) (a : Act) : Prop where
  out : wpQuiet P ops (fun W => St S w0 W M) K l a
section
variable {Kq : Act → Prop} {rest : List Oper} {v : Value}
theorem region_calm {id : Nat} {l : List Oper} (hm : P.follows .mixedOrders = true) (hB : Region.lexB .any l.toArray = true) (hS : St S w0 w M)
    (h : Calm P S w0 M l.toArray (fun a' => ∀ w', St S w0 w' M → Q .normal a' w') l a) : (Code.region id l.toArray true).wp P Q a w := wp_region_calm hm hB hS h.out
theorem Calm.skip (hw : Region.wanted o (yielded ops a.tmps) = false) (h : Calm P S w0 M ops Kq rest (a.put o.dst undef)) : Calm P S w0 M ops Kq (o :: rest) a := ⟨wq_skip hw h.out⟩
theorem Calm.run (hw : Region.wanted o (yielded ops a.tmps) = true) (hr : ∀ W, St S w0 W M → (execOp a.eval o).run P W = .ok (.value v) W) (h : Calm P S w0 M ops Kq rest (a.put o.dst v)) : Calm P S w0 M ops Kq (o :: rest) a := ⟨wq_run hw hr h.out⟩
theorem Calm.pure (hw : Region.wanted o (yielded ops a.tmps) = true) (hr : ∀ W, St S w0 W M → (execOp a.eval o).run P W = .ok (.value v) W := by intro W hW; (go_simp; try with_reducible rfl)) (h : Calm P S w0 M ops Kq rest (a.put o.dst v)) : Calm P S w0 M ops Kq (o :: rest) a := ⟨wq_run hw hr h.out⟩
theorem Calm.read (hw : Region.wanted o (yielded ops a.tmps) = true) (hr : ∀ W, St S w0 W M → (execOp a.eval o).run P W = .ok (.value v) W := by intro W hW; (first | exact a_load1 hW rfl rfl rfl rfl (by (repeat (first | exact Ix.here | apply Ix.there))) (by rfl) | exact a_loadE rfl (by (first | exact St.rdx hW (by (repeat (first | exact Ix.here | apply Ix.there))) | exact Reads.at (by assumption) hW (by (repeat (first | exact List.Sublist.refl _ | apply List.Sublist.cons))) | exact St.old0 hW (by assumption))) rfl rfl rfl (by intro _; rfl) (by (first | assumption | exact get_lt (by first | omega | (simp; omega)))) (by rfl) | exact a_loadF rfl (by (first | exact St.rdx hW (by (repeat (first | exact Ix.here | apply Ix.there))) | exact Reads.at (by assumption) hW (by (repeat (first | exact List.Sublist.refl _ | apply List.Sublist.cons))) | exact St.old0 hW (by assumption))) rfl rfl rfl (by intro _; rfl) (by (first | assumption | exact get_lt (by first | omega | (simp; omega)))) (by rfl) | exact a_loadG (vs := [_, _]) rfl (by (first | exact St.rdx hW (by (repeat (first | exact Ix.here | apply Ix.there))) | exact Reads.at (by assumption) hW (by (repeat (first | exact List.Sublist.refl _ | apply List.Sublist.cons))) | exact St.old0 hW (by assumption))) rfl rfl rfl (by rfl) (by intro _; rfl) (by (first | assumption | exact get_lt (by first | omega | (simp; omega)))) (by rfl) | exact a_loadG (vs := [_, _, _]) rfl (by (first | exact St.rdx hW (by (repeat (first | exact Ix.here | apply Ix.there))) | exact Reads.at (by assumption) hW (by (repeat (first | exact List.Sublist.refl _ | apply List.Sublist.cons))) | exact St.old0 hW (by assumption))) rfl rfl rfl (by rfl) (by intro _; rfl) (by (first | assumption | exact get_lt (by first | omega | (simp; omega)))) (by rfl) | exact a_loadG (vs := [_, _, _, _]) rfl (by (first | exact St.rdx hW (by (repeat (first | exact Ix.here | apply Ix.there))) | exact Reads.at (by assumption) hW (by (repeat (first | exact List.Sublist.refl _ | apply List.Sublist.cons))) | exact St.old0 hW (by assumption))) rfl rfl rfl (by rfl) (by intro _; rfl) (by (first | assumption | exact get_lt (by first | omega | (simp; omega)))) (by rfl) | exact a_loadG (vs := [_, _, _, _, _]) rfl (by (first | exact St.rdx hW (by (repeat (first | exact Ix.here | apply Ix.there))) | exact Reads.at (by assumption) hW (by (repeat (first | exact List.Sublist.refl _ | apply List.Sublist.cons))) | exact St.old0 hW (by assumption))) rfl rfl rfl (by rfl) (by intro _; rfl) (by (first | assumption | exact get_lt (by first | omega | (simp; omega)))) (by rfl) | exact a_loadR hW rfl rfl rfl rfl (by (repeat (first | exact Ix.here | apply Ix.there))) (by rfl))) (h : Calm P S w0 M ops Kq rest (a.put o.dst v)) : Calm P S w0 M ops Kq (o :: rest) a := ⟨wq_run hw hr h.out⟩
theorem Calm.idx (hw : Region.wanted o (yielded ops a.tmps) = true) (hr : ∀ W, St S w0 W M → (execOp a.eval o).run P W = .ok (.value v) W := by intro W hW; (first | exact a_indexI 0 hW rfl rfl rfl rfl rfl (by rfl) (by omega) (by omega) | exact a_indexI 1 hW rfl rfl rfl rfl rfl (by rfl) (by omega) (by omega) | exact a_indexI 2 hW rfl rfl rfl rfl rfl (by rfl) (by omega) (by omega) | exact a_indexI 3 hW rfl rfl rfl rfl rfl (by rfl) (by omega) (by omega) | exact a_indexI 4 hW rfl rfl rfl rfl rfl (by rfl) (by omega) (by omega) | exact a_indexI 5 hW rfl rfl rfl rfl rfl (by rfl) (by omega) (by omega) | exact a_indexI 6 hW rfl rfl rfl rfl rfl (by rfl) (by omega) (by omega) | exact a_indexI 7 hW rfl rfl rfl rfl rfl (by rfl) (by omega) (by omega) | exact a_indexI 8 hW rfl rfl rfl rfl rfl (by rfl) (by omega) (by omega) | exact a_indexI 9 hW rfl rfl rfl rfl rfl (by rfl) (by omega) (by omega) | exact a_index rfl rfl rfl rfl (by (first | exact St.rdx hW (by (repeat (first | exact Ix.here | apply Ix.there))) | exact Reads.at (by assumption) hW (by (repeat (first | exact List.Sublist.refl _ | apply List.Sublist.cons))) | exact St.old0 hW (by assumption))) (by rfl) (by omega) (by omega))) (h : Calm P S w0 M ops Kq rest (a.put o.dst v)) : Calm P S w0 M ops Kq (o :: rest) a := ⟨wq_run hw hr h.out⟩
theorem Calm.len (hw : Region.wanted o (yielded ops a.tmps) = true) (hr : ∀ W, St S w0 W M → (execOp a.eval o).run P W = .ok (.value v) W := by intro W hW; exact a_len rfl rfl rfl (by (first | exact St.rdx hW (by (repeat (first | exact Ix.here | apply Ix.there))) | exact Reads.at (by assumption) hW (by (repeat (first | exact List.Sublist.refl _ | apply List.Sublist.cons))) | exact St.old0 hW (by assumption)))) (h : Calm P S w0 M ops Kq rest (a.put o.dst v)) : Calm P S w0 M ops Kq (o :: rest) a := ⟨wq_run hw hr h.out⟩
theorem Calm.fld (hw : Region.wanted o (yielded ops a.tmps) = true) (hr : ∀ W, St S w0 W M → (execOp a.eval o).run P W = .ok (.value v) W := by intro W hW; exact a_field rfl rfl (by (first | exact St.rdx hW (by (repeat (first | exact Ix.here | apply Ix.there))) | exact Reads.at (by assumption) hW (by (repeat (first | exact List.Sublist.refl _ | apply List.Sublist.cons))) | exact St.old0 hW (by assumption))) (by omega) rfl rfl rfl (by rfl)) (h : Calm P S w0 M ops Kq rest (a.put o.dst v)) : Calm P S w0 M ops Kq (o :: rest) a := ⟨wq_run hw hr h.out⟩
theorem Calm.call {f : FuncId} {args : Array Value} (hc : CalmC P S w0 M f args v) (hw : Region.wanted o (yielded ops a.tmps) = true) (hr : ∀ W, (execOp a.eval o).run P W = .ok (.enter f args) W := by intro W; go_simp) (h : Calm P S w0 M ops Kq rest (a.put o.dst v)) : Calm P S w0 M ops Kq (o :: rest) a := ⟨wq_call hw hr hc h.out⟩
theorem Calm.nil (h : Kq a) : Calm P S w0 M ops Kq [] a := ⟨wpQuiet_nil h⟩
end

/-- .. and operation m, for which every other one must have come up, may change whatever it likes. -/
def wpAnyE (P : Program) (md : Region.Mode) (ops : Array Oper) (Q : Exit → Act → World → Prop) (C : World → Prop) (m : Nat) : Nat → Array Bool → Act → World → Prop
  | 0, listed, a, w => Region.ready md ops listed = [] ∧ Q .normal a w
  | fuel + 1, listed, a, w =>
    (Region.ready md ops listed = [] → Q .normal a w) ∧
    ∀ i ∈ Region.ready md ops listed, wpOp P ops Q i (fun a' w' => (i ≠ m → C w') ∧ wpAnyE P md ops Q C m fuel (listed.setIfInBounds i true) a' w') a w
theorem wpAny_of_end {m : Nat} : ∀ (fuel : Nat) (listed : Array Bool) (a : Act) (w : World), wpAnyE P md ops Q C m fuel listed a w → wpAny P md ops Q fuel listed a w
  | 0, _, _, _, h => h
  | fuel + 1, _, _, _, h => ⟨h.1, fun i hi => wpOp_mono (fun a' w' h' => wpAny_of_end fuel _ a' w' h'.2) (h.2 i hi)⟩
/-- Operation m waits for i. -/
def waits (md : Region.Mode) (ops : Array Oper) (m i : Nat) : Bool := match ops[m]? with | some o => o.after.any (fun e => Region.binds md e && (e.on == i)) | none => true
theorem wpAnyE_first {m i : Nat} {oi : Oper} {v : Value} (hi : ops[i]? = some oi) (hsel : ∀ (j : Nat) (o : Oper) cs b, ops[j]? = some o → o.op ≠ .select cs b)
    (hQ : ∀ c a w, Q (.panic c) (a.put oi.dst v) w → Q (.panic c) a w) (hw : waits md ops m i = true) :
    ∀ (fuel : Nat) (listed : Array Bool) (a : Act) (w : World),
      (∀ j oj, ops[j]? = some oj → j ≠ i → listed.getD j true = false → (∀ e ∈ oj.after, Region.binds md e = true → e.on ≠ i) → oi.apart ops oj = true) →
      i ∈ Region.ready md ops listed → YieldsIf P ops C oi v a → C w →
      wpAnyE P md ops Q C m fuel (listed.setIfInBounds i true) (a.put oi.dst v) w → wpAnyE P md ops Q C m (fuel + 1) listed a w := by
  intro fuel
  induction fuel with
  | zero =>
    intro listed a w _ hr hy hS H
    refine ⟨fun h => (by rw [h] at hr; cases hr), fun j hj => ?_⟩
    by_cases hji : j = i
    · subst hji; exact hy.wpOp hi hS ⟨fun _ => hS, H⟩
    · have := ready_mono hj hji
      rw [H.1] at this
      cases this
  | succ fuel ih =>
    intro listed a w hfree hr hy hS H
    refine ⟨fun h => (by rw [h] at hr; cases hr), fun j hj => ?_⟩
    by_cases hji : j = i
    · subst hji; exact hy.wpOp hi hS ⟨fun _ => hS, H⟩
    · have h1 := H.2 j (ready_mono hj hji)
      obtain ⟨hjun, oj, hoj, hall⟩ := mem_ready.1 hj
      have hnot : ∀ e ∈ oj.after, Region.binds md e = true → e.on ≠ i := fun e he hb heq => by
        have h1 := hall e he hb
        have h0 := (mem_ready.1 hr).1
        rw [heq] at h1
        rcases Nat.lt_or_ge i listed.size with h' | h'
        · simp [h'] at h0 h1; rw [h0] at h1; cases h1
        · simp [Array.getElem?_eq_none h'] at h1
      have hjm : j ≠ m := by
        intro hjm
        subst hjm
        unfold waits at hw
        rw [hoj] at hw
        obtain ⟨e, he, hb⟩ := Array.any_eq_true'.1 hw
        rw [Bool.and_eq_true] at hb
        exact hnot e he hb.1 (by simpa using hb.2)
      have h2 := wpOp_putIf hoj (hfree j oj hoj hji hjun hnot) (fun cs b => hsel i oi cs b hi) (fun cs b => hsel j oj cs b hoj) hQ hy h1
      have hfree' : ∀ k ok, ops[k]? = some ok → k ≠ i → (listed.setIfInBounds j true).getD k true = false →
          (∀ e ∈ ok.after, Region.binds md e = true → e.on ≠ i) → oi.apart ops ok = true := fun k ok hk hki hun hno => by
        refine hfree k ok hk hki ?_ hno
        by_cases hjk : j = k
        · subst hjk; exact hjun
        · rw [getD_set_ne true hjk] at hun; exact hun
      refine wpOp_mono (fun a' w' h3 => ⟨fun _ => h3.2.1 hjm, ih (listed.setIfInBounds j true) a' w' hfree' (ready_mono hr (Ne.symm hji)) h3.1 (h3.2.1 hjm) ?_⟩) h2
      rw [Array.setIfInBounds_comm _ _ hji]
      exact h3.2.2
theorem we_take {m : Nat} (i : Nat) {d : Nat} {fuel : Nat} {listed : Array Bool} {v : Value} (hi : ops[i]? = some o) (hd : o.dst = some d) (hs : Region.noSelect ops = true) (hf : Region.free md ops listed i = true) (hr : (Region.ready md ops listed).contains i = true)
    (hQ : ∀ c a w, Q (.panic c) (a.put o.dst v) w → Q (.panic c) a w) (hm : waits md ops m i = true) (hw : Region.wanted o (yielded ops a.tmps) = true) (hy : ∀ W, C W → (execOp a.eval o).run P W = .ok (.value v) W) (hC : C w)
    (h : wpAnyE P md ops Q C m fuel (listed.setIfInBounds i true) (a.put (some d) v) w) : wpAnyE P md ops Q C m (fuel + 1) listed a w :=
  wpAnyE_first hi (Region.noSelect_spec hs) hQ hm fuel listed a w (Region.free_spec hi hf) (by simpa using hr) (.inl ⟨hw, hy⟩) hC (by rw [hd]; exact h)
theorem we_skip {m : Nat} (i : Nat) {d : Nat} {fuel : Nat} {listed : Array Bool} (hi : ops[i]? = some o) (hd : o.dst = some d) (hs : Region.noSelect ops = true) (hf : Region.free md ops listed i = true) (hr : (Region.ready md ops listed).contains i = true)
    (hQ : ∀ c a w, Q (.panic c) (a.put o.dst undef) w → Q (.panic c) a w) (hm : waits md ops m i = true) (hw : Region.wanted o (yielded ops a.tmps) = false) (hC : C w)
    (h : wpAnyE P md ops Q C m fuel (listed.setIfInBounds i true) (a.put (some d) undef) w) : wpAnyE P md ops Q C m (fuel + 1) listed a w :=
  wpAnyE_first hi (Region.noSelect_spec hs) hQ hm fuel listed a w (Region.free_spec hi hf) (by simpa using hr) (.inr ⟨hw, rfl⟩) hC (by rw [hd]; exact h)
theorem we_all {m : Nat} {rs : List Nat} {fuel : Nat} {listed : Array Bool} (hr : Region.ready md ops listed = rs) (hne : rs ≠ [])
    (h : ∀ i ∈ rs, wpOp P ops Q i (fun a' w' => (i ≠ m → C w') ∧ wpAnyE P md ops Q C m fuel (listed.setIfInBounds i true) a' w') a w) : wpAnyE P md ops Q C m (fuel + 1) listed a w :=
  ⟨fun h0 => absurd (hr ▸ h0) hne, hr ▸ h⟩
theorem we_done {m : Nat} {listed : Array Bool} (hr : Region.ready md ops listed = []) (h : Q .normal a w) : ∀ fuel, wpAnyE P md ops Q C m fuel listed a w
  | 0 => ⟨hr, h⟩
  | _ + 1 => ⟨fun _ => h, by rw [hr]; simp⟩
/-- What A tells may change, and the last operation (number m) may change all. -/
theorem region_end (m : Nat) (A M : List Ent) {id : Nat} (hS : St S w0 w (A ++ M)) (hm : P.follows .mixedOrders = true)
    (h : ∀ F w1, (∀ w', Mod F w1 w' → St S w0 w' M) → (∀ w' B, St F w1 w' B → St S w0 w' (B ++ M)) → St F w1 w1 A →
      wpAnyE P .any ops Q (fun W => Mod F w1 W) m ops.size (Array.replicate ops.size false) a w1) : (Code.region id ops true).wp P Q a w := by
  obtain ⟨F, h1, h2, h3⟩ := St.split hS.drew
  exact wp_region_any hm (wpAny_of_end _ _ _ _ (h F w.drew h2 h3 h1))
/-- Nothing that is known changes but by the last operation. -/
theorem region_end0 (m : Nat) {id : Nat} (hS : St S w0 w M) (hm : P.follows .mixedOrders = true)
    (h : ∀ w1, (∀ w', Mod [] w1 w' → St S w0 w' M) → (∀ w' B, St [] w1 w' B → St S w0 w' (B ++ M)) → St [] w1 w1 [] →
      wpAnyE P .any ops Q (fun W => Mod [] w1 W) m ops.size (Array.replicate ops.size false) a w1) : (Code.region id ops true).wp P Q a w :=
  wp_region_any hm (wpAny_of_end _ _ _ _ (h w.drew (fun _ h => hS.drew.same h) (fun _ _ h => hS.drew.call h) (St.init _)))
end
end Go.Cmp
namespace Go.Cmp
open Go.RowKit
section
variable {P : Program} {ops : Array Oper} {a : Act} {w0 : World} {S : List Nat} {M : List Ent} {Kq : Act → Prop} {rest : List Oper}
/-! Guards: they look at the head operation alone. -/
theorem c_load {d : Option Tmp} {ty : TypeId} {pos : String} {af : Array Edge} {gd : Option (Nat × Bool)} {t : TypeId} {x : Operand} (H : Calm P S w0 M ops Kq (⟨d, .load t x, ty, pos, af, gd⟩ :: rest) a) : Calm P S w0 M ops Kq (⟨d, .load t x, ty, pos, af, gd⟩ :: rest) a := H
theorem c_index {d : Option Tmp} {ty : TypeId} {pos : String} {af : Array Edge} {gd : Option (Nat × Bool)} {t : TypeId} {x y : Operand} (H : Calm P S w0 M ops Kq (⟨d, .indexAddr t x y, ty, pos, af, gd⟩ :: rest) a) : Calm P S w0 M ops Kq (⟨d, .indexAddr t x y, ty, pos, af, gd⟩ :: rest) a := H
theorem c_field {d : Option Tmp} {ty : TypeId} {pos : String} {af : Array Edge} {gd : Option (Nat × Bool)} {t : TypeId} {x : Operand} {n : Nat} (H : Calm P S w0 M ops Kq (⟨d, .fieldAddr t x n, ty, pos, af, gd⟩ :: rest) a) : Calm P S w0 M ops Kq (⟨d, .fieldAddr t x n, ty, pos, af, gd⟩ :: rest) a := H
theorem c_len {d : Option Tmp} {ty : TypeId} {pos : String} {af : Array Edge} {gd : Option (Nat × Bool)} {as' : Array Operand} {ts : Array TypeId} (H : Calm P S w0 M ops Kq (⟨d, .call ⟨.builtin .len, as', ts⟩, ty, pos, af, gd⟩ :: rest) a) : Calm P S w0 M ops Kq (⟨d, .call ⟨.builtin .len, as', ts⟩, ty, pos, af, gd⟩ :: rest) a := H
theorem c_call {d : Option Tmp} {ty : TypeId} {pos : String} {af : Array Edge} {gd : Option (Nat × Bool)} {f : Operand} {as' : Array Operand} {ts : Array TypeId} (H : Calm P S w0 M ops Kq (⟨d, .call ⟨.value f, as', ts⟩, ty, pos, af, gd⟩ :: rest) a) : Calm P S w0 M ops Kq (⟨d, .call ⟨.value f, as', ts⟩, ty, pos, af, gd⟩ :: rest) a := H
theorem c_conv {d : Option Tmp} {ty : TypeId} {pos : String} {af : Array Edge} {gd : Option (Nat × Bool)} {t u : TypeId} {x : Operand} (H : Calm P S w0 M ops Kq (⟨d, .convert t u x, ty, pos, af, gd⟩ :: rest) a) : Calm P S w0 M ops Kq (⟨d, .convert t u x, ty, pos, af, gd⟩ :: rest) a := H
theorem Calm.call2 {o : Oper} {v : Value} {f : FuncId} {args : Array Value} (hc : CalmC P S w0 M f args v) (hw : Region.wanted o (yielded ops a.tmps) = true) (hr : ∀ W, (execOp a.eval o).run P W = .ok (.enter f args) W := by intro W; first | (go_simp; done) | fail) (h : Calm P S w0 M ops Kq rest (a.put o.dst v)) : Calm P S w0 M ops Kq (o :: rest) a := ⟨wq_call hw hr hc h.out⟩
theorem Calm.pure2 {o : Oper} {v : Value} (hw : Region.wanted o (yielded ops a.tmps) = true) (hr : ∀ W, St S w0 W M → (execOp a.eval o).run P W = .ok (.value v) W := by intro W hW; first | (go_simp; done) | (go_simp; with_reducible rfl) | fail) (h : Calm P S w0 M ops Kq rest (a.put o.dst v)) : Calm P S w0 M ops Kq (o :: rest) a := ⟨wq_run hw hr h.out⟩
end
theorem calm1 {N G : Prop} (h : Nx N → G := by first | (intro n; first | ((refine Calm.skip rfl ?_; simp only [Act.put, List.setIfInBounds_toArray, List.set_cons_zero, List.set_cons_succ]); exact n.out) | ((with_reducible refine c_load ?_); first | ((refine Calm.read rfl (h := ?_); simp only [Act.put, List.setIfInBounds_toArray, List.set_cons_zero, List.set_cons_succ]); exact n.out) | ((refine Calm.pure2 rfl (h := ?_); simp only [Act.put, List.setIfInBounds_toArray, List.set_cons_zero, List.set_cons_succ]); exact n.out)) | ((with_reducible refine c_index ?_); (refine Calm.idx rfl (h := ?_); simp only [Act.put, List.setIfInBounds_toArray, List.set_cons_zero, List.set_cons_succ]); exact n.out) | ((with_reducible refine c_field ?_); first | ((refine Calm.pure2 rfl (h := ?_); simp only [Act.put, List.setIfInBounds_toArray, List.set_cons_zero, List.set_cons_succ]); exact n.out) | ((refine Calm.fld rfl (h := ?_); simp only [Act.put, List.setIfInBounds_toArray, List.set_cons_zero, List.set_cons_succ]); exact n.out)) | ((with_reducible refine c_len ?_); first | ((refine Calm.len rfl (h := ?_); simp only [Act.put, List.setIfInBounds_toArray, List.set_cons_zero, List.set_cons_succ]); exact n.out) | ((refine Calm.pure2 rfl (h := ?_); simp only [Act.put, List.setIfInBounds_toArray, List.set_cons_zero, List.set_cons_succ]); exact n.out)) | ((refine Calm.pure2 rfl (h := ?_); simp only [Act.put, List.setIfInBounds_toArray, List.set_cons_zero, List.set_cons_succ]); exact n.out)) | fail) (n : N) : G := h ⟨n⟩
end Go.Cmp
namespace Go.Cmp
open Go.RowKit
section
variable {P : Program} {ops : Array Oper} {a : Act} {w0 : World} {S : List Nat} {M : List Ent} {Kq : Act → Prop} {rest : List Oper}
theorem c_indexV {d : Option Tmp} {ty : TypeId} {pos : String} {af : Array Edge} {gd : Option (Nat × Bool)} {t : TypeId} {x y : Operand} (H : Calm P S w0 M ops Kq (⟨d, .index t x y, ty, pos, af, gd⟩ :: rest) a) : Calm P S w0 M ops Kq (⟨d, .index t x y, ty, pos, af, gd⟩ :: rest) a := H
end
end Go.Cmp
namespace Go.Cmp
open Go.RowKit

theorem St.shape {S : List Nat} {w0 w : World} {M : List Ent} (h : St S w0 w M) {i : Nat} {v : Value} {e : TypeId} {k n : Nat} {xs : List Value} (hi : M[i]? = some (.vec v e k n xs)) (h0 : 0 < n) : ∃ g cap, v = .slice (some ⟨g, 0, none⟩) n cap ∧ n ≤ cap ∧ cap ≤ maxLen := by
  rcases (h.vec hi).2 with ⟨_, rfl⟩ | ⟨g, cap, rest, fr, rfl, _, h2, h3, _⟩
  · omega
  · exact ⟨g, cap, rfl, h2, h3⟩
theorem addr_add0 (p : Addr) : p.add 0 = p := by simp [Addr.add]
theorem cutSl_some (g n cap k l h : Nat) (hc : ¬ cap = l) : cutSl (.slice (some ⟨g, 0, none⟩) n cap) k l h = .slice (some ⟨g, l * k, none⟩) (h - l) (cap - l) := by
  simp [cutSl, hc, add_lit]
theorem cutSl_zero (g n cap k h : Nat) : cutSl (.slice (some ⟨g, 0, none⟩) n cap) k 0 h = .slice (some ⟨g, 0, none⟩) h cap := by
  simp [cutSl, addr_add0]
/-- A slice of its own, told shorter. -/
theorem St.shrinkAt {S : List Nat} {w0 w : World} {M M' : List Ent} (h : St S w0 w M) {v : Value} {e : TypeId} {k n : Nat} {xs : List Value} (l : Nat) (hl : l ≤ n) (ho : Out M (.vec v e k n xs) M') : St S w0 w (.vec (cutSl v k 0 l) e k l (xs.take (l * k)) :: M') := by
  have h1 := h.out ho
  have hv := h1.vec (i := 0) rfl
  have hle : l * k ≤ n * k := Nat.mul_le_mul_right _ hl
  refine h1.chgVec 0 rfl (Mod.refl _ _) (v' := cutSl v k 0 l) (n' := l) ?_ ?_
  · refine ⟨by rw [List.length_take, hv.1]; omega, ?_⟩
    rcases hv.2 with ⟨rfl, rfl⟩ | ⟨g, cap, rest, fr, rfl, hh, h2, h3, h4, h5⟩
    · obtain rfl : l = 0 := by omega
      exact .inl ⟨by simp [cutSl], rfl⟩
    · rw [cutSl_zero]
      refine .inr ⟨g, cap, xs.drop (l * k) ++ rest, fr, rfl, by rw [← List.append_assoc, List.take_append_drop]; exact hh, by omega, h3, by rw [← List.append_assoc, List.take_append_drop]; exact h4, h5⟩
  · intro y hy
    rcases hv.2 with ⟨rfl, rfl⟩ | ⟨g, cap, rest, fr, rfl, _⟩
    · simp [cutSl, Value.ownBlock] at hy
    · rw [cutSl_zero] at hy
      exact .inl hy

theorem St.gen {S : List Nat} {w0 w : World} {m : Ent} {M : List Ent} (h : St S w0 w (m :: M)) : ∃ R, M = R ∧ St S w0 w (m :: R) := ⟨M, rfl, h⟩

section
variable {P : Program} {ops : Array Oper} {rest : List Oper} {o : Oper} {a : Act} {K : Act → World → Prop} {Q : Exit → Act → World → Prop} {w w0 : World} {S : List Nat} {M M' : List Ent}

theorem g_clear {d : Option Tmp} {ty : TypeId} {pos : String} {af : Array Edge} {gd : Option (Nat × Bool)} {as' : Array Operand} {ts : Array TypeId} (H : wpList P ops Q (⟨d, .call ⟨.builtin .clear, as', ts⟩, ty, pos, af, gd⟩ :: rest) a w) : wpList P ops Q (⟨d, .call ⟨.builtin .clear, as', ts⟩, ty, pos, af, gd⟩ :: rest) a w := H

/-- append(v[:i], v[j:]...), i ≤ j: in place. -/
theorem a_delApp (hS : St S w0 w M) {s x : Operand} {t : TypeId} (ho : o.op = .call { callee := .builtin .append, args := #[s, x], argTypes := #[t, t] })
    {v : Value} {e : TypeId} {k n : Nat} {xs ys : List Value} (i j : Nat) (hsw : Sw M (.vec v e k n xs) (.vec v e k n ys) M') (hs : a.eval s = cutSl v k 0 i) (hx : a.eval x = cutSl v k j n) (ht : P.underlying t = some (.slice e)) (hk : (P.info? e).map (·.size) = some k)
    (h1 : ∀ u ∈ xs, u.oneCell' = true) (hij : i ≤ j) (hj : j ≤ n) (hn : 0 < n) (hys : xs.take (i * k) ++ xs.drop (j * k) ++ xs.drop ((i + (n - j)) * k) = ys)
    (h : ∀ w', St S w0 w' M' → K (a.put o.dst (cutSl v k 0 (i + (n - j)))) w') : o.wp P a w K Q := by
  obtain ⟨ti, hi, hks⟩ := Option.map_eq_some_iff.1 hk
  obtain ⟨l, hM, rfl⟩ := hsw.set
  have hv := hS.vec hM
  have hR := (hS.rdv hM).cut j n hj (Nat.le_refl _)
  have hxl := hv.1
  rw [List.take_of_length_le (by omega)] at hR
  have hfc := run_firstCells_rd (P := P) hR (n - j) (Nat.le_refl _)
  rw [List.take_of_length_le (by rw [List.length_drop, hxl, Nat.sub_mul]; omega)] at hfc
  rcases hv.2 with ⟨rfl, rfl⟩ | ⟨g, cap, rest', fr, rfl, hh, e2, e3, e4, e5⟩
  · omega
  · have hjk : j * k ≤ n * k := Nat.mul_le_mul_right _ hj
    have hik : i * k ≤ j * k := Nat.mul_le_mul_right _ hij
    have hnl : (xs.drop (j * k)).length = n * k - j * k := by rw [List.length_drop, hxl]
    have hck : n * k ≤ cap * k := Nat.mul_le_mul_right _ e2
    obtain ⟨w', r1, r2, r3⟩ := run_storeCells_nf (P := P) g (i * k) e fr (xs.drop (j * k)) 0 (xs ++ rest') w hh (by simp only [List.length_append]; omega) (by intro q hq; exact e5 _ (by omega)) (fun u hu => h1 u (List.mem_of_mem_drop hu))
    have hcat : (xs ++ rest').take (i * k + 0) ++ xs.drop (j * k) ++ (xs ++ rest').drop (i * k + 0 + (xs.drop (j * k)).length) = ys ++ rest' := by
      subst hys
      rw [Nat.add_zero, hnl, List.take_append_of_le_length (by omega), List.drop_append_of_le_length (by omega)]
      have e1 : i * k + (n * k - j * k) = (i + (n - j)) * k := by rw [Nat.add_mul, Nat.sub_mul]
      rw [e1]
      simp
    rw [hcat] at r2
    have hyl : ys.length = n * k := by
      subst hys
      simp only [List.length_append, List.length_take, List.length_drop, hxl, Nat.add_mul, Nat.sub_mul]
      omega
    rw [cutSl_zero] at hs h
    have hroom : i + (n - j) ≤ cap := by omega
    refine wp_run (v := .slice (some ⟨g, 0, none⟩) (i + (n - j)) cap) ?_ (h w' (hS.chgVec l hM (by simpa [Value.ownBlock] using r3) ⟨hyl, .inr ⟨g, cap, rest', fr, rfl, r2, e2, e3, ?_, e5⟩⟩ (fun _ hy => .inl hy)))
    · by_cases hc : cap = j
      · have hx2 : a.eval x = .slice (some ⟨g, 0, none⟩) (n - j) (cap - j) := by rw [hx]; simp [cutSl, hc]
        have hc2 : cutSl (.slice (some ⟨g, 0, none⟩) n cap) k j n = .slice (some ⟨g, 0, none⟩) (n - j) (cap - j) := by simp [cutSl, hc]
        rw [hc2] at hfc
        simp [execOp, ho, resolve, invoke, builtin, hs, hx2, Builtin.append_, run_underlying ht, sizeOf, typeInfo, hi, hks, Builtin.lenOf, hroom, hfc, add_lit, r1]
      · have hx2 := hx
        rw [cutSl_some _ _ _ _ _ _ hc] at hx2 hfc
        simp [execOp, ho, resolve, invoke, builtin, hs, hx2, Builtin.append_, run_underlying ht, sizeOf, typeInfo, hi, hks, Builtin.lenOf, hroom, hfc, add_lit, r1]
    · simp only [List.length_append] at e4 ⊢; omega

/-- clear(v[l:n]), l < n; what is left is v[:l]. -/
theorem a_clear (hS : St S w0 w M) {x : Operand} {t : TypeId} (ho : o.op = .call { callee := .builtin .clear, args := #[x], argTypes := #[t] })
    {v : Value} {e : TypeId} {k n : Nat} {xs : List Value} (l : Nat) (hout : Out M (.vec v e k n xs) M') (hx : a.eval x = cutSl v k l n) (ht : P.underlying t = some (.slice e)) (hk : (P.info? e).map (fun i => (i.size, i.zero.map (fun z => (z.cells.size, z.cells.toList.all (·.oneCell'))))) = some (k, some (k, true)))
    (hl : l < n) (h : ∀ w', St S w0 w' (.vec (cutSl v k 0 l) e k l (xs.take (l * k)) :: M') → K (a.put o.dst (.tuple #[])) w') : o.wp P a w K Q := by
  obtain ⟨ti, hi, hks⟩ := Option.map_eq_some_iff.1 hk
  simp only [Prod.mk.injEq] at hks
  obtain ⟨hks, hz⟩ := hks
  obtain ⟨z, hz, hzz⟩ := Option.map_eq_some_iff.1 hz
  simp only [Prod.mk.injEq] at hzz
  obtain ⟨hzs, hza⟩ := hzz
  have h1 := hS.out hout
  have hv := h1.vec (i := 0) rfl
  have hxl := hv.1
  rcases hv.2 with ⟨rfl, rfl⟩ | ⟨g, cap, rest', fr, rfl, hh, e2, e3, e4, e5⟩
  · omega
  · have hlk : l * k ≤ n * k := Nat.mul_le_mul_right _ (by omega)
    have hck : n * k ≤ cap * k := Nat.mul_le_mul_right _ e2
    obtain ⟨zs, hzs2⟩ : ∃ zs, (Builtin.zeroCells z.cells (n - l)).toList = zs := ⟨_, rfl⟩
    have hzl : zs.length = (n - l) * k := by rw [← hzs2, Array.length_toList, size_zeroCells, hzs]
    have hz1 : ∀ u ∈ zs, u.oneCell' = true := by
      intro u hu
      rw [← hzs2] at hu
      simp only [Builtin.zeroCells, Array.toList_map, List.mem_map] at hu
      obtain ⟨q, hq, rfl⟩ := hu
      rw [List.all_eq_true] at hza
      have hq2 : q < (n - l) * z.cells.size := by simpa using hq
      have hp : 0 < z.cells.size := by rcases Nat.eq_zero_or_pos z.cells.size with h0 | h0; rw [h0] at hq2; omega; exact h0
      have hm := Nat.mod_lt q hp
      rw [getElem!_pos z.cells _ hm]
      exact hza _ (by simp)
    rw [Nat.sub_mul] at hzl
    have hcl : ¬ cap = l := by omega
    obtain ⟨w', r1, r2, r3⟩ := run_storeCells_nf (P := P) g (l * k) e fr zs 0 (xs ++ rest') w hh (by simp only [List.length_append]; omega) (by intro q hq; exact e5 _ (by omega)) hz1
    have hcat : (xs ++ rest').take (l * k + 0) ++ zs ++ (xs ++ rest').drop (l * k + 0 + zs.length) = xs.take (l * k) ++ (zs ++ rest') := by
      rw [Nat.add_zero, hzl, List.take_append_of_le_length (by omega), show l * k + (n * k - l * k) = xs.length by omega, List.drop_left]
      simp
    rw [hcat] at r2
    rw [cutSl_some _ _ _ _ _ _ hcl] at hx
    rw [cutSl_zero] at h
    refine wp_run (v := .tuple #[]) ?_ (h w' (h1.chgVec 0 rfl (by simpa [Value.ownBlock] using r3) (v' := .slice (some ⟨g, 0, none⟩) l cap) ⟨by rw [List.length_take]; omega, .inr ⟨g, cap, zs ++ rest', fr, rfl, r2, by omega, e3, ?_, e5⟩⟩ (fun _ hy => .inl hy)))
    · obtain ⟨m, hm⟩ : ∃ m, n - l = m + 1 := ⟨n - l - 1, by omega⟩
      rw [hm] at hx hzs2
      simp [execOp, ho, resolve, invoke, builtin, hx, Builtin.clear_, run_underlying ht, zeroValue, typeInfo, hi, hz, hzs2, r1]
    · simp only [List.length_append, List.length_take] at e4 ⊢; omega

/-- v[l:n] of v[:l]: beyond its length. -/
theorem x_cutBeyond (hS : St S w0 w M) {x lo hi : Operand} {t : TypeId} (ho : o.op = .slice t x (some lo) (some hi) none) {v : Value} {e : TypeId} {k n : Nat} {xs : List Value} (l : Nat) {i : Nat} (hM : Ix M i (.vec v e k n xs)) (hx : a.eval x = cutSl v k 0 l) (hlo : a.eval lo = .int .i64 (l : Int)) (hhi : a.eval hi = .int .i64 (n : Int))
    (ht : P.underlying t = some (.slice e)) (hk : (P.info? e).map (·.size) = some k) (hl : l < n) : (execOp a.eval o).run P w = .ok (.value (cutSl v k l n)) w := by
  obtain ⟨ti, hi, hks⟩ := Option.map_eq_some_iff.1 hk
  obtain ⟨g, cap, rfl, h2, h3⟩ := hS.shape hM.get (by omega)
  rw [cutSl_zero] at hx
  have hcl : ¬ cap = l := by omega
  rw [cutSl_some _ _ _ _ _ _ hcl]
  have h4 : (l : Int) ≤ n := by omega
  have h5 : l ≤ n := by omega
  simp [execOp, ho, hx, hlo, hhi, not_array ht, Instr.slice, run_underlying ht, Instr.sliceBounds, Instr.sliceBound, asIntOf, h2, h5, sizeOf, typeInfo, hi, hks, hcl, add_lit]
/-- v[l:h:n], n its length. -/
theorem x_cut3 (hS : St S w0 w M) {x lo hi mx : Operand} {t : TypeId} (ho : o.op = .slice t x (some lo) (some hi) (some mx)) {v : Value} {e : TypeId} {k n : Nat} {xs : List Value} (l h : Nat) {i : Nat} (hM : Ix M i (.vec v e k n xs)) (hx : a.eval x = v) (hlo : a.eval lo = .int .i64 (l : Int)) (hhi : a.eval hi = .int .i64 (h : Int)) (hmx : a.eval mx = .int .i64 (n : Int))
    (ht : P.underlying t = some (.slice e)) (hk : (P.info? e).map (·.size) = some k) (hl : l ≤ h) (hh : h ≤ n) (hn : 0 < n) : ∃ u, (execOp a.eval o).run P w = .ok (.value u) w := by
  obtain ⟨ti, hi, hks⟩ := Option.map_eq_some_iff.1 hk
  obtain ⟨g, cap, rfl, h2, h3⟩ := hS.shape hM.get hn
  simp [execOp, ho, hx, hlo, hhi, hmx, not_array ht, Instr.slice, run_underlying ht, Instr.sliceBounds, Instr.sliceBound, asIntOf, h2, hl, hh, sizeOf, typeInfo, hi, hks]
theorem wl_cut3 (hS : St S w0 w M) {x lo hi mx : Operand} {t : TypeId} (ho : o.op = .slice t x (some lo) (some hi) (some mx)) (hw : Region.wanted o (yielded ops a.tmps) = true) {v : Value} {e : TypeId} {k n : Nat} {xs : List Value} (l h : Nat) {i : Nat} (hM : Ix M i (.vec v e k n xs)) (hx : a.eval x = v) (hlo : a.eval lo = .int .i64 (l : Int)) (hhi : a.eval hi = .int .i64 (h : Int)) (hmx : a.eval mx = .int .i64 (n : Int))
    (ht : P.underlying t = some (.slice e)) (hk : (P.info? e).map (·.size) = some k) (hl : l ≤ h) (hh : h ≤ n) (hn : 0 < n) (H : ∀ u, wpList P ops Q rest (a.put o.dst u) w) : wpList P ops Q (o :: rest) a w := by
  obtain ⟨u, hu⟩ := x_cut3 (P := P) hS ho l h hM hx hlo hhi hmx ht hk hl hh hn
  exact wl_run hw hu (H u)
theorem flat_erase {α : Type} {f : α → List Value} {k : Nat} (hf : ∀ x, (f x).length = k) (L : List α) (i : Nat) (hi : i < L.length) :
    ((L.flatMap f).take (i * k) ++ (L.flatMap f).drop ((i + 1) * k) ++ (L.flatMap f).drop ((i + (L.length - (i + 1))) * k)).take ((i + (L.length - (i + 1))) * k) = (L.eraseIdx i).flatMap f := by
  rw [flat_take hf, flat_drop hf, List.eraseIdx_eq_take_drop_succ, List.flatMap_append, List.take_append_of_le_length, List.take_of_length_le]
  · simp only [List.length_append, flat_len hf, List.length_take, List.length_drop, ← Nat.add_mul]
    exact Nat.mul_le_mul_right _ (by omega)
  · simp only [List.length_append, flat_len hf, List.length_take, List.length_drop, ← Nat.add_mul]
    exact Nat.mul_le_mul_right _ (by omega)
end
end Go.Cmp
namespace Go.Cmp
open Go.RowKit

/-- Where the first one stands; -1: nowhere. -/
def idx {α : Type} (p : α → Bool) : List α → Int
  | [] => -1
  | x :: l => if p x = true then 0 else if idx p l < 0 then -1 else idx p l + 1
section
variable {α : Type} [Inhabited α] {p : α → Bool}
theorem nth_zero' (x : α) (l : List α) : nth (x :: l) 0 = x := rfl
theorem nth_succ' (x : α) (l : List α) (i : Nat) : nth (x :: l) (i + 1) = nth l i := rfl
theorem mem_nth' {l : List α} {x : α} (h : x ∈ l) : ∃ i, i < l.length ∧ nth l i = x := by
  obtain ⟨i, hi, e⟩ := List.getElem_of_mem h
  exact ⟨i, hi, (nth_eq (by rw [List.getElem?_eq_getElem hi, e]))⟩
omit [Inhabited α] in
theorem idx_none : ∀ {l : List α}, (∀ x ∈ l, p x = false) → idx p l = -1
  | [], _ => rfl
  | x :: l, h => by
    have h1 := idx_none (l := l) (fun y hy => h y (by simp [hy]))
    simp only [idx, h1]
    rw [if_neg (by rw [h x (by simp)]; simp), if_pos (by omega)]
theorem idx_first : ∀ {l : List α} {i : Nat}, i < l.length → p (nth l i) = true → (∀ j, j < i → p (nth l j) = false) → idx p l = i
  | [], _, h, _, _ => by simp at h
  | x :: l, 0, _, h, _ => by simp only [idx]; rw [if_pos (by simpa [nth_zero'] using h)]; rfl
  | x :: l, i + 1, hl, h, hn => by
    have h1 := idx_first (l := l) (i := i) (by simpa using hl) (by simpa [nth_succ'] using h) (fun j hj => by have := hn (j + 1) (by omega); simpa [nth_succ'] using this)
    have h2 := hn 0 (by omega)
    simp only [idx, h1]
    rw [if_neg (by rw [nth_zero'] at h2; rw [h2]; simp), if_neg (by omega)]
    push_cast
    rfl
omit [Inhabited α] in
theorem idx_range : ∀ (l : List α), -1 ≤ idx p l ∧ idx p l < l.length
  | [] => by simp [idx]
  | x :: l => by
    have := idx_range l
    simp only [idx, List.length_cons]
    split
    · omega
    · split <;> omega
theorem idx_hit : ∀ {l : List α}, 0 ≤ idx p l → p (nth l (idx p l).toNat) = true
  | [], h => by simp [idx] at h
  | x :: l, h => by
    have h1 := idx_hit (l := l)
    have h2 := idx_range (p := p) l
    simp only [idx] at h ⊢
    split
    · rename_i hx; simpa [nth_zero'] using hx
    · split
      · rename_i hx h3; rw [if_neg hx, if_pos h3] at h; omega
      · rw [show (idx p l + 1).toNat = (idx p l).toNat + 1 by omega, nth_succ']
        exact h1 (by omega)
omit [Inhabited α] in
theorem idx_neg {l : List α} (h : idx p l < 0) : ∀ x ∈ l, p x = false := by
  intro x hx
  induction l with
  | nil => cases hx
  | cons y l ih =>
    simp only [idx] at h
    split at h
    · omega
    · rename_i hy
      rcases List.mem_cons.1 hx with rfl | hx
      · simpa using hy
      · have := idx_range (p := p) l
        exact ih (by split at h <;> omega) hx
theorem take_nth {l : List α} {j : Nat} (h : j < l.length) : l.take (j + 1) = l.take j ++ [nth l j] := by
  rw [List.take_add_one, get_lt h]; rfl
end
end Go.Cmp
namespace Go.Cmp
open Go.RowKit
section
variable {P : Program} {ops : Array Oper} {rest : List Oper} {o : Oper} {a : Act} {Q : Exit → Act → World → Prop} {w w0 : World} {S : List Nat} {M : List Ent}
theorem g_nilc {d : Option Tmp} {ty : TypeId} {pos : String} {af : Array Edge} {gd : Option (Nat × Bool)} {x : Operand} (H : wpList P ops Q (⟨d, .nilCheck x, ty, pos, af, gd⟩ :: rest) a w) : wpList P ops Q (⟨d, .nilCheck x, ty, pos, af, gd⟩ :: rest) a w := H
theorem a_nilc {x : Operand} (ho : o.op = .nilCheck x) {u : Value} {off : Nat} (hx : a.eval x = ptrAt u off) {k n : Nat} {xs : List Value} (hR : Rd w k u n xs) (h0 : 0 < n) : (execOp a.eval o).run P w = .ok (.value (ptrAt u off)) w := by
  obtain ⟨p, cap, rfl⟩ := hR.some h0
  simp [execOp, ho, hx, ptrAt]
end
end Go.Cmp
namespace Go.Cmp
open Go.RowKit
section
variable {P : Program} {ops : Array Oper} {rest : List Oper} {o : Oper} {a : Act} {Q : Exit → Act → World → Prop} {w w0 : World} {S : List Nat} {M : List Ent}
theorem g_eql {d : Option Tmp} {ty : TypeId} {pos : String} {af : Array Edge} {gd : Option (Nat × Bool)} {t u : TypeId} {x y : Operand} (H : wpList P ops Q (⟨d, .binOp .eql t x y u, ty, pos, af, gd⟩ :: rest) a w) : wpList P ops Q (⟨d, .binOp .eql t x y u, ty, pos, af, gd⟩ :: rest) a w := H
theorem run_eq_nil (w : World) (d : Nat) (t e : TypeId) (p : Option Addr) (n c n' c' : Nat) (h : P.underlying t = some (.slice e)) :
    (Op.equalIn (d + 1) t (.slice p n c) (.slice none n' c')).run P w = .ok p.isNone w := by
  cases p <;> simp [Op.equalIn, run_underlying h]
theorem x_eqnil {t r e : TypeId} {x y : Operand} (ho : o.op = .binOp .eql t x y r) {p : Option Addr} {n c n' c' : Nat} (hx : a.eval x = .slice p n c) (hy : a.eval y = .slice none n' c') (ht : P.underlying t = some (.slice e)) : (execOp a.eval o).run P w = .ok (.value (.bool p.isNone)) w := by
  have h : (binOp .eql t (.slice p n c) (.slice none n' c')).run P w = .ok (.bool p.isNone) w := by
    simp only [binOp]
    simp [Op.equal, Op.maxDepth, run_eq_nil w 9999 t e p n c n' c' ht]
  simp [execOp, ho, hx, hy, eqGuard, h]
end
end Go.Cmp
namespace Go.Cmp
open Go.RowKit Go.ChangeShapes Go.WideShapes Go.Deep

section
variable {H : Type} {enc : TypeId × Value → H} {P : Program} {w : World} {base : Nat} {spare : Nat → Bool} {held : Bool}

theorem rows_of {α : Type} (ok : α → Prop) (val : α → List Value) (k : Nat) (hv : ∀ x, (val x).length = k) (a : Addr) (len : Nat)
    (h : ∀ i, i < len → ∃ x, ok x ∧ ∀ j, j < k → w.cell? ((a.add (i * k)).add j) = (val x)[j]?) :
    ∃ xs : List α, xs.length = len ∧ (∀ x ∈ xs, ok x) ∧ ∀ (i : Nat) y, (xs.flatMap val)[i]? = some y → w.cell? (a.add i) = some y := by
  induction len with
  | zero => exact ⟨[], rfl, by simp, by simp⟩
  | succ len ih =>
    obtain ⟨xs, h1, h2, h3⟩ := ih (fun i hi => h i (by omega))
    obtain ⟨x, h4, h5⟩ := h len (by omega)
    have hfl : (xs.flatMap val).length = len * k := by rw [flat_len hv, h1]
    refine ⟨xs ++ [x], by simp [h1], ?_, ?_⟩
    · intro y hy
      rcases List.mem_append.1 hy with hy | hy
      · exact h2 y hy
      · simp only [List.mem_singleton] at hy
        subst hy
        exact h4
    · intro i y hy
      rw [List.flatMap_append] at hy
      by_cases hi : i < len * k
      · rw [List.getElem?_append_left (by omega)] at hy
        exact h3 i y hy
      · rw [List.getElem?_append_right (by omega), hfl] at hy
        simp only [List.flatMap_cons, List.flatMap_nil, List.append_nil] at hy
        have hj : i - len * k < k := by
          have := (List.getElem?_eq_some_iff.1 hy).1
          rw [hv] at this
          exact this
        have h6 := h5 (i - len * k) hj
        rw [Go.Cmp.add_add, show len * k + (i - len * k) = i by omega, hy] at h6
        exact h6

/-- A slice of things. -/
theorem rd_slice {α : Type} (ok : α → Prop) (f : α → List Value) (k : Nat) (hf : ∀ x, (f x).length = k) {t e : TypeId} (ht : P.underlying t = some (.slice e)) (hC : P.cellsOf e = k)
    (hone : ∀ (n : Nat) (cs' : List Value) y, cs'.length = k → DataW.trod enc P w base spare held n e cs' = some y → ∃ x, ok x ∧ cs' = f x)
    {fuel : Nat} {cs : List Value} {x : DataW H × List MemPlace} (h : DataW.trod enc P w base spare held fuel t cs = some x) :
    ∃ (v : Value) (xs : List α), cs = [v] ∧ (∀ x ∈ xs, ok x) ∧ Rd w k v xs.length (xs.flatMap f) := by
  rcases open_slice ht h with ⟨rfl, _⟩ | ⟨a, len, cap, m, n, D, Pl, rfl, _, hl, hm, hmm, _, hi⟩
  · exact ⟨_, [], rfl, by simp, Rd.nil _ _⟩
  · have hlm : len ≤ m := by rw [hmm]; split <;> omega
    obtain ⟨xs, h1, h2, h3⟩ := rows_of ok f k hf (w := w) a len (fun i hlt => by
      obtain ⟨cs', hc, ht'⟩ := hi i (by omega)
      rw [hC] at hc
      obtain ⟨_, hcl, hat⟩ := World.cells?_some hc
      obtain ⟨X, hX, rfl⟩ := hone n cs' _ hcl ht'
      exact ⟨X, hX, hat⟩)
    refine ⟨_, xs, rfl, h2, by rw [flat_len hf], some a, cap, by rw [h1], by rw [h1]; exact hl, hm, by simp, fun b hb i y hy => by cases hb; exact h3 i y hy⟩

theorem int_of {k : IntKind} {n : Nat} {t : TypeId} {cs : List Value} {y : DataW H × List MemPlace} (ht : P.underlying t = some (.int k)) (h : DataW.trod enc P w base spare held n t cs = some y) : ∃ z : Int, cs = [.int k z] ∧ (Lit.int k z).wf = true := by
  obtain ⟨v, hv, _, hw⟩ := DataW.trod_int ht h
  exact ⟨v, hv, hw⟩
theorem str_of {n : Nat} {t : TypeId} {cs : List Value} {y : DataW H × List MemPlace} (ht : P.underlying t = some .string) (h : DataW.trod enc P w base spare held n t cs = some y) : ∃ l : List UInt8, cs = [.string ⟨l.toArray⟩] ∧ l.length ≤ maxLen := by
  obtain ⟨⟨⟨l⟩⟩, hv, _, hw⟩ := DataW.trod_string ht h
  exact ⟨l, hv, by simpa [ByteArray.size] using hw⟩
theorem bool_of {n : Nat} {t : TypeId} {cs : List Value} {y : DataW H × List MemPlace} (ht : P.underlying t = some .bool) (h : DataW.trod enc P w base spare held n t cs = some y) : ∃ b : Bool, cs = [.bool b] := by
  obtain ⟨b, hv, _⟩ := DataW.trod_bool ht h
  exact ⟨b, hv⟩
theorem wf_i64 {n : Int} (h : (Lit.int .i64 n).wf = true) : -9223372036854775808 ≤ n ∧ n ≤ 9223372036854775807 := by
  have e1 : IntKind.i64.min = -9223372036854775808 := rfl
  have e2 : IntKind.i64.max = 9223372036854775807 := rfl
  simp [Lit.wf, e1, e2] at h
  exact h
theorem wf_u8 {n : Int} (h : (Lit.int .u8 n).wf = true) : ∃ d : UInt8, n = (d.toNat : Int) := by
  have e1 : IntKind.u8.min = 0 := rfl
  have e2 : IntKind.u8.max = 255 := rfl
  simp [Lit.wf, e1, e2] at h
  exact u8_of h.1 h.2
/-- Integers that came in. -/
theorem ints_of {n : Nat} {t e : TypeId} {cs : List Value} {y : DataW H × List MemPlace} (ht : P.underlying t = some (.slice e)) (hC : P.cellsOf e = 1) (he : P.underlying e = some (.int .i64)) (h : DataW.trod enc P w base spare held n t cs = some y) :
    ∃ (v : Value) (xs : List Int), cs = [v] ∧ (∀ x ∈ xs, -9223372036854775808 ≤ x ∧ x ≤ 9223372036854775807) ∧ Rd w 1 v xs.length (xs.flatMap fun n => [.int .i64 n]) :=
  rd_slice (fun x : Int => -9223372036854775808 ≤ x ∧ x ≤ 9223372036854775807) (fun n => [.int .i64 n]) 1 (fun _ => rfl) ht hC (fun n cs' y _ h' => by
    obtain ⟨z, rfl, hz⟩ := int_of he h'
    exact ⟨z, wf_i64 hz, rfl⟩) h
end
end Go.Cmp
namespace Go.Cmp
open Go.RowKit

/-- The number of bytes, the lowest first. -/
def leN : List UInt8 → Nat
  | [] => 0
  | x :: r => x.toNat + 256 * leN r
/-- A number's k bytes, the lowest first. -/
def leB : Nat → Nat → List UInt8
  | 0, _ => []
  | k + 1, n => UInt8.ofNat (n % 256) :: leB k (n / 256)

theorem leB_length (k n : Nat) : (leB k n).length = k := by
  induction k generalizing n with
  | zero => rfl
  | succ k ih => simp [leB, ih]
theorem leN_lt (l : List UInt8) : leN l < 256 ^ l.length := by
  induction l with
  | nil => simp [leN]
  | cons x l ih =>
    have := x.toNat_lt
    simp only [leN, List.length_cons, Nat.pow_succ]
    omega
theorem leN_leB (k n : Nat) : leN (leB k n) = n % 256 ^ k := by
  induction k generalizing n with
  | zero => simp [leB, leN, Nat.mod_one]
  | succ k ih =>
    simp only [leB, leN, ih]
    rw [Nat.pow_succ, Nat.mul_comm (256 ^ k) 256, Nat.mod_mul]
    have : (UInt8.ofNat (n % 256)).toNat = n % 256 := by simp [UInt8.toNat_ofNat']
    rw [this]
theorem leB_leN (l : List UInt8) : leB l.length (leN l) = l := by
  induction l with
  | nil => rfl
  | cons x l ih =>
    have hx := x.toNat_lt
    simp only [List.length_cons, leB, leN]
    have h1 : (x.toNat + 256 * leN l) % 256 = x.toNat := by omega
    have h2 : (x.toNat + 256 * leN l) / 256 = leN l := by omega
    rw [h1, h2, ih]
    simp
theorem leN_append (a b : List UInt8) : leN (a ++ b) = leN a + 256 ^ a.length * leN b := by
  induction a with
  | nil => simp [leN]
  | cons x a ih =>
    simp only [List.cons_append, leN, ih, List.length_cons, Nat.pow_succ]
    rw [Nat.mul_add, Nat.mul_assoc, Nat.mul_left_comm, Nat.mul_comm (256 ^ a.length) (256 * _), Nat.mul_assoc, Nat.mul_comm (leN b)]
    omega
theorem leN_zeros (k : Nat) : leN (List.replicate k 0) = 0 := by
  induction k with
  | zero => rfl
  | succ k ih => simp [List.replicate_succ, leN, ih]
theorem leN_snoc (l : List UInt8) (x : UInt8) : leN (l ++ [x]) = leN l + 256 ^ l.length * x.toNat := by
  rw [leN_append]; simp [leN]
theorem leB_snoc (k n : Nat) : leB (k + 1) n = leB k n ++ [UInt8.ofNat (n / 256 ^ k % 256)] := by
  induction k generalizing n with
  | zero => simp [leB]
  | succ k ih =>
    rw [leB, ih]
    conv => rhs; rw [leB]
    rw [List.cons_append, Nat.div_div_eq_div_mul, ← Nat.pow_succ']
theorem leB_mod (k n : Nat) : leB k (n % 256 ^ k) = leB k n := by
  have h := leB_leN (leB k n)
  rw [leB_length, leN_leB] at h
  exact h
theorem leB_inj {k n m : Nat} (hn : n < 256 ^ k) (hm : m < 256 ^ k) (h : leB k n = leB k m) : n = m := by
  have := congrArg leN h
  rwa [leN_leB, leN_leB, Nat.mod_eq_of_lt hn, Nat.mod_eq_of_lt hm] at this
theorem leB_take (j k n : Nat) (h : j ≤ k) : (leB k n).take j = leB j n := by
  induction j generalizing k n with
  | zero => simp [leB]
  | succ j ih =>
    cases k with
    | zero => omega
    | succ k => simp only [leB, List.take_succ_cons, ih k _ (by omega)]

theorem pow256_le (j : Nat) (h : j ≤ 8) : 256 ^ j ≤ 18446744073709551616 := by
  have : (18446744073709551616 : Nat) = 256 ^ 8 := by decide
  rw [this]
  exact Nat.pow_le_pow_right (by omega) h
theorem two8 (j : Nat) : (2 : Nat) ^ (8 * j) = 256 ^ j := by rw [Nat.pow_mul]

/-- One more byte, by '|'. -/
theorem or_step (a : Nat) (c : UInt8) (j : Nat) (ha : a < 256 ^ j) (hj : j < 8) :
    bits BinOp.or .u64 (a : Int) (IntKind.u64.wrap (IntKind.u64.wrap (c.toNat : Int) * 2 ^ (8 * j))) = ((a + 256 ^ j * c.toNat : Nat) : Int) := by
  have hc := c.toNat_lt
  have h1 : IntKind.u64.wrap (c.toNat : Int) = (c.toNat : Int) := by simp [IntKind.wrap, IntKind.bits, IntKind.signed]; omega
  have hp : (256 : Nat) ^ (j + 1) ≤ 18446744073709551616 := pow256_le (j + 1) (by omega)
  have hb : 256 ^ j * c.toNat < 18446744073709551616 := by
    have : 256 ^ j * c.toNat < 256 ^ j * 256 := Nat.mul_lt_mul_of_pos_left hc (Nat.pow_pos (by omega))
    rw [Nat.pow_succ] at hp
    omega
  have h2 : IntKind.u64.wrap (IntKind.u64.wrap (c.toNat : Int) * 2 ^ (8 * j)) = ((256 ^ j * c.toNat : Nat) : Int) := by
    rw [h1]
    have : (c.toNat : Int) * 2 ^ (8 * j) = ((256 ^ j * c.toNat : Nat) : Int) := by
      rw [← two8]
      push_cast
      rw [Int.mul_comm]
    rw [this]
    generalize 256 ^ j * c.toNat = y at hb
    simp only [IntKind.wrap, IntKind.bits, IntKind.signed]
    simp
    omega
  rw [h2, bits_or_u64_nat _ _ (by have := pow256_le j (by omega); omega) hb, ← two8]
  have := Nat.two_pow_add_eq_or_of_lt (i := 8 * j) (b := a) (by rw [two8]; exact ha) c.toNat
  rw [Nat.or_comm, ← this, Nat.add_comm]

/-- A byte of a number, by '>>'. -/
theorem byte_shr (n j : Nat) : (IntKind.u8.wrap ((n : Int) / 2 ^ (8 * j))) = ((UInt8.ofNat (n / 256 ^ j % 256)).toNat : Int) := by
  have : (n : Int) / 2 ^ (8 * j) = ((n / 256 ^ j : Nat) : Int) := by rw [← two8]; push_cast; rfl
  rw [this]
  generalize n / 256 ^ j = y
  simp only [IntKind.wrap, IntKind.bits, IntKind.signed, UInt8.toNat_ofNat']
  simp
theorem byte_div (n j : Nat) : ((n : Int) / 2 ^ (8 * j)) % 256 = ((UInt8.ofNat (n / 256 ^ j % 256)).toNat : Int) := by
  have : (n : Int) / 2 ^ (8 * j) = ((n / 256 ^ j : Nat) : Int) := by rw [← two8]; push_cast; rfl
  rw [this]
  generalize n / 256 ^ j = y
  simp only [UInt8.toNat_ofNat']
  omega

/-- A list of numbers as cells. -/
def U (l : List Nat) : List Value := l.map fun (n : Nat) => Value.int .u64 (n : Int)
theorem U_length (l : List Nat) : (U l).length = l.length := by simp [U]
theorem U_get {l : List Nat} {i : Nat} (h : i < l.length) : (U l)[i]? = some (Value.int .u64 (l[i] : Int)) := by simp [U, h]
theorem U_one (l : List Nat) : ∀ u ∈ U l, u.oneCell' = true := by
  intro u hu
  simp only [U, List.mem_map] at hu
  obtain ⟨x, _, rfl⟩ := hu
  rfl
theorem U_append (l m : List Nat) : U (l ++ m) = U l ++ U m := by simp [U]
theorem pow8 : (256 : Nat) ^ 8 = 18446744073709551616 := by decide
theorem flatMap_take_succ {α β : Type} (f : α → List β) (l : List α) (j : Nat) (h : j < l.length) : (l.take (j + 1)).flatMap f = (l.take j).flatMap f ++ f l[j] := by
  rw [List.take_succ_eq_append_getElem h, List.flatMap_append]; simp
theorem flatMap_leB_length (l : List Nat) : (l.flatMap (leB 8)).length = 8 * l.length := by
  induction l with
  | nil => rfl
  | cons x l ih => simp only [List.flatMap_cons, List.length_append, leB_length, ih, List.length_cons]; omega
end Go.Cmp
namespace Go.Proofs.Ytnjboimjlbgdiaa
open Go.RowKit Go.Cmp
set_option maxRecDepth 100000

theorem flatten_len_take (ls : List (List UInt8)) (j : Nat) (l : List UInt8) (h : ls[j]? = some l) : (ls.take (j + 1)).flatten = (ls.take j).flatten ++ l := by
  obtain ⟨hlt, rfl⟩ := List.getElem?_eq_some_iff.1 h
  rw [List.take_succ_eq_append_getElem hlt, List.flatten_append]; simp
theorem flatten_take_le (ls : List (List UInt8)) (j : Nat) : (ls.take j).flatten.length ≤ ls.flatten.length := by
  conv => rhs; rw [← List.take_append_drop j ls, List.flatten_append, List.length_append]
  omega

/-- The buffer that bytealg.MakeNoZero hands back, cut to its length. -/
theorem wp_makeNoZero {o : Oper} {a : Act} {K : Act → World → Prop} {Q : Exit → Act → World → Prop} {w w0 : World} {S : List Nat} {M : List Ent} (hS : St S w0 w M) {x : Operand} {ts : Array TypeId} (ho : o.op = .call { callee := .value (.func 77), args := #[x], argTypes := ts }) {T : Nat} (hx : a.eval x = .int .i64 (T : Int)) (hT : T ≤ 140737488355328)
    (h : ∀ v cs w', St S w0 w' (.vec v 5 1 T cs :: M) → K (a.put o.dst v) w') : o.wp Try.prog a w K Q := by
  obtain ⟨cs, hrun, h1, h2⟩ := Lib.run_makeNoZero (P := Try.prog) w #[3] 95 5 (by kernel_rfl) T (by omega)
  have hcall : (callFunc 77 #[.int .i64 (T : Int)]).run Try.prog w = .ok (.value (.slice (some ⟨w.heap.size, 0, none⟩) T cs.size)) (w.drew.drew.alloc (.cells cs 5)) := by
    rw [run_callFunc_extern Try.func77 (by kernel_rfl) (by kernel_rfl) (by kernel_rfl) (e := Extern.BytealgMakeNoZero.makeNoZero #[3] #[95]) (by kernel_rfl), hrun]
    rfl
  have hM := hS.drew.drew.alloc cs.toList 5
  simp only [World.size_drew, Array.toArray_toList] at hM
  refine wp_run (v := .slice (some ⟨w.heap.size, 0, none⟩) T cs.size) ?_ (h _ (cs.toList.take T) _ (hM.toVec 1 T cs.size (cs.toList.take T) (cs.toList.drop T) (by simp) (by simp; omega) (by simp) h1 (h2 (by unfold maxLen; omega)) (fun i _ => nf0 i)))
  simp only [execOp, ho, resolve, invoke, List.map_toArray, List.map_cons, List.map_nil, hx, Sem.run_bind]
  simp [Act.eval, Deferred.ofValue, hcall]

set_option maxHeartbeats 1000000 in
theorem join_any (ls : List (List UInt8)) (vs : List Value) (sv : Value) (n : Nat) (w : World) (hn : ls.length = n) (h2 : 2 ≤ n) (hn47 : n ≤ 140737488355328) (hR : Rd w 1 sv n vs)
    (hp : ∀ (i : Nat) v l, vs[i]? = some v → ls[i]? = some l → Rd w 1 v l.length (B l)) (hlen : ls.flatten.length ≤ 140737488355328) :
    Calls Try.prog 75 #[sv, .slice none 0 0] w fun e w' => ∃ v, e = .returned v ∧ St [] w w' [.vec v 5 1 ls.flatten.length (B ls.flatten)] := by
  have hvl : vs.length = n := by have := hR.1; omega
  have Hn := Lib.hid hn
  have Hvl := Lib.hid hvl
  clear hn hvl
  have d1 : ((n : Int) == 0) = false := beq_eq_false_iff_ne.2 (by omega)
  have d2 : ((n : Int) == 1) = false := beq_eq_false_iff_ne.2 (by omega)
  go_enter Try.func75, Try.ntmps75
  refine St.startAt w fun w1 hS => ?_
  go_wp2_with (first | ((with_reducible refine g_len ?_); refine wl_run rfl (x_len rfl (hS.old0 hR) rfl rfl) ?_) | fail)
  go_loop [5, 44] (fun m i => ∃ j : Nat, j ≤ n ∧ i = .int .i64 j ∧ m = .int .i64 ((ls.take j).flatten.length : Nat)) (fun _ i => n - (intOf i).toNat)
  case atStart => exact ⟨0, by omega, rfl, rfl⟩
  case round =>
    obtain ⟨j, hj, rfl, rfl⟩ := hrel
    by_cases hlt : j < n
    · obtain ⟨v, hv⟩ : ∃ v, vs[j]? = some v := ⟨vs[j]'(by have := Hvl.out; omega), by simp⟩
      obtain ⟨l, hl⟩ : ∃ l, ls[j]? = some l := ⟨ls[j]'(by have := Hn.out; omega), by simp⟩
      have hRv := hp j v l hv hl
      have hst := flatten_len_take ls j l hl
      have hle := flatten_take_le ls (j + 1)
      have Hst := Lib.hid hst
      have Hv := Lib.hid hv
      rw [hst, List.length_append] at hle
      clear hv hl hst
      obtain ⟨t, ht⟩ : ∃ t, (ls.take j).flatten.length = t := ⟨_, rfl⟩
      have Ht := Lib.hid ht
      rw [ht] at hle ⊢
      clear ht
      have d3 : decide ((9223372036854775807 : Int) - (t : Int) < (l.length : Int)) = false := by simp; omega
      go_wp2_with (first | ((with_reducible refine g_index ?_); refine wl_run rfl (x_index rfl (hS.old0 hR) rfl rfl rfl rfl rfl (by omega) (by omega)) ?_) | ((with_reducible refine g_load ?_); refine wl_run rfl (x_loadS1 rfl (hS.old0 hR) rfl rfl rfl (by simpa using Hv.out)) ?_) | ((with_reducible refine g_len ?_); refine wl_run rfl (x_len rfl (hS.old0 hRv) rfl rfl) ?_) | fail)
      refine ⟨⟨j + 1, by omega, by go_num, ?_⟩, by simp [intOf]; omega⟩
      rw [Hst.out, List.length_append, Ht.out]
      go_num
    · obtain rfl : n = j := by omega
      rw [show ls.take n = ls from by rw [← Hn.out, List.take_length]]
      obtain ⟨T, hT⟩ : ∃ T, ls.flatten.length = T := ⟨_, rfl⟩
      have HT := Lib.hid hT
      rw [hT] at hlen ⊢
      clear hT
      have i0 : (0 : Int) ≤ (T : Int) := by omega
      have i1 : (T : Int) ≤ (140737488355328 : Int) := by omega
      obtain ⟨v0, hv0⟩ : ∃ v, vs[0]? = some v := ⟨vs[0]'(by have := Hvl.out; omega), by simp⟩
      obtain ⟨l0, hl0⟩ : ∃ l, ls[0]? = some l := ⟨ls[0]'(by have := Hn.out; omega), by simp⟩
      have hR0 := hp 0 v0 l0 hv0 hl0
      have Hv0 := Lib.hid hv0
      have Hl0 := Lib.hid hl0
      have hle0 : l0.length ≤ T := by
        have h1 := flatten_len_take ls 0 l0 hl0
        have h2 := flatten_take_le ls 1
        rw [h1, List.length_append] at h2
        have := HT.out
        omega
      clear hv0 hl0
      have hmin0 : min l0.length T = l0.length := by omega
      have hone : (0 : Int) ≤ 1 := by omega
      have hone' : (1 : Int) ≤ (n : Int) := by omega
      go_wp2_with (first | ((with_reducible refine g_call ?_); refine wl_of rfl ?_; refine wp_makeNoZero hS rfl rfl hlen ?_; clear hS; intro v cs w2 hS) | ((with_reducible refine g_cut ?_); refine wl_of rfl ?_; refine wp_clip hS rfl 0 rfl rfl rfl rfl rfl rfl ?_; clear hS; intro v hS) | ((with_reducible refine g_index ?_); refine wl_run rfl (x_index rfl (hS.old0 hR) rfl rfl rfl rfl rfl (by omega) (by omega)) ?_) | ((with_reducible refine g_load ?_); refine wl_run rfl (x_loadS1 rfl (hS.old0 hR) rfl rfl rfl (by simpa using Hv0.out)) ?_) | ((with_reducible refine g_copy ?_); refine wl_of rfl ?_; refine wp_copyVec hS rfl (hS.old0 hR0) 0 rfl rfl rfl rfl rfl rfl (B_one _) rfl ?_; clear hS; intro w3 hS; rw [hmin0] at hS ⊢) | ((with_reducible refine g_cut ?_); refine wl_run rfl (x_cutLo rfl (hS.old0 hR) rfl rfl rfl rfl rfl hone hone') ?_) | ((with_reducible refine g_len ?_); refine wl_run rfl (x_len rfl ((hS.old0 hR).cut 1 n (by omega) (by omega)) rfl rfl) ?_) | fail)
      have hS0 : St [] w w3 [.vec v 5 1 T (B (ls.take 1).flatten ++ cs.drop (ls.take 1).flatten.length)] := by
        have e1 : (ls.take 1).flatten = l0 := by
          have := flatten_len_take ls 0 l0 Hl0.out
          simpa using this
        rw [e1]
        simp only [List.set_cons_zero, Nat.mul_one] at hS
        rw [List.take_of_length_le (by rw [B_length]; exact Nat.le_refl _)] at hS
        exact hS
      clear hS
      have hcut := hR.cut 1 n (by omega) (Nat.le_refl _)
      have Hl00 : Hid ((ls.take 1).flatten = l0) := Lib.hid (by simpa using flatten_len_take ls 0 l0 Hl0.out)
      clear hmin0 hone hone'
      go_loopw [9, 72] (fun p i wr => ∃ j : Nat, j ≤ n - 1 ∧ i = .int .i64 j ∧ p = .int .i64 ((ls.take (1 + j)).flatten.length : Nat) ∧ St [] w wr [.vec v 5 1 T (B (ls.take (1 + j)).flatten ++ cs.drop (ls.take (1 + j)).flatten.length)]) (fun _ i _ => n - (intOf i).toNat)
      case atStart => exact ⟨0, by omega, rfl, by rw [← Hl00.out], hS0⟩
      case round =>
        obtain ⟨j, hj, rfl, rfl, hS⟩ := hrel
        by_cases hlt : j < n - 1
        · obtain ⟨vj, hv⟩ : ∃ v, vs[1 + j]? = some v := ⟨vs[1 + j]'(by have := Hvl.out; omega), by simp⟩
          obtain ⟨l, hl⟩ : ∃ l, ls[1 + j]? = some l := ⟨ls[1 + j]'(by have := Hn.out; omega), by simp⟩
          have hRv := hp (1 + j) vj l hv hl
          have hst := flatten_len_take ls (1 + j) l hl
          have hle := flatten_take_le ls (1 + j + 1)
          have Hst := Lib.hid hst
          have Hv : Hid ((List.drop (1 * 1) (List.take (n * 1) vs))[j]? = some vj) := Lib.hid (by rw [List.getElem?_drop, List.getElem?_take]; simp only [Nat.mul_one]; rw [if_pos (by omega)]; exact hv)
          rw [hst, List.length_append, HT.out] at hle
          clear hv hl hst
          obtain ⟨acc, hacc⟩ : ∃ acc, (ls.take (1 + j)).flatten = acc := ⟨_, rfl⟩
          have Hacc := Lib.hid hacc
          rw [hacc] at hle hS ⊢
          clear hacc
          have m0 : min 0 (T - acc.length) = 0 := by omega
          have m1 : min l.length (T - acc.length) = l.length := by omega
          have j0 : (0 : Int) ≤ (j : Int) := by omega
          have j1 : (j : Int) < ((n - 1 : Nat) : Int) := by omega
          have t0 : (0 : Int) ≤ (acc.length : Int) := by omega
          have t1 : (acc.length : Int) ≤ (T : Int) := by omega
          go_wp2_with (first | ((with_reducible refine g_index ?_); refine wl_run rfl (x_index rfl (hS.old0 hcut) rfl rfl rfl rfl rfl j0 j1) ?_) | ((with_reducible refine g_load ?_); refine wl_run rfl (x_loadS1 rfl (hS.old0 hcut) rfl rfl rfl (by simpa using Hv.out)) ?_) | ((with_reducible refine g_cut ?_); refine wl_run rfl (x_cutLo rfl (hS.rdv (i := 0) rfl) rfl rfl rfl rfl rfl t0 t1) ?_) | ((with_reducible refine g_copy ?_); refine wl_of rfl ?_; refine wp_copyCut hS rfl (Rd.nil _ _) 0 rfl rfl rfl rfl rfl rfl (by omega) (by omega) (by simp) rfl ?_; clear hS; intro w4 hS; rw [m0] at hS ⊢) | ((with_reducible refine g_copy ?_); refine wl_of rfl ?_; refine wp_copyCut hS rfl (hS.old0 hRv) 0 rfl rfl rfl rfl rfl rfl (by omega) (by omega) (B_one _) rfl ?_; clear hS; intro w5 hS; rw [m1] at hS ⊢) | fail)
          simp only [List.set_cons_zero, Nat.mul_one, Nat.add_zero, List.take_zero, List.append_nil, List.take_append_drop] at hS
          rw [List.take_left' (B_length acc), List.take_of_length_le (by rw [B_length]; exact Nat.le_refl _), List.drop_append, List.drop_eq_nil_of_le (by rw [B_length]; omega), List.nil_append, B_length, List.drop_drop, ← B_append] at hS
          refine ⟨⟨j + 1, by omega, by go_num, ?_, ?_⟩, by simp [intOf]; omega⟩
          · rw [show 1 + (j + 1) = 1 + j + 1 by omega, Hst.out, Hacc.out, List.length_append]
            go_num
          · rw [show 1 + (j + 1) = 1 + j + 1 by omega, Hst.out, Hacc.out, List.length_append]
            rw [show acc.length + (acc.length + l.length - acc.length) = acc.length + l.length by omega] at hS
            exact hS
        · go_wp2_with fail
          go_ret
          have hl := (hS.vec (i := 0) rfl).1
          have e1 : (ls.take (1 + j)).flatten = ls.flatten := by rw [List.take_of_length_le (by have := Hn.out; omega)]
          rw [e1, HT.out] at hS hl
          rw [List.length_append, B_length, HT.out] at hl
          rw [List.drop_eq_nil_of_le (by rw [List.length_drop] at hl; omega), List.append_nil] at hS
          refine ⟨v, rfl, ?_⟩
          rw [HT.out]
          exact hS
end Go.Proofs.Ytnjboimjlbgdiaa
