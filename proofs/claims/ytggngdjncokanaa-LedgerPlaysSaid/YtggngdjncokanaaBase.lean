/-
  Lemmas that hold for every program: a heap told by entries ('St'), what a call may change ('Mod'), what a slice reads as ('Rd').
-/
import Derived.WalkKit
import Derived.WalkSpells
import Derived.WalkLawsBesides
import Derived.Laws.CopyOwn
import Derived.Lib.Hide
set_option linter.unusedSimpArgs false
set_option linter.unusedVariables false
set_option linter.unusedSectionVars false
namespace Go.Cmp
open Go.RowKit

/-- 'w'' is w, but for blocks in S and for new blocks. -/
structure Mod (S : List Nat) (w w' : World) : Prop where
  os : w'.os = w.os
  tape : w'.tape = w.tape
  output : w'.output = w.output
  size : w.heap.size ≤ w'.heap.size
  block : ∀ k, k < w.heap.size → k ∉ S → w'.heap[k]? = w.heap[k]?

theorem Mod.refl (S : List Nat) (w : World) : Mod S w w := ⟨rfl, rfl, rfl, Nat.le_refl _, fun _ _ _ => rfl⟩
theorem Mod.trans {S : List Nat} {a b c : World} (h : Mod S a b) (k : Mod S b c) : Mod S a c :=
  ⟨k.os.trans h.os, k.tape.trans h.tape, k.output.trans h.output, Nat.le_trans h.size k.size,
   fun i hi hn => (k.block i (Nat.lt_of_lt_of_le hi h.size) hn).trans (h.block i hi hn)⟩
theorem Mod.weaken {S T : List Nat} {a b : World} (h : Mod S a b) (hs : ∀ x, x ∈ S → x ∈ T) : Mod T a b :=
  ⟨h.os, h.tape, h.output, h.size, fun i hi hn => h.block i hi (fun hx => hn (hs _ hx))⟩
theorem Mod.nil {S : List Nat} {a b : World} (h : Mod [] a b) : Mod S a b := h.weaken (by simp)
/-- Changed blocks that are new to 'a' don't count. -/
theorem Mod.comp {S T : List Nat} {a b c : World} (h : Mod S a b) (k : Mod T b c) (ht : ∀ x, x ∈ T → x ∈ S ∨ a.heap.size ≤ x) : Mod S a c :=
  ⟨k.os.trans h.os, k.tape.trans h.tape, k.output.trans h.output, Nat.le_trans h.size k.size,
   fun i hi hn => (k.block i (Nat.lt_of_lt_of_le hi h.size) (fun hx => by rcases ht _ hx with h1 | h1; exact hn h1; omega)).trans (h.block i hi hn)⟩
theorem Mod.drew {S : List Nat} {a b : World} (h : Mod S a b) : Mod S a b.drew := ⟨h.os, h.tape, h.output, h.size, h.block⟩
theorem Mod.below {a b : World} (h : Mod [] a b) : Below a.heap.size a b := ⟨h.os, h.tape, h.output, h.size, fun k hk => h.block k hk (by simp)⟩
theorem Mod.ofBelow {a b : World} (h : Below a.heap.size a b) : Mod [] a b := ⟨h.os, h.tape, h.output, h.size, fun k hk _ => h.block k hk⟩
theorem Mod.cell {S : List Nat} {a b : World} (h : Mod S a b) {p : Addr} (hp : p.block < a.heap.size) (hn : p.block ∉ S) : b.cell? p = a.cell? p :=
  World.cell?_of_block (h.block _ hp hn)
theorem Mod.cellOf {a b : World} (h : Mod [] a b) {p : Addr} {v : Value} (hc : a.cell? p = some v) : b.cell? p = some v := (h.cell (block_lt_of_cell hc) (by simp)).trans hc
theorem mod_alloc (w : World) (o : Obj) : Mod [] w (w.alloc o) := ⟨rfl, rfl, rfl, by simp, fun k hk _ => Below.heap_alloc w o k hk⟩
theorem mod_setCell (w : World) (a : Addr) (v : Value) : Mod [a.block] w (w.setCell a v) :=
  ⟨rfl, rfl, rfl, by simp [World.setCell], fun k _ hn => Below.heap_setCell w a v k (by simpa using hn)⟩
theorem mod_setRow (w : World) (g : Nat) (cs : Array Value) : Mod [g] w (w.setRow g cs) :=
  ⟨rfl, rfl, rfl, by simp [World.setRow], fun k _ hn => setRow_other w g k cs (by simpa using hn)⟩

/-! ### What a slice reads as: n elements of k cells each -/

def Rd (w : World) (k : Nat) (v : Value) (n : Nat) (xs : List Value) : Prop :=
  xs.length = n * k ∧ ∃ (p : Option Addr) (cap : Nat), v = .slice p n cap ∧ n ≤ cap ∧ cap ≤ maxLen ∧ (p = none → cap = 0) ∧
    ∀ a, p = some a → ∀ (i : Nat) x, xs[i]? = some x → w.cell? (a.add i) = some x

theorem add_block (a : Addr) (i : Nat) : (a.add i).block = a.block := by unfold Addr.add; split <;> rfl
theorem add_add (a : Addr) (i j : Nat) : (a.add i).add j = a.add (i + j) := by
  unfold Addr.add
  by_cases hi : i = 0
  · subst hi; simp
  · by_cases hj : j = 0
    · subst hj; simp [hi]
    · simp [hi, hj]; omega
theorem add_lit (b o i : Nat) : (⟨b, o, none⟩ : Addr).add i = ⟨b, o + i, none⟩ := by unfold Addr.add; split <;> simp_all

theorem Rd.mod {S : List Nat} {w w' : World} {k : Nat} {v : Value} {n : Nat} {xs : List Value} (h : Rd w k v n xs) (m : Mod S w w') (hS : ∀ b, v.ownBlock = some b → b ∉ S) : Rd w' k v n xs := by
  obtain ⟨h1, p, cap, rfl, h2, h3, h4, h5⟩ := h
  refine ⟨h1, p, cap, rfl, h2, h3, h4, fun a ha i x hx => ?_⟩
  have hc := h5 a ha i x hx
  have hl := block_lt_of_cell hc
  subst ha
  rw [m.cell hl (by rw [add_block]; exact hS _ rfl)]
  exact hc
theorem Rd.grow {w w' : World} {k : Nat} {v : Value} {n : Nat} {xs : List Value} (h : Rd w k v n xs) (m : Mod [] w w') : Rd w' k v n xs := h.mod m (by simp)

/-- The address of cell 'off' of a slice. -/
def ptrAt (v : Value) (off : Nat) : Value := match v with | .slice (some a) _ _ => .pointer (some (a.add off)) | _ => undef
/-- v[l:h], elements of k cells. -/
def cutSl (v : Value) (k l h : Nat) : Value := match v with | .slice p _ cap => .slice (if cap = l then p else p.map (·.add (l * k))) (h - l) (cap - l) | x => x

theorem Rd.cut {w : World} {k : Nat} {v : Value} {n : Nat} {xs : List Value} (h : Rd w k v n xs) (l hi : Nat) (h1 : l ≤ hi) (h2 : hi ≤ n) : Rd w k (cutSl v k l hi) (hi - l) ((xs.take (hi * k)).drop (l * k)) := by
  obtain ⟨e1, p, cap, rfl, e2, e3, e4, e5⟩ := h
  have hle : hi * k ≤ n * k := Nat.mul_le_mul_right _ h2
  refine ⟨by rw [List.length_drop, List.length_take, e1, Nat.min_eq_left hle, Nat.sub_mul], _, _, rfl, by omega, by omega, ?_, ?_⟩
  · intro hp
    split at hp
    · omega
    · cases p with
      | none => have := e4 rfl; omega
      | some a => simp at hp
  · intro a ha i x hx
    rw [List.getElem?_drop, List.getElem?_take] at hx
    split at hx
    · split at ha
      · rename_i hc hcap
        have : hi = l := by omega
        subst this
        omega
      · cases p with
        | none => simp at ha
        | some b =>
          simp only [Option.map_some, Option.some.injEq] at ha
          subst ha
          rw [add_add]
          exact e5 b rfl _ x hx
    · cases hx

/-! ### The entries of a heap -/

def notFrozen (fr : Nat × Nat) (i : Nat) : Prop := ¬ (fr.1 ≤ i ∧ i < fr.2)

def VecAt (w : World) (v : Value) (e : TypeId) (k n : Nat) (xs : List Value) : Prop :=
  xs.length = n * k ∧ ((v = .slice none 0 0 ∧ n = 0) ∨
    ∃ (g cap : Nat) (rest : List Value) (fr : Nat × Nat), v = .slice (some ⟨g, 0, none⟩) n cap ∧ w.heap[g]? = some (.cells (xs ++ rest).toArray e fr) ∧ n ≤ cap ∧ cap ≤ maxLen ∧ cap * k ≤ (xs ++ rest).length ∧
      ∀ i, i < cap * k → notFrozen fr i)

theorem heap_lt {w : World} {g : Nat} {o : Obj} (h : w.heap[g]? = some o) : g < w.heap.size := (Array.getElem?_eq_some_iff.1 h).1
theorem VecAt.lt {w : World} {v : Value} {e : TypeId} {k n : Nat} {xs : List Value} (h : VecAt w v e k n xs) : ∀ g ∈ v.ownBlock.toList, g < w.heap.size := by
  intro g hg
  rcases h.2 with ⟨rfl, _⟩ | ⟨g', cap, rest, fr, rfl, hh, _⟩
  · simp [Value.ownBlock] at hg
  · simp [Value.ownBlock] at hg; subst hg; exact heap_lt hh
theorem VecAt.mod {S : List Nat} {w w' : World} {v : Value} {e : TypeId} {k n : Nat} {xs : List Value} (h : VecAt w v e k n xs) (m : Mod S w w') (hn : ∀ g ∈ v.ownBlock.toList, g ∉ S) : VecAt w' v e k n xs := by
  refine ⟨h.1, ?_⟩
  rcases h.2 with hn' | ⟨g, cap, rest, fr, rfl, hh, r⟩
  · exact .inl hn'
  · exact .inr ⟨g, cap, rest, fr, rfl, by rw [m.block g (heap_lt hh) (hn g (by simp [Value.ownBlock]))]; exact hh, r⟩
theorem ownBlock_nodup (v : Value) : v.ownBlock.toList.Nodup := by generalize v.ownBlock = o; cases o <;> simp

/-- What owns blocks: what it says of a world and of the blocks that it owns there. -/
structure Own where
  own : World → List Nat → Prop
  lt : ∀ w F, own w F → ∀ g ∈ F, g < w.heap.size
  mod : ∀ S w w' F, own w F → Mod S w w' → (∀ g ∈ F, g ∉ S) → own w' F

/-- A block that is known whole; a slice at the head of a block of its own (or nil); a thing that owns blocks. -/
inductive Ent where
  | row (g : Nat) (cs : List Value) (e : TypeId) (fr : Nat × Nat)
  | vec (v : Value) (e : TypeId) (k n : Nat) (xs : List Value)
  | obj (O : Own)

def Ent.own (w : World) : Ent → List Nat → Prop
  | .row g cs e fr, F => F = [g] ∧ w.heap[g]? = some (.cells cs.toArray e fr)
  | .vec v e k n xs, F => F = v.ownBlock.toList ∧ VecAt w v e k n xs
  | .obj O, F => O.own w F

theorem Ent.own.lt {w : World} {m : Ent} {F : List Nat} (h : m.own w F) : ∀ g ∈ F, g < w.heap.size := by
  cases m with
  | row g cs e fr => obtain ⟨rfl, h⟩ := h; intro x hx; simp only [List.mem_singleton] at hx; subst hx; exact heap_lt h
  | vec v e k n xs => obtain ⟨rfl, h⟩ := h; exact h.lt
  | obj O => exact O.lt _ _ h
theorem Ent.own.mod {S : List Nat} {w w' : World} {m : Ent} {F : List Nat} (h : m.own w F) (k : Mod S w w') (hn : ∀ g ∈ F, g ∉ S) : m.own w' F := by
  cases m with
  | row g cs e fr => obtain ⟨rfl, h⟩ := h; exact ⟨rfl, by rw [k.block g (heap_lt h) (hn g (by simp))]; exact h⟩
  | vec v e kk n xs => obtain ⟨rfl, h⟩ := h; exact ⟨rfl, h.mod k hn⟩
  | obj O => exact O.mod _ _ _ _ h k hn

/-- A list of entries, and all blocks that they own, in a row. -/
def Owns (w : World) : List Ent → List Nat → Prop
  | [], F => F = []
  | m :: M, F => ∃ f F', F = f ++ F' ∧ m.own w f ∧ Owns w M F'

theorem Owns.lt {w : World} : ∀ {M : List Ent} {F : List Nat}, Owns w M F → ∀ g ∈ F, g < w.heap.size
  | [], F, h => by simp only [Owns] at h; subst h; simp
  | m :: M, F, h => by
    obtain ⟨f, F', rfl, h1, h2⟩ := h
    intro g hg
    rcases List.mem_append.1 hg with hg | hg
    · exact h1.lt g hg
    · exact Owns.lt h2 g hg
theorem Owns.mod {S : List Nat} {w w' : World} (k : Mod S w w') : ∀ {M : List Ent} {F : List Nat}, Owns w M F → (∀ g ∈ F, g ∉ S) → Owns w' M F
  | [], F, h, _ => h
  | m :: M, F, h, hn => by
    obtain ⟨f, F', rfl, h1, h2⟩ := h
    exact ⟨f, F', rfl, h1.mod k (fun g hg => hn g (List.mem_append_left _ hg)), Owns.mod k h2 (fun g hg => hn g (List.mem_append_right _ hg))⟩
theorem Owns.append {w : World} : ∀ {A M : List Ent} {F : List Nat}, Owns w (A ++ M) F ↔ ∃ a b, F = a ++ b ∧ Owns w A a ∧ Owns w M b
  | [], M, F => ⟨fun h => ⟨[], F, rfl, rfl, h⟩, fun ⟨a, b, e, h1, h2⟩ => by simp only [Owns] at h1; subst h1; subst e; exact h2⟩
  | m :: A, M, F => by
    constructor
    · rintro ⟨f, F', rfl, h1, h2⟩
      obtain ⟨a, b, rfl, h3, h4⟩ := Owns.append.1 h2
      exact ⟨f ++ a, b, by simp, ⟨f, a, rfl, h1, h3⟩, h4⟩
    · rintro ⟨a, b, rfl, ⟨f, a', rfl, h1, h3⟩, h4⟩
      exact ⟨f, a' ++ b, by simp, h1, Owns.append.2 ⟨a', b, rfl, h3, h4⟩⟩
theorem Owns.perm {w : World} {M N : List Ent} (p : M.Perm N) : ∀ {F : List Nat}, Owns w M F → ∃ G, F.Perm G ∧ Owns w N G := by
  induction p with
  | nil => intro F h; exact ⟨F, List.Perm.refl _, h⟩
  | cons x _ ih =>
    rintro F ⟨f, F', rfl, h1, h2⟩
    obtain ⟨G, p, h3⟩ := ih h2
    exact ⟨f ++ G, p.append_left f, f, G, rfl, h1, h3⟩
  | swap x y l =>
    rintro F ⟨f, F', rfl, h1, f2, F2, rfl, h2, h3⟩
    refine ⟨f2 ++ (f ++ F2), ?_, f2, _, rfl, h2, f, F2, rfl, h1, h3⟩
    rw [← List.append_assoc, ← List.append_assoc]
    exact (List.perm_append_comm).append_right _
  | trans _ _ ih1 ih2 =>
    intro F h
    obtain ⟨G, p, h1⟩ := ih1 h
    obtain ⟨G2, p2, h2⟩ := ih2 h1
    exact ⟨G2, p.trans p2, h2⟩
theorem Owns.sub {w : World} {M N : List Ent} (p : N.Sublist M) : ∀ {F : List Nat}, Owns w M F → ∃ G, G.Sublist F ∧ Owns w N G := by
  induction p with
  | slnil => intro F h; exact ⟨[], List.nil_sublist _, rfl⟩
  | cons x _ ih =>
    rintro F ⟨f, F', rfl, h1, h2⟩
    obtain ⟨G, p, h3⟩ := ih h2
    exact ⟨G, p.trans (List.sublist_append_right _ _), h3⟩
  | cons_cons x _ ih =>
    rintro F ⟨f, F', rfl, h1, h2⟩
    obtain ⟨G, p, h3⟩ := ih h2
    exact ⟨f ++ G, (List.Sublist.refl _).append p, f, G, rfl, h1, h3⟩

theorem cons_eraseIdx_perm {α : Type} : ∀ (l : List α) (i : Nat) (h : i < l.length), (l[i] :: l.eraseIdx i).Perm l
  | x :: l, 0, _ => by simp
  | x :: l, i + 1, h => by
    simp only [List.getElem_cons_succ, List.eraseIdx_cons_succ]
    exact (List.Perm.swap _ _ _).trans ((cons_eraseIdx_perm l i (by simpa using h)).cons x)

/-- The heap at a point of a call: w0 the world at the call's begin, S the old blocks that may be changed, M the entries that are known, apart from each other. -/
structure St (S : List Nat) (w0 w : World) (M : List Ent) : Prop where
  base : Mod S w0 w
  owns : ∃ F, Owns w M F ∧ F.Nodup ∧ ∀ g ∈ F, g ∈ S ∨ w0.heap.size ≤ g

theorem St.init (w : World) : St [] w w [] := ⟨Mod.refl _ _, [], rfl, by simp, by simp⟩
theorem St.drew {S : List Nat} {w0 w : World} {M : List Ent} (h : St S w0 w M) : St S w0 w.drew M := by
  obtain ⟨F, h1, h2, h3⟩ := h.owns
  exact ⟨h.base.drew, F, h1.mod (Mod.drew (Mod.refl [] w)) (by simp), h2, h3⟩
theorem St.startAt {G : World → Prop} (w : World) (h : ∀ w1, St [] w w1 [] → G w1) : G w := h w (St.init w)

/-- THE FRAME: what is done to A, M stays. -/
theorem St.split {S : List Nat} {w0 w : World} {A M : List Ent} (h : St S w0 w (A ++ M)) :
    ∃ F, St F w w A ∧ (∀ w', Mod F w w' → St S w0 w' M) ∧ ∀ w' B, St F w w' B → St S w0 w' (B ++ M) := by
  obtain ⟨G, h1, h2, h3⟩ := h.owns
  obtain ⟨a, b, rfl, h4, h5⟩ := Owns.append.1 h1
  rw [List.nodup_append] at h2
  obtain ⟨n1, n2, n3⟩ := h2
  have hba : ∀ g ∈ b, g ∉ a := fun g hg ha => n3 g ha g hg rfl
  have hbase : ∀ w', Mod a w w' → Mod S w0 w' := fun w' k => h.base.comp k (fun x hx => h3 x (List.mem_append_left _ hx))
  refine ⟨a, ⟨Mod.refl _ _, a, h4, n1, fun g hg => .inl hg⟩, fun w' k => ⟨hbase w' k, b, h5.mod k hba, n2, fun g hg => h3 g (List.mem_append_right _ hg)⟩, ?_⟩
  intro w' B k
  obtain ⟨c, k1, k2, k3⟩ := k.owns
  refine ⟨hbase w' k.base, c ++ b, Owns.append.2 ⟨c, b, rfl, k1, h5.mod k.base hba⟩, ?_, ?_⟩
  · rw [List.nodup_append]
    refine ⟨k2, n2, fun x hx y hy e => ?_⟩
    subst e
    rcases k3 x hx with h6 | h6
    · exact hba x hy h6
    · have := h5.lt x hy; omega
  · intro g hg
    rcases List.mem_append.1 hg with hg | hg
    · rcases k3 g hg with h6 | h6
      · exact h3 g (List.mem_append_left _ h6)
      · exact .inr (Nat.le_trans h.base.size h6)
    · exact h3 g (List.mem_append_right _ hg)
/-- .. a call that was handed nothing. -/
theorem St.call {S : List Nat} {w0 w w' : World} {B M : List Ent} (h : St S w0 w M) (k : St [] w w' B) : St S w0 w' (B ++ M) := by
  obtain ⟨F, h1, _, h2⟩ := St.split (A := []) h
  obtain ⟨G, h3, h4, h5⟩ := k.owns
  refine h2 w' B ⟨k.base.nil, G, h3, h4, fun g hg => ?_⟩
  rcases h5 g hg with h6 | h6
  · cases h6
  · exact .inr h6
theorem St.same {S : List Nat} {w0 w w' : World} {M : List Ent} (h : St S w0 w M) (k : Mod [] w w') : St S w0 w' M :=
  St.call (B := []) h ⟨k, [], rfl, by simp, by simp⟩
theorem St.perm {S : List Nat} {w0 w : World} {M N : List Ent} (h : St S w0 w M) (p : M.Perm N) : St S w0 w N := by
  obtain ⟨F, h1, h2, h3⟩ := h.owns
  obtain ⟨G, q, h4⟩ := h1.perm p
  exact ⟨h.base, G, h4, q.nodup_iff.1 h2, fun g hg => h3 g (q.mem_iff.2 hg)⟩
theorem St.sub {S : List Nat} {w0 w : World} {M N : List Ent} (h : St S w0 w M) (p : N.Sublist M) : St S w0 w N := by
  obtain ⟨F, h1, h2, h3⟩ := h.owns
  obtain ⟨G, q, h4⟩ := h1.sub p
  exact ⟨h.base, G, h4, h2.sublist q, fun g hg => h3 g (q.subset hg)⟩
theorem St.nil {S : List Nat} {w0 w : World} {M : List Ent} (h : St S w0 w M) : St S w0 w [] := h.sub (List.nil_sublist _)
theorem St.tail {S : List Nat} {w0 w : World} {m : Ent} {M : List Ent} (h : St S w0 w (m :: M)) : St S w0 w M := h.sub (List.sublist_cons_self _ _)
theorem St.one {S : List Nat} {w0 w : World} {m : Ent} {M : List Ent} (h : St S w0 w (m :: M)) : St S w0 w [m] := h.sub (by simp)
theorem St.left {S : List Nat} {w0 w : World} {A M : List Ent} (h : St S w0 w (A ++ M)) : St S w0 w A := h.sub (List.sublist_append_left _ _)
theorem St.right {S : List Nat} {w0 w : World} {A M : List Ent} (h : St S w0 w (A ++ M)) : St S w0 w M := h.sub (List.sublist_append_right _ _)
theorem St.rot {S : List Nat} {w0 w : World} {A M : List Ent} (h : St S w0 w (A ++ M)) : St S w0 w (M ++ A) := h.perm List.perm_append_comm
/-- Entry i comes to the front. -/
theorem St.front {S : List Nat} {w0 w : World} {M : List Ent} (h : St S w0 w M) (i : Nat) {m : Ent} (hi : M[i]? = some m) : St S w0 w (m :: M.eraseIdx i) := by
  refine h.perm ?_
  obtain ⟨hlt, e⟩ := List.getElem?_eq_some_iff.1 hi
  subst e
  exact (cons_eraseIdx_perm M i hlt).symm

/-- An entry that owns just these blocks. -/
def Ent.has (w : World) (m : Ent) (F : List Nat) : Prop := m.own w F ∧ F.Nodup
theorem St.add {S : List Nat} {w0 w w' : World} {M : List Ent} (h : St S w0 w M) (k : Mod [] w w') {m : Ent} {F : List Nat} (hm : m.own w' F) (hg : ∀ g ∈ F, w.heap.size ≤ g) (hn : F.Nodup) : St S w0 w' (m :: M) :=
  St.call (B := [m]) h ⟨k, F, ⟨F, [], by simp, hm, rfl⟩, hn, fun g hgm => .inr (hg g hgm)⟩
theorem St.alloc {S : List Nat} {w0 w : World} {M : List Ent} (h : St S w0 w M) (cs : List Value) (e : TypeId) : St S w0 (w.alloc (.cells cs.toArray e)) (.row w.heap.size cs e (0, 0) :: M) :=
  h.add (mod_alloc w _) (m := .row w.heap.size cs e (0, 0)) (F := [w.heap.size]) ⟨rfl, heap_alloc_new w _⟩ (by simp) (by simp)
/-- The blocks of the first entry are changed. -/
theorem St.chg {S : List Nat} {w0 w w' : World} {M : List Ent} {m m' : Ent} (h : St S w0 w (m :: M)) {F' : List Nat} (hF : ∀ F, m.own w F → Mod F w w' ∧ ∀ g ∈ F', g ∈ F ∨ w.heap.size ≤ g) (hm : m'.own w' F') (hn : F'.Nodup) : St S w0 w' (m' :: M) := by
  obtain ⟨F, h1, _, h2⟩ := St.split (A := [m]) h
  obtain ⟨G, h3, h4, h5⟩ := h1.owns
  obtain ⟨f, G', rfl, h6, h7⟩ := h3
  simp only [Owns] at h7
  subst h7
  simp only [List.append_nil] at h4 h5
  obtain ⟨k1, k2⟩ := hF f h6
  have hfF : ∀ g ∈ f, g ∈ F := fun g hg => by
    rcases h5 g hg with h8 | h8
    · exact h8
    · have := h6.lt g hg; omega
  refine h2 w' [m'] ⟨k1.weaken hfF, F', ⟨F', [], by simp, hm, rfl⟩, hn, fun g hg => ?_⟩
  rcases k2 g hg with h8 | h8
  · exact .inl (hfF g h8)
  · exact .inr h8
/-- The blocks of entry i are changed. -/
theorem St.chgAt {S : List Nat} {w0 w w' : World} {M : List Ent} {m m' : Ent} (h : St S w0 w M) (i : Nat) (hi : M[i]? = some m) {F' : List Nat} (hF : ∀ F, m.own w F → Mod F w w' ∧ ∀ g ∈ F', g ∈ F ∨ w.heap.size ≤ g) (hm : m'.own w' F') (hn : F'.Nodup) : St S w0 w' (M.set i m') := by
  refine ((h.front i hi).chg hF hm hn).perm ?_
  obtain ⟨hlt, e⟩ := List.getElem?_eq_some_iff.1 hi
  have h1 : (M.set i m').eraseIdx i = M.eraseIdx i := by
    rw [List.eraseIdx_set_eq]
  have h2 : (M.set i m')[i]'(by simpa using hlt) = m' := by simp
  have h3 := cons_eraseIdx_perm (M.set i m') i (by simpa using hlt)
  rw [h2, h1] at h3
  exact h3
theorem St.chgRow {S : List Nat} {w0 w w' : World} {M : List Ent} {g : Nat} {cs cs' : List Value} {e : TypeId} {fr : Nat × Nat} (h : St S w0 w M) (i : Nat) (hi : M[i]? = some (.row g cs e fr)) (k : Mod [g] w w') (hm : w'.heap[g]? = some (.cells cs'.toArray e fr)) : St S w0 w' (M.set i (.row g cs' e fr)) :=
  h.chgAt i hi (m' := .row g cs' e fr) (F' := [g]) (fun F hF => by obtain ⟨rfl, _⟩ := hF; exact ⟨k, fun x hx => .inl hx⟩) ⟨rfl, hm⟩ (by simp)
theorem St.chgVec {S : List Nat} {w0 w w' : World} {M : List Ent} {v v' : Value} {e e' : TypeId} {k k' n n' : Nat} {xs xs' : List Value} (h : St S w0 w M) (i : Nat) (hi : M[i]? = some (.vec v e k n xs)) (hk : Mod v.ownBlock.toList w w') (hm : VecAt w' v' e' k' n' xs') (hg : ∀ g ∈ v'.ownBlock.toList, g ∈ v.ownBlock.toList ∨ w.heap.size ≤ g) : St S w0 w' (M.set i (.vec v' e' k' n' xs')) :=
  h.chgAt i hi (m' := .vec v' e' k' n' xs') (F' := v'.ownBlock.toList) (fun F hF => by obtain ⟨rfl, _⟩ := hF; exact ⟨hk, hg⟩) ⟨rfl, hm⟩ (ownBlock_nodup _)

theorem Owns.get {w : World} : ∀ {M : List Ent} {F : List Nat}, Owns w M F → ∀ {i : Nat} {m : Ent}, M[i]? = some m → ∃ f, m.own w f
  | [], _, _, i, m, hi => by simp at hi
  | x :: M, F, h, 0, m, hi => by
    obtain ⟨f, F', rfl, h1, h2⟩ := h
    simp only [List.getElem?_cons_zero, Option.some.injEq] at hi
    subst hi
    exact ⟨f, h1⟩
  | x :: M, F, h, i + 1, m, hi => by
    obtain ⟨f, F', rfl, h1, h2⟩ := h
    exact Owns.get h2 (by simpa using hi)
theorem St.row {S : List Nat} {w0 w : World} {M : List Ent} (h : St S w0 w M) {i g : Nat} {cs : List Value} {e : TypeId} {fr : Nat × Nat} (hi : M[i]? = some (.row g cs e fr)) : w.heap[g]? = some (.cells cs.toArray e fr) := by
  obtain ⟨F, h1, _⟩ := h.owns
  obtain ⟨f, h2⟩ := h1.get hi
  exact h2.2
theorem St.vec {S : List Nat} {w0 w : World} {M : List Ent} (h : St S w0 w M) {i : Nat} {v : Value} {e : TypeId} {k n : Nat} {xs : List Value} (hi : M[i]? = some (.vec v e k n xs)) : VecAt w v e k n xs := by
  obtain ⟨F, h1, _⟩ := h.owns
  obtain ⟨f, h2⟩ := h1.get hi
  exact h2.2
theorem St.old {S : List Nat} {w0 w : World} {M : List Ent} (h : St S w0 w M) {k : Nat} {v : Value} {n : Nat} {xs : List Value} (hr : Rd w0 k v n xs) (hS : ∀ b, v.ownBlock = some b → b ∉ S) : Rd w k v n xs := hr.mod h.base hS
theorem St.old0 {w0 w : World} {M : List Ent} (h : St [] w0 w M) {k : Nat} {v : Value} {n : Nat} {xs : List Value} (hr : Rd w0 k v n xs) : Rd w k v n xs := hr.mod h.base (by simp)

/-! ### Things made of entries -/

/-- Some x with p x, and the entries l x. -/
def pack {α : Type} (p : α → Prop) (l : α → List Ent) : Ent := .obj
  { own := fun w F => ∃ x, p x ∧ Owns w (l x) F
    lt := fun _ _ ⟨_, _, h⟩ => h.lt
    mod := fun _ _ _ _ ⟨x, hp, h⟩ k hn => ⟨x, hp, h.mod k hn⟩ }
theorem St.unpack {S : List Nat} {w0 w : World} {M : List Ent} {α : Type} {p : α → Prop} {l : α → List Ent} (h : St S w0 w (pack p l :: M)) : ∃ x, p x ∧ St S w0 w (l x ++ M) := by
  obtain ⟨F, ⟨f, F', rfl, ⟨x, hp, h1⟩, h2⟩, h3, h4⟩ := h.owns
  exact ⟨x, hp, h.base, f ++ F', Owns.append.2 ⟨f, F', rfl, h1, h2⟩, h3, h4⟩
theorem St.pack {S : List Nat} {w0 w : World} {M : List Ent} {α : Type} {p : α → Prop} {l : α → List Ent} (x : α) (hp : p x) (h : St S w0 w (l x ++ M)) : St S w0 w (pack p l :: M) := by
  obtain ⟨F, h1, h3, h4⟩ := h.owns
  obtain ⟨f, F', rfl, h5, h6⟩ := Owns.append.1 h1
  exact ⟨h.base, f ++ F', ⟨f, F', rfl, ⟨x, hp, h5⟩, h6⟩, h3, h4⟩

/-- What can be read whatever becomes of the entries M. -/
def Reads (S : List Nat) (w0 : World) (M : List Ent) (k : Nat) (v : Value) (n : Nat) (xs : List Value) : Prop := ∀ w, St S w0 w M → Rd w k v n xs
theorem Reads.sub {S : List Nat} {w0 : World} {M N : List Ent} {k : Nat} {v : Value} {n : Nat} {xs : List Value} (h : Reads S w0 M k v n xs) (p : M.Sublist N) : Reads S w0 N k v n xs := fun w hw => h w (hw.sub p)
theorem Reads.old {w0 : World} {M : List Ent} {k : Nat} {v : Value} {n : Nat} {xs : List Value} (h : Rd w0 k v n xs) : Reads [] w0 M k v n xs := fun _ hw => hw.old0 h

theorem row_cell {w : World} {g : Nat} {cs : List Value} {e : TypeId} {fr : Nat × Nat} (h : w.heap[g]? = some (.cells cs.toArray e fr)) (i : Nat) : w.cell? ⟨g, i, none⟩ = cs[i]? := by simp [World.cell?, h]
theorem row_free {w : World} {g : Nat} {cs : List Value} {e : TypeId} {fr : Nat × Nat} (h : w.heap[g]? = some (.cells cs.toArray e fr)) {i : Nat} (hf : notFrozen fr i) : w.frozen? ⟨g, i, none⟩ = false := by
  unfold notFrozen at hf
  simp [World.frozen?, h]
  omega

theorem VecAt.rd {w : World} {v : Value} {e : TypeId} {k n : Nat} {xs : List Value} (h : VecAt w v e k n xs) : Rd w k v n xs := by
  rcases h with ⟨h1, ⟨rfl, rfl⟩ | ⟨g, cap, rest, fr, rfl, hh, h2, h3, h4, h5⟩⟩
  · exact ⟨h1, none, 0, rfl, Nat.le_refl _, by simp [maxLen], by simp, by simp⟩
  · refine ⟨h1, _, cap, rfl, h2, h3, by simp, ?_⟩
    intro a ha i x hx
    simp only [Option.some.injEq] at ha
    subst ha
    rw [add_lit, Nat.zero_add, row_cell hh, List.getElem?_append_left (List.getElem?_eq_some_iff.1 hx).1]
    exact hx
theorem St.rdv {S : List Nat} {w0 w : World} {M : List Ent} (h : St S w0 w M) {i : Nat} {v : Value} {e : TypeId} {k n : Nat} {xs : List Value} (hi : M[i]? = some (.vec v e k n xs)) : Rd w k v n xs := (h.vec hi).rd
/-- A slice over a part of a row. -/
theorem Rd.ofRow {w : World} {g : Nat} {cs : List Value} {e : TypeId} {fr : Nat × Nat} (h : w.heap[g]? = some (.cells cs.toArray e fr)) (k off n cap : Nat) (xs : List Value) (hx : xs = (cs.drop off).take (n * k)) (hfit : off + n * k ≤ cs.length) (hn : n ≤ cap) (hc : cap ≤ maxLen) :
    Rd w k (.slice (some ⟨g, off, none⟩) n cap) n xs := by
  subst hx
  refine ⟨by rw [List.length_take, List.length_drop]; omega, _, cap, rfl, hn, hc, by simp, ?_⟩
  intro a ha i x hx
  simp only [Option.some.injEq] at ha
  subst ha
  rw [add_lit, row_cell h]
  rw [List.getElem?_take] at hx
  split at hx
  · rwa [List.getElem?_drop] at hx
  · cases hx
theorem Rd.nil (w : World) (k : Nat) : Rd w k (.slice none 0 0) 0 [] := ⟨by simp, none, 0, rfl, Nat.le_refl _, by simp [maxLen], by simp, by simp⟩
theorem vec_nil (w : World) (e : TypeId) (k : Nat) : VecAt w (.slice none 0 0) e k 0 [] := ⟨by simp, .inl ⟨rfl, rfl⟩⟩
theorem St.addNil {S : List Nat} {w0 w : World} {M : List Ent} (h : St S w0 w M) (e : TypeId) (k : Nat) : St S w0 w (.vec (.slice none 0 0) e k 0 [] :: M) :=
  h.add (Mod.refl _ _) (m := .vec (.slice none 0 0) e k 0 []) (F := []) ⟨rfl, vec_nil w e k⟩ (by simp) (by simp)
/-- A row that a slice value covers whole is a slice of its own. -/
theorem St.toVec {S : List Nat} {w0 w : World} {M : List Ent} {g : Nat} {cs : List Value} {e : TypeId} {fr : Nat × Nat} (h : St S w0 w (.row g cs e fr :: M)) (k n cap : Nat) (xs rest : List Value) (hcs : cs = xs ++ rest) (hx : xs.length = n * k) (hl : cap * k ≤ cs.length) (hn : n ≤ cap) (hc : cap ≤ maxLen)
    (hf : ∀ i, i < cap * k → notFrozen fr i) : St S w0 w (.vec (.slice (some ⟨g, 0, none⟩) n cap) e k n xs :: M) := by
  have hr := h.row (i := 0) rfl
  subst hcs
  exact h.chg (m' := .vec (.slice (some ⟨g, 0, none⟩) n cap) e k n xs) (F' := [g]) (fun F hF => by obtain ⟨rfl, _⟩ := hF; exact ⟨Mod.refl _ _, fun x hx => .inl hx⟩) ⟨rfl, hx, .inr ⟨g, cap, rest, fr, rfl, hr, hn, hc, hl, hf⟩⟩ (by simp)
theorem nf0 (i : Nat) : notFrozen (0, 0) i := by unfold notFrozen; omega

end Go.Cmp
