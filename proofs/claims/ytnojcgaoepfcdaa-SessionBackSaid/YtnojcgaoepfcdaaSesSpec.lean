/-
  Sessions of clients, in plain lists.
-/
import Derived.Test.YtnojcgaoepfcdaaDel
import Derived.Test.YtnojcgaoepfcdaaCalm
namespace Go.Cmp
open Go.RowKit

structure Ses where
  client : Int
  session : Int
  request : Int
  op : Int
  reply : List UInt8
deriving Inhabited, DecidableEq
def Ses.cells (x : Ses) : List Value := [.int .i64 x.client, .int .i64 x.session, .int .i64 x.request, .int .i64 x.op, .string ⟨x.reply.toArray⟩]
theorem Ses.ones (x : Ses) : ∀ u ∈ x.cells, u.oneCell' = true := by
  intro u hu
  simp only [Ses.cells, List.mem_cons, List.not_mem_nil, or_false] at hu
  rcases hu with rfl | rfl | rfl | rfl | rfl <;> rfl
def zSes : Ses := ⟨0, 0, 0, 0, []⟩

/-- Where the first one stands; -1: nowhere. -/
def idx {α : Type} (p : α → Bool) : List α → Int
  | [] => -1
  | x :: l => if p x = true then 0 else if idx p l < 0 then -1 else idx p l + 1
section
variable {α : Type} [Inhabited α] {p : α → Bool}
theorem nth_zero' (x : α) (l : List α) : nth (x :: l) 0 = x := rfl
theorem nth_succ' (x : α) (l : List α) (i : Nat) : nth (x :: l) (i + 1) = nth l i := rfl
theorem mem_nth' {l : List α} {x : α} (h : x ∈ l) : ∃ i, i < l.length ∧ nth l i = x := by
  obtain ⟨i, hi, e⟩ := List.getElem_of_mem h
  exact ⟨i, hi, (nth_eq (by rw [List.getElem?_eq_getElem hi, e]))⟩
omit [Inhabited α] in
theorem idx_none : ∀ {l : List α}, (∀ x ∈ l, p x = false) → idx p l = -1
  | [], _ => rfl
  | x :: l, h => by
    have h1 := idx_none (l := l) (fun y hy => h y (by simp [hy]))
    simp only [idx, h1]
    rw [if_neg (by rw [h x (by simp)]; simp), if_pos (by omega)]
theorem idx_first : ∀ {l : List α} {i : Nat}, i < l.length → p (nth l i) = true → (∀ j, j < i → p (nth l j) = false) → idx p l = i
  | [], _, h, _, _ => by simp at h
  | x :: l, 0, _, h, _ => by simp only [idx]; rw [if_pos (by simpa [nth_zero'] using h)]; rfl
  | x :: l, i + 1, hl, h, hn => by
    have h1 := idx_first (l := l) (i := i) (by simpa using hl) (by simpa [nth_succ'] using h) (fun j hj => by have := hn (j + 1) (by omega); simpa [nth_succ'] using this)
    have h2 := hn 0 (by omega)
    simp only [idx, h1]
    rw [if_neg (by rw [nth_zero'] at h2; rw [h2]; simp), if_neg (by omega)]
    push_cast
    rfl
omit [Inhabited α] in
theorem idx_range : ∀ (l : List α), -1 ≤ idx p l ∧ idx p l < l.length
  | [] => by simp [idx]
  | x :: l => by
    have := idx_range l
    simp only [idx, List.length_cons]
    split
    · omega
    · split <;> omega
theorem idx_hit : ∀ {l : List α}, 0 ≤ idx p l → p (nth l (idx p l).toNat) = true
  | [], h => by simp [idx] at h
  | x :: l, h => by
    have h1 := idx_hit (l := l)
    have h2 := idx_range (p := p) l
    simp only [idx] at h ⊢
    split
    · rename_i hx; simpa [nth_zero'] using hx
    · split
      · rename_i hx h3; rw [if_neg hx, if_pos h3] at h; omega
      · rw [show (idx p l + 1).toNat = (idx p l).toNat + 1 by omega, nth_succ']
        exact h1 (by omega)
omit [Inhabited α] in
theorem idx_neg {l : List α} (h : idx p l < 0) : ∀ x ∈ l, p x = false := by
  intro x hx
  induction l with
  | nil => cases hx
  | cons y l ih =>
    simp only [idx] at h
    split at h
    · omega
    · rename_i hy
      rcases List.mem_cons.1 hx with rfl | hx
      · simpa using hy
      · have := idx_range (p := p) l
        exact ih (by split at h <;> omega) hx
end
/-- Whose session stands where. -/
def whose (c : Int) (T : List Ses) : Int := idx (fun s => decide (s.client = c)) T
def may (n least : Int) : Bool := decide (least ≤ n) && decide (n ≤ 72057594037927935)
/-- The one whose last use is the eldest, of the first j. -/
def best (T : List Ses) : Nat → Ses
  | 0 => nth T 0
  | j + 1 => if (nth T j).op < (best T j).op then nth T j else best T j
def newSes (c o : Int) : Ses := ⟨c, o, 0, o, []⟩
def sOpen (T : List Ses) (c o : Int) : Int × Int × List Ses :=
  if may c 1 = false ∨ may o 1 = false then (0, 1, T)
  else if 0 ≤ whose c T then (0, 7, T)
  else if 3 ≤ T.length then ((best T T.length).client, 0, T.eraseIdx (whose (best T T.length).client T).toNat ++ [newSes c o])
  else (0, 0, T ++ [newSes c o])
def sLook (T : List Ses) (c : Int) : Ses × Bool := if whose c T < 0 then (zSes, false) else (nth T (whose c T).toNat, true)
def sVerdict (T : List Ses) (c s r : Int) : Int :=
  if (sLook T c).2 = false ∨ (sLook T c).1.session ≠ s then 5
  else if r = (sLook T c).1.request then 2
  else if r < (sLook T c).1.request then 3
  else if r - 1 = (sLook T c).1.request then 1 else 4
def sNote (T : List Ses) (c r o : Int) (t : List UInt8) : Int × List Ses :=
  if whose c T < 0 then (8, T)
  else if may r 0 = false ∨ may o 0 = false then (1, T)
  else if (200 : Int) < t.length then (5, T)
  else (0, T.set (whose c T).toNat { nth T (whose c T).toNat with request := r, op := o, reply := t })
theorem best_mem (T : List Ses) (h : 0 < T.length) : ∀ j, j ≤ T.length → best T j ∈ T
  | 0, _ => nth_mem h
  | j + 1, hj => by
    have := best_mem T h j (by omega)
    simp only [best]
    split
    · exact nth_mem (by omega)
    · exact this
structure SOk (T : List Ses) : Prop where
  len : T.length ≤ 3
  req : ∀ s ∈ T, 0 ≤ s.request ∧ s.request ≤ 72057594037927935
end Go.Cmp
