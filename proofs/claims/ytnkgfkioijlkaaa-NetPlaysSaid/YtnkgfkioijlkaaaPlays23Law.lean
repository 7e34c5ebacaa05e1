/-
  The statement on all calls of a net: the walk.
-/
import Derived.Test.YtnkgfkioijlkaaaNetAct
namespace Go.Proofs.Ytnkgfkioijlkaaa
open Go.RowKit Go.Cmp

section
variable {w0 w : World} {g g2 : Nat} {N : Nt}

/-- What a call says, and what is behind it. -/
def deed (N : Nt) (x : Act23) (k : Int) : Int × Int × Pk × Nt :=
  if x.kind = 1 then ((N.send x.fr x.to x.data).1, (N.send x.fr x.to x.data).2.1, zPk, (N.send x.fr x.to x.data).2.2)
  else if x.kind = 2 then (0, (N.take k).2.1, (N.take k).1, (N.take k).2.2)
  else if x.kind = 3 then ((N.twice k).1, (N.twice k).2.1, zPk, (N.twice k).2.2)
  else if x.kind = 4 then (0, (N.spoil k x.pos x.mask).1, zPk, (N.spoil k x.pos x.mask).2)
  else (0, 0, zPk, N)
set_option maxRecDepth 100000 in
theorem deed_next {N : Nt} (h : N.Good) (x : Act23) (k : Int) : Nt.Next N (deed N x k).2.2.2 := by
  unfold deed
  split
  · exact Nt.send_next h _ _ _
  · split
    · exact Nt.take_next h _
    · split
      · exact Nt.twice_next h _
      · split
        · exact Nt.spoil_next h _ _ _
        · exact .refl h

/-- What the statement calls, of a net N and a call. -/
structure Calls23 (w : World) (g g2 : Nat) (N : Nt) (x : Act23) (k : Int) : Prop where
  who : ∀ (W : World) (M : List Ent), St [] w W (net g N :: M) → Calls Try.prog 9 #[.pointer (some ⟨g, 0, none⟩), .agg x.cells.toArray] W fun e w' => e = .returned (.int .i64 k) ∧ St [] w w' (net g N :: M)
  send : ∀ (W : World) (M : List Ent), St [] w W (net g N :: M) → Calls Try.prog 10 #[.pointer (some ⟨g, 0, none⟩), .agg #[.int .i64 x.fr, .int .i64 x.to, .string ⟨x.data.toArray⟩]] W fun e w' => e = .returned (.tuple #[.int .i64 (N.send x.fr x.to x.data).1, .int .i64 (N.send x.fr x.to x.data).2.1]) ∧ St [] w w' (net g (N.send x.fr x.to x.data).2.2 :: M)
  rsend : ∀ (W : World) (M : List Ent), St [] w W (rnet g2 N :: M) → Calls Try.prog 18 #[.pointer (some ⟨g2, 0, none⟩), .agg #[.int .i64 x.fr, .int .i64 x.to, .string ⟨x.data.toArray⟩]] W fun e w' => e = .returned (.tuple #[.int .i64 (N.send x.fr x.to x.data).1, .int .i64 (N.send x.fr x.to x.data).2.1]) ∧ St [] w w' (rnet g2 (N.send x.fr x.to x.data).2.2 :: M)
  take : ∀ (W : World) (M : List Ent), St [] w W (net g N :: M) → Calls Try.prog 11 #[.pointer (some ⟨g, 0, none⟩), .int .i64 k] W fun e w' => e = .returned (.tuple #[.agg (N.take k).1.letter.toArray, .int .i64 (N.take k).2.1]) ∧ St [] w w' (net g (N.take k).2.2 :: M)
  rtake : ∀ (W : World) (M : List Ent), St [] w W (rnet g2 N :: M) → Calls Try.prog 19 #[.pointer (some ⟨g2, 0, none⟩), .int .i64 k] W fun e w' => e = .returned (.tuple #[.agg (N.take k).1.letter.toArray, .int .i64 (N.take k).2.1]) ∧ St [] w w' (rnet g2 (N.take k).2.2 :: M)
  twice : ∀ (W : World) (M : List Ent), St [] w W (net g N :: M) → Calls Try.prog 13 #[.pointer (some ⟨g, 0, none⟩), .int .i64 k] W fun e w' => e = .returned (.tuple #[.int .i64 (N.twice k).1, .int .i64 (N.twice k).2.1]) ∧ St [] w w' (net g (N.twice k).2.2 :: M)
  rtwice : ∀ (W : World) (M : List Ent), St [] w W (rnet g2 N :: M) → Calls Try.prog 20 #[.pointer (some ⟨g2, 0, none⟩), .int .i64 k] W fun e w' => e = .returned (.tuple #[.int .i64 (N.twice k).1, .int .i64 (N.twice k).2.1]) ∧ St [] w w' (rnet g2 (N.twice k).2.2 :: M)
  spoil : ∀ (W : World) (M : List Ent), St [] w W (net g N :: M) → Calls Try.prog 14 #[.pointer (some ⟨g, 0, none⟩), .int .i64 k, .int .i64 x.pos, .int .i64 x.mask] W fun e w' => e = .returned (.int .i64 (N.spoil k x.pos x.mask).1) ∧ St [] w w' (net g (N.spoil k x.pos x.mask).2 :: M)
  rspoil : ∀ (W : World) (M : List Ent), St [] w W (rnet g2 N :: M) → Calls Try.prog 21 #[.pointer (some ⟨g2, 0, none⟩), .int .i64 k, .int .i64 x.pos, .int .i64 x.mask] W fun e w' => e = .returned (.int .i64 (N.spoil k x.pos x.mask).1) ∧ St [] w w' (rnet g2 (N.spoil k x.pos x.mask).2 :: M)
  place : ∀ (W : World) (M : List Ent), St [] w W (net g N :: M) → Calls Try.prog 16 #[.pointer (some ⟨g, 0, none⟩), .int .i64 x.k] W fun e w' => e = .returned (.int .i64 (N.place x.k)) ∧ w' = W
  rplace : ∀ (W : World) (M : List Ent), St [] w W (rnet g2 N :: M) → Calls Try.prog 17 #[.pointer (some ⟨g2, 0, none⟩), .int .i64 x.k] W fun e w' => e = .returned (.int .i64 (N.place x.k)) ∧ w' = W
theorem calls23 {N : Nt} (h : N.Good) {x : Act23} (hx : x.Ok) : Calls23 w g g2 N x (who N x) := by
  obtain ⟨r1, r2⟩ := who_range h hx
  exact ⟨fun _ _ hS => law_id hS h.ok x, fun _ _ hS => net_send hS h.ok _ _ _, fun _ _ hS => rnet_send hS h.ok _ _ _, fun _ _ hS => net_take hS h _ r1 r2, fun _ _ hS => rnet_take hS h.ok.len _, fun _ _ hS => net_twice hS h _ r1 r2, fun _ _ hS => rnet_twice hS h.ok _,
    fun _ _ hS => net_spoil hS h _ _ _ r1 r2, fun _ _ hS => rnet_spoil hS h _ _ _, fun _ _ hS => net_place hS h.ok _, fun _ _ hS => rnet_place hS h.ok _⟩
structure Looks23 (w : World) (g g2 : Nat) (N : Nt) (k : Int) (l : Pk) (b : Bool) : Prop where
  look : ∀ (W : World) (M : List Ent), St [] w W (net g N :: M) → Calls Try.prog 22 #[.pointer (some ⟨g, 0, none⟩), .int .i64 k] W fun e w' => e = .returned (.tuple #[.agg #[.int .i64 l.fr, .int .i64 l.to, .string ⟨l.data.toArray⟩], .bool b]) ∧ St [] w w' (net g N :: M)
  rlook : ∀ (W : World) (M : List Ent), St [] w W (rnet g2 N :: M) → Calls Try.prog 23 #[.pointer (some ⟨g2, 0, none⟩), .int .i64 k] W fun e w' => e = .returned (.tuple #[.agg #[.int .i64 l.fr, .int .i64 l.to, .string ⟨l.data.toArray⟩], .bool b]) ∧ St [] w w' (rnet g2 N :: M)
  len : ∀ (W : World) (M : List Ent), St [] w W (net g N :: M) → Calls Try.prog 15 #[.pointer (some ⟨g, 0, none⟩)] W fun e w' => e = .returned (.int .i64 (N.all.length : Int)) ∧ w' = W
theorem looks23 {N : Nt} (h : N.Good) (k : Int) (r1 : -9223372036854775808 ≤ k) (r2 : k ≤ 9223372036854775807) : Looks23 w g g2 N k (N.look k).1 (N.look k).2 :=
  ⟨fun _ _ hS => net_look hS h k r1 r2, fun _ _ hS => rnet_look hS h.ok.len k, fun _ _ hS => net_len hS⟩

end
end Go.Proofs.Ytnkgfkioijlkaaa
