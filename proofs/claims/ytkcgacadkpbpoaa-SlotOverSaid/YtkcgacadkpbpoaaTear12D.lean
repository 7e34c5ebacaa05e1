/-
  A disk of two sectors: what is laid first.
-/
import Derived.Test.YtkcgacadkpbpoaaTear12Sp
import Derived.Test.YtkcgacadkpbpoaaDisk7
import Derived.Test.YtkcgacadkpbpoaaDisk3
import Derived.Test.YtkcgacadkpbpoaaDisk5
set_option linter.unusedSimpArgs false
set_option linter.unusedVariables false
set_option linter.unusedSectionVars false
set_option maxRecDepth 100000
namespace Go.Proofs.Ytkcgacadkpbpoaa
open Go.RowKit Go.Cmp
theorem new_at : (newDsk 2).At (zeros 384) (zeros 384) [] ∧ (newDsk 2).fuse = 0 ∧ (newDsk 2).steps = 0 := ⟨⟨newDsk_ok 2 (by omega), rfl, rfl, rfl, by show (0 : Int) ≤ 100; omega⟩, rfl, rfl⟩
/-- Two sectors are written, and last; then there is a fuse. -/
structure Laid (P H : List UInt8) (n : Int) (D0 D1 D2 D3 D4 : Dsk) : Prop where
  ok0 : D0.Ok
  ok1 : D1.Ok
  ok2 : D2.Ok
  ok3 : D3.Ok
  w0 : D0.write 0 P = (0, D1)
  w1 : D1.write 1 H = (0, D2)
  fl : D2.flush = (0, D3)
  fu : D3.setFuse n = (0, D4)
  at4 : D4.At P H []
  steps : D4.steps ≤ 3
theorem laid_any {P H : List UInt8} (hp : P.length = 384) (hh : H.length = 384) (n : Int) (hn : n ≤ 9223372036854775807) : ∃ D1 D2 D3 D4, Laid P H n (newDsk 2) D1 D2 D3 D4 := by
  obtain ⟨a0, f0, s0⟩ := new_at
  rcases Dsk.write_at (n := 0) a0 (by omega) (by omega) (by simp) (i := 0) (.inl rfl) hp with ⟨e1, a1, s1, f1⟩ | ⟨h, _⟩
  case inr => exact absurd f0 h
  rcases Dsk.write_at (n := 1) a1 (by omega) (by omega) (by simp) (i := 1) (.inr rfl) hh with ⟨e2, a2, s2, f2⟩ | ⟨h, _⟩
  case inr => exact absurd (f1 f0) h
  rcases Dsk.flush_at (n := 2) a2 (by omega) (by omega) (c := P) (d := H) (fun E h => Dsk.puts2 E h) with ⟨e3, a3, s3, f3⟩ | ⟨h, _⟩
  case inr => exact absurd (f2 (f1 f0)) h
  obtain ⟨e4, a4, s4⟩ := Dsk.fuse_at (m := 3) a3 (by omega) n hn
  exact ⟨_, _, _, _, a0.ok, a1.ok, a2.ok, a3.ok, Prod.ext e1 rfl, Prod.ext e2 rfl, Prod.ext e3 rfl, Prod.ext e4 rfl, a4, s4⟩
/-- A write ahead of which the power may go. -/
theorem wr_any {D : Dsk} {a b : List UInt8} {n : Int} (h : D.At a b []) (hn : D.steps ≤ n) (hn2 : n < 100) {i : Int} (hi : i = 0 ∨ i = 1) {x : List UInt8} (hx : x.length = 384) :
    ∃ D', (D.write i x = (0, D') ∧ D'.At a b [⟨i, x⟩] ∧ D'.steps ≤ n + 1) ∨ (D.write i x = (6, D') ∧ D'.Off a b []) := by
  rcases Dsk.write_at h hn hn2 (by simp) hi hx with ⟨e, h1, h2, _⟩ | ⟨_, e, h1⟩
  · exact ⟨_, .inl ⟨Prod.ext e rfl, h1, h2⟩⟩
  · exact ⟨_, .inr ⟨Prod.ext e rfl, h1⟩⟩
theorem fl_any {D : Dsk} {a b c d : List UInt8} {way : List Wr} {n : Int} (h : D.At a b way) (hn : D.steps ≤ n) (hn2 : n < 100) (hl : ∀ E : Dsk, E.lasts = [a, b] → (E.puts way).lasts = [c, d]) :
    ∃ D', (D.flush = (0, D') ∧ D'.At c d [] ∧ D'.steps ≤ n + 1) ∨ (D.flush = (6, D') ∧ D'.Off a b way) := by
  rcases Dsk.flush_at h hn hn2 hl with ⟨e, h1, h2, _⟩ | ⟨_, e, h1⟩
  · exact ⟨_, .inl ⟨Prod.ext e rfl, h1, h2⟩⟩
  · exact ⟨_, .inr ⟨Prod.ext e rfl, h1⟩⟩
section
variable {S : List Nat} {w0 w : World} {M : List Ent} {gd : Nat} {D D' : Dsk} {i c n : Int} {x : List UInt8}
theorem dw_of (e : D.write i x = (c, D')) (hD : D.Ok) (hS : St S w0 w (disk gd D :: M)) : Calls Try.prog 29 #[.pointer (some ⟨gd, 0, none⟩), .int .i64 i, .string ⟨x.toArray⟩] w fun e w' => e = .returned (.int .i64 c) ∧ St S w0 w' (disk gd D' :: M) := by
  have h := disk_write hS hD i x
  rw [e] at h
  exact h
theorem df_of (e : D.flush = (c, D')) (hD : D.Ok) (hS : St S w0 w (disk gd D :: M)) : Calls Try.prog 30 #[.pointer (some ⟨gd, 0, none⟩)] w fun e w' => e = .returned (.int .i64 c) ∧ St S w0 w' (disk gd D' :: M) := by
  have h := disk_flush hS hD
  rw [e] at h
  exact h
theorem du_of (e : D.setFuse n = (c, D')) (h1 : -9223372036854775808 ≤ n) (h2 : n ≤ 9223372036854775807) (hS : St S w0 w (disk gd D :: M)) : Calls Try.prog 31 #[.pointer (some ⟨gd, 0, none⟩), .int .i64 n] w fun e w' => e = .returned (.int .i64 c) ∧ St S w0 w' (disk gd D' :: M) := by
  have h := disk_fuse hS n h1 h2
  rw [e] at h
  exact h
theorem dr_of (e : D.read i = (x, c)) (hD : D.Ok) (hS : St S w0 w (disk gd D :: M)) : Calls Try.prog 34 #[.pointer (some ⟨gd, 0, none⟩), .int .i64 i] w fun e w' => e = .returned (.tuple #[.string ⟨x.toArray⟩, .int .i64 c]) ∧ St S w0 w' (disk gd D :: M) := by
  have h := disk_read hS hD i
  rw [e] at h
  exact h
end
end Go.Proofs.Ytkcgacadkpbpoaa
