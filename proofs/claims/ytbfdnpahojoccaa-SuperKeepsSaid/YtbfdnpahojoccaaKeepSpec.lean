/-
  Old or new, wherever the power goes: in plain lists.
-/
import Derived.Test.YtbfdnpahojoccaaSup8
set_option linter.unusedSimpArgs false
set_option linter.unusedVariables false
set_option linter.unusedSectionVars false
set_option maxRecDepth 100000
namespace Go.Cmp
open Go.RowKit
/-- Ahead of the writing: so many copies rotted. -/
structure KeepA (s t : Sup) (rots : Nat) (D : Dsk) : Prop where
  inv : D.Inv s t
  on : D.off = false
  way : D.way = []
  marks : D.marks ≤ rots
  steps : D.steps ≤ 8
  rots : rots ≤ 2
/-- Behind the writing, whose answer was e. -/
structure KeepB (s t : Sup) (e : Int) (rots : Nat) (D : Dsk) : Prop where
  inv : D.Inv s t
  on : D.off = false
  way : D.way = []
  marks : D.marks ≤ rots + 1
  steps : D.steps ≤ 16
  rots : rots ≤ 2
  done : e = 0 → ∀ j, j < 4 → nth D.mark j = false → hasU (nth D.lasts j) = (t, true)
theorem keepA_start (s t : Sup) : KeepA s t 0 (Dsk.full s) := ⟨(Dsk.full_inv s t).1, rfl, rfl, by rw [(Dsk.full_inv s t).2]; exact Nat.le_refl 0, by show (8 : Int) ≤ 8; omega, by omega⟩
def rotI (x : Int) : Int := bits .and .i64 x 3
def rotA (x : Int) : Int := bits .and .i64 (x / 4) 255
def rotM (x : Int) : Int := wrap64 (1 + bits .and .i64 (x / 1024) 127)
theorem rotI_in (x : Int) : 0 ≤ rotI x ∧ rotI x < 4 := by
  have h : 0 ≤ rotI x ∧ rotI x ≤ 3 := and_smallS x 3 (by omega)
  omega
theorem rotA_in (x : Int) : 0 ≤ rotA x ∧ rotA x < 384 := by
  have h : 0 ≤ rotA x ∧ rotA x ≤ 255 := and_smallS (x / 4) 255 (by omega)
  omega
theorem rotM_in (x : Int) : 1 ≤ rotM x ∧ rotM x ≤ 255 := by
  have h : 1 ≤ rotM x ∧ rotM x ≤ 128 := mask_small (x / 1024)
  omega
def rotX (D : Dsk) (x : Int) : Int × Dsk := D.rot (rotI x) (rotA x) (rotM x)
theorem keepA_step {s t : Sup} {rots : Nat} {D : Dsk} (h : KeepA s t rots D) (hr : rots < 2) (x : Int) : KeepA s t (if (rotX D x).1 = 0 then rots + 1 else rots) (rotX D x).2 := by
  obtain ⟨a1, a2⟩ := rotI_in x
  obtain ⟨b1, b2⟩ := rotA_in x
  obtain ⟨c1, c2⟩ := rotM_in x
  obtain ⟨k1, k2, k3, k4, k5, k6⟩ := Dsk.rot_inv h.inv h.way a1 a2 b1 b2 c1 c2
  have hm := h.marks
  have hs := h.steps
  unfold rotX
  refine ⟨k1, k3.trans h.on, k2, ?_, by rw [k4]; exact hs, ?_⟩
  · rcases k6 with ⟨e, k⟩ | ⟨e, k⟩
    · rw [if_pos e]; omega
    · rw [if_neg (by rw [e]; decide)]; omega
  · split <;> omega
theorem rot_keeps {s t : Sup} {D : Dsk} (h : D.Inv s t) (i a m : Int) (hi : 0 ≤ i) (j : Nat) (hj : nth (D.rot i a m).2.mark j = false) : nth (D.rot i a m).2.lasts j = nth D.lasts j ∧ nth D.mark j = false := by
  have hl := h.ok.len
  unfold Dsk.rot at hj ⊢
  split at hj
  · rename_i h1; rw [if_pos h1]; exact ⟨rfl, hj⟩
  · rename_i h1
    rw [if_neg h1]
    split at hj
    · rename_i h2; rw [if_pos h2]; exact ⟨rfl, hj⟩
    · rename_i h2
      rw [if_neg h2]
      split at hj
      · rename_i h3; rw [if_pos h3]; exact ⟨rfl, hj⟩
      · rename_i h3
        rw [if_neg h3]
        simp only at hj ⊢
        rw [Dsk.nth_set_n] at hj ⊢
        have his : D.is i = true := by
          cases hd : D.is i
          · exact absurd (.inl hd) h1
          · rfl
        have hb := Dsk.is_lt his
        have ne : ¬ (i.toNat = j ∧ i.toNat < D.mark.length) := by
          intro e
          rw [if_pos e] at hj
          simp at hj
        rw [if_neg ne] at hj
        rw [if_neg (fun e => ne ⟨e.1, by omega⟩)]
        exact ⟨rfl, hj⟩
theorem keepB_step {s t : Sup} {e : Int} {rots : Nat} {D : Dsk} (h : KeepB s t e rots D) (hr : rots < 2) (x : Int) : KeepB s t e (if (rotX D x).1 = 0 then rots + 1 else rots) (rotX D x).2 := by
  obtain ⟨a1, a2⟩ := rotI_in x
  obtain ⟨b1, b2⟩ := rotA_in x
  obtain ⟨c1, c2⟩ := rotM_in x
  obtain ⟨k1, k2, k3, k4, k5, k6⟩ := Dsk.rot_inv h.inv h.way a1 a2 b1 b2 c1 c2
  have hm := h.marks
  have hs := h.steps
  have hk := fun j => rot_keeps h.inv (rotI x) (rotA x) (rotM x) a1 j
  unfold rotX
  refine ⟨k1, k3.trans h.on, k2, ?_, by rw [k4]; exact hs, ?_, fun he j hj hmj => ?_⟩
  · rcases k6 with ⟨e, k⟩ | ⟨e, k⟩
    · rw [if_pos e]; omega
    · rw [if_neg (by rw [e]; decide)]; omega
  · split <;> omega
  · obtain ⟨q1, q2⟩ := hk j hmj
    rw [q1]
    exact h.done he j hj q2
theorem fuse_inv {s t : Sup} {D : Dsk} (h : D.Inv s t) (ho : D.off = false) (n : Int) (hn : n ≤ 9223372036854775807) : D.setFuse n = (0, { D with fuse := max 0 n }) ∧ ({ D with fuse := max 0 n } : Dsk).Inv s t := by
  have e : D.setFuse n = (0, { D with fuse := max 0 n }) := by unfold Dsk.setFuse; rw [if_neg (by simp [ho])]
  have hk := (Dsk.fuse_next h.ok n hn).ok
  rw [e] at hk
  exact ⟨e, ⟨hk, h.len, h.sec⟩⟩
/-- What the writing leaves: power and all, or off with one copy under way. -/
theorem keep_write {s t : Sup} (hs : s.right = true) (hsu : s.U64) (ht : t.right = true) (htu : t.U64) {rots : Nat} {D : Dsk} (h : KeepA s t rots D) (n : Int) (hn : n ≤ 9223372036854775807) :
    ∃ (D1 : Dsk) (e : Int) (D2 : Dsk), D.setFuse n = (0, D1) ∧ D1.Ok ∧ D1.way = [] ∧ D1.steps ≤ 8 ∧ 4 ≤ D1.lasts.length ∧ writeU t D1 = (e, D2) ∧ D2.Ok ∧
      ((D2.off = false ∧ KeepB s t e rots D2) ∨ (D2.off = true ∧ ∀ picks, ∃ D3, D2.start picks = (0, D3) ∧ KeepB s t e rots D3)) := by
  obtain ⟨f1, f2⟩ := fuse_inv h.inv h.on n hn
  have hst := h.steps
  have hmk := h.marks
  obtain ⟨r1, r2, r3, r4⟩ := Dsk.writes_inv hs hsu ht htu 4 0 { D with fuse := max 0 n } rfl f2 h.on h.way (by show D.steps + 2 * ((4 : Nat) : Int) ≤ 1000; omega) (fun j hj => absurd hj (by omega))
  have hwr : writeU t { D with fuse := max 0 n } = writesU t 4 0 { D with fuse := max 0 n } := by unfold writeU; rw [if_neg (by simp [ht])]
  refine ⟨_, _, _, f1, f2.ok, h.way, hst, by show 4 ≤ D.lasts.length; have := h.inv.len; omega, Prod.ext (by rw [hwr]) (by rw [hwr]), r2.ok, ?_⟩
  have r3' : (writesU t 4 0 { D with fuse := max 0 n }).2.marks ≤ D.marks := r3
  have r4' : (writesU t 4 0 { D with fuse := max 0 n }).2.steps ≤ D.steps + 2 * ((4 : Nat) : Int) := r4
  rcases r1 with ⟨q1, q2, q3, q4⟩ | ⟨q1, q2, q3, q4⟩
  · exact .inl ⟨q2, ⟨r2, q2, q3, by omega, by omega, h.rots, fun _ j hj _ => q4 j hj⟩⟩
  · refine .inr ⟨q3, fun picks => ?_⟩
    obtain ⟨p1, p2, p3, p4, p5, p6⟩ := Dsk.start_inv r2 q3 picks q4
    exact ⟨((writesU t 4 0 { D with fuse := max 0 n }).2.start picks).2, Prod.ext p1 rfl, ⟨p2, p4, p3, by omega, by omega, h.rots, fun e => absurd e q1⟩⟩
/-- What is read then, and read again when it was written anew. -/
theorem keep_end {s t : Sup} (hs : s.right = true) (hsu : s.U64) (ht : t.right = true) (htu : t.U64) (hst : s.seq < t.seq) {e : Int} {rots : Nat} {D : Dsk} (h : KeepB s t e rots D) :
    ∃ (u : Sup) (n : Nat) (D1 D2 : Dsk), readU D = (u, n, 0) ∧ ((u = s ∧ e ≠ 0) ∨ u = t) ∧ u.U64 ∧ D.setFuse 0 = (0, D1) ∧ D1.Ok ∧ D1.way = [] ∧ D1.steps ≤ 16 ∧ 4 ≤ D1.lasts.length ∧ writeU u D1 = (0, D2) ∧ D2.Ok ∧ 4 ≤ D2.lasts.length ∧ readU D2 = (u, 4, 0) := by
  have hm := h.marks
  have hr := h.rots
  have hsp := h.steps
  obtain ⟨a1, a2, a3⟩ := Dsk.inv_read hs hsu ht htu hst h.inv h.on h.way (by omega)
  obtain ⟨f1, f2⟩ := fuse_inv h.inv h.on 0 (by omega)
  have hne : s ≠ t := fun e => by rw [e] at hst; omega
  have key : ∀ u : Sup, u.right = true → u.U64 → (u = s ∨ u = t) → ∃ D2, writeU u { D with fuse := max 0 0 } = (0, D2) ∧ D2.Ok ∧ 4 ≤ D2.lasts.length ∧ readU D2 = (u, 4, 0) := by
    intro u hu huu hus
    have hwr : writeU u { D with fuse := max 0 0 } = writesU u 4 0 { D with fuse := max 0 0 } := by unfold writeU; rw [if_neg (by simp [hu])]
    rw [hwr]
    have hx : ∃ v : Sup, v.right = true ∧ v.U64 ∧ ({ D with fuse := max 0 0 } : Dsk).Inv v u := by
      rcases hus with rfl | rfl
      · exact ⟨t, ht, htu, f2.swap⟩
      · exact ⟨s, hs, hsu, f2⟩
    obtain ⟨v, hv, hvu, hi⟩ := hx
    obtain ⟨r1, r2, r3, r4⟩ := Dsk.writes_inv hv hvu hu huu 4 0 { D with fuse := max 0 0 } rfl hi h.on h.way (by show D.steps + 2 * ((4 : Nat) : Int) ≤ 1000; omega) (fun j hj => absurd hj (by omega))
    rcases r1 with ⟨q1, q2, q3, q4⟩ | ⟨_, q2, _⟩
    · exact ⟨(writesU u 4 0 { D with fuse := max 0 0 }).2, Prod.ext q1 rfl, r2.ok, by have := r2.len; omega, Dsk.read_full hu (by have := r2.len; omega) q2 q3 q4⟩
    · exact absurd rfl q2
  obtain ⟨U, hU⟩ : ∃ U, readU D = U := ⟨_, rfl⟩
  rw [hU] at a1 a2 a3 ⊢
  obtain ⟨u, n, er⟩ := U
  simp only at a1 a2 a3
  subst a1
  have hur : u.right = true ∧ u.U64 := by rcases a2 with rfl | rfl; exact ⟨hs, hsu⟩; exact ⟨ht, htu⟩
  obtain ⟨D2, k1, k2, k3, k4⟩ := key u hur.1 hur.2 a2
  refine ⟨u, n, _, D2, rfl, ?_, hur.2, f1, f2.ok, h.way, hsp, by show 4 ≤ D.lasts.length; have := h.inv.len; omega, k1, k2, k3, k4⟩
  rcases a2 with rfl | rfl
  · by_cases he : e = 0
    · exact absurd (a3 (h.done he)) hne
    · exact .inl ⟨rfl, he⟩
  · exact .inr rfl
end Go.Cmp
