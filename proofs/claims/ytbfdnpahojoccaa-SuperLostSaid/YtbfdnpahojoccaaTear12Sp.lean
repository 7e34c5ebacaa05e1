/-
  A disk of two sectors, in plain lists: writes that are cut off.
-/
import Derived.Test.YtbfdnpahojoccaaRot12Sp2
import Derived.Test.YtbfdnpahojoccaaDiskOk
set_option linter.unusedSimpArgs false
set_option linter.unusedVariables false
set_option linter.unusedSectionVars false
set_option maxRecDepth 100000
namespace Go.Cmp
open Go.RowKit
def mixS (a b : List UInt8) (c : Nat) : List UInt8 := a.take c ++ b.drop c
theorem mixS_or {x p : List UInt8} (hx : x.length = 384) (hp : p.length = 384) (h : nth x 0 ≠ nth p 383) (k : Nat) (hk : k ≤ 384) : mixS x p k = x ∨ mixS x p k = p ∨ openS (mixS x p k) = ([], false) := by
  by_cases h0 : k = 0
  · subst h0; exact .inr (.inl (by simp [mixS]))
  by_cases h1 : k = 384
  · subst h1; exact .inl (by unfold mixS; rw [List.take_of_length_le (by omega), List.drop_eq_nil_of_le (by omega), List.append_nil])
  refine .inr (.inr (open_bad fun ho => ?_))
  obtain ⟨_, h2, _⟩ := open_facts ho
  have e0 : nth (mixS x p k) 0 = nth x 0 := by
    apply nth_eq
    unfold mixS
    rw [List.getElem?_append_left (by rw [List.length_take]; omega), List.getElem?_take_of_lt (by omega), get_lt (by omega)]
  have e1 : nth (mixS x p k) 383 = nth p 383 := by
    apply nth_eq
    unfold mixS
    rw [List.getElem?_append_right (by rw [List.length_take]; omega), List.length_take, List.getElem?_drop, show k + (383 - min k x.length) = 383 by omega, get_lt (by omega)]
  rw [e0, e1] at h2
  exact h h2
theorem nth_sealed0 (g : UInt8) (s : List UInt8) : nth (sealed g s) 0 = g := by unfold sealed aheadB; rfl
theorem nth_sealed383 {g : UInt8} {s : List UInt8} (h : s.length ≤ 376) : nth (sealed g s) 383 = g := by
  have ho : (openS (sealed g s)).2 = true := by rw [openS_sealed h]
  rw [← (open_facts ho).2.1, nth_sealed0]
theorem nextG_sealed {g : UInt8} {s : List UInt8} (h : s.length ≤ 376) : nextG (sealed g s) ≠ g := by
  have hl := sealed_len (g := g) h
  unfold nextG
  rw [if_neg (fun e => by rw [e] at hl; simp at hl), hl, nth_sealed383 h]
  intro e
  have e2 := congrArg UInt8.toNat e
  rw [UInt8.toNat_ofNat'] at e2
  have := g.toNat_lt
  omega
namespace Dsk
/-- A disk of two sectors, on. -/
structure At (D : Dsk) (a b : List UInt8) (way : List Wr) : Prop where
  ok : D.Ok
  on : D.off = false
  lasts : D.lasts = [a, b]
  way : D.way = way
  steps : D.steps ≤ 100
/-- Off. -/
structure Off (D : Dsk) (a b : List UInt8) (way : List Wr) : Prop where
  ok : D.Ok
  off : D.off = true
  lasts : D.lasts = [a, b]
  way : D.way = way
  steps : D.steps ≤ 100
theorem At.len {D : Dsk} {a b : List UInt8} {way : List Wr} (h : D.At a b way) : a.length = 384 ∧ b.length = 384 :=
  ⟨h.ok.size a (by rw [h.lasts]; simp), h.ok.size b (by rw [h.lasts]; simp)⟩
theorem puts_lens : ∀ {l : List Wr} {D : Dsk}, (D.puts l).lasts.length = D.lasts.length ∧ (D.puts l).off = D.off ∧ (D.puts l).fuse = D.fuse ∧ (D.puts l).steps = D.steps
  | [], _ => ⟨rfl, rfl, rfl, rfl⟩
  | x :: l, D => by
    obtain ⟨h1, h2, h3, h4⟩ := puts_lens (l := l) (D := D.put x)
    exact ⟨by rw [show D.puts (x :: l) = (D.put x).puts l from rfl, h1]; simp [put], h2, h3, h4⟩
theorem write_at {D : Dsk} {a b : List UInt8} {way : List Wr} {n : Int} (h : D.At a b way) (hn : D.steps ≤ n) (hn2 : n < 100) (hw : way.length < 10) {i : Int} (hi : i = 0 ∨ i = 1) {x : List UInt8} (hx : x.length = 384) :
    ((D.write i x).1 = 0 ∧ (D.write i x).2.At a b (way ++ [⟨i, x⟩]) ∧ (D.write i x).2.steps ≤ n + 1 ∧ (D.fuse = 0 → (D.write i x).2.fuse = 0)) ∨ (D.fuse ≠ 0 ∧ (D.write i x).1 = 6 ∧ (D.write i x).2.Off a b way) := by
  have nx := write_next h.ok i x (by rw [h.way]; omega) (by omega)
  have hs := h.steps
  have his : D.is i = true := by
    unfold is
    rw [h.lasts]
    rcases hi with rfl | rfl <;> rfl
  have hc : ¬ (D.is i = false ∨ (x.length : Int) ≠ 384) := by rw [his]; simp [hx]
  have h1 := nx.ok
  have h2 := nx.steps
  unfold write at h1 h2 ⊢
  rw [if_neg hc, if_neg (by rw [h.on]; simp)] at h1 h2 ⊢
  unfold step at h1 h2 ⊢
  by_cases hf : D.fuse = 1
  · rw [if_pos hf] at h1 h2 ⊢
    simp only [if_true] at h1 h2 ⊢
    exact .inr ⟨by omega, by trivial, h1, rfl, h.lasts, h.way, by simp only; omega⟩
  · rw [if_neg hf] at h1 h2 ⊢
    simp only [Bool.true_eq_false, if_false] at h1 h2 ⊢
    exact .inl ⟨by trivial, ⟨h1, h.on, h.lasts, by simp only [h.way], by (try simp only); omega⟩, by (try simp only); omega, fun h0 => by (try simp only); omega⟩
theorem flush_at {D : Dsk} {a b : List UInt8} {way : List Wr} {n : Int} (h : D.At a b way) (hn : D.steps ≤ n) (hn2 : n < 100) {c d : List UInt8} (hl : ∀ E : Dsk, E.lasts = [a, b] → (E.puts way).lasts = [c, d]) :
    (D.flush.1 = 0 ∧ D.flush.2.At c d [] ∧ D.flush.2.steps ≤ n + 1 ∧ (D.fuse = 0 → D.flush.2.fuse = 0)) ∨ (D.fuse ≠ 0 ∧ D.flush.1 = 6 ∧ D.flush.2.Off a b way) := by
  have nx := flush_next h.ok (by omega)
  have hs := h.steps
  have h1 := nx.ok
  have h2 := nx.steps
  unfold flush at h1 h2 ⊢
  rw [if_neg (by rw [h.on]; simp)] at h1 h2 ⊢
  unfold step at h1 h2 ⊢
  by_cases hf : D.fuse = 1
  · rw [if_pos hf] at h1 h2 ⊢
    simp only [if_true] at h1 h2 ⊢
    exact .inr ⟨by omega, by trivial, h1, rfl, h.lasts, h.way, by simp only; omega⟩
  · rw [if_neg hf] at h1 h2 ⊢
    simp only [Bool.true_eq_false, if_false] at h1 h2 ⊢
    obtain ⟨q1, q2, q3, q4⟩ := puts_lens (l := D.way) (D := ({ D with steps := D.steps + 1, fuse := max 0 (D.fuse - 1) } : Dsk))
    have q6 := hl ({ D with steps := D.steps + 1, fuse := max 0 (D.fuse - 1) } : Dsk) h.lasts
    rw [← h.way] at q6
    exact .inl ⟨by trivial, ⟨h1, by simp only [q2]; exact h.on, q6, rfl, by simp only [q4]; omega⟩, by simp only [q4]; omega, fun h0 => by simp only [q3]; omega⟩
theorem puts0 {a b x : List UInt8} (E : Dsk) (h : E.lasts = [a, b]) : (E.puts [⟨0, x⟩]).lasts = [x, b] := by
  show E.lasts.set 0 x = _
  rw [h]; rfl
theorem puts1 {a b x : List UInt8} (E : Dsk) (h : E.lasts = [a, b]) : (E.puts [⟨1, x⟩]).lasts = [a, x] := by
  show E.lasts.set 1 x = _
  rw [h]; rfl
theorem puts2 {a b x y : List UInt8} (E : Dsk) (h : E.lasts = [a, b]) : (E.puts [⟨0, x⟩, ⟨1, y⟩]).lasts = [x, y] := by
  show (E.lasts.set 0 x).set 1 y = _
  rw [h]; rfl
theorem fuse_at {D : Dsk} {a b : List UInt8} {way : List Wr} {m : Int} (h : D.At a b way) (hm : D.steps ≤ m) (n : Int) (hn : n ≤ 9223372036854775807) : (D.setFuse n).1 = 0 ∧ (D.setFuse n).2.At a b way ∧ (D.setFuse n).2.steps ≤ m := by
  have nx := (fuse_next h.ok n hn).ok
  unfold setFuse at nx ⊢
  rw [if_neg (by rw [h.on]; simp)] at nx ⊢
  exact ⟨rfl, ⟨nx, h.on, h.lasts, h.way, h.steps⟩, hm⟩
theorem read_at {D : Dsk} {a b : List UInt8} (h : D.At a b []) : D.read 0 = (a, 0) ∧ D.read 1 = (b, 0) := by
  have hl : D.lasts.length = 2 := by rw [h.lasts]; rfl
  have h0 : D.is 0 = true := by unfold is; rw [hl]; rfl
  have h1 : D.is 1 = true := by unfold is; rw [hl]; rfl
  unfold read
  rw [h0, h1, h.on, h.way, h.lasts]
  exact ⟨rfl, rfl⟩
theorem start_at {D : Dsk} {a b : List UInt8} (h : D.Off a b []) (picks : List Int) : (D.start picks).1 = 0 ∧ (D.start picks).2.At a b [] := by
  have nx := start_next h.ok picks
  have h1 := nx.ok
  have h2 := h.steps
  unfold start at h1 ⊢
  rw [if_neg (by rw [h.off]; simp), h.way] at h1 ⊢
  exact ⟨rfl, h1, rfl, h.lasts, rfl, h2⟩
theorem settle_mix {D : Dsk} {x : Wr} (pick : Int) : (D.settle x pick).lasts = D.lasts.set x.sector.toNat (mixS x.text (nth D.lasts x.sector.toNat) (kept pick)) ∧ (D.settle x pick).steps = D.steps := by
  unfold settle
  split
  · rename_i h
    rw [h]
    refine ⟨?_, rfl⟩
    simp only [mixS, List.take_zero, List.drop_zero, List.nil_append]
    apply List.ext_getElem?
    intro j
    by_cases hj : x.sector.toNat = j
    · subst hj
      by_cases hl : x.sector.toNat < D.lasts.length
      · rw [List.getElem?_set_self hl]; exact get_lt hl
      · rw [List.getElem?_eq_none (by omega), List.getElem?_eq_none (by rw [List.length_set]; omega)]
    · rw [List.getElem?_set_ne hj]
  · exact ⟨rfl, rfl⟩
theorem start_at0 {D : Dsk} {a b x : List UInt8} (h : D.Off a b [⟨0, x⟩]) (picks : List Int) : (D.start picks).1 = 0 ∧ ∃ k, k ≤ 384 ∧ (D.start picks).2.At (mixS x a k) b [] := by
  have nx := start_next h.ok picks
  have h1 := nx.ok
  have h2 := h.steps
  obtain ⟨m1, m2⟩ := settle_mix (D := D) (x := ⟨0, x⟩) (pickAt picks 0)
  unfold start at h1 ⊢
  rw [if_neg (by rw [h.off]; simp), h.way] at h1 ⊢
  refine ⟨rfl, kept (pickAt picks 0), kept_le' _, h1, rfl, ?_, rfl, ?_⟩
  · show (D.settle ⟨0, x⟩ (pickAt picks 0)).lasts = _
    rw [m1, h.lasts]; rfl
  · show (D.settle ⟨0, x⟩ (pickAt picks 0)).steps ≤ _
    rw [m2]; exact h2
theorem start_at1 {D : Dsk} {a b x : List UInt8} (h : D.Off a b [⟨1, x⟩]) (picks : List Int) : (D.start picks).1 = 0 ∧ ∃ k, k ≤ 384 ∧ (D.start picks).2.At a (mixS x b k) [] := by
  have nx := start_next h.ok picks
  have h1 := nx.ok
  have h2 := h.steps
  obtain ⟨m1, m2⟩ := settle_mix (D := D) (x := ⟨1, x⟩) (pickAt picks 0)
  unfold start at h1 ⊢
  rw [if_neg (by rw [h.off]; simp), h.way] at h1 ⊢
  refine ⟨rfl, kept (pickAt picks 0), kept_le' _, h1, rfl, ?_, rfl, ?_⟩
  · show (D.settle ⟨1, x⟩ (pickAt picks 0)).lasts = _
    rw [m1, h.lasts]; rfl
  · show (D.settle ⟨1, x⟩ (pickAt picks 0)).steps ≤ _
    rw [m2]; exact h2
/-- What is read once the power is back. -/
structure Fin (D : Dsk) (R : List UInt8 → List UInt8 → Prop) : Prop where
  ok : D.Ok
  on : D.off = false → ∃ a b, D.At a b [] ∧ R a b
  off : ∀ picks, D.off = true → (D.start picks).1 = 0 ∧ ∃ a b, (D.start picks).2.At a b [] ∧ R a b
theorem At.fin {D : Dsk} {a b : List UInt8} {R : List UInt8 → List UInt8 → Prop} (h : D.At a b []) (r : R a b) : D.Fin R :=
  ⟨h.ok, fun _ => ⟨a, b, h, r⟩, fun _ ho => by rw [h.on] at ho; simp at ho⟩
theorem Off.fin {D : Dsk} {a b : List UInt8} {R : List UInt8 → List UInt8 → Prop} (h : D.Off a b []) (r : R a b) : D.Fin R :=
  ⟨h.ok, fun ho => by rw [h.off] at ho; simp at ho, fun picks _ => ⟨(start_at h picks).1, a, b, (start_at h picks).2, r⟩⟩
theorem Off.fin0 {D : Dsk} {a b x : List UInt8} {R : List UInt8 → List UInt8 → Prop} (h : D.Off a b [⟨0, x⟩]) (r : ∀ k, k ≤ 384 → R (mixS x a k) b) : D.Fin R :=
  ⟨h.ok, fun ho => by rw [h.off] at ho; simp at ho, fun picks _ => by
    obtain ⟨h1, k, hk, h2⟩ := start_at0 h picks
    exact ⟨h1, _, _, h2, r k hk⟩⟩
theorem Off.fin1 {D : Dsk} {a b x : List UInt8} {R : List UInt8 → List UInt8 → Prop} (h : D.Off a b [⟨1, x⟩]) (r : ∀ k, k ≤ 384 → R a (mixS x b k)) : D.Fin R :=
  ⟨h.ok, fun ho => by rw [h.off] at ho; simp at ho, fun picks _ => by
    obtain ⟨h1, k, hk, h2⟩ := start_at1 h picks
    exact ⟨h1, _, _, h2, r k hk⟩⟩
end Dsk
/-! ### Slots of which a write is cut off -/
theorem judge_eq {p p2 h h2 : List UInt8} (hp : entP p = entP p2) (hh : stbP h = stbP h2) (n : Int) : judgeS p h n = judgeS p2 h2 n := by unfold judgeS; rw [hp, hh]
/-- The prepare sector is read as one that holds no such entry. -/
theorem judge_void {p h : List UInt8} {n : Int} (hh : (stbP h).2.2 = true) (h2 : (stbP h).2.1 = false ∨ (stbP h).1.op ≠ n) : judgeS p h n = zeroI := by unfold judgeS; rw [if_pos hh, if_pos h2]
theorem judge_holds {p h : List UInt8} {e : En} (hr : e.right = true) (hp : entP p = (e, true, true)) (hh : stbP h = (stubE e, true, true) ∨ stbP h = (zeroB, false, false)) : judgeS p h e.op = ⟨1, stubE e, e⟩ := by
  unfold judgeS
  rw [hp]
  rcases hh with hh | hh
  · rw [hh, if_pos rfl]
    simp only
    rw [if_neg (by simp [stubE_op hr]), if_pos (by simp)]
  · rw [hh, if_neg (by simp)]
    simp only
    rw [if_neg (by simp), if_pos (by simp)]
/-- A sealed sector. -/
def Sld (p : List UInt8) : Prop := ∃ g s, s.length ≤ 376 ∧ p = sealed g s
theorem Sld.len {p : List UInt8} (h : Sld p) : p.length = 384 := by
  obtain ⟨g, s, h1, rfl⟩ := h
  exact sealed_len h1
theorem sld_seal {g : UInt8} {s : List UInt8} (h : s.length ≤ 376) : Sld (sealed g s) := ⟨g, s, h, rfl⟩
theorem Sld.mix {p : List UInt8} (h : Sld p) {s : List UInt8} (hs : s.length ≤ 376) (k : Nat) (hk : k ≤ 384) : mixS (sealed (nextG p) s) p k = sealed (nextG p) s ∨ mixS (sealed (nextG p) s) p k = p ∨ openS (mixS (sealed (nextG p) s) p k) = ([], false) := by
  refine mixS_or (sealed_len hs) h.len ?_ k hk
  obtain ⟨g, t, ht, rfl⟩ := h
  rw [nth_sealed0, nth_sealed383 ht]
  exact nextG_sealed ht
theorem prep_sld {o : List UInt8} {e : En} (h : e.right = true) : Sld (prepS o e).1 := by
  rw [prepS_right h]
  have := packE_len e
  exact sld_seal (by omega)
theorem hdr_sld {o : List UInt8} {s : Stb} (h : s.right = true) : Sld (hdrS o s).1 := by
  rw [hdrS_right h]
  exact sld_seal (by rw [stubB_len]; omega)
theorem void_sld (o : List UInt8) : Sld (voidS o) := by
  rw [voidS_eq]
  exact sld_seal (by simp)
theorem hdr_mix {o : List UInt8} {s : Stb} (h : Sld o) (hs : s.right = true) (k : Nat) (hk : k ≤ 384) : mixS (hdrS o s).1 o k = (hdrS o s).1 ∨ mixS (hdrS o s).1 o k = o ∨ openS (mixS (hdrS o s).1 o k) = ([], false) := by
  rw [hdrS_right hs]
  exact h.mix (by rw [stubB_len]; omega) k hk
theorem void_mix {o : List UInt8} (h : Sld o) (k : Nat) (hk : k ≤ 384) : mixS (voidS o) o k = voidS o ∨ mixS (voidS o) o k = o ∨ openS (mixS (voidS o) o k) = ([], false) := by
  rw [voidS_eq]
  exact h.mix (by simp) k hk
theorem void_stb (o : List UInt8) : stbP (voidS o) = (zeroB, false, true) := by rw [voidS_eq]; exact stbP_void
theorem void_judge (o q : List UInt8) (n : Int) : judgeS q (voidS o) n = zeroI := judge_void (by rw [void_stb]) (.inl (by rw [void_stb]))
theorem other_judge {o q : List UInt8} {e : En} (hr : e.right = true) (hp : e.parent < 18446744073709551616) {n : Int} (hn : e.op ≠ n) : judgeS q (hdrS o (stubE e)).1 n = zeroI :=
  judge_void (by rw [hdr_stb hr hp]) (.inr (by rw [hdr_stb hr hp]; simp only; rw [stubE_op hr]; exact hn))
theorem full_judge {o o2 : List UInt8} {e : En} (hr : e.right = true) (hp : e.parent < 18446744073709551616) : judgeS (prepS o e).1 (hdrS o2 (stubE e)).1 e.op = ⟨1, stubE e, e⟩ :=
  judge_holds hr (prep_ent hr hp) (.inl (hdr_stb hr hp))
theorem lost_judge {o q : List UInt8} {e : En} (hr : e.right = true) (hp : e.parent < 18446744073709551616) (hq : openS q = ([], false)) : judgeS (prepS o e).1 q e.op = ⟨1, stubE e, e⟩ :=
  judge_holds hr (prep_ent hr hp) (.inr (stbP_bad hq))
/-- The header sector is written last. -/
theorem last_judge {o h : List UInt8} {e : En} (hr : e.right = true) (hp : e.parent < 18446744073709551616) (hh : Sld h) (hz : ∀ q, judgeS q h e.op = zeroI) (k : Nat) (hk : k ≤ 384) : judgeS (prepS o e).1 (mixS (hdrS h (stubE e)).1 h k) e.op = ⟨1, stubE e, e⟩ ∨ judgeS (prepS o e).1 (mixS (hdrS h (stubE e)).1 h k) e.op = zeroI := by
  rcases hdr_mix hh (stubE_right hr) k hk with h1 | h1 | h1
  · rw [h1]; exact .inl (full_judge hr hp)
  · rw [h1]; exact .inr (hz _)
  · exact .inl (lost_judge hr hp h1)
/-- The header sector is voided first. -/
theorem first_judge {o o2 : List UInt8} {e : En} (hr : e.right = true) (hp : e.parent < 18446744073709551616) (k : Nat) (hk : k ≤ 384) : judgeS (prepS o e).1 (mixS (voidS (hdrS o2 (stubE e)).1) (hdrS o2 (stubE e)).1 k) e.op = ⟨1, stubE e, e⟩ ∨ judgeS (prepS o e).1 (mixS (voidS (hdrS o2 (stubE e)).1) (hdrS o2 (stubE e)).1 k) e.op = zeroI := by
  rcases void_mix (hdr_sld (o := o2) (stubE_right hr)) k hk with h1 | h1 | h1
  · rw [h1]; exact .inr (void_judge _ _ _)
  · rw [h1]; exact .inl (full_judge hr hp)
  · exact .inl (lost_judge hr hp h1)
end Go.Cmp
