/-
  Sessions: no two of a client; who goes; in plain lists.
-/
import Derived.Test.YtnojcgaoepfcdaaSes7
namespace Go.Cmp
open Go.RowKit
structure SGood (T : List Ses) : Prop where
  ok : SOk T
  one : (T.map (·.client)).Nodup
  may : ∀ s ∈ T, 1 ≤ s.client
theorem uniq_eq : ∀ {T : List Ses}, (T.map (·.client)).Nodup → ∀ {s t : Ses}, s ∈ T → t ∈ T → s.client = t.client → s = t
  | [], _, _, _, h, _, _ => by cases h
  | x :: T, h, s, t, hs, ht, e => by
    rw [List.map_cons, List.nodup_cons] at h
    rcases List.mem_cons.1 hs with h1 | h1
    · rcases List.mem_cons.1 ht with h2 | h2
      · rw [h1, h2]
      · exact absurd (List.mem_map.2 ⟨t, h2, by rw [← e, h1]⟩) h.1
    · rcases List.mem_cons.1 ht with h2 | h2
      · exact absurd (List.mem_map.2 ⟨s, h1, by rw [e, h2]⟩) h.1
      · exact uniq_eq h.2 h1 h2 e
theorem look_uniq {T : List Ses} (h : (T.map (·.client)).Nodup) {s : Ses} (hs : s ∈ T) : sLook T s.client = (s, true) := by
  have hr := idx_range (p := fun x : Ses => decide (x.client = s.client)) T
  have hn : ¬ whose s.client T < 0 := fun h0 => by
    have := idx_neg (p := fun x : Ses => decide (x.client = s.client)) h0 s hs
    simp at this
  have hh := idx_hit (p := fun x : Ses => decide (x.client = s.client)) (l := T) (by unfold whose at hn; omega)
  have hlt : whose s.client T < T.length := hr.2
  unfold sLook
  rw [if_neg hn]
  have := uniq_eq h (nth_mem (L := T) (j := (whose s.client T).toNat) (by omega)) hs (by simpa [whose] using hh)
  rw [this]
theorem look_not {T : List Ses} {c : Int} (h : ∀ s ∈ T, s.client ≠ c) : sLook T c = (zSes, false) := by
  unfold sLook
  rw [if_pos]
  have : whose c T = -1 := idx_none (fun x hx => by simpa using h x hx)
  omega
theorem whose_not {T : List Ses} {c : Int} (h : ¬ 0 ≤ whose c T) : ∀ s ∈ T, s.client ≠ c := fun s hs => by
  have := idx_neg (p := fun x : Ses => decide (x.client = c)) (by unfold whose at h; omega) s hs
  simpa using this
theorem best_le (T : List Ses) : ∀ (j k : Nat), k < j → (best T j).op ≤ (nth T k).op
  | 0, k, h => by omega
  | j + 1, k, h => by
    have ih := best_le T j
    simp only [best]
    by_cases hk : k = j
    · subst hk; split <;> omega
    · have := ih k (by omega)
      split <;> omega
/-- Who opens. -/
theorem open_says {T : List Ses} (hT : SGood T) (c o : Int) :
    ((sOpen T c o).2.1 ≠ 0 ∧ (sOpen T c o).1 = 0 ∧ (sOpen T c o).2.2 = T) ∨
    ((sOpen T c o).2.1 = 0 ∧ 1 ≤ c ∧ (∀ s ∈ T, s.client ≠ c) ∧
      ((T.length < 3 ∧ (sOpen T c o).1 = 0 ∧ (sOpen T c o).2.2 = T ++ [newSes c o]) ∨
       (T.length = 3 ∧ ∃ p, p < 3 ∧ (sOpen T c o).1 = (nth T p).client ∧ (sOpen T c o).2.2 = T.eraseIdx p ++ [newSes c o] ∧ ∀ k, k < 3 → (nth T p).op ≤ (nth T k).op))) := by
  have hl := hT.ok.len
  unfold sOpen
  split
  · exact .inl ⟨by simp, rfl, rfl⟩
  · rename_i hm
    have hc : may c 1 = true := by cases h : may c 1; exact absurd (.inl h) hm; rfl
    have hc1 : 1 ≤ c := by simp [Cmp.may] at hc; omega
    split
    · exact .inl ⟨by simp, rfl, rfl⟩
    · rename_i hw
      refine .inr ?_
      have hnot := whose_not hw
      split
      · rename_i h3
        have h33 : T.length = 3 := by omega
        have hbm := best_mem T (by omega) T.length (Nat.le_refl _)
        have hb0 : 0 ≤ whose (best T T.length).client T := by
          by_cases hh : whose (best T T.length).client T < 0
          · have := idx_neg (p := fun s : Ses => decide (s.client = (best T T.length).client)) hh _ hbm
            simp at this
          · omega
        have hbr : whose (best T T.length).client T < T.length := (idx_range (p := fun s : Ses => decide (s.client = (best T T.length).client)) T).2
        have hh := idx_hit (p := fun x : Ses => decide (x.client = (best T T.length).client)) (l := T) (by unfold whose at hb0; exact hb0)
        have he := uniq_eq hT.one (nth_mem (L := T) (j := (whose (best T T.length).client T).toNat) (by omega)) hbm (by simpa [whose] using hh)
        refine ⟨rfl, hc1, hnot, .inr ⟨h33, (whose (best T T.length).client T).toNat, by omega, by rw [he], rfl, fun k hk => ?_⟩⟩
        rw [he]
        exact best_le T T.length k (by omega)
      · exact ⟨rfl, hc1, hnot, .inl ⟨by omega, rfl, rfl⟩⟩
theorem open_good {T : List Ses} (hT : SGood T) (c o : Int) : SGood (sOpen T c o).2.2 := by
  refine ⟨sOpen_ok hT.ok c o, ?_, ?_⟩
  · rcases open_says hT c o with ⟨_, _, e⟩ | ⟨_, h1, hn, ⟨_, _, e⟩ | ⟨_, p, _, _, e, _⟩⟩
    · rw [e]; exact hT.one
    · rw [e, List.map_append, List.nodup_append]
      refine ⟨hT.one, by simp, fun a ha b hb => ?_⟩
      obtain ⟨s, hs, rfl⟩ := List.mem_map.1 ha
      simp [newSes] at hb
      subst hb
      exact hn s hs
    · rw [e, List.map_append, List.nodup_append]
      refine ⟨hT.one.sublist ((List.eraseIdx_sublist T p).map _), by simp, fun a ha b hb => ?_⟩
      obtain ⟨s, hs, rfl⟩ := List.mem_map.1 ha
      simp [newSes] at hb
      subst hb
      exact hn s (List.mem_of_mem_eraseIdx hs)
  · rcases open_says hT c o with ⟨_, _, e⟩ | ⟨_, h1, hn, ⟨_, _, e⟩ | ⟨_, p, _, _, e, _⟩⟩
    · rw [e]; exact hT.may
    · rw [e]
      intro s hs
      rcases List.mem_append.1 hs with hs | hs
      · exact hT.may s hs
      · simp only [List.mem_singleton] at hs; subst hs; exact h1
    · rw [e]
      intro s hs
      rcases List.mem_append.1 hs with hs | hs
      · exact hT.may s (List.mem_of_mem_eraseIdx hs)
      · simp only [List.mem_singleton] at hs; subst hs; exact h1
theorem note_clients (T : List Ses) (c r o : Int) (t : List UInt8) : (sNote T c r o t).2.map (·.client) = T.map (·.client) := by
  have hr : whose c T < T.length := (idx_range (p := fun s : Ses => decide (s.client = c)) T).2
  unfold sNote
  split
  · rfl
  · split
    · rfl
    · split
      · rfl
      · simp only
        rw [List.map_set]
        apply List.ext_getElem?
        intro i
        rw [List.getElem?_set]
        split
        · rename_i e
          subst e
          have h1 : (whose c T).toNat < T.length := by omega
          rw [List.getElem?_map, get_lt h1]
          simp [h1]
        · rfl
theorem note_good {T : List Ses} (hT : SGood T) (c r o : Int) (t : List UInt8) : SGood (sNote T c r o t).2 := by
  have e := note_clients T c r o t
  refine ⟨sNote_ok hT.ok c r o t, by rw [e]; exact hT.one, fun s hs => ?_⟩
  have hs2 : s.client ∈ (sNote T c r o t).2.map (·.client) := List.mem_map.2 ⟨s, hs, rfl⟩
  rw [e] at hs2
  obtain ⟨u, hu, hue⟩ := List.mem_map.1 hs2
  rw [← hue]
  exact hT.may u hu
theorem do_good {T : List Ses} (h : SGood T) (x : Act8) : SGood (sDo T x).2.2 := by
  unfold sDo
  split
  · exact open_good h _ _
  · split
    · exact note_good h _ _ _ _
    · exact h
theorem few_says {T : List Ses} (hT : SGood T) (c o : Int) (he : (sOpen T c o).2.1 = 0) :
    (∀ s ∈ T, s.client = (sOpen T c o).1 → sLook (sOpen T c o).2.2 s.client = (zSes, false) ∧ T.length = 3 ∧ ∀ k, k < T.length → s.op ≤ (nth T k).op) ∧
    (∀ s ∈ T, s.client ≠ (sOpen T c o).1 → sLook (sOpen T c o).2.2 s.client = (s, true)) ∧
    sLook (sOpen T c o).2.2 c = (newSes c o, true) ∧ (decide ((sOpen T c o).1 ≠ 0) = decide (T.length = 3)) := by
  have hg := open_good hT c o
  rcases open_says hT c o with ⟨h, _⟩ | ⟨_, h1, hn, ⟨h3, e1, e2⟩ | ⟨h3, p, hp, e1, e2, e3⟩⟩
  · exact absurd he h
  · have hnew : newSes c o ∈ (sOpen T c o).2.2 := by rw [e2]; simp
    have hlk := look_uniq hg.one hnew
    refine ⟨fun s hs hc => ?_, fun s hs _ => look_uniq hg.one (by rw [e2]; simp [hs]), hlk, by rw [e1]; simp; omega⟩
    rw [e1] at hc
    have := hT.may s hs
    omega
  · have hnew : newSes c o ∈ (sOpen T c o).2.2 := by rw [e2]; simp
    have hlk := look_uniq hg.one hnew
    have hpl : p < T.length := by omega
    have hgp : T[p] = nth T p := by have := get_lt hpl; rw [List.getElem?_eq_getElem hpl] at this; simpa using this
    have hperm := cons_eraseIdx_perm T p hpl
    have hpn : ∀ x ∈ T.eraseIdx p, x.client ≠ (nth T p).client := by
      have h := ((hperm.map (·.client)).nodup_iff).2 hT.one
      rw [List.map_cons, List.nodup_cons, hgp] at h
      intro x hx hxc
      exact h.1 (List.mem_map.2 ⟨x, hx, hxc⟩)
    have hmp := nth_mem hpl
    refine ⟨fun s hs hc => ?_, fun s hs hc => ?_, hlk, ?_⟩
    · rw [e1] at hc
      have hsp := uniq_eq hT.one hs hmp hc
      refine ⟨look_not fun x hx => ?_, h3, fun k hk => by rw [hsp]; exact e3 k (by omega)⟩
      rw [e2] at hx
      rcases List.mem_append.1 hx with hx | hx
      · rw [hsp]; exact hpn x hx
      · simp only [List.mem_singleton] at hx
        subst hx
        exact fun h => hn s hs h.symm
    · rw [e1] at hc
      refine look_uniq hg.one ?_
      rw [e2]
      refine List.mem_append.2 (.inl ?_)
      have := (hperm.mem_iff (a := s)).2 hs
      rw [hgp] at this
      rcases List.mem_cons.1 this with h | h
      · exact absurd (by rw [h]) hc
      · exact h
    · rw [e1, h3]
      have := hT.may _ hmp
      simp
      omega
end Go.Cmp
