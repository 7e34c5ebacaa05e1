/-
  strings.Builder: copyCheck, WriteString, String.
-/
import Derived.Test.YtghnfocajnlfhaaCodec
import Derived.Lib.Builder
import Derived.Lib.UnsafeStr
import Derived.Laws.Externs
set_option linter.unusedSimpArgs false
set_option linter.unusedVariables false
set_option linter.unusedSectionVars false
set_option maxRecDepth 100000
namespace Go.Proofs.Ytghnfocajnlfhaa
open Go.RowKit Go.Cmp

section
variable {S : List Nat} {w0 w : World} {M : List Ent}
set_option maxHeartbeats 1000000 in
theorem bldr_check0 (b : Nat) (w : World) (h0 : w.cell? ⟨b, 0, none⟩ = some (.pointer none)) (hsh : w.shape? b = some (65, 2)) (hfz : w.frozen? ⟨b, 0, none⟩ = false) :
    Calls Try.prog 40 #[.pointer (some ⟨b, 0, none⟩)] w fun e w' => e = .returned (.tuple #[]) ∧ w' = w.setCell ⟨b, 0, none⟩ (.pointer (some ⟨b, 0, none⟩)) := by
  (go_enter Try.func40, Try.ntmps40)
  go_wp2
  rw [Lib.run_to_unsafe w ⟨b, 0, none⟩ (t := 65) rfl rfl rfl (by decide) hsh (Nat.zero_lt_succ 1)]
  simp only [Result.andThen]
  rw [Oper.upon_value]
  go_wp2
  rw [run_callFunc_extern Try.func47 (by kernel_rfl) (by kernel_rfl) (by kernel_rfl) (e := Extern.AbiNoEscape.same) (by kernel_rfl)]
  rw [Lib.run_noEscape]
  simp only [Result.andThen]
  rw [Oper.upon_value]
  go_wp2
  rw [Lib.run_from_unsafe w ⟨b, 0, none⟩ (u := 65) rfl rfl rfl hsh (by kernel_rfl)]
  simp only [Result.andThen]
  rw [Oper.upon_value]
  go_wp2
  go_end0
  exact ⟨rfl, rfl⟩
set_option maxHeartbeats 1000000 in
theorem bldr_check1 (b : Nat) (w : World) (h0 : w.cell? ⟨b, 0, none⟩ = some (.pointer (some ⟨b, 0, none⟩))) :
    Calls Try.prog 40 #[.pointer (some ⟨b, 0, none⟩)] w fun e w' => e = .returned (.tuple #[]) ∧ w' = w := by
  (go_enter Try.func40, Try.ntmps40)
  go_wp2
  rw [Lib.run_neq_ptr_same w (te := 65) _ rfl rfl]
  go_wp2
  go_end0
  exact ⟨rfl, rfl⟩
theorem bldr_check {b : Nat} {p v : Value} (hS : St S w0 w (.row b [p, v] 65 (0, 0) :: M)) (hp : p = .pointer none ∨ p = .pointer (some ⟨b, 0, none⟩)) :
    Calls Try.prog 40 #[.pointer (some ⟨b, 0, none⟩)] w fun e w' => e = .returned (.tuple #[]) ∧ St S w0 w' (.row b [.pointer (some ⟨b, 0, none⟩), v] 65 (0, 0) :: M) := by
  have hr := hS.row (i := 0) rfl
  rcases hp with rfl | rfl
  · have h0 : w.cell? ⟨b, 0, none⟩ = some (.pointer none) := row_cell hr 0
    have hsh : w.shape? b = some (65, 2) := by simp [World.shape?, hr]
    have hfz : w.frozen? ⟨b, 0, none⟩ = false := row_free hr (nf0 _)
    refine (bldr_check0 b w h0 hsh hfz).mono ?_
    rintro e w' ⟨rfl, rfl⟩
    refine ⟨rfl, ?_⟩
    have h := hS.chgRow 0 rfl (mod_setCell w ⟨b, 0, none⟩ (.pointer (some ⟨b, 0, none⟩))) (cs' := [.pointer (some ⟨b, 0, none⟩), v]) (by simp [World.setCell, Array.getElem?_modify, hr])
    exact h
  · have h0 : w.cell? ⟨b, 0, none⟩ = some (.pointer (some ⟨b, 0, none⟩)) := row_cell hr 0
    refine (bldr_check1 b w h0).mono ?_
    rintro e w' ⟨rfl, rfl⟩
    exact ⟨rfl, hS⟩
/-- What a builder holds. -/
def bldr (b : Nat) (p v : Value) (l : List UInt8) (M : List Ent) : List Ent := .row b [p, v] 65 (0, 0) :: .vec v 5 1 l.length (l.flatMap byt) :: M
set_option maxHeartbeats 1000000 in
theorem bldr_write {b : Nat} {p v : Value} {l : List UInt8} (s : List UInt8) (hS : St S w0 w (.row b [p, v] 65 (0, 0) :: .vec v 5 1 l.length (l.flatMap byt) :: M)) (hp : p = .pointer none ∨ p = .pointer (some ⟨b, 0, none⟩)) (hl : l.length ≤ 1000000) (hs : s.length ≤ 1000000) :
    Calls Try.prog 29 #[.pointer (some ⟨b, 0, none⟩), .string ⟨s.toArray⟩] w fun e w' => ∃ v', e = .returned (.tuple #[.int .i64 (s.length : Nat), .nilIface]) ∧ St S w0 w' (.row b [.pointer (some ⟨b, 0, none⟩), v'] 65 (0, 0) :: .vec v' 5 1 (l ++ s).length ((l ++ s).flatMap byt) :: M) := by
  (go_enter Try.func29, Try.ntmps29)
  go_wp2_with (first | go_skip | (go_at_call 40; (refine (bldr_check hS hp).mono ?_; clear hS; rintro e w' ⟨rfl, hS⟩)) | ((with_reducible refine g_load ?_); refine wl_run rfl (by first | exact a_load1 hS rfl rfl rfl rfl (by (repeat (first | exact Ix.here | apply Ix.there))) (by rfl) | exact a_loadR hS rfl rfl rfl rfl (by (repeat (first | exact Ix.here | apply Ix.there))) (by rfl) | fail) ?_) | ((with_reducible refine g_append ?_); refine wl_of rfl ?_; refine k_appS (L := l) (l := s) hS rfl rfl rfl rfl rfl (h := ?_); clear hS; intro v2 w' hS) | (refine au2 (n := ?_); clear hS; intro w' hS) | fail)
  go_ret2
  exact ⟨v2, rfl, hS.pick⟩
set_option maxHeartbeats 1000000 in
/-- .. of no byte. -/
theorem bldr_string0 {b : Nat} {p : Value} (hS : St S w0 w (.row b [p, .slice none 0 0] 65 (0, 0) :: M)) :
    Calls Try.prog 30 #[.pointer (some ⟨b, 0, none⟩)] w fun e w' => e = .returned (.string ⟨#[]⟩) ∧ St S w0 w' M := by
  have hUS : ∀ W : World, (Builtin.unsafeString_ #[80, 3] 9 #[.pointer none, .int .i64 0]).run Try.prog W = .ok (.string .empty) W := fun W => Lib.run_unsafeString_none W _ _ _ none
  have hr := hS.row (i := 0) rfl
  have c1 : w.drew.cell? ⟨b, 1, none⟩ = some (.slice none 0 0) := row_cell (show w.drew.heap[b]? = _ from hr) 1
  have hSD : (Builtin.unsafeSliceData_ #[55] 80 #[.slice none 0 0]).run Try.prog w.drew = .ok (.pointer none) w.drew := rfl
  have hT := hS.tail.drew
  clear hS
  (go_enter Try.func30, Try.ntmps30)
  go_wp2
  go_region
  all_goals (go_wp2; go_ret; exact ⟨rfl, hT⟩)
theorem mod_freeze (w : World) (p : Addr) (n : Nat) : Mod [p.block] w (w.freeze p n) := by
  unfold World.freeze
  split
  · exact Mod.refl _ _
  · exact ⟨rfl, rfl, rfl, by simp, fun k _ hn => by
      simp only [Array.getElem?_modify]
      rw [if_neg (by intro e; exact hn (by simp [e]))]⟩
set_option maxHeartbeats 1000000 in
/-- What a builder holds, told; the builder is not used again. -/
theorem bldr_string {b : Nat} {p v : Value} {l : List UInt8} (hS : St S w0 w (.row b [p, v] 65 (0, 0) :: .vec v 5 1 l.length (l.flatMap byt) :: M)) (hl : l ≠ []) (hl2 : l.length ≤ 1000000) :
    Calls Try.prog 30 #[.pointer (some ⟨b, 0, none⟩)] w fun e w' => e = .returned (.string ⟨l.toArray⟩) ∧ St S w0 w' M := by
  have hl0 : l.length ≠ 0 := by simpa using hl
  have hr := hS.row (i := 0) rfl
  have hv := hS.vec (i := 1) rfl
  obtain ⟨hv1, hv2⟩ := hv
  rcases hv2 with ⟨rfl, h⟩ | ⟨g, cap, rest, fr, rfl, hh, hn, hcm, hcl, _⟩
  · exact absurd h hl0
  have c1 : w.drew.cell? ⟨b, 1, none⟩ = some (.slice (some ⟨g, 0, none⟩) l.length cap) := row_cell (show w.drew.heap[b]? = _ from hr) 1
  have hSD : (Builtin.unsafeSliceData_ #[55] 80 #[.slice (some ⟨g, 0, none⟩) l.length cap]).run Try.prog w.drew = .ok (.pointer (some ⟨g, 0, none⟩)) w.drew := Lib.run_unsafeSliceData_row _ _ _ _ _ _ (by omega)
  have hUS : (Builtin.unsafeString_ #[80, 3] 9 #[.pointer (some ⟨g, 0, none⟩), .int .i64 l.length]).run Try.prog w.drew = .ok (.string ⟨l.toArray⟩) (w.drew.freeze ⟨g, 0, none⟩ l.length) := by
    refine Lib.run_unsafeString_row w.drew 80 3 9 5 rfl (by kernel_rfl) g (l.flatMap byt ++ rest).toArray.size (by have hg' : w.drew.heap[g]? = _ := hh; simp [World.shape?, hg']) l hl (by simp only [List.size_toArray, List.length_append]; omega) (by omega) ?_
    intro j x hx
    rw [add_lit, Nat.zero_add, row_cell (show w.drew.heap[g]? = _ from hh)]
    have hb := flat_get (f := byt) (k := 1) (fun _ => rfl) l j x hx 0 (.int .u8 x.toNat) rfl
    rw [Nat.mul_one, Nat.add_zero] at hb
    rw [List.getElem?_append_left (List.getElem?_eq_some_iff.1 hb).1]
    exact hb
  have hEnd : St S w0 (w.drew.freeze ⟨g, 0, none⟩ l.length) M := by
    obtain ⟨F, hA, hR, _⟩ := St.split (A := [.row b [p, .slice (some ⟨g, 0, none⟩) l.length cap] 65 (0, 0), .vec (.slice (some ⟨g, 0, none⟩) l.length cap) 5 1 l.length (l.flatMap byt)]) hS
    obtain ⟨F', h1, _, h3⟩ := hA.owns
    obtain ⟨f1, F1, rfl, _, f2, F2, rfl, hf2, _⟩ := h1
    obtain ⟨rfl, _⟩ := hf2
    have hg : g ∈ F := by
      rcases h3 g (by simp [Value.ownBlock]) with h | h
      · exact h
      · have := heap_lt hh; omega
    refine hR _ ?_
    exact ((Mod.refl [] w).drew.nil).trans ((mod_freeze w.drew ⟨g, 0, none⟩ l.length).weaken (by intro x hx; simp at hx; subst hx; exact hg))
  clear hS hh hr hv1
  (go_enter Try.func30, Try.ntmps30)
  go_wp2
  go_region
  all_goals (go_wp2; go_ret; exact ⟨rfl, hEnd⟩)
end
end Go.Proofs.Ytghnfocajnlfhaa
