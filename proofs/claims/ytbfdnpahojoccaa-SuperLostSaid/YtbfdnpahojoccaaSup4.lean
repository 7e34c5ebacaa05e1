/-
  Superblocks: the program's Next, and what a copy has.
-/
import Derived.Test.YtbfdnpahojoccaaSup3
import Derived.Test.YtbfdnpahojoccaaSupSpec2
import Derived.Test.YtbfdnpahojoccaaDisk2
import Derived.Test.YtbfdnpahojoccaaSeal3
set_option linter.unusedSimpArgs false
set_option linter.unusedVariables false
set_option linter.unusedSectionVars false
set_option maxRecDepth 100000
namespace Go.Cmp
open Go.RowKit
def nextU (s : Sup) : Sup := if s.right = false ∨ s.seq = 72057594037927935 then s else { s with seq := s.seq + 1, parent := chainOf 0 (supB s) }
theorem sup_one (s : Sup) : ∀ u ∈ s.cells, u.oneCell' = true := by
  intro u hu
  simp only [Sup.cells, List.mem_cons, List.not_mem_nil, or_false] at hu
  rcases hu with rfl | rfl | rfl | rfl | rfl | rfl | rfl | rfl | rfl | rfl | rfl | rfl | rfl | rfl | rfl | rfl | rfl <;> rfl
namespace Dsk
theorem under_len (i : Int) : ∀ {l : List Wr}, (∀ x ∈ l, x.text.length = 384) → ∀ s, under i l = some s → s.length = 384
  | [], _, s, h => by simp [under] at h
  | x :: l, hl, s, h => by
    unfold under at h
    split at h
    · rename_i t ht
      simp only [Option.some.injEq] at h
      subst h
      exact under_len i (fun y hy => hl y (by simp [hy])) _ ht
    · split at h
      · simp only [Option.some.injEq] at h
        subst h
        exact hl x (by simp)
      · cases h
theorem read_len {D : Dsk} (h : D.Ok) (i : Int) : (D.read i).1.length ≤ 384 := by
  unfold read
  split
  · exact Nat.zero_le _
  · rename_i hi
    split
    · exact Nat.zero_le _
    · have hi' : D.is i = true := by simpa using hi
      have hi2 := is_lt hi'
      cases hu : under i D.way with
      | none =>
        show (nth D.lasts i.toNat).length ≤ 384
        rw [h.size _ (nth_mem (by omega))]
        exact Nat.le_refl _
      | some s =>
        show s.length ≤ 384
        rw [under_len i (fun x hx => (h.way x hx).2.2) s hu]
        exact Nat.le_refl _
end Dsk
theorem unpU_U (b : List UInt8) : (unpU b).1.U64 := supO_zero_fields b
theorem hasU_U (b : List UInt8) : (hasU b).1.U64 := by
  unfold hasU
  split
  · exact ⟨by decide, by decide, by decide, by decide, by decide, by decide, by decide, by decide⟩
  · exact unpU_U _
theorem openS_lenU {p : List UInt8} (hl : p.length ≤ 384) : (openS p).1.length ≤ 1000000 := by
  unfold openS
  split
  · rename_i h
    obtain ⟨n, _, hn, _, e, _⟩ := takeT_facts h.2.2
    simp only [e, List.length_take]
    omega
  · exact Nat.zero_le _
end Go.Cmp
namespace Go.Proofs.Ytbfdnpahojoccaa
open Go.RowKit Go.Cmp

section
variable {S : List Nat} {w0 w : World} {M : List Ent} {g : Nat} {D : Dsk}
set_option maxHeartbeats 4000000 in
theorem supNext_any (s : Sup) (hu : s.U64) (w : World) :
    Calls Try.prog 19 #[.agg s.cells.toArray] w fun e w' => e = .returned (.agg (nextU s).cells.toArray) ∧ St [] w w' [] := by
  have hS := St.init w
  have HP := Lib.hid (fun w => supPack_any s hu w)
  have hbl := supB_len s
  have HC : Hid (∀ w, Calls Try.prog 47 #[.int .u64 0, .string ⟨(supB s).toArray⟩] w fun e w' => e = .returned (.int .u64 (chainOf 0 (supB s) : Nat)) ∧ w' = w) := Lib.hid (fun w => crcChain_any 0 (by decide) (supB s) (by omega) w)
  cases hr : s.right
  · have e : nextU s = s := by unfold nextU; rw [if_pos (.inl hr)]
    have ep : packU s = ([], 4) := by unfold packU; rw [if_pos hr]
    rw [e]
    rw [ep] at HP
    clear hr e ep hu hbl HC
    (go_enter Try.func19, Try.ntmps19)
    go_wp2_with (first | go_skip | ((with_reducible refine g_box ?_); refine wl_of rfl ?_; refine wp_box hS rfl rfl rfl ?_; clear hS; intro gs w1 hS) | ((with_reducible refine g_alloc ?_); refine wl_of rfl ?_; refine wp_alloc hS rfl rfl rfl rfl ?_; clear hS; intro gz w1 hS) | ((with_reducible refine g_load ?_); refine wl_run rfl (by first | exact a_load1 hS rfl rfl rfl rfl (by (repeat (first | exact Ix.here | apply Ix.there))) (by rfl) | exact a_loadR hS rfl rfl rfl rfl (by (repeat (first | exact Ix.here | apply Ix.there))) (by rfl) | fail) ?_) | (go_at_call 16; refine (HP.out _).mono ?_; rintro e w' ⟨rfl, h⟩; replace hS := hS.call h; clear h) | ((with_reducible refine g_store ?_); refine wl_of rfl ?_; refine a_storeA (vs := Sup.cells s) (cs' := Sup.cells s) hS rfl rfl rfl (by rfl) (sup_one _) (by (repeat (first | exact Sw.here | apply Sw.there))) (by exact Nat.le_refl 17) (by rfl) ?_; clear hS; intro w' hS) | fail)
    exact end_c1 hS rfl rfl rfl rfl rfl (h := ⟨rfl, hS.nil⟩)
  · have ep : packU s = (supB s, 0) := by unfold packU; rw [if_neg (by simp [hr])]
    rw [ep] at HP
    obtain ⟨q1, q2⟩ := (sup_right.1 hr).seq
    by_cases hm : s.seq = 72057594037927935
    · have e : nextU s = s := by unfold nextU; rw [if_pos (.inr hm)]
      rw [e]
      clear hr e ep hu hbl HC
      have hm' : (s.seq == 72057594037927935) = true := by rw [hm]; rfl
      (go_enter Try.func19, Try.ntmps19)
      go_wp2_with (first | go_skip | ((with_reducible refine g_box ?_); refine wl_of rfl ?_; refine wp_box hS rfl rfl rfl ?_; clear hS; intro gs w1 hS) | ((with_reducible refine g_alloc ?_); refine wl_of rfl ?_; refine wp_alloc hS rfl rfl rfl rfl ?_; clear hS; intro gz w1 hS) | ((with_reducible refine g_load ?_); refine wl_run rfl (by first | exact a_load1 hS rfl rfl rfl rfl (by (repeat (first | exact Ix.here | apply Ix.there))) (by rfl) | exact a_loadR hS rfl rfl rfl rfl (by (repeat (first | exact Ix.here | apply Ix.there))) (by rfl) | fail) ?_) | (go_at_call 16; refine (HP.out _).mono ?_; rintro e w' ⟨rfl, h⟩; replace hS := hS.call h; clear h) | ((with_reducible refine g_store ?_); refine wl_of rfl ?_; refine a_storeA (vs := Sup.cells s) (cs' := Sup.cells s) hS rfl rfl rfl (by rfl) (sup_one _) (by (repeat (first | exact Sw.here | apply Sw.there))) (by exact Nat.le_refl 17) (by rfl) ?_; clear hS; intro w' hS) | fail)
      exact end_c1 hS rfl rfl rfl rfl rfl (h := ⟨rfl, hS.nil⟩)
    · have hm' : (s.seq == 72057594037927935) = false := by rw [beq_eq_false_iff_ne]; exact hm
      obtain ⟨c, hc⟩ : ∃ c, chainOf 0 (supB s) = c := ⟨_, rfl⟩
      have e : nextU s = { s with seq := s.seq + 1, parent := c } := by unfold nextU; rw [if_neg (by simp [hr, hm]), hc]
      rw [e]
      rw [hc] at HC
      clear hc e ep hu hr
      have hq : s.seq + 1 ≤ 72057594037927935 := by omega
      generalize supB s = B at HP HC hbl
      obtain ⟨seq, who, count, view, log, cop, cview, csum, area, size, s0, s1, s2, s3, s4, s5, parent⟩ := s
      simp only [Sup.cells] at HP hm hm' hq q1 q2 ⊢
      (go_enter Try.func19, Try.ntmps19)
      go_wp2_with (first | go_skip | ((with_reducible refine g_box ?_); refine wl_of rfl ?_; refine wp_box hS rfl rfl rfl ?_; clear hS; intro gs w1 hS) | ((with_reducible refine g_alloc ?_); refine wl_of rfl ?_; refine wp_alloc hS rfl rfl rfl rfl ?_; clear hS; intro gz w1 hS) | ((with_reducible refine g_load ?_); refine wl_run rfl (by first | exact a_load1 hS rfl rfl rfl rfl (by (repeat (first | exact Ix.here | apply Ix.there))) (by rfl) | exact a_loadR hS rfl rfl rfl rfl (by (repeat (first | exact Ix.here | apply Ix.there))) (by rfl) | fail) ?_) | (go_at_call 16; refine (HP.out _).mono ?_; rintro e w' ⟨rfl, h⟩; replace hS := hS.call h; clear h) | (go_at_call 47; refine (HC.out _).mono ?_; rintro e w9 ⟨rfl, rfl⟩) | (refine au2 (n := ?_); clear hS; intro w' hS) | fail)
      exact end_c1 hS rfl rfl rfl rfl rfl (h := ⟨rfl, hS.nil⟩)
set_option maxHeartbeats 4000000 in
theorem supOne_any (hS : St S w0 w (disk g D :: M)) (hD : D.Ok) (i : Int) :
    Calls Try.prog 38 #[.pointer (some ⟨g, 0, none⟩), .int .i64 i] w fun e w' => e = .returned (.tuple #[.agg (oneU D i).1.cells.toArray, .string ⟨(oneU D i).2.1.toArray⟩, .bool (oneU D i).2.2.1, .int .i64 (oneU D i).2.2.2]) ∧ St S w0 w' (disk g D :: M) := by
  have HR := Lib.hid (fun (W : World) (M : List Ent) (hS : St S w0 W (disk g D :: M)) => disk_read hS hD i)
  have hrl := Dsk.read_len hD i
  by_cases he : (D.read i).2 = 0
  · have e : oneU D i = ((hasU (D.read i).1).1, (D.read i).1, (hasU (D.read i).1).2, 0) := by unfold oneU; rw [if_neg (by rw [he]; simp)]
    rw [e]
    rw [he] at HR
    clear e he hD
    obtain ⟨O, hO⟩ : ∃ O, (D.read i).1 = O := ⟨_, rfl⟩
    rw [hO] at HR hrl ⊢
    have HOP := Lib.hid (fun w => open_any O (by omega) w)
    have hol := openS_lenU hrl
    cases hk : (openS O).2
    · have e : hasU O = (zeroU, false) := by unfold hasU; rw [if_pos hk]
      rw [e]
      rw [hk] at HOP
      generalize (openS O).1 = B at HOP
      clear e hk hol hrl hO
      (go_enter Try.func38, Try.ntmps38)
      go_wp2_with (first | go_skip | ((with_reducible refine g_alloc ?_); refine wl_of rfl ?_; refine wp_alloc hS rfl rfl rfl rfl ?_; clear hS; intro gz w1 hS) | ((with_reducible refine g_load ?_); refine wl_run rfl (by first | exact a_load1 hS rfl rfl rfl rfl (by (repeat (first | exact Ix.here | apply Ix.there))) (by rfl) | exact a_loadR hS rfl rfl rfl rfl (by (repeat (first | exact Ix.here | apply Ix.there))) (by rfl) | fail) ?_) | (go_at_call 33; (refine (HR.out _ _ (hS.out (by (repeat (first | exact Out.here | apply Out.there))))).mono ?_; clear hS; rintro e w' ⟨rfl, hS⟩)) | (go_at_call 58; refine (HOP.out _).mono ?_; rintro e w' ⟨rfl, h⟩; replace hS := hS.call h; clear h) | (refine au5 (n := ?_); clear hS; intro w' hS) | fail)
      exact end_c4 hS rfl rfl rfl rfl rfl rfl rfl rfl (h := ⟨rfl, hS.pick⟩)
    · have e : hasU O = ((unpU (openS O).1).1, decide ((unpU (openS O).1).2 = 0)) := by unfold hasU; rw [if_neg (by simp [hk])]
      rw [e]
      rw [hk] at HOP
      have HUN := Lib.hid (fun w => supUnpack_any (openS O).1 hol w)
      generalize (openS O).1 = B at HOP HUN
      generalize unpU B = R at HUN
      obtain ⟨R, r⟩ := R
      clear e hk hol hrl hO
      (go_enter Try.func38, Try.ntmps38)
      go_wp2_with (first | go_skip | ((with_reducible refine g_alloc ?_); refine wl_of rfl ?_; refine wp_alloc hS rfl rfl rfl rfl ?_; clear hS; intro gz w1 hS) | ((with_reducible refine g_load ?_); refine wl_run rfl (by first | exact a_load1 hS rfl rfl rfl rfl (by (repeat (first | exact Ix.here | apply Ix.there))) (by rfl) | exact a_loadR hS rfl rfl rfl rfl (by (repeat (first | exact Ix.here | apply Ix.there))) (by rfl) | fail) ?_) | (go_at_call 33; (refine (HR.out _ _ (hS.out (by (repeat (first | exact Out.here | apply Out.there))))).mono ?_; clear hS; rintro e w' ⟨rfl, hS⟩)) | (go_at_call 58; refine (HOP.out _).mono ?_; rintro e w' ⟨rfl, h⟩; replace hS := hS.call h; clear h) | (go_at_call 9; refine (HUN.out _).mono ?_; rintro e w' ⟨rfl, h⟩; replace hS := hS.call h; clear h) | ((with_reducible refine g_store ?_); refine wl_of rfl ?_; refine a_storeA (vs := Sup.cells R) (cs' := Sup.cells R) hS rfl rfl rfl (by rfl) (sup_one _) (by (repeat (first | exact Sw.here | apply Sw.there))) (by exact Nat.le_refl 17) (by rfl) ?_; clear hS; intro w' hS) | fail)
      exact end_c4 hS rfl rfl rfl rfl rfl rfl rfl rfl (h := ⟨rfl, hS.pick⟩)
  · have e : oneU D i = (zeroU, [], false, (D.read i).2) := by unfold oneU; rw [if_pos (by simpa using he)]
    rw [e]
    have he1 : ((D.read i).2 != 0) = true := by simpa using he
    clear e he hD hrl
    generalize (D.read i).2 = er at HR he1 ⊢
    generalize (D.read i).1 = O at HR
    (go_enter Try.func38, Try.ntmps38)
    go_wp2_with (first | go_skip | ((with_reducible refine g_alloc ?_); refine wl_of rfl ?_; refine wp_alloc hS rfl rfl rfl rfl ?_; clear hS; intro gz w1 hS) | ((with_reducible refine g_load ?_); refine wl_run rfl (by first | exact a_load1 hS rfl rfl rfl rfl (by (repeat (first | exact Ix.here | apply Ix.there))) (by rfl) | exact a_loadR hS rfl rfl rfl rfl (by (repeat (first | exact Ix.here | apply Ix.there))) (by rfl) | fail) ?_) | (go_at_call 33; (refine (HR.out _ _ (hS.out (by (repeat (first | exact Out.here | apply Out.there))))).mono ?_; clear hS; rintro e w' ⟨rfl, hS⟩)) | (refine au5 (n := ?_); clear hS; intro w' hS) | fail)
    exact end_c4 hS rfl rfl rfl rfl rfl rfl rfl rfl (h := ⟨rfl, hS.pick⟩)
end
end Go.Proofs.Ytbfdnpahojoccaa
