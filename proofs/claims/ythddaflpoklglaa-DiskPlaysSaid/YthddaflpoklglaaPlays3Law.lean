/-
  The statement on all calls of a disk: the walk.
-/
import Derived.Test.YthddaflpoklglaaRef3F
namespace Go.Proofs.Ythddaflpoklglaa
open Go.RowKit Go.Cmp

/-- After j calls. -/
structure Lived (n j : Nat) (D : Dsk) : Prop where
  ok : D.Ok
  ways : D.way.length ≤ j
  steps : D.steps ≤ j
  len : D.lasts.length = n
theorem lived_act {n j : Nat} {D : Dsk} (h : Lived n j D) (hj : j < 60) (x : Act3) (hx : x.Ok) : Lived n (j + 1) (act D x).2 := by
  have hw := h.ways
  have hs := h.steps
  have hn := act_next h.ok x hx (by omega) (by omega)
  have nw := hn.way
  have ns := hn.steps
  exact ⟨hn.ok, by omega, by omega, by rw [hn.len, h.len]⟩

section
variable {w0 w : World} {g g2 : Nat} {D : Dsk}

/-- The document's disk, opened. -/
def ropen (g2 : Nat) (vl vm vw : Value) (D : Dsk) (M : List Ent) : List Ent :=
  .row g2 [vl, vm, vw, .bool D.off, .int .i64 D.fuse, .int .i64 D.steps] 58 (0, 0) :: .vec vl 9 1 D.lasts.length (D.lasts.flatMap str) :: .vec vm 4 1 D.mark.length (D.mark.flatMap bl) :: .vec vw 69 2 D.way.length (D.way.flatMap Wr.cells) :: M

set_option maxRecDepth 100000 in
set_option maxHeartbeats 8000000 in
theorem law_plays (sectors : Int) (vl : Value) (L : List (Act3 × Value)) (w : World) (hL : Rd w 7 vl L.length (L.flatMap actCells)) (hok : ∀ x ∈ L, ActOk w x) :
    Calls Try.prog 7 #[.int .i64 sectors, vl] w fun e w' => e = .returned (.bool true) ∧ St [] w w' [] := by
  have hS := St.init w
  have HOK := Lib.hid hok
  clear hok
  by_cases hs : sectors < 1 ∨ 64 < sectors
  · (go_enter Try.func7, Try.ntmps7)
    go_wp2_with (first | (go_at_call 9; refine (law_awake _).mono ?_; rintro e w' ⟨rfl, h⟩; replace hS := hS.call h; clear h) | (go_at_call 10; refine (disk_new_bad _ hs).mono ?_; rintro e w' ⟨rfl, rfl⟩) | (go_at_call 27; refine (rdisk_new_bad _ hs).mono ?_; rintro e w' ⟨rfl, rfl⟩) | fail)
    go_ret
    exact ⟨rfl, hS.nil⟩
  obtain ⟨n, rfl⟩ := Int.eq_ofNat_of_zero_le (show 0 ≤ sectors by omega)
  have ok0 := newDsk_ok n (by omega)
  have K0 : Hid (Lived n 0 (newDsk n)) := Lib.hid ⟨ok0, by simp [newDsk], by simp [newDsk], by simp [newDsk]⟩
  clear ok0
  obtain ⟨D0, hD0⟩ : ∃ D0, newDsk n = D0 := ⟨_, rfl⟩
  rw [hD0] at K0
  (go_enter Try.func7, Try.ntmps7)
  go_wp2_with (first | (go_at_call 9; refine (law_awake _).mono ?_; rintro e w' ⟨rfl, h⟩; replace hS := hS.call h; clear h) | fail)
  refine (disk_new n (by omega) (by omega) hS).mono ?_
  clear hS
  rintro e w1 ⟨g, rfl, hS⟩
  rw [hD0] at hS
  go_wp2_with (fail)
  refine (rdisk_new n (by omega) (by omega) hS).mono ?_
  clear hS
  rintro e w2 ⟨g2, rfl, hS⟩
  rw [hD0] at hS
  clear hD0
  go_wp2_with (fail)
  go_loopw [9] (fun k wr => ∃ (j : Nat) (D : Dsk), j ≤ 60 ∧ j ≤ L.length ∧ k = .int .i64 j ∧ Hid (Lived n j D) ∧ St [] w wr (disk g D :: [rdisk g2 D])) (fun k _ => (60 - intOf k).toNat)
  case atStart => exact ⟨0, D0, by omega, by omega, rfl, K0, hS.pick⟩
  case round =>
    clear hS
    obtain ⟨j, D, hj, hjl, rfl, HK, hS⟩ := hrel
    by_cases hlt : j < 60 ∧ j < L.length
    · obtain ⟨hlt, hlt2⟩ := hlt
      have hlt1 : (j : Int) < L.length := by omega
      have hlt3 : (j : Int) < 60 := by omega
      have hget := get_lt (L := L) hlt2
      have hx := HOK.out _ (nth_mem hlt2)
      obtain ⟨X, hX⟩ : ∃ X, nth L j = X := ⟨_, rfl⟩
      rw [hX] at hget hx
      clear hX
      obtain ⟨x, vx⟩ := X
      obtain ⟨x1, x2⟩ := hx
      simp only at x1 x2
      have k1 := lived_act HK.out hlt x x1
      have hd := fun (F : List Nat) (wx : World) (hR : ∀ W, Cmp.Mod F wx W → St [] w W []) (wr : World) (hS : St F wx wr (disk g D :: [rdisk g2 D])) => law_does hS HK.out.ok x x1 vx (fun W hW => (hR W hW.base).old0 x2)
      obtain ⟨Y, hY⟩ : ∃ Y, act D x = Y := ⟨_, rfl⟩
      rw [hY] at k1
      have hm := fun (F : List Nat) (wx : World) (hR : ∀ W, Cmp.Mod F wx W → St [] w W []) (wr : World) (hS : St F wx wr (rdisk g2 D :: [disk g Y.2])) => law_means hS HK.out.ok x x1 vx (fun W hW => (hR W hW.base).old0 x2)
      simp only [hY] at hd hm
      obtain ⟨e1, D1⟩ := Y
      simp only at k1 hd hm
      clear hY x1 x2
      have K1 := Lib.hid k1
      have HD := Lib.hid hd
      have HM := Lib.hid hm
      clear hd hm k1
      obtain ⟨kind, i1, pos, m, c, text, pk⟩ := x
      simp only [Act3.cells] at HD HM
      go_wp2_with (first | ((with_reducible refine g_len ?_); refine wl_run rfl (a_len rfl rfl rfl (hS.old0 hL)) ?_) | fail)
      refine region_held [disk g D, rdisk g2 D] [] hS.pick (by kernel_rfl) ?_
      clear hS
      intro F wx hR hB hS
      (refine whd_take 0 rfl rfl (by kernel_rfl) (by kernel_rfl) (by kernel_rfl) (fun _ _ _ h => h) rfl (fun W hW => by (go_simp; try with_reducible rfl)) hS.base ?_; simp only [Act.put, List.setIfInBounds_toArray, List.set_cons_zero, List.set_cons_succ])
      (refine whd_take 1 rfl rfl (by kernel_rfl) (by kernel_rfl) (by kernel_rfl) (fun _ _ _ h => h) rfl (fun W hW => by (go_simp; try with_reducible rfl)) hS.base ?_; simp only [Act.put, List.setIfInBounds_toArray, List.set_cons_zero, List.set_cons_succ])
      (refine whd_take 2 rfl rfl (by kernel_rfl) (by kernel_rfl) (by kernel_rfl) (fun _ _ _ h => h) rfl (fun W hW => by (go_simp; try with_reducible rfl)) hS.base ?_; simp only [Act.put, List.setIfInBounds_toArray, List.set_cons_zero, List.set_cons_succ])
      (refine whd_take 3 rfl rfl (by kernel_rfl) (by kernel_rfl) (by kernel_rfl) (fun _ _ _ h => h) rfl (fun W hW => (by exact a_index (u := vl) (j := (j : Int)) rfl rfl rfl rfl ((hR W hW).old0 hL) (by rfl) (by omega) (by omega))) hS.base ?_; simp only [Act.put, List.setIfInBounds_toArray, List.set_cons_zero, List.set_cons_succ])
      (refine whd_take 4 rfl rfl (by kernel_rfl) (by kernel_rfl) (by kernel_rfl) (fun _ _ _ h => h) rfl (fun W hW => (by exact a_loadG (vs := [_, _, _, _, _, _, _]) rfl ((hR W hW).old0 hL) rfl rfl rfl (by rfl) (by intro _; rfl) hget (by rfl))) hS.base ?_; simp only [Act.put, List.setIfInBounds_toArray, List.set_cons_zero, List.set_cons_succ])
      (refine whd_take 6 rfl rfl (by kernel_rfl) (by kernel_rfl) (by kernel_rfl) (fun _ _ _ h => h) rfl (fun W hW => by (go_simp; try with_reducible rfl)) hS.base ?_; simp only [Act.put, List.setIfInBounds_toArray, List.set_cons_zero, List.set_cons_succ])
      (refine whd_take 7 rfl rfl (by kernel_rfl) (by kernel_rfl) (by kernel_rfl) (fun _ _ _ h => h) rfl (fun W hW => by (go_simp; try with_reducible rfl)) hS.base ?_; simp only [Act.put, List.setIfInBounds_toArray, List.set_cons_zero, List.set_cons_succ])
      (refine whd_take 8 rfl rfl (by kernel_rfl) (by kernel_rfl) (by kernel_rfl) (fun _ _ _ h => h) rfl (fun W hW => by (go_simp; try with_reducible rfl)) hS.base ?_; simp only [Act.put, List.setIfInBounds_toArray, List.set_cons_zero, List.set_cons_succ])
      (refine whd_take 9 rfl rfl (by kernel_rfl) (by kernel_rfl) (by kernel_rfl) (fun _ _ _ h => h) rfl (fun W hW => (by exact a_index (u := vl) (j := (j : Int)) rfl rfl rfl rfl ((hR W hW).old0 hL) (by rfl) (by omega) (by omega))) hS.base ?_; simp only [Act.put, List.setIfInBounds_toArray, List.set_cons_zero, List.set_cons_succ])
      (refine whd_take 10 rfl rfl (by kernel_rfl) (by kernel_rfl) (by kernel_rfl) (fun _ _ _ h => h) rfl (fun W hW => (by exact a_loadG (vs := [_, _, _, _, _, _, _]) rfl ((hR W hW).old0 hL) rfl rfl rfl (by rfl) (by intro _; rfl) hget (by rfl))) hS.base ?_; simp only [Act.put, List.setIfInBounds_toArray, List.set_cons_zero, List.set_cons_succ])
      (refine wpAnyH_all (rs := [5]) (by kernel_rfl) (by simp) ?_; intro i hi; have hi := List.mem_singleton.1 hi; subst hi)
      refine wod_of rfl rfl rfl (wp_call (by go_simp) (HD.out F wx hR _ hS) ?_)
      clear hS
      rintro e w3 ⟨rfl, hS⟩
      refine ⟨_, rfl, hS.base, ?_⟩
      simp only [Act.put, List.setIfInBounds_toArray, List.set_cons_zero, List.set_cons_succ]
      (refine wpAnyH_all (rs := [11]) (by kernel_rfl) (by simp) ?_; intro i hi; have hi := List.mem_singleton.1 hi; subst hi)
      refine wod_of rfl rfl rfl (wp_call (by go_simp) (HM.out F wx hR _ hS.pick) ?_)
      clear hS
      rintro e w4 ⟨rfl, hS⟩
      refine ⟨_, rfl, hS.base, ?_⟩
      simp only [Act.put, List.setIfInBounds_toArray, List.set_cons_zero, List.set_cons_succ]
      (have hU := St.unpack hS; clear hS; obtain ⟨⟨vl2, vm2, vw2⟩, _, hS⟩ := hU; simp only [List.cons_append, List.nil_append] at hS)
      refine held_mono (C' := fun W => St F wx W (ropen g2 vl2 vm2 vw2 D1 [disk g D1])) (fun W h => h.base) _ _ _ _ ?_
      simp only [ropen]
      (refine whd_take 12 rfl rfl (by kernel_rfl) (by kernel_rfl) (by kernel_rfl) (fun _ _ _ h => h) rfl (fun W hW => (by (go_simp; try with_reducible rfl))) hS ?_; simp only [Act.put, List.setIfInBounds_toArray, List.set_cons_zero, List.set_cons_succ])
      (refine whd_take 13 rfl rfl (by kernel_rfl) (by kernel_rfl) (by kernel_rfl) (fun _ _ _ h => h) rfl (fun W hW => (by (go_simp; try with_reducible rfl))) hS ?_; simp only [Act.put, List.setIfInBounds_toArray, List.set_cons_zero, List.set_cons_succ])
      (refine whd_take 14 rfl rfl (by kernel_rfl) (by kernel_rfl) (by kernel_rfl) (fun _ _ _ h => h) rfl (fun W hW => (by (go_simp; try with_reducible rfl))) hS ?_; simp only [Act.put, List.setIfInBounds_toArray, List.set_cons_zero, List.set_cons_succ])
      (refine whd_take 16 rfl rfl (by kernel_rfl) (by kernel_rfl) (by kernel_rfl) (fun _ _ _ h => h) rfl (fun W hW => (by (go_simp; try with_reducible rfl))) hS ?_; simp only [Act.put, List.setIfInBounds_toArray, List.set_cons_zero, List.set_cons_succ])
      (refine whd_take 17 rfl rfl (by kernel_rfl) (by kernel_rfl) (by kernel_rfl) (fun _ _ _ h => h) rfl (fun W hW => (by (go_simp; try with_reducible rfl))) hS ?_; simp only [Act.put, List.setIfInBounds_toArray, List.set_cons_zero, List.set_cons_succ])
      (refine whd_take 18 rfl rfl (by kernel_rfl) (by kernel_rfl) (by kernel_rfl) (fun _ _ _ h => h) rfl (fun W hW => (by (go_simp; try with_reducible rfl))) hS ?_; simp only [Act.put, List.setIfInBounds_toArray, List.set_cons_zero, List.set_cons_succ])
      (refine whd_take 19 rfl rfl (by kernel_rfl) (by kernel_rfl) (by kernel_rfl) (fun _ _ _ h => h) rfl (fun W hW => (by (first | exact a_load1 hW rfl rfl rfl rfl (by (repeat (first | exact Ix.here | apply Ix.there))) (by rfl) | exact a_loadE rfl (by (first | exact St.rdx hW (by (repeat (first | exact Ix.here | apply Ix.there))) | exact Reads.at (by assumption) hW (by (repeat (first | exact List.Sublist.refl _ | apply List.Sublist.cons))) | exact St.old0 hW (by assumption))) rfl rfl rfl (by intro _; rfl) (by (first | assumption | exact get_lt (by first | omega | (simp; omega)))) (by rfl) | exact a_loadF rfl (by (first | exact St.rdx hW (by (repeat (first | exact Ix.here | apply Ix.there))) | exact Reads.at (by assumption) hW (by (repeat (first | exact List.Sublist.refl _ | apply List.Sublist.cons))) | exact St.old0 hW (by assumption))) rfl rfl rfl (by intro _; rfl) (by (first | assumption | exact get_lt (by first | omega | (simp; omega)))) (by rfl) | exact a_loadG (vs := [_, _]) rfl (by (first | exact St.rdx hW (by (repeat (first | exact Ix.here | apply Ix.there))) | exact Reads.at (by assumption) hW (by (repeat (first | exact List.Sublist.refl _ | apply List.Sublist.cons))) | exact St.old0 hW (by assumption))) rfl rfl rfl (by rfl) (by intro _; rfl) (by (first | assumption | exact get_lt (by first | omega | (simp; omega)))) (by rfl) | exact a_loadG (vs := [_, _, _]) rfl (by (first | exact St.rdx hW (by (repeat (first | exact Ix.here | apply Ix.there))) | exact Reads.at (by assumption) hW (by (repeat (first | exact List.Sublist.refl _ | apply List.Sublist.cons))) | exact St.old0 hW (by assumption))) rfl rfl rfl (by rfl) (by intro _; rfl) (by (first | assumption | exact get_lt (by first | omega | (simp; omega)))) (by rfl) | exact a_loadG (vs := [_, _, _, _]) rfl (by (first | exact St.rdx hW (by (repeat (first | exact Ix.here | apply Ix.there))) | exact Reads.at (by assumption) hW (by (repeat (first | exact List.Sublist.refl _ | apply List.Sublist.cons))) | exact St.old0 hW (by assumption))) rfl rfl rfl (by rfl) (by intro _; rfl) (by (first | assumption | exact get_lt (by first | omega | (simp; omega)))) (by rfl) | exact a_loadG (vs := [_, _, _, _, _]) rfl (by (first | exact St.rdx hW (by (repeat (first | exact Ix.here | apply Ix.there))) | exact Reads.at (by assumption) hW (by (repeat (first | exact List.Sublist.refl _ | apply List.Sublist.cons))) | exact St.old0 hW (by assumption))) rfl rfl rfl (by rfl) (by intro _; rfl) (by (first | assumption | exact get_lt (by first | omega | (simp; omega)))) (by rfl) | exact a_loadR hW rfl rfl rfl rfl (by (repeat (first | exact Ix.here | apply Ix.there))) (by rfl)))) hS ?_; simp only [Act.put, List.setIfInBounds_toArray, List.set_cons_zero, List.set_cons_succ])
      ((refine wpAnyH_all (rs := [15]) (by kernel_rfl) (by simp) ?_; intro i hi; have hi := List.mem_singleton.1 hi; subst hi); refine wod_of rfl rfl rfl (wp_call (by go_simp) (disk_on (g := g) (D := D1) (M := []) hS.pick) ?_); rintro e w9 ⟨rfl, rfl⟩; refine ⟨_, rfl, hS, ?_⟩; simp only [Act.put, List.setIfInBounds_toArray, List.set_cons_zero, List.set_cons_succ])
      (refine whd_take 20 rfl rfl (by kernel_rfl) (by kernel_rfl) (by kernel_rfl) (fun _ _ _ h => h) rfl (fun W hW => (by (go_simp; try with_reducible rfl))) hS ?_; simp only [Act.put, List.setIfInBounds_toArray, List.set_cons_zero, List.set_cons_succ])
      (refine whd_take 21 rfl rfl (by kernel_rfl) (by kernel_rfl) (by kernel_rfl) (fun _ _ _ h => h) rfl (fun W hW => (by (go_simp; try with_reducible rfl))) hS ?_; simp only [Act.put, List.setIfInBounds_toArray, List.set_cons_zero, List.set_cons_succ])
      (refine whd_take 22 rfl rfl (by kernel_rfl) (by kernel_rfl) (by kernel_rfl) (fun _ _ _ h => h) rfl (fun W hW => (by (go_simp; try with_reducible rfl))) hS ?_; simp only [Act.put, List.setIfInBounds_toArray, List.set_cons_zero, List.set_cons_succ])
      (refine whd_take 23 rfl rfl (by kernel_rfl) (by kernel_rfl) (by kernel_rfl) (fun _ _ _ h => h) rfl (fun W hW => (by (go_simp; try with_reducible rfl))) hS ?_; simp only [Act.put, List.setIfInBounds_toArray, List.set_cons_zero, List.set_cons_succ])
      (refine whd_take 25 rfl rfl (by kernel_rfl) (by kernel_rfl) (by kernel_rfl) (fun _ _ _ h => h) rfl (fun W hW => (by (go_simp; try with_reducible rfl))) hS ?_; simp only [Act.put, List.setIfInBounds_toArray, List.set_cons_zero, List.set_cons_succ])
      (refine whd_take 26 rfl rfl (by kernel_rfl) (by kernel_rfl) (by kernel_rfl) (fun _ _ _ h => h) rfl (fun W hW => (by (go_simp; try with_reducible rfl))) hS ?_; simp only [Act.put, List.setIfInBounds_toArray, List.set_cons_zero, List.set_cons_succ])
      (refine whd_take 27 rfl rfl (by kernel_rfl) (by kernel_rfl) (by kernel_rfl) (fun _ _ _ h => h) rfl (fun W hW => (by (go_simp; try with_reducible rfl))) hS ?_; simp only [Act.put, List.setIfInBounds_toArray, List.set_cons_zero, List.set_cons_succ])
      (refine whd_take 28 rfl rfl (by kernel_rfl) (by kernel_rfl) (by kernel_rfl) (fun _ _ _ h => h) rfl (fun W hW => (by (first | exact a_load1 hW rfl rfl rfl rfl (by (repeat (first | exact Ix.here | apply Ix.there))) (by rfl) | exact a_loadE rfl (by (first | exact St.rdx hW (by (repeat (first | exact Ix.here | apply Ix.there))) | exact Reads.at (by assumption) hW (by (repeat (first | exact List.Sublist.refl _ | apply List.Sublist.cons))) | exact St.old0 hW (by assumption))) rfl rfl rfl (by intro _; rfl) (by (first | assumption | exact get_lt (by first | omega | (simp; omega)))) (by rfl) | exact a_loadF rfl (by (first | exact St.rdx hW (by (repeat (first | exact Ix.here | apply Ix.there))) | exact Reads.at (by assumption) hW (by (repeat (first | exact List.Sublist.refl _ | apply List.Sublist.cons))) | exact St.old0 hW (by assumption))) rfl rfl rfl (by intro _; rfl) (by (first | assumption | exact get_lt (by first | omega | (simp; omega)))) (by rfl) | exact a_loadG (vs := [_, _]) rfl (by (first | exact St.rdx hW (by (repeat (first | exact Ix.here | apply Ix.there))) | exact Reads.at (by assumption) hW (by (repeat (first | exact List.Sublist.refl _ | apply List.Sublist.cons))) | exact St.old0 hW (by assumption))) rfl rfl rfl (by rfl) (by intro _; rfl) (by (first | assumption | exact get_lt (by first | omega | (simp; omega)))) (by rfl) | exact a_loadG (vs := [_, _, _]) rfl (by (first | exact St.rdx hW (by (repeat (first | exact Ix.here | apply Ix.there))) | exact Reads.at (by assumption) hW (by (repeat (first | exact List.Sublist.refl _ | apply List.Sublist.cons))) | exact St.old0 hW (by assumption))) rfl rfl rfl (by rfl) (by intro _; rfl) (by (first | assumption | exact get_lt (by first | omega | (simp; omega)))) (by rfl) | exact a_loadG (vs := [_, _, _, _]) rfl (by (first | exact St.rdx hW (by (repeat (first | exact Ix.here | apply Ix.there))) | exact Reads.at (by assumption) hW (by (repeat (first | exact List.Sublist.refl _ | apply List.Sublist.cons))) | exact St.old0 hW (by assumption))) rfl rfl rfl (by rfl) (by intro _; rfl) (by (first | assumption | exact get_lt (by first | omega | (simp; omega)))) (by rfl) | exact a_loadG (vs := [_, _, _, _, _]) rfl (by (first | exact St.rdx hW (by (repeat (first | exact Ix.here | apply Ix.there))) | exact Reads.at (by assumption) hW (by (repeat (first | exact List.Sublist.refl _ | apply List.Sublist.cons))) | exact St.old0 hW (by assumption))) rfl rfl rfl (by rfl) (by intro _; rfl) (by (first | assumption | exact get_lt (by first | omega | (simp; omega)))) (by rfl) | exact a_loadR hW rfl rfl rfl rfl (by (repeat (first | exact Ix.here | apply Ix.there))) (by rfl)))) hS ?_; simp only [Act.put, List.setIfInBounds_toArray, List.set_cons_zero, List.set_cons_succ])
      (refine whd_take 29 rfl rfl (by kernel_rfl) (by kernel_rfl) (by kernel_rfl) (fun _ _ _ h => h) rfl (fun W hW => (by exact a_len rfl rfl rfl (by (first | exact St.rdx hW (by (repeat (first | exact Ix.here | apply Ix.there))) | exact Reads.at (by assumption) hW (by (repeat (first | exact List.Sublist.refl _ | apply List.Sublist.cons))) | exact St.old0 hW (by assumption))))) hS ?_; simp only [Act.put, List.setIfInBounds_toArray, List.set_cons_zero, List.set_cons_succ])
      ((refine wpAnyH_all (rs := [24]) (by kernel_rfl) (by simp) ?_; intro i hi; have hi := List.mem_singleton.1 hi; subst hi); refine wod_of rfl rfl rfl (wp_call (by go_simp) (disk_pending (g := g) (D := D1) (M := []) hS.pick) ?_); rintro e w9 ⟨rfl, rfl⟩; refine ⟨_, rfl, hS, ?_⟩; simp only [Act.put, List.setIfInBounds_toArray, List.set_cons_zero, List.set_cons_succ])
      (refine whd_take 30 rfl rfl (by kernel_rfl) (by kernel_rfl) (by kernel_rfl) (fun _ _ _ h => h) rfl (fun W hW => (by (go_simp; try with_reducible rfl))) hS ?_; simp only [Act.put, List.setIfInBounds_toArray, List.set_cons_zero, List.set_cons_succ])
      (refine whd_take 31 rfl rfl (by kernel_rfl) (by kernel_rfl) (by kernel_rfl) (fun _ _ _ h => h) rfl (fun W hW => (by (go_simp; try with_reducible rfl))) hS ?_; simp only [Act.put, List.setIfInBounds_toArray, List.set_cons_zero, List.set_cons_succ])
      (refine whd_take 32 rfl rfl (by kernel_rfl) (by kernel_rfl) (by kernel_rfl) (fun _ _ _ h => h) rfl (fun W hW => (by (go_simp; try with_reducible rfl))) hS ?_; simp only [Act.put, List.setIfInBounds_toArray, List.set_cons_zero, List.set_cons_succ])
      (refine whd_take 33 rfl rfl (by kernel_rfl) (by kernel_rfl) (by kernel_rfl) (fun _ _ _ h => h) rfl (fun W hW => (by (go_simp; try with_reducible rfl))) hS ?_; simp only [Act.put, List.setIfInBounds_toArray, List.set_cons_zero, List.set_cons_succ])
      (refine whd_take 35 rfl rfl (by kernel_rfl) (by kernel_rfl) (by kernel_rfl) (fun _ _ _ h => h) rfl (fun W hW => (by (go_simp; try with_reducible rfl))) hS ?_; simp only [Act.put, List.setIfInBounds_toArray, List.set_cons_zero, List.set_cons_succ])
      (refine whd_take 36 rfl rfl (by kernel_rfl) (by kernel_rfl) (by kernel_rfl) (fun _ _ _ h => h) rfl (fun W hW => (by (go_simp; try with_reducible rfl))) hS ?_; simp only [Act.put, List.setIfInBounds_toArray, List.set_cons_zero, List.set_cons_succ])
      (refine whd_take 37 rfl rfl (by kernel_rfl) (by kernel_rfl) (by kernel_rfl) (fun _ _ _ h => h) rfl (fun W hW => (by (go_simp; try with_reducible rfl))) hS ?_; simp only [Act.put, List.setIfInBounds_toArray, List.set_cons_zero, List.set_cons_succ])
      (refine whd_take 38 rfl rfl (by kernel_rfl) (by kernel_rfl) (by kernel_rfl) (fun _ _ _ h => h) rfl (fun W hW => (by (first | exact a_load1 hW rfl rfl rfl rfl (by (repeat (first | exact Ix.here | apply Ix.there))) (by rfl) | exact a_loadE rfl (by (first | exact St.rdx hW (by (repeat (first | exact Ix.here | apply Ix.there))) | exact Reads.at (by assumption) hW (by (repeat (first | exact List.Sublist.refl _ | apply List.Sublist.cons))) | exact St.old0 hW (by assumption))) rfl rfl rfl (by intro _; rfl) (by (first | assumption | exact get_lt (by first | omega | (simp; omega)))) (by rfl) | exact a_loadF rfl (by (first | exact St.rdx hW (by (repeat (first | exact Ix.here | apply Ix.there))) | exact Reads.at (by assumption) hW (by (repeat (first | exact List.Sublist.refl _ | apply List.Sublist.cons))) | exact St.old0 hW (by assumption))) rfl rfl rfl (by intro _; rfl) (by (first | assumption | exact get_lt (by first | omega | (simp; omega)))) (by rfl) | exact a_loadG (vs := [_, _]) rfl (by (first | exact St.rdx hW (by (repeat (first | exact Ix.here | apply Ix.there))) | exact Reads.at (by assumption) hW (by (repeat (first | exact List.Sublist.refl _ | apply List.Sublist.cons))) | exact St.old0 hW (by assumption))) rfl rfl rfl (by rfl) (by intro _; rfl) (by (first | assumption | exact get_lt (by first | omega | (simp; omega)))) (by rfl) | exact a_loadG (vs := [_, _, _]) rfl (by (first | exact St.rdx hW (by (repeat (first | exact Ix.here | apply Ix.there))) | exact Reads.at (by assumption) hW (by (repeat (first | exact List.Sublist.refl _ | apply List.Sublist.cons))) | exact St.old0 hW (by assumption))) rfl rfl rfl (by rfl) (by intro _; rfl) (by (first | assumption | exact get_lt (by first | omega | (simp; omega)))) (by rfl) | exact a_loadG (vs := [_, _, _, _]) rfl (by (first | exact St.rdx hW (by (repeat (first | exact Ix.here | apply Ix.there))) | exact Reads.at (by assumption) hW (by (repeat (first | exact List.Sublist.refl _ | apply List.Sublist.cons))) | exact St.old0 hW (by assumption))) rfl rfl rfl (by rfl) (by intro _; rfl) (by (first | assumption | exact get_lt (by first | omega | (simp; omega)))) (by rfl) | exact a_loadG (vs := [_, _, _, _, _]) rfl (by (first | exact St.rdx hW (by (repeat (first | exact Ix.here | apply Ix.there))) | exact Reads.at (by assumption) hW (by (repeat (first | exact List.Sublist.refl _ | apply List.Sublist.cons))) | exact St.old0 hW (by assumption))) rfl rfl rfl (by rfl) (by intro _; rfl) (by (first | assumption | exact get_lt (by first | omega | (simp; omega)))) (by rfl) | exact a_loadR hW rfl rfl rfl rfl (by (repeat (first | exact Ix.here | apply Ix.there))) (by rfl)))) hS ?_; simp only [Act.put, List.setIfInBounds_toArray, List.set_cons_zero, List.set_cons_succ])
      ((refine wpAnyH_all (rs := [34]) (by kernel_rfl) (by simp) ?_; intro i hi; have hi := List.mem_singleton.1 hi; subst hi); refine wod_of rfl rfl rfl (wp_call (by go_simp) (disk_steps (g := g) (D := D1) (M := []) hS.pick) ?_); rintro e w9 ⟨rfl, rfl⟩; refine ⟨_, rfl, hS, ?_⟩; simp only [Act.put, List.setIfInBounds_toArray, List.set_cons_zero, List.set_cons_succ])
      (refine whd_take 39 rfl rfl (by kernel_rfl) (by kernel_rfl) (by kernel_rfl) (fun _ _ _ h => h) rfl (fun W hW => (by (go_simp; try with_reducible rfl))) hS ?_; simp only [Act.put, List.setIfInBounds_toArray, List.set_cons_zero, List.set_cons_succ])
      (refine whd_take 40 rfl rfl (by kernel_rfl) (by kernel_rfl) (by kernel_rfl) (fun _ _ _ h => h) rfl (fun W hW => (by (go_simp; try with_reducible rfl))) hS ?_; simp only [Act.put, List.setIfInBounds_toArray, List.set_cons_zero, List.set_cons_succ])
      (refine wpAnyH_done (by kernel_rfl) ?_ _)
      replace hS := hB _ _ hS
      try simp only [List.append_nil] at hS
      go_wp2_with (fail)
      clear hget HD HM HK hR hB HOK
      try simp only [Int.toNat_natCast]
      obtain ⟨pv, hpv⟩ : ∃ pv, ptrAt vl (j * 7) = pv := ⟨_, rfl⟩
      simp only [hpv]
      clear hpv
      go_loopw [10] (fun k wr => ∃ m : Nat, m ≤ n + 2 ∧ k = .int .i64 ((m : Int) - 1) ∧ St [] w wr (ropen g2 vl2 vm2 vw2 D1 [disk g D1])) (fun k _ => (n + 1 - intOf k).toNat)
      case atStart => exact ⟨0, by omega, rfl, hS⟩
      case round =>
        clear hS
        obtain ⟨m, hm, rfl, hS⟩ := hrel
        obtain ⟨k, hk⟩ : ∃ k : Int, (m : Int) - 1 = k := ⟨_, rfl⟩
        rw [hk]
        have hk1 : -1 ≤ k := by omega
        simp only [ropen] at hS
        by_cases hkn : k ≤ n
        · go_wp2_with (fail)
          refine (disk_read (g := g) (D := D1) (M := ropen g2 vl2 vm2 vw2 D1 []) (by simp only [ropen]; exact hS.pick) K1.out.ok k).mono ?_
          clear hS
          rintro e w' ⟨rfl, hS⟩
          simp only [ropen] at hS
          go_wp2_with (fail)
          refine (rdisk_read (g := g2) (D := D1) (M := [disk g D1]) (St.packs (vl2, vm2, vw2) hS) K1.out.ok k).mono ?_
          rintro e w' ⟨rfl, rfl⟩
          go_wp2_with (fail)
          have hml := K1.out.ok.len
          replace hS := hS.sel (N := ropen g2 vl2 vm2 vw2 D1 [disk g D1]) (by simp only [ropen]; (repeat (first | exact Sel.refl | exact Sel.nil | refine Sel.cons (by (repeat (first | exact Out.here | apply Out.there))) ?_ | refine Sel.drop ?_)))
          simp only [ropen] at hS
          have cM := fun (W : World) (hW : St [] w W (ropen g2 vl2 vm2 vw2 D1 [disk g D1])) => disk_marked (g := g) (D := D1) (M := ropen g2 vl2 vm2 vw2 D1 []) (by simp only [ropen] at hW ⊢; exact hW.pick) K1.out.ok k
          have cI := fun (W : World) (hW : St [] w W (ropen g2 vl2 vm2 vw2 D1 [disk g D1])) => rdisk_is (g := g2) (D := D1) (M := [disk g D1]) (St.packs (vl2, vm2, vw2) (by simp only [ropen] at hW; exact hW)) k
          have cL := fun (W : World) (hW : St [] w W (ropen g2 vl2 vm2 vw2 D1 [disk g D1])) => disk_lasts (g := g) (D := D1) (M := ropen g2 vl2 vm2 vw2 D1 []) (by simp only [ropen] at hW ⊢; exact hW.pick) k
          simp only [ropen] at cM cI cL
          obtain ⟨⟨rs, re⟩, hR⟩ : ∃ R, D1.read k = R := ⟨_, rfl⟩
          rw [hR]
          simp only
          by_cases hi : D1.is k = true
          · simp only [hi, Bool.true_and, if_true] at cM cI cL
            obtain ⟨i1, i2⟩ := Dsk.is_lt hi
            have i3 : k < D1.mark.length := by rw [hml]; exact i2
            have HcM := Lib.hid cM
            have HcI := Lib.hid cI
            have HcL := Lib.hid cL
            clear hi hR hml cM cI cL
            refine region_calm (by kernel_rfl) (by kernel_rfl) hS ?_
            iterate 11 (refine Calm.pure rfl (h := ?_); simp only [Act.put, List.setIfInBounds_toArray, List.set_cons_zero, List.set_cons_succ])
            (refine Calm.call (calm_same HcM.out) rfl (h := ?_); simp only [Act.put, List.setIfInBounds_toArray, List.set_cons_zero, List.set_cons_succ])
            iterate 2 (refine Calm.pure rfl (h := ?_); simp only [Act.put, List.setIfInBounds_toArray, List.set_cons_zero, List.set_cons_succ])
            (refine Calm.call (calm_same HcI.out) rfl (h := ?_); simp only [Act.put, List.setIfInBounds_toArray, List.set_cons_zero, List.set_cons_succ])
            iterate 4 (refine Calm.pure rfl (h := ?_); simp only [Act.put, List.setIfInBounds_toArray, List.set_cons_zero, List.set_cons_succ])
            (refine Calm.read rfl (h := ?_); simp only [Act.put, List.setIfInBounds_toArray, List.set_cons_zero, List.set_cons_succ])
            (refine Calm.pure rfl (h := ?_); simp only [Act.put, List.setIfInBounds_toArray, List.set_cons_zero, List.set_cons_succ])
            (refine Calm.idx rfl (h := ?_); simp only [Act.put, List.setIfInBounds_toArray, List.set_cons_zero, List.set_cons_succ])
            (refine Calm.read rfl (h := ?_); simp only [Act.put, List.setIfInBounds_toArray, List.set_cons_zero, List.set_cons_succ])
            iterate 6 (refine Calm.pure rfl (h := ?_); simp only [Act.put, List.setIfInBounds_toArray, List.set_cons_zero, List.set_cons_succ])
            (refine Calm.call (calm_same HcI.out) rfl (h := ?_); simp only [Act.put, List.setIfInBounds_toArray, List.set_cons_zero, List.set_cons_succ])
            iterate 3 (refine Calm.pure rfl (h := ?_); simp only [Act.put, List.setIfInBounds_toArray, List.set_cons_zero, List.set_cons_succ])
            (refine Calm.call (calm_same HcL.out) rfl (h := ?_); simp only [Act.put, List.setIfInBounds_toArray, List.set_cons_zero, List.set_cons_succ])
            iterate 3 (refine Calm.pure rfl (h := ?_); simp only [Act.put, List.setIfInBounds_toArray, List.set_cons_zero, List.set_cons_succ])
            (refine Calm.read rfl (h := ?_); simp only [Act.put, List.setIfInBounds_toArray, List.set_cons_zero, List.set_cons_succ])
            (refine Calm.pure rfl (h := ?_); simp only [Act.put, List.setIfInBounds_toArray, List.set_cons_zero, List.set_cons_succ])
            (refine Calm.idx rfl (h := ?_); simp only [Act.put, List.setIfInBounds_toArray, List.set_cons_zero, List.set_cons_succ])
            (refine Calm.read rfl (h := ?_); simp only [Act.put, List.setIfInBounds_toArray, List.set_cons_zero, List.set_cons_succ])
            iterate 6 (refine Calm.pure rfl (h := ?_); simp only [Act.put, List.setIfInBounds_toArray, List.set_cons_zero, List.set_cons_succ])
            (refine Calm.call (calm_same HcI.out) rfl (h := ?_); simp only [Act.put, List.setIfInBounds_toArray, List.set_cons_zero, List.set_cons_succ])
            iterate 2 (refine Calm.pure rfl (h := ?_); simp only [Act.put, List.setIfInBounds_toArray, List.set_cons_zero, List.set_cons_succ])
            iterate 4 (refine Calm.skip rfl ?_; simp only [Act.put, List.setIfInBounds_toArray, List.set_cons_zero, List.set_cons_succ])
            iterate 2 (refine Calm.pure rfl (h := ?_); simp only [Act.put, List.setIfInBounds_toArray, List.set_cons_zero, List.set_cons_succ])
            (refine Calm.nil ?_; clear hS; intro w8 hS)
            go_wp2_with (fail)
            refine ⟨?rel, ?measure⟩
            case rel => exact ⟨m + 1, by omega, congrArg (Value.int IntKind.i64) (by omega), hS⟩
            case measure => simp [intOf]; omega
          · replace hi : D1.is k = false := by simpa using hi
            simp only [hi, Bool.false_and, Bool.false_eq_true, if_false] at cM cI cL
            have HcM := Lib.hid cM
            have HcI := Lib.hid cI
            have HcL := Lib.hid cL
            clear hi hR hml cM cI cL
            refine region_calm (by kernel_rfl) (by kernel_rfl) hS ?_
            iterate 11 (refine Calm.pure rfl (h := ?_); simp only [Act.put, List.setIfInBounds_toArray, List.set_cons_zero, List.set_cons_succ])
            (refine Calm.call (calm_same HcM.out) rfl (h := ?_); simp only [Act.put, List.setIfInBounds_toArray, List.set_cons_zero, List.set_cons_succ])
            iterate 2 (refine Calm.pure rfl (h := ?_); simp only [Act.put, List.setIfInBounds_toArray, List.set_cons_zero, List.set_cons_succ])
            (refine Calm.call (calm_same HcI.out) rfl (h := ?_); simp only [Act.put, List.setIfInBounds_toArray, List.set_cons_zero, List.set_cons_succ])
            (refine Calm.pure rfl (h := ?_); simp only [Act.put, List.setIfInBounds_toArray, List.set_cons_zero, List.set_cons_succ])
            iterate 7 (refine Calm.skip rfl ?_; simp only [Act.put, List.setIfInBounds_toArray, List.set_cons_zero, List.set_cons_succ])
            iterate 6 (refine Calm.pure rfl (h := ?_); simp only [Act.put, List.setIfInBounds_toArray, List.set_cons_zero, List.set_cons_succ])
            (refine Calm.call (calm_same HcI.out) rfl (h := ?_); simp only [Act.put, List.setIfInBounds_toArray, List.set_cons_zero, List.set_cons_succ])
            (refine Calm.pure rfl (h := ?_); simp only [Act.put, List.setIfInBounds_toArray, List.set_cons_zero, List.set_cons_succ])
            iterate 11 (refine Calm.skip rfl ?_; simp only [Act.put, List.setIfInBounds_toArray, List.set_cons_zero, List.set_cons_succ])
            iterate 5 (refine Calm.pure rfl (h := ?_); simp only [Act.put, List.setIfInBounds_toArray, List.set_cons_zero, List.set_cons_succ])
            (refine Calm.call (calm_same HcI.out) rfl (h := ?_); simp only [Act.put, List.setIfInBounds_toArray, List.set_cons_zero, List.set_cons_succ])
            iterate 4 (refine Calm.pure rfl (h := ?_); simp only [Act.put, List.setIfInBounds_toArray, List.set_cons_zero, List.set_cons_succ])
            (refine Calm.call (calm_same HcL.out) rfl (h := ?_); simp only [Act.put, List.setIfInBounds_toArray, List.set_cons_zero, List.set_cons_succ])
            iterate 3 (refine Calm.pure rfl (h := ?_); simp only [Act.put, List.setIfInBounds_toArray, List.set_cons_zero, List.set_cons_succ])
            (refine Calm.nil ?_; clear hS; intro w8 hS)
            go_wp2_with (fail)
            refine ⟨?rel, ?measure⟩
            case rel => exact ⟨m + 1, by omega, congrArg (Value.int IntKind.i64) (by omega), hS⟩
            case measure => simp [intOf]; omega
        · go_wp2_with (fail)
          go_round
          case rel => exact ⟨j + 1, D1, by omega, by omega, by go_num, K1, (St.packs (vl2, vm2, vw2) hS : St [] w _ (rdisk g2 D1 :: [disk g D1])).pick⟩
          case measure => simp [intOf]; omega
    · by_cases hlt1 : (j : Int) < L.length
      all_goals
        try (have hlt2 : ¬ (j : Int) < 60 := by omega)
        go_wp2_with (first | ((with_reducible refine g_len ?_); refine wl_run rfl (a_len rfl rfl rfl (hS.old0 hL)) ?_) | (first | ((with_reducible refine g_load ?_); refine k_read rfl (h := ?_)) | ((with_reducible refine g_len ?_); refine k_len rfl (h := ?_)) | ((with_reducible refine g_index ?_); refine k_idx rfl (h := ?_)) | ((with_reducible refine g_field ?_); refine k_fld rfl (h := ?_)) | ((with_reducible refine g_store ?_); refine wl_of rfl ?_; first | (refine k_sta hS rfl rfl rfl (h := ?_); clear hS; intro w' hS; simp only [List.take, List.drop, List.cons_append, List.nil_append, List.length_cons, List.length_nil] at hS) | (first | ((first | (refine k_st1 (v := .int _ _) hS rfl rfl rfl (h := ?_)) | (refine k_st1 (v := .bool _) hS rfl rfl rfl (h := ?_)) | (refine k_st1 (v := .string _) hS rfl rfl rfl (h := ?_)) | (refine k_st1 (v := .slice none 0 0) hS rfl rfl rfl (h := ?_))); clear hS; intro w' hS; simp only [List.set_cons_zero, List.set_cons_succ] at hS) | ((refine k_st1  hS rfl rfl rfl (h := ?_)); clear hS; intro w' hS; simp only [List.set_cons_zero, List.set_cons_succ] at hS; simp only [Act.eval, Array.getD_eq_getD_getElem?, List.getElem?_toArray, List.getElem?_cons_succ, List.getElem?_cons_zero, Option.getD_some] at hS)) | (first | (refine k_ste (v := .int _ _) hS rfl rfl rfl (h := ?_); clear hS; intro w' hS) | (refine k_ste (v := .bool _) hS rfl rfl rfl (h := ?_); clear hS; intro w' hS) | (refine k_ste (v := .string _) hS rfl rfl rfl (h := ?_); clear hS; intro w' hS))) | ((with_reducible refine g_alloc ?_); refine wl_of rfl ?_; refine wp_alloc hS rfl rfl rfl rfl ?_; clear hS; intro gb w1 hS) | ((with_reducible refine g_box ?_); refine wl_of rfl ?_; refine wp_box hS rfl rfl rfl ?_; clear hS; intro gb w1 hS) | ((with_reducible refine g_bs ?_); refine wl_of rfl ?_; (first | refine a_build1 (v := .int _ _) hS rfl rfl rfl rfl (by rfl) (by simp) ?_ | refine a_build1 (v := .string _) hS rfl rfl rfl rfl (by rfl) (by simp) ?_ | refine a_build1 (v := .bool _) hS rfl rfl rfl rfl (by rfl) (by simp) ?_ | refine a_build1 (v := .agg _) hS rfl rfl rfl rfl (by rfl) (by simp) ?_ | refine a_build1  hS rfl rfl rfl rfl (by rfl) (by simp) ?_); clear hS; intro v1 w' hS; simp only [List.length_cons, List.length_nil, Nat.zero_add] at hS; try simp only [Nat.reduceAdd] at hS) | ((with_reducible refine g_cut ?_); refine k_str rfl (h := ?_)) | ((with_reducible refine g_indexV ?_); refine k_six rfl (h := ?_)) | ((with_reducible refine g_bin ?_); refine k_cat rfl (h := ?_)) | ((with_reducible refine g_conv ?_); refine k_tos rfl (h := ?_)) | ((with_reducible refine wl_guard ?_); refine stop_mem rfl rfl ?_)))
        go_ret
        exact ⟨rfl, hS.nil⟩
end
end Go.Proofs.Ythddaflpoklglaa
