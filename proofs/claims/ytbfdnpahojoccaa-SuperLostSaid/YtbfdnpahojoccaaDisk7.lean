/-
  A new disk.
-/
import Derived.Test.YtbfdnpahojoccaaDisk2
set_option linter.unusedSimpArgs false
set_option linter.unusedVariables false
set_option linter.unusedSectionVars false
set_option maxRecDepth 100000
namespace Go.Proofs.Ytbfdnpahojoccaa
open Go.RowKit Go.Cmp

section
variable {S : List Nat} {w0 w : World} {M : List Ent}

def zeros (k : Nat) : List UInt8 := List.replicate k 0
theorem zeros_len (k : Nat) : (zeros k).length = k := by unfold zeros; exact List.length_replicate
def newDsk (n : Nat) : Dsk := ⟨List.replicate n (zeros 384), List.replicate n false, [], false, 0, 0⟩
theorem newDsk_ok (n : Nat) (h : n ≤ 64) : (newDsk n).Ok := by
  refine ⟨by simp [newDsk], by simp [newDsk]; exact h, ?_, by simp [newDsk], by simp [newDsk], by simp [newDsk], by simp [newDsk], by simp [newDsk], by simp [newDsk]⟩
  intro s hs
  simp only [newDsk, List.mem_replicate] at hs
  rw [hs.2]
  exact zeros_len _
def fillD (n j : Nat) : List (List UInt8) := List.replicate j (zeros 384) ++ List.replicate (n - j) []
theorem fillD_set {n j : Nat} (h : j < n) : (fillD n j).set j (zeros 384) = fillD n (j + 1) := by
  unfold fillD
  rw [List.set_append_right _ _ (by simp), List.length_replicate, Nat.sub_self]
  obtain ⟨m, hm⟩ : ∃ m, n - j = m + 1 := ⟨n - j - 1, by omega⟩
  rw [hm, show n - (j + 1) = m by omega, List.replicate_succ, List.set_cons_zero, List.replicate_succ']
  simp
theorem B_zeros (n : Nat) : List.replicate n (Value.int .u8 0) = (zeros n).flatMap byt := by
  unfold zeros
  induction n with
  | zero => rfl
  | succ n ih => rw [List.replicate_succ, List.replicate_succ, List.flatMap_cons, ← ih]; rfl
theorem flat_rep {α : Type} (f : α → List Value) (x : α) (z : Value) (h : f x = [z]) (n : Nat) : List.replicate n z = (List.replicate n x).flatMap f := by
  induction n with
  | zero => rfl
  | succ n ih => rw [List.replicate_succ, List.replicate_succ, List.flatMap_cons, ← ih, h]; rfl

set_option maxHeartbeats 2000000 in
theorem disk_new_bad (n : Int) (h : n < 1 ∨ 64 < n) : Calls Try.prog 11 #[.int .i64 n] w fun e w' => e = .returned (.tuple #[.pointer none, .int .i64 1]) ∧ w' = w := by
  (go_enter Try.func11, Try.ntmps11)
  go_wp2_with (fail)
  all_goals
    go_ret2
    exact ⟨rfl, rfl⟩

set_option maxHeartbeats 2000000 in
theorem disk_new (n : Nat) (h1 : 1 ≤ n) (h2 : n ≤ 64) (hS : St S w0 w M) : Calls Try.prog 11 #[.int .i64 n] w fun e w' => ∃ g, e = .returned (.tuple #[.pointer (some ⟨g, 0, none⟩), .int .i64 0]) ∧ St S w0 w' (disk g (newDsk n) :: M) := by
  (go_enter Try.func11, Try.ntmps11)
  go_wp2_with (fail)
  have hS0 := hS
  clear hS
  have hS := (St.init w).drew
  refine wp_region_held (S := fun W => Cmp.Mod [] w W) (by kernel_rfl) ?_
  change wpAnyH _ _ _ _ _ _ _ _ w.drew
  generalize w.drew = w2 at hS ⊢
  (refine whd_take 0 rfl rfl (by kernel_rfl) (by kernel_rfl) (by kernel_rfl) (fun _ _ _ h => h) rfl (fun W hW => by (go_simp; try with_reducible rfl)) hS.base ?_; simp only [Act.put, List.setIfInBounds_toArray, List.set_cons_zero, List.set_cons_succ])
  (refine whd_take 2 rfl rfl (by kernel_rfl) (by kernel_rfl) (by kernel_rfl) (fun _ _ _ h => h) rfl (fun W hW => by (go_simp; try with_reducible rfl)) hS.base ?_; simp only [Act.put, List.setIfInBounds_toArray, List.set_cons_zero, List.set_cons_succ])
  (refine wpAnyH_all (rs := [1, 3]) (by kernel_rfl) (by simp) ?_; intro i hi; simp only [List.mem_cons, List.not_mem_nil, or_false] at hi)
  rcases hi with rfl | rfl
  · (refine wod_of rfl rfl rfl (a_make hS rfl rfl rfl rfl (by rfl) rfl (by omega) (by omega) ?_); clear hS; intro vl w3 hS; refine ⟨hS.base, ?_⟩; simp only [Act.put, List.setIfInBounds_toArray, List.set_cons_zero, List.set_cons_succ])
    (refine wpAnyH_all (rs := [3]) (by kernel_rfl) (by simp) ?_; intro i hi; simp only [List.mem_cons, List.not_mem_nil, or_false] at hi)
    subst hi
    (refine wod_of rfl rfl rfl (a_make hS rfl rfl rfl rfl (by rfl) rfl (by omega) (by omega) ?_); clear hS; intro vm w3 hS; refine ⟨hS.base, ?_⟩; simp only [Act.put, List.setIfInBounds_toArray, List.set_cons_zero, List.set_cons_succ])
    have hRl : ∃ p c, vl = .slice p (n : Int).toNat c := (St.rdx (v := vl) hS (by (repeat (first | exact Ix.here | apply Ix.there)))).shape
    have hRm : ∃ p c, vm = .slice p (n : Int).toNat c := (St.rdx (v := vm) hS (by (repeat (first | exact Ix.here | apply Ix.there)))).shape
    (refine whd_take (v := (.agg #[vl, vm, .slice none 0 0, .bool false, .int .i64 0, .int .i64 0])) 4 rfl rfl (by kernel_rfl) (by kernel_rfl) (by kernel_rfl) (fun _ _ _ h => h) rfl (fun W hW => by (obtain ⟨p1, c1, e1⟩ := hRl; obtain ⟨p2, c2, e2⟩ := hRm; subst e1; subst e2; go_simp)) hS.base ?_; simp only [Act.put, List.setIfInBounds_toArray, List.set_cons_zero, List.set_cons_succ])
    clear hRl hRm
    (refine wpAnyH_all (rs := [5]) (by kernel_rfl) (by simp) ?_; intro i hi; simp only [List.mem_cons, List.not_mem_nil, or_false] at hi)
    subst hi
    (refine wod_of rfl rfl rfl (wp_box hS rfl rfl rfl ?_); clear hS; intro gb w1 hS; refine ⟨hS.base, ?_⟩; simp only [Act.put, List.setIfInBounds_toArray, List.set_cons_zero, List.set_cons_succ])
    (refine whd_take 6 rfl rfl (by kernel_rfl) (by kernel_rfl) (by kernel_rfl) (fun _ _ _ h => h) rfl (fun W hW => by (go_simp; try with_reducible rfl)) hS.base ?_; simp only [Act.put, List.setIfInBounds_toArray, List.set_cons_zero, List.set_cons_succ])
    (refine wpAnyH_done (by kernel_rfl) ?_ _)
    have hS := hS0.call hS
    simp only [List.cons_append, List.nil_append] at hS
    go_wp2_with (first | refine au1 (n := ?_) | (refine au2 (n := ?_); clear hS; intro w' hS) | (refine au3 (n := ?_); clear hS; intro gb w1 hS) | (refine au4 (n := ?_); clear hS; intro v1 w' hS) | ((with_reducible refine wl_guard ?_); refine stop_mem rfl rfl ?_))
    rw [Int.toNat_natCast, flat_rep str [] _ rfl, flat_rep bl false _ rfl] at hS
    go_loopw [23] (fun i wr => ∃ j : Nat, j ≤ n ∧ i = .int .i64 j ∧ St S w0 wr (.row gb [vl, vm, .slice none 0 0, .bool false, .int .i64 0, .int .i64 0] 77 (0, 0) :: .vec vl 9 1 (fillD n j).length ((fillD n j).flatMap str) :: .vec vm 4 1 (List.replicate n false).length ((List.replicate n false).flatMap bl) :: M)) (fun i _ => n - (intOf i).toNat)
    case atStart =>
      refine ⟨0, Nat.zero_le _, rfl, ?_⟩
      have e : fillD n 0 = List.replicate n [] := by simp [fillD]
      rw [e, List.length_replicate, List.length_replicate]
      exact hS.sel (by (repeat (first | exact Sel.refl | exact Sel.nil | refine Sel.cons (by (repeat (first | exact Out.here | apply Out.there))) ?_ | refine Sel.drop ?_)))
    case round =>
      clear hS hS0
      obtain ⟨j, hj, rfl, hS⟩ := hrel
      have hfl : (fillD n j).length = n := by simp [fillD]; omega
      have HFL := Lib.hid hfl
      by_cases hlt : j < n
      · have hlf : j < (fillD n j).length := by omega
        clear hfl
        go_wp2_with (first | refine au1 (n := ?_) | (refine au2 (n := ?_); clear hS; intro w' hS) | (refine au3 (n := ?_); clear hS; intro gb w1 hS) | (refine au4 (n := ?_); clear hS; intro v1 w' hS) | ((with_reducible refine wl_guard ?_); refine stop_mem rfl rfl ?_))
        have hRl : Rd wr 1 vl _ _ := St.rdx (v := vl) (e := 9) (k := 1) (n := (fillD n j).length) (xs := (fillD n j).flatMap str) hS (by (repeat (first | exact Ix.here | apply Ix.there)))
        obtain ⟨F, hA, hR, hB⟩ := St.split (A := [.vec vl 9 1 (fillD n j).length ((fillD n j).flatMap str)]) (hS.sel (by (repeat (first | exact Sel.refl | exact Sel.nil | refine Sel.cons (by (repeat (first | exact Out.here | apply Out.there))) ?_ | refine Sel.drop ?_))) : St S w0 wr ([.vec vl 9 1 (fillD n j).length ((fillD n j).flatMap str)] ++ (.row gb [vl, vm, .slice none 0 0, .bool false, .int .i64 0, .int .i64 0] 77 (0, 0) :: .vec vm 4 1 (List.replicate n false).length ((List.replicate n false).flatMap bl) :: M)))
        clear hS
        have hS := hA.drew
        clear hA
        refine wp_region_held (S := fun W => Cmp.Mod F wr W) (by kernel_rfl) ?_
        change wpAnyH _ _ _ _ _ _ _ _ wr.drew
        generalize wr.drew = w2 at hS ⊢
        (refine whd_take 0 rfl rfl (by kernel_rfl) (by kernel_rfl) (by kernel_rfl) (fun _ _ _ h => h) rfl (fun W hW => by (go_simp; try with_reducible rfl)) hS.base ?_; simp only [Act.put, List.setIfInBounds_toArray, List.set_cons_zero, List.set_cons_succ])
        (refine whd_take 1 rfl rfl (by kernel_rfl) (by kernel_rfl) (by kernel_rfl) (fun _ _ _ h => h) rfl (fun W hW => by (go_simp; try with_reducible rfl)) hS.base ?_; simp only [Act.put, List.setIfInBounds_toArray, List.set_cons_zero, List.set_cons_succ])
        (refine whd_take 2 rfl rfl (by kernel_rfl) (by kernel_rfl) (by kernel_rfl) (fun _ _ _ h => h) rfl (fun W hW => by (go_simp; try with_reducible rfl)) hS.base ?_; simp only [Act.put, List.setIfInBounds_toArray, List.set_cons_zero, List.set_cons_succ])
        (refine whd_take 3 rfl rfl (by kernel_rfl) (by kernel_rfl) (by kernel_rfl) (fun _ _ _ h => h) rfl (fun W hW => (by (first | exact a_load1 (hR W hW) rfl rfl rfl rfl (by (repeat (first | exact Ix.here | apply Ix.there))) (by rfl) | exact a_loadE rfl (by (first | exact St.rdx (hR W hW) (by (repeat (first | exact Ix.here | apply Ix.there))) | exact Reads.at (by assumption) (hR W hW) (by (repeat (first | exact List.Sublist.refl _ | apply List.Sublist.cons))) | exact St.old0 (hR W hW) (by assumption))) rfl rfl rfl (by intro _; rfl) (by (first | assumption | exact get_lt (by first | omega | (simp; omega)))) (by rfl) | exact a_loadF rfl (by (first | exact St.rdx (hR W hW) (by (repeat (first | exact Ix.here | apply Ix.there))) | exact Reads.at (by assumption) (hR W hW) (by (repeat (first | exact List.Sublist.refl _ | apply List.Sublist.cons))) | exact St.old0 (hR W hW) (by assumption))) rfl rfl rfl (by intro _; rfl) (by (first | assumption | exact get_lt (by first | omega | (simp; omega)))) (by rfl) | exact a_loadG (vs := [_, _]) rfl (by (first | exact St.rdx (hR W hW) (by (repeat (first | exact Ix.here | apply Ix.there))) | exact Reads.at (by assumption) (hR W hW) (by (repeat (first | exact List.Sublist.refl _ | apply List.Sublist.cons))) | exact St.old0 (hR W hW) (by assumption))) rfl rfl rfl (by rfl) (by intro _; rfl) (by (first | assumption | exact get_lt (by first | omega | (simp; omega)))) (by rfl) | exact a_loadG (vs := [_, _, _]) rfl (by (first | exact St.rdx (hR W hW) (by (repeat (first | exact Ix.here | apply Ix.there))) | exact Reads.at (by assumption) (hR W hW) (by (repeat (first | exact List.Sublist.refl _ | apply List.Sublist.cons))) | exact St.old0 (hR W hW) (by assumption))) rfl rfl rfl (by rfl) (by intro _; rfl) (by (first | assumption | exact get_lt (by first | omega | (simp; omega)))) (by rfl) | exact a_loadG (vs := [_, _, _, _]) rfl (by (first | exact St.rdx (hR W hW) (by (repeat (first | exact Ix.here | apply Ix.there))) | exact Reads.at (by assumption) (hR W hW) (by (repeat (first | exact List.Sublist.refl _ | apply List.Sublist.cons))) | exact St.old0 (hR W hW) (by assumption))) rfl rfl rfl (by rfl) (by intro _; rfl) (by (first | assumption | exact get_lt (by first | omega | (simp; omega)))) (by rfl) | exact a_loadG (vs := [_, _, _, _, _]) rfl (by (first | exact St.rdx (hR W hW) (by (repeat (first | exact Ix.here | apply Ix.there))) | exact Reads.at (by assumption) (hR W hW) (by (repeat (first | exact List.Sublist.refl _ | apply List.Sublist.cons))) | exact St.old0 (hR W hW) (by assumption))) rfl rfl rfl (by rfl) (by intro _; rfl) (by (first | assumption | exact get_lt (by first | omega | (simp; omega)))) (by rfl) | exact a_loadR (hR W hW) rfl rfl rfl rfl (by (repeat (first | exact Ix.here | apply Ix.there))) (by rfl)))) hS.base ?_; simp only [Act.put, List.setIfInBounds_toArray, List.set_cons_zero, List.set_cons_succ])
        (refine whd_take 4 rfl rfl (by kernel_rfl) (by kernel_rfl) (by kernel_rfl) (fun _ _ _ h => h) rfl (fun W hW => by (go_simp; try with_reducible rfl)) hS.base ?_; simp only [Act.put, List.setIfInBounds_toArray, List.set_cons_zero, List.set_cons_succ])
        (refine wpAnyH_all (rs := [5]) (by kernel_rfl) (by simp) ?_; intro i hi; simp only [List.mem_cons, List.not_mem_nil, or_false] at hi)
        subst hi
        (refine wod_of rfl rfl rfl (a_make hS rfl rfl rfl rfl (by rfl) rfl (by omega) (by omega) ?_); clear hS; intro vb w3 hS; refine ⟨hS.base, ?_⟩; simp only [Act.put, List.setIfInBounds_toArray, List.set_cons_zero, List.set_cons_succ])
        rw [B_zeros] at hS
        (refine wpAnyH_all (rs := [6]) (by kernel_rfl) (by simp) ?_; intro i hi; simp only [List.mem_cons, List.not_mem_nil, or_false] at hi)
        subst hi
        refine wod_of rfl rfl rfl (wp_run (a_toString3 rfl rfl rfl rfl rfl (by (first | exact St.rdx hS (by (repeat (first | exact Ix.here | apply Ix.there))) | exact Reads.at (by assumption) hS (by (repeat (first | exact List.Sublist.refl _ | apply List.Sublist.cons))) | exact St.old0 hS (by assumption))) (zeros_len _)) ?_)
        refine ⟨hS.base, ?_⟩
        simp only [Act.put, List.setIfInBounds_toArray, List.set_cons_zero, List.set_cons_succ]
        (refine whd_take 7 rfl rfl (by kernel_rfl) (by kernel_rfl) (by kernel_rfl) (fun _ _ _ h => h) rfl (fun W hW => (by exact a_indexW rfl rfl rfl rfl hRl (by rfl) (by omega) (by omega))) hS.base ?_; simp only [Act.put, List.setIfInBounds_toArray, List.set_cons_zero, List.set_cons_succ])
        (refine wpAnyH_all (rs := [8]) (by kernel_rfl) (by simp) ?_; intro i hi; simp only [List.mem_cons, List.not_mem_nil, or_false] at hi)
        subst hi
        refine won_of rfl rfl rfl (a_storeE (v := .string _) hS rfl rfl rfl rfl rfl (by rfl) rfl (by (repeat (first | exact Sw.here | apply Sw.there))) (by intro _; rfl) (by omega) (by rfl) ?_)
        clear hS
        intro w4 hS
        refine ⟨hS.base, ?_⟩
        (refine wpAnyH_done (by kernel_rfl) ?_ _)
        have hS := hB _ _ hS
        go_wp2_with (first | refine au1 (n := ?_) | (refine au2 (n := ?_); clear hS; intro w' hS) | (refine au3 (n := ?_); clear hS; intro gb w1 hS) | (refine au4 (n := ?_); clear hS; intro v1 w' hS) | ((with_reducible refine wl_guard ?_); refine stop_mem rfl rfl ?_))
        go_round
        case rel =>
          refine ⟨j + 1, by omega, by go_num, ?_⟩
          rw [← fillD_set hlt]
          exact hS.sel (by (repeat (first | exact Sel.refl | exact Sel.nil | refine Sel.cons (by (repeat (first | exact Out.here | apply Out.there))) ?_ | refine Sel.drop ?_)))
        case measure => simp [intOf]; omega
      · obtain rfl : j = n := by omega
        go_wp2_with (first | refine au1 (n := ?_) | (refine au2 (n := ?_); clear hS; intro w' hS) | (refine au3 (n := ?_); clear hS; intro gb w1 hS) | (refine au4 (n := ?_); clear hS; intro v1 w' hS) | ((with_reducible refine wl_guard ?_); refine stop_mem rfl rfl ?_))
        go_ret2
        have e : fillD j j = List.replicate j (zeros 384) := by simp only [fillD, Nat.sub_self]; exact List.append_nil _
        rw [e] at hS
        refine ⟨gb, rfl, ?_⟩
        have hS := hS.addNil 85 2
        exact St.packs (vl, vm, .slice none 0 0) hS
  · (refine wod_of rfl rfl rfl (a_make hS rfl rfl rfl rfl (by rfl) rfl (by omega) (by omega) ?_); clear hS; intro vm w3 hS; refine ⟨hS.base, ?_⟩; simp only [Act.put, List.setIfInBounds_toArray, List.set_cons_zero, List.set_cons_succ])
    (refine wpAnyH_all (rs := [1]) (by kernel_rfl) (by simp) ?_; intro i hi; simp only [List.mem_cons, List.not_mem_nil, or_false] at hi)
    subst hi
    (refine wod_of rfl rfl rfl (a_make hS rfl rfl rfl rfl (by rfl) rfl (by omega) (by omega) ?_); clear hS; intro vl w3 hS; refine ⟨hS.base, ?_⟩; simp only [Act.put, List.setIfInBounds_toArray, List.set_cons_zero, List.set_cons_succ])
    have hRl : ∃ p c, vl = .slice p (n : Int).toNat c := (St.rdx (v := vl) hS (by (repeat (first | exact Ix.here | apply Ix.there)))).shape
    have hRm : ∃ p c, vm = .slice p (n : Int).toNat c := (St.rdx (v := vm) hS (by (repeat (first | exact Ix.here | apply Ix.there)))).shape
    (refine whd_take (v := (.agg #[vl, vm, .slice none 0 0, .bool false, .int .i64 0, .int .i64 0])) 4 rfl rfl (by kernel_rfl) (by kernel_rfl) (by kernel_rfl) (fun _ _ _ h => h) rfl (fun W hW => by (obtain ⟨p1, c1, e1⟩ := hRl; obtain ⟨p2, c2, e2⟩ := hRm; subst e1; subst e2; go_simp)) hS.base ?_; simp only [Act.put, List.setIfInBounds_toArray, List.set_cons_zero, List.set_cons_succ])
    clear hRl hRm
    (refine wpAnyH_all (rs := [5]) (by kernel_rfl) (by simp) ?_; intro i hi; simp only [List.mem_cons, List.not_mem_nil, or_false] at hi)
    subst hi
    (refine wod_of rfl rfl rfl (wp_box hS rfl rfl rfl ?_); clear hS; intro gb w1 hS; refine ⟨hS.base, ?_⟩; simp only [Act.put, List.setIfInBounds_toArray, List.set_cons_zero, List.set_cons_succ])
    (refine whd_take 6 rfl rfl (by kernel_rfl) (by kernel_rfl) (by kernel_rfl) (fun _ _ _ h => h) rfl (fun W hW => by (go_simp; try with_reducible rfl)) hS.base ?_; simp only [Act.put, List.setIfInBounds_toArray, List.set_cons_zero, List.set_cons_succ])
    (refine wpAnyH_done (by kernel_rfl) ?_ _)
    have hS := hS0.call hS
    simp only [List.cons_append, List.nil_append] at hS
    go_wp2_with (first | refine au1 (n := ?_) | (refine au2 (n := ?_); clear hS; intro w' hS) | (refine au3 (n := ?_); clear hS; intro gb w1 hS) | (refine au4 (n := ?_); clear hS; intro v1 w' hS) | ((with_reducible refine wl_guard ?_); refine stop_mem rfl rfl ?_))
    rw [Int.toNat_natCast, flat_rep str [] _ rfl, flat_rep bl false _ rfl] at hS
    go_loopw [23] (fun i wr => ∃ j : Nat, j ≤ n ∧ i = .int .i64 j ∧ St S w0 wr (.row gb [vl, vm, .slice none 0 0, .bool false, .int .i64 0, .int .i64 0] 77 (0, 0) :: .vec vl 9 1 (fillD n j).length ((fillD n j).flatMap str) :: .vec vm 4 1 (List.replicate n false).length ((List.replicate n false).flatMap bl) :: M)) (fun i _ => n - (intOf i).toNat)
    case atStart =>
      refine ⟨0, Nat.zero_le _, rfl, ?_⟩
      have e : fillD n 0 = List.replicate n [] := by simp [fillD]
      rw [e, List.length_replicate, List.length_replicate]
      exact hS.sel (by (repeat (first | exact Sel.refl | exact Sel.nil | refine Sel.cons (by (repeat (first | exact Out.here | apply Out.there))) ?_ | refine Sel.drop ?_)))
    case round =>
      clear hS hS0
      obtain ⟨j, hj, rfl, hS⟩ := hrel
      have hfl : (fillD n j).length = n := by simp [fillD]; omega
      have HFL := Lib.hid hfl
      by_cases hlt : j < n
      · have hlf : j < (fillD n j).length := by omega
        clear hfl
        go_wp2_with (first | refine au1 (n := ?_) | (refine au2 (n := ?_); clear hS; intro w' hS) | (refine au3 (n := ?_); clear hS; intro gb w1 hS) | (refine au4 (n := ?_); clear hS; intro v1 w' hS) | ((with_reducible refine wl_guard ?_); refine stop_mem rfl rfl ?_))
        have hRl : Rd wr 1 vl _ _ := St.rdx (v := vl) (e := 9) (k := 1) (n := (fillD n j).length) (xs := (fillD n j).flatMap str) hS (by (repeat (first | exact Ix.here | apply Ix.there)))
        obtain ⟨F, hA, hR, hB⟩ := St.split (A := [.vec vl 9 1 (fillD n j).length ((fillD n j).flatMap str)]) (hS.sel (by (repeat (first | exact Sel.refl | exact Sel.nil | refine Sel.cons (by (repeat (first | exact Out.here | apply Out.there))) ?_ | refine Sel.drop ?_))) : St S w0 wr ([.vec vl 9 1 (fillD n j).length ((fillD n j).flatMap str)] ++ (.row gb [vl, vm, .slice none 0 0, .bool false, .int .i64 0, .int .i64 0] 77 (0, 0) :: .vec vm 4 1 (List.replicate n false).length ((List.replicate n false).flatMap bl) :: M)))
        clear hS
        have hS := hA.drew
        clear hA
        refine wp_region_held (S := fun W => Cmp.Mod F wr W) (by kernel_rfl) ?_
        change wpAnyH _ _ _ _ _ _ _ _ wr.drew
        generalize wr.drew = w2 at hS ⊢
        (refine whd_take 0 rfl rfl (by kernel_rfl) (by kernel_rfl) (by kernel_rfl) (fun _ _ _ h => h) rfl (fun W hW => by (go_simp; try with_reducible rfl)) hS.base ?_; simp only [Act.put, List.setIfInBounds_toArray, List.set_cons_zero, List.set_cons_succ])
        (refine whd_take 1 rfl rfl (by kernel_rfl) (by kernel_rfl) (by kernel_rfl) (fun _ _ _ h => h) rfl (fun W hW => by (go_simp; try with_reducible rfl)) hS.base ?_; simp only [Act.put, List.setIfInBounds_toArray, List.set_cons_zero, List.set_cons_succ])
        (refine whd_take 2 rfl rfl (by kernel_rfl) (by kernel_rfl) (by kernel_rfl) (fun _ _ _ h => h) rfl (fun W hW => by (go_simp; try with_reducible rfl)) hS.base ?_; simp only [Act.put, List.setIfInBounds_toArray, List.set_cons_zero, List.set_cons_succ])
        (refine whd_take 3 rfl rfl (by kernel_rfl) (by kernel_rfl) (by kernel_rfl) (fun _ _ _ h => h) rfl (fun W hW => (by (first | exact a_load1 (hR W hW) rfl rfl rfl rfl (by (repeat (first | exact Ix.here | apply Ix.there))) (by rfl) | exact a_loadE rfl (by (first | exact St.rdx (hR W hW) (by (repeat (first | exact Ix.here | apply Ix.there))) | exact Reads.at (by assumption) (hR W hW) (by (repeat (first | exact List.Sublist.refl _ | apply List.Sublist.cons))) | exact St.old0 (hR W hW) (by assumption))) rfl rfl rfl (by intro _; rfl) (by (first | assumption | exact get_lt (by first | omega | (simp; omega)))) (by rfl) | exact a_loadF rfl (by (first | exact St.rdx (hR W hW) (by (repeat (first | exact Ix.here | apply Ix.there))) | exact Reads.at (by assumption) (hR W hW) (by (repeat (first | exact List.Sublist.refl _ | apply List.Sublist.cons))) | exact St.old0 (hR W hW) (by assumption))) rfl rfl rfl (by intro _; rfl) (by (first | assumption | exact get_lt (by first | omega | (simp; omega)))) (by rfl) | exact a_loadG (vs := [_, _]) rfl (by (first | exact St.rdx (hR W hW) (by (repeat (first | exact Ix.here | apply Ix.there))) | exact Reads.at (by assumption) (hR W hW) (by (repeat (first | exact List.Sublist.refl _ | apply List.Sublist.cons))) | exact St.old0 (hR W hW) (by assumption))) rfl rfl rfl (by rfl) (by intro _; rfl) (by (first | assumption | exact get_lt (by first | omega | (simp; omega)))) (by rfl) | exact a_loadG (vs := [_, _, _]) rfl (by (first | exact St.rdx (hR W hW) (by (repeat (first | exact Ix.here | apply Ix.there))) | exact Reads.at (by assumption) (hR W hW) (by (repeat (first | exact List.Sublist.refl _ | apply List.Sublist.cons))) | exact St.old0 (hR W hW) (by assumption))) rfl rfl rfl (by rfl) (by intro _; rfl) (by (first | assumption | exact get_lt (by first | omega | (simp; omega)))) (by rfl) | exact a_loadG (vs := [_, _, _, _]) rfl (by (first | exact St.rdx (hR W hW) (by (repeat (first | exact Ix.here | apply Ix.there))) | exact Reads.at (by assumption) (hR W hW) (by (repeat (first | exact List.Sublist.refl _ | apply List.Sublist.cons))) | exact St.old0 (hR W hW) (by assumption))) rfl rfl rfl (by rfl) (by intro _; rfl) (by (first | assumption | exact get_lt (by first | omega | (simp; omega)))) (by rfl) | exact a_loadG (vs := [_, _, _, _, _]) rfl (by (first | exact St.rdx (hR W hW) (by (repeat (first | exact Ix.here | apply Ix.there))) | exact Reads.at (by assumption) (hR W hW) (by (repeat (first | exact List.Sublist.refl _ | apply List.Sublist.cons))) | exact St.old0 (hR W hW) (by assumption))) rfl rfl rfl (by rfl) (by intro _; rfl) (by (first | assumption | exact get_lt (by first | omega | (simp; omega)))) (by rfl) | exact a_loadR (hR W hW) rfl rfl rfl rfl (by (repeat (first | exact Ix.here | apply Ix.there))) (by rfl)))) hS.base ?_; simp only [Act.put, List.setIfInBounds_toArray, List.set_cons_zero, List.set_cons_succ])
        (refine whd_take 4 rfl rfl (by kernel_rfl) (by kernel_rfl) (by kernel_rfl) (fun _ _ _ h => h) rfl (fun W hW => by (go_simp; try with_reducible rfl)) hS.base ?_; simp only [Act.put, List.setIfInBounds_toArray, List.set_cons_zero, List.set_cons_succ])
        (refine wpAnyH_all (rs := [5]) (by kernel_rfl) (by simp) ?_; intro i hi; simp only [List.mem_cons, List.not_mem_nil, or_false] at hi)
        subst hi
        (refine wod_of rfl rfl rfl (a_make hS rfl rfl rfl rfl (by rfl) rfl (by omega) (by omega) ?_); clear hS; intro vb w3 hS; refine ⟨hS.base, ?_⟩; simp only [Act.put, List.setIfInBounds_toArray, List.set_cons_zero, List.set_cons_succ])
        rw [B_zeros] at hS
        (refine wpAnyH_all (rs := [6]) (by kernel_rfl) (by simp) ?_; intro i hi; simp only [List.mem_cons, List.not_mem_nil, or_false] at hi)
        subst hi
        refine wod_of rfl rfl rfl (wp_run (a_toString3 rfl rfl rfl rfl rfl (by (first | exact St.rdx hS (by (repeat (first | exact Ix.here | apply Ix.there))) | exact Reads.at (by assumption) hS (by (repeat (first | exact List.Sublist.refl _ | apply List.Sublist.cons))) | exact St.old0 hS (by assumption))) (zeros_len _)) ?_)
        refine ⟨hS.base, ?_⟩
        simp only [Act.put, List.setIfInBounds_toArray, List.set_cons_zero, List.set_cons_succ]
        (refine whd_take 7 rfl rfl (by kernel_rfl) (by kernel_rfl) (by kernel_rfl) (fun _ _ _ h => h) rfl (fun W hW => (by exact a_indexW rfl rfl rfl rfl hRl (by rfl) (by omega) (by omega))) hS.base ?_; simp only [Act.put, List.setIfInBounds_toArray, List.set_cons_zero, List.set_cons_succ])
        (refine wpAnyH_all (rs := [8]) (by kernel_rfl) (by simp) ?_; intro i hi; simp only [List.mem_cons, List.not_mem_nil, or_false] at hi)
        subst hi
        refine won_of rfl rfl rfl (a_storeE (v := .string _) hS rfl rfl rfl rfl rfl (by rfl) rfl (by (repeat (first | exact Sw.here | apply Sw.there))) (by intro _; rfl) (by omega) (by rfl) ?_)
        clear hS
        intro w4 hS
        refine ⟨hS.base, ?_⟩
        (refine wpAnyH_done (by kernel_rfl) ?_ _)
        have hS := hB _ _ hS
        go_wp2_with (first | refine au1 (n := ?_) | (refine au2 (n := ?_); clear hS; intro w' hS) | (refine au3 (n := ?_); clear hS; intro gb w1 hS) | (refine au4 (n := ?_); clear hS; intro v1 w' hS) | ((with_reducible refine wl_guard ?_); refine stop_mem rfl rfl ?_))
        go_round
        case rel =>
          refine ⟨j + 1, by omega, by go_num, ?_⟩
          rw [← fillD_set hlt]
          exact hS.sel (by (repeat (first | exact Sel.refl | exact Sel.nil | refine Sel.cons (by (repeat (first | exact Out.here | apply Out.there))) ?_ | refine Sel.drop ?_)))
        case measure => simp [intOf]; omega
      · obtain rfl : j = n := by omega
        go_wp2_with (first | refine au1 (n := ?_) | (refine au2 (n := ?_); clear hS; intro w' hS) | (refine au3 (n := ?_); clear hS; intro gb w1 hS) | (refine au4 (n := ?_); clear hS; intro v1 w' hS) | ((with_reducible refine wl_guard ?_); refine stop_mem rfl rfl ?_))
        go_ret2
        have e : fillD j j = List.replicate j (zeros 384) := by simp only [fillD, Nat.sub_self]; exact List.append_nil _
        rw [e] at hS
        refine ⟨gb, rfl, ?_⟩
        have hS := hS.addNil 85 2
        exact St.packs (vl, vm, .slice none 0 0) hS
end
end Go.Proofs.Ytbfdnpahojoccaa
