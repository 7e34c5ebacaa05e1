/-
  The document's disk: a new one.
-/
import Derived.Test.YtbfdnpahojoccaaRef3A
import Derived.Test.YtbfdnpahojoccaaGen
set_option linter.unusedSimpArgs false
set_option linter.unusedVariables false
set_option linter.unusedSectionVars false
set_option maxRecDepth 100000
namespace Go.Proofs.Ytbfdnpahojoccaa
open Go.RowKit Go.Cmp

section
variable {S : List Nat} {w0 w : World} {M : List Ent}

set_option maxHeartbeats 2000000 in
theorem rdisk_new_bad (n : Int) (h : n < 1 ∨ 64 < n) : Calls Try.prog 24 #[.int .i64 n] w fun e w' => e = .returned (.tuple #[.pointer none, .int .i64 1]) ∧ w' = w := by
  (go_enter Try.func24, Try.ntmps24)
  go_wp2_with (fail)
  all_goals
    go_ret2
    exact ⟨rfl, rfl⟩

set_option maxRecDepth 100000 in
set_option maxHeartbeats 2000000 in
theorem rdisk_new (n : Nat) (h1 : 1 ≤ n) (h2 : n ≤ 64) (hS : St S w0 w M) : Calls Try.prog 24 #[.int .i64 n] w fun e w' => ∃ g, e = .returned (.tuple #[.pointer (some ⟨g, 0, none⟩), .int .i64 0]) ∧ St S w0 w' (rdisk g (newDsk n) :: M) := by
  (go_enter Try.func24, Try.ntmps24)
  go_wp2_with (first | refine au1 (n := ?_) | (refine au2 (n := ?_); clear hS; intro w' hS) | (refine au3 (n := ?_); clear hS; intro gb w1 hS) | (refine au4 (n := ?_); clear hS; intro v1 w' hS) | ((with_reducible refine wl_guard ?_); refine stop_mem rfl rfl ?_))
  replace hS := (hS.addNil 4 1).addNil 9 1
  go_loopw [5] (fun i wr => ∃ (j : Nat) (vl vm : Value), j ≤ n ∧ i = .int .i64 j ∧ St S w0 wr (.row gb [vl, vm, .slice none 0 0, .bool false, .int .i64 0, .int .i64 0] 65 (0, 0) :: .vec vl 9 1 (List.replicate j (zeros 384)).length ((List.replicate j (zeros 384)).flatMap str) :: .vec vm 4 1 (List.replicate j false).length ((List.replicate j false).flatMap bl) :: M)) (fun i _ => n - (intOf i).toNat)
  case atStart => exact ⟨0, .slice none 0 0, .slice none 0 0, Nat.zero_le _, rfl, hS.pick⟩
  case round =>
    clear hS
    obtain ⟨j, vl, vm, hj, rfl, hS⟩ := hrel
    obtain ⟨L, hL⟩ : ∃ L, List.replicate j (zeros 384) = L := ⟨_, rfl⟩
    obtain ⟨K, hK⟩ : ∃ K, List.replicate j false = K := ⟨_, rfl⟩
    have hll : L.length = j := by rw [← hL, List.length_replicate]
    have hkl : K.length = j := by rw [← hK, List.length_replicate]
    rw [hL, hK] at hS
    have HL := Lib.hid hL
    have HK := Lib.hid hK
    clear hL hK
    by_cases hlt : j < n
    · go_wp2_with (first | refine au1 (n := ?_) | (refine au2 (n := ?_); clear hS; intro w' hS) | (refine au3 (n := ?_); clear hS; intro gb w1 hS) | (refine au4 (n := ?_); clear hS; intro v1 w' hS) | ((with_reducible refine wl_guard ?_); refine stop_mem rfl rfl ?_))
      refine region_end 11 [.vec vl 9 1 L.length (L.flatMap str)] (.row gb [vl, vm, .slice none 0 0, .bool false, .int .i64 0, .int .i64 0] 65 (0, 0) :: .vec vm 4 1 K.length (K.flatMap bl) :: M) hS.pick (by kernel_rfl) ?_
      clear hS
      intro F wx hR hB hS
      (refine we_take 0 rfl rfl (by kernel_rfl) (by kernel_rfl) (by kernel_rfl) (fun _ _ _ h => h) (by kernel_rfl) rfl (fun W hW => (by (go_simp; try with_reducible rfl))) hS.base ?_; simp only [Act.put, List.setIfInBounds_toArray, List.set_cons_zero, List.set_cons_succ])
      (refine we_take 1 rfl rfl (by kernel_rfl) (by kernel_rfl) (by kernel_rfl) (fun _ _ _ h => h) (by kernel_rfl) rfl (fun W hW => (by (go_simp; try with_reducible rfl))) hS.base ?_; simp only [Act.put, List.setIfInBounds_toArray, List.set_cons_zero, List.set_cons_succ])
      (refine we_take 2 rfl rfl (by kernel_rfl) (by kernel_rfl) (by kernel_rfl) (fun _ _ _ h => h) (by kernel_rfl) rfl (fun W hW => (by (go_simp; try with_reducible rfl))) hS.base ?_; simp only [Act.put, List.setIfInBounds_toArray, List.set_cons_zero, List.set_cons_succ])
      (refine we_take 3 rfl rfl (by kernel_rfl) (by kernel_rfl) (by kernel_rfl) (fun _ _ _ h => h) (by kernel_rfl) rfl (fun W hW => (by (go_simp; try with_reducible rfl))) hS.base ?_; simp only [Act.put, List.setIfInBounds_toArray, List.set_cons_zero, List.set_cons_succ])
      (refine we_take 4 rfl rfl (by kernel_rfl) (by kernel_rfl) (by kernel_rfl) (fun _ _ _ h => h) (by kernel_rfl) rfl (fun W hW => rdR) hS.base ?_; simp only [Act.put, List.setIfInBounds_toArray, List.set_cons_zero, List.set_cons_succ])
      (refine we_all (rs := [5]) (by kernel_rfl) (by simp) ?_; intro i hi; have hi := List.mem_singleton.1 hi; subst hi)
      refine wod_of rfl rfl rfl (a_make hS rfl rfl rfl rfl (by rfl) rfl (by omega) (by omega) ?_)
      clear hS
      intro vb w3 hS
      rw [B_zeros] at hS
      (refine ⟨fun _ => hS.base, ?_⟩; simp only [Act.put, List.setIfInBounds_toArray, List.set_cons_zero, List.set_cons_succ])
      (refine we_all (rs := [6]) (by kernel_rfl) (by simp) ?_; intro i hi; have hi := List.mem_singleton.1 hi; subst hi)
      refine wod_of rfl rfl rfl (wp_run (a_toString3 rfl rfl rfl rfl rfl (by (first | exact St.rdx hS (by (repeat (first | exact Ix.here | apply Ix.there))) | exact Reads.at (by assumption) hS (by (repeat (first | exact List.Sublist.refl _ | apply List.Sublist.cons))) | exact St.old0 hS (by assumption))) (zeros_len _)) ?_)
      (refine ⟨fun _ => hS.base, ?_⟩; simp only [Act.put, List.setIfInBounds_toArray, List.set_cons_zero, List.set_cons_succ])
      (refine we_all (rs := [7]) (by kernel_rfl) (by simp) ?_; intro i hi; have hi := List.mem_singleton.1 hi; subst hi)
      refine wod_of rfl rfl rfl (a_build1 (v := .string _) hS rfl rfl rfl rfl (by rfl) (by simp) ?_)
      clear hS
      intro v1 w4 hS
      simp only [List.length_cons, List.length_nil, Nat.zero_add] at hS
      try simp only [Nat.reduceAdd] at hS
      (refine ⟨fun _ => hS.base, ?_⟩; simp only [Act.put, List.setIfInBounds_toArray, List.set_cons_zero, List.set_cons_succ])
      (refine we_all (rs := [8]) (by kernel_rfl) (by simp) ?_; intro i hi; have hi := List.mem_singleton.1 hi; subst hi)
      refine wod_of rfl rfl rfl (k_app (z := zeros 384) hS rfl rfl rfl rfl (h1 := by simp [str, Value.oneCell']) (h := ?_))
      clear hS
      intro vl2 w5 hS hv2
      (refine ⟨fun _ => hS.base, ?_⟩; simp only [Act.put, List.setIfInBounds_toArray, List.set_cons_zero, List.set_cons_succ])
      ((refine we_all (rs := [9]) (by kernel_rfl) (by simp) ?_; intro i hi; have hi := List.mem_singleton.1 hi; subst hi); refine wod_of rfl rfl rfl (wp_run (by (go_simp; first | done | exact ⟨rfl, rfl⟩ | with_reducible rfl)) ?_); (refine ⟨fun _ => hS.base, ?_⟩; simp only [Act.put, List.setIfInBounds_toArray, List.set_cons_zero, List.set_cons_succ]))
      ((refine we_all (rs := [10]) (by kernel_rfl) (by simp) ?_; intro i hi; have hi := List.mem_singleton.1 hi; subst hi); refine wod_of rfl rfl rfl (wp_run (by (go_simp; first | done | exact ⟨rfl, rfl⟩ | with_reducible rfl)) ?_); (refine ⟨fun _ => hS.base, ?_⟩; simp only [Act.put, List.setIfInBounds_toArray, List.set_cons_zero, List.set_cons_succ]))
      (refine we_all (rs := [11]) (by kernel_rfl) (by simp) ?_; intro i hi; have hi := List.mem_singleton.1 hi; subst hi)
      replace hS := hB _ _ hS
      simp only [List.cons_append, List.nil_append] at hS
      refine won_of rfl rfl rfl (k_st1 hS rfl rfl rfl (h := ?_))
      clear hS
      intro w6 hS
      simp only [List.set_cons_zero] at hS
      simp only [Act.eval, Array.getD_eq_getD_getElem?, List.getElem?_toArray, List.getElem?_cons_succ, List.getElem?_cons_zero, Option.getD_some] at hS
      (refine ⟨fun h => absurd rfl h, ?_⟩; refine we_done (by kernel_rfl) ?_ _)
      go_wp2_with (first | ((with_reducible refine g_append ?_); refine wl_of rfl ?_; refine k_app (z := false) hS rfl rfl rfl rfl (h1 := by simp [Value.oneCell', bl]) (h := ?_); clear hS; intro v2 w' hS hv2) | (first | refine au1 (n := ?_) | (refine au2 (n := ?_); clear hS; intro w' hS) | (refine au3 (n := ?_); clear hS; intro gb w1 hS) | (refine au4 (n := ?_); clear hS; intro v1 w' hS) | ((with_reducible refine wl_guard ?_); refine stop_mem rfl rfl ?_)))
      go_round
      case rel =>
        refine ⟨j + 1, vl2, v2, by omega, by go_num, ?_⟩
        rw [show List.replicate (j + 1) (zeros 384) = L ++ [zeros 384] by rw [List.replicate_succ', HL.out], show List.replicate (j + 1) false = K ++ [false] by rw [List.replicate_succ', HK.out]]
        exact hS.pick
      case measure => simp [intOf]; omega
    · obtain rfl : j = n := by omega
      go_wp2_with (first | refine au1 (n := ?_) | (refine au2 (n := ?_); clear hS; intro w' hS) | (refine au3 (n := ?_); clear hS; intro gb w1 hS) | (refine au4 (n := ?_); clear hS; intro v1 w' hS) | ((with_reducible refine wl_guard ?_); refine stop_mem rfl rfl ?_))
      go_ret2
      refine ⟨gb, rfl, ?_⟩
      have hS := hS.addNil 95 2
      rw [← HL.out, ← HK.out] at hS
      exact St.packs (vl, vm, .slice none 0 0) hS
end
end Go.Proofs.Ytbfdnpahojoccaa
