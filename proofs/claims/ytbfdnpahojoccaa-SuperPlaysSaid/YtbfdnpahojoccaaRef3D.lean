/-
  The document's disk: rot.
-/
import Derived.Test.YtbfdnpahojoccaaRef3A
import Derived.Test.YtbfdnpahojoccaaGen
set_option linter.unusedSimpArgs false
set_option linter.unusedVariables false
set_option linter.unusedSectionVars false
set_option maxRecDepth 100000
namespace Go.Proofs.Ytbfdnpahojoccaa
open Go.RowKit Go.Cmp

section
variable {S : List Nat} {w0 w : World} {M : List Ent} {g : Nat} {D : Dsk}

theorem set_cut : ∀ (s : List UInt8) (i : Nat) (x : UInt8), i < s.length → s.set i x = s.take i ++ [x] ++ s.drop (i + 1)
  | [], i, x, h => by simp at h
  | y :: s, 0, x, _ => by simp
  | y :: s, i + 1, x, h => by
    simp only [List.set_cons_succ, List.take_succ_cons, List.drop_succ_cons, List.cons_append]
    rw [set_cut s i x (by simpa using h)]

set_option maxHeartbeats 3000000 in
theorem rdisk_rot (hS : St S w0 w (rdisk g D :: M)) (hD : D.Ok) (i at' mask : Int) :
    Calls Try.prog 30 #[.pointer (some ⟨g, 0, none⟩), .int .i64 i, .int .i64 at', .int .i64 mask] w fun e w' => e = .returned (.int .i64 (D.rot i at' mask).1) ∧ St S w0 w' (rdisk g (D.rot i at' mask).2 :: M) := by
  have h0 := hS
  have HD := Lib.hid hD
  have hwl := hD.ways
  have hlm := hD.len
  have HL := Lib.hid hlm
  clear hD hlm
  by_cases hc : D.is i = false ∨ at' < 0 ∨ 384 ≤ at' ∨ mask < 1 ∨ 255 < mask
  · have e : D.rot i at' mask = (1, D) := by unfold Dsk.rot; rw [if_pos hc]
    rw [e]
    clear e
    by_cases hd : D.is i = false
    · have Hd := Lib.hid hd
      clear hd hc
      (go_enter Try.func30, Try.ntmps30)
      go_wp2_with (first | ((with_reducible refine (rdisk_is h0 i).mono ?_); rw [Hd.out]; rintro e w' ⟨rfl, rfl⟩) | (first | refine au1 (n := ?_) | (refine au2 (n := ?_); clear hS; intro w' hS) | (refine au3 (n := ?_); clear hS; intro gb w1 hS) | (refine au4 (n := ?_); clear hS; intro v1 w' hS) | ((with_reducible refine wl_guard ?_); refine stop_mem rfl rfl ?_)))
      go_ret
      exact ⟨rfl, hS⟩
    · have hc := hc.resolve_left hd
      have hd : D.is i = true := by simpa using hd
      have Hd := Lib.hid hd
      clear hd
      (go_enter Try.func30, Try.ntmps30)
      go_wp2_with (first | ((with_reducible refine (rdisk_is h0 i).mono ?_); rw [Hd.out]; rintro e w' ⟨rfl, rfl⟩) | (first | refine au1 (n := ?_) | (refine au2 (n := ?_); clear hS; intro w' hS) | (refine au3 (n := ?_); clear hS; intro gb w1 hS) | (refine au4 (n := ?_); clear hS; intro v1 w' hS) | ((with_reducible refine wl_guard ?_); refine stop_mem rfl rfl ?_)))
      all_goals
        first
        | (go_ret
           exact ⟨rfl, hS⟩)
        | (exfalso; omega)
  · have hd : D.is i = true := by cases h : D.is i; exact absurd (.inl h) hc; rfl
    have c1 : 0 ≤ at' := by omega
    have c2 : at' < 384 := by omega
    have c2' : at' ≤ 383 := by omega
    have c3 : 1 ≤ mask := by omega
    have c4 : mask ≤ 255 := by omega
    have Hd := Lib.hid hd
    have hi : 0 ≤ i ∧ i < D.lasts.length := by simpa [Dsk.is] using hd
    obtain ⟨i1, i2⟩ := hi
    have e : D.rot i at' mask = if D.way.any (fun x => x.sector == i) then (10, D) else if (nth D.mark i.toNat) = true then (7, D) else (0, { D with lasts := D.lasts.set i.toNat (Dsk.turn (nth D.lasts i.toNat) at'.toNat mask), mark := D.mark.set i.toNat true }) := by unfold Dsk.rot; rw [if_neg hc]
    have E := Lib.hid e
    obtain ⟨d, rfl⟩ := u8_of (m := mask) (by omega) c4
    have HN := Lib.hid (HD.out.size _ (nth_mem (L := D.lasts) (j := i.toNat) (by omega)))
    have hat : at' < (nth D.lasts i.toNat).length := by rw [HN.out]; exact c2
    clear e hc hd
    (have hU := St.unpack hS; clear hS; obtain ⟨⟨vl, vm, vw⟩, _, hS⟩ := hU; simp only [List.cons_append, List.nil_append] at hS)
    (go_enter Try.func30, Try.ntmps30)
    go_wp2_with (first | ((with_reducible refine (rdisk_is h0 i).mono ?_); rw [Hd.out]; rintro e w' ⟨rfl, rfl⟩) | (first | refine au1 (n := ?_) | (refine au2 (n := ?_); clear hS; intro w' hS) | (refine au3 (n := ?_); clear hS; intro gb w1 hS) | (refine au4 (n := ?_); clear hS; intro v1 w' hS) | ((with_reducible refine wl_guard ?_); refine stop_mem rfl rfl ?_)))
    go_loopw [9] (fun i' wr => ∃ j : Nat, j ≤ D.way.length ∧ i' = .int .i64 j ∧ Hid ((D.way.take j).any (fun x => x.sector == i) = false) ∧ St S w0 wr (.row g [vl, vm, vw, .bool D.off, .int .i64 D.fuse, .int .i64 D.steps] 65 (0, 0) :: .vec vl 9 1 D.lasts.length (D.lasts.flatMap str) :: .vec vm 4 1 D.mark.length (D.mark.flatMap bl) :: .vec vw 95 2 D.way.length (D.way.flatMap Wr.cells) :: M)) (fun i' _ => D.way.length - (intOf i').toNat)
    case atStart => exact ⟨0, Nat.zero_le _, rfl, Lib.hid rfl, hS⟩
    case round =>
      clear hS h0
      obtain ⟨j, hj, rfl, Hj, hS⟩ := hrel
      by_cases hlt : j < D.way.length
      · go_wp2_with (first | refine au1 (n := ?_) | (refine au2 (n := ?_); clear hS; intro w' hS) | (refine au3 (n := ?_); clear hS; intro gb w1 hS) | (refine au4 (n := ?_); clear hS; intro v1 w' hS) | ((with_reducible refine wl_guard ?_); refine stop_mem rfl rfl ?_))
        · rename_i hx
          go_ret
          have e : D.rot i at' d.toNat = (10, D) := by
            rw [E.out, if_pos]
            rw [List.any_eq_true]
            exact ⟨nth D.way j, nth_mem hlt, by simpa using hx⟩
          rw [e]
          refine ⟨rfl, ?_⟩
          exact St.packs (vl, vm, vw) hS
        · rename_i hx
          go_round
          case rel =>
            refine ⟨j + 1, by omega, by go_num, Lib.hid ?_, hS⟩
            rw [List.take_add_one, get_lt hlt, List.any_append, Hj.out]
            simpa using hx
          case measure => simp [intOf]; omega
      · obtain rfl : j = D.way.length := by omega
        have i3 : i < D.mark.length := by have := HL.out; omega
        have E2 : Hid (D.rot i at' d.toNat = if (nth D.mark i.toNat) = true then (7, D) else (0, { D with lasts := D.lasts.set i.toNat (Dsk.turn (nth D.lasts i.toNat) at'.toNat d.toNat), mark := D.mark.set i.toNat true })) := Lib.hid (by
          have h := Hj.out
          rw [List.take_length] at h
          rw [E.out, h]
          rfl)
        obtain ⟨y, hy⟩ : ∃ y, nth D.lasts i.toNat = y := ⟨_, rfl⟩
        have hyy : D.lasts[i.toNat]? = some y := by rw [← hy]; exact get_lt (by omega)
        rw [hy] at HN hat E2
        clear E hy
        go_wp2_with (first | refine au1 (n := ?_) | (refine au2 (n := ?_); clear hS; intro w' hS) | (refine au3 (n := ?_); clear hS; intro gb w1 hS) | (refine au4 (n := ?_); clear hS; intro v1 w' hS) | ((with_reducible refine wl_guard ?_); refine stop_mem rfl rfl ?_))
        · rename_i hx
          go_ret
          rw [E2.out, if_pos hx]
          refine ⟨rfl, ?_⟩
          exact St.packs (vl, vm, vw) hS
        · have hx : nth D.mark i.toNat = false := by assumption
          have hRl := St.rdx (v := vl) (e := 9) (k := 1) (n := D.lasts.length) (xs := D.lasts.flatMap str) hS (by (repeat (first | exact Ix.here | apply Ix.there)))
          have hw8 : IntKind.u8.wrap (d.toNat : Int) = (d.toNat : Int) := by rw [IntKind.wrap_u8]; have := u8_range d; omega
          have hw9 : IntKind.i64.wrap (at' + 1) = at' + 1 := by rw [IntKind.wrap_i64]; omega
          refine region_held [.vec vl 9 1 D.lasts.length (D.lasts.flatMap str)] (.row g [vl, vm, vw, .bool D.off, .int .i64 D.fuse, .int .i64 D.steps] 65 (0, 0) :: .vec vm 4 1 D.mark.length (D.mark.flatMap bl) :: .vec vw 95 2 D.way.length (D.way.flatMap Wr.cells) :: M) hS.pick (by kernel_rfl) ?_
          clear hS
          intro FF wx hR hB hS
          (refine whd_take 0 rfl rfl (by kernel_rfl) (by kernel_rfl) (by kernel_rfl) (fun _ _ _ h => h) rfl (fun W hW => by (go_simp; try with_reducible rfl)) hS.base ?_; simp only [Act.put, List.setIfInBounds_toArray, List.set_cons_zero, List.set_cons_succ])
          (refine whd_take 1 rfl rfl (by kernel_rfl) (by kernel_rfl) (by kernel_rfl) (fun _ _ _ h => h) rfl (fun W hW => by (go_simp; try with_reducible rfl)) hS.base ?_; simp only [Act.put, List.setIfInBounds_toArray, List.set_cons_zero, List.set_cons_succ])
          (refine whd_take 2 rfl rfl (by kernel_rfl) (by kernel_rfl) (by kernel_rfl) (fun _ _ _ h => h) rfl (fun W hW => by (go_simp; try with_reducible rfl)) hS.base ?_; simp only [Act.put, List.setIfInBounds_toArray, List.set_cons_zero, List.set_cons_succ])
          (refine whd_take 3 rfl rfl (by kernel_rfl) (by kernel_rfl) (by kernel_rfl) (fun _ _ _ h => h) rfl (fun W hW => rdR) hS.base ?_; simp only [Act.put, List.setIfInBounds_toArray, List.set_cons_zero, List.set_cons_succ])
          (refine whd_take 4 rfl rfl (by kernel_rfl) (by kernel_rfl) (by kernel_rfl) (fun _ _ _ h => h) rfl (fun W hW => by (go_simp; try with_reducible rfl)) hS.base ?_; simp only [Act.put, List.setIfInBounds_toArray, List.set_cons_zero, List.set_cons_succ])
          (refine whd_take 5 rfl rfl (by kernel_rfl) (by kernel_rfl) (by kernel_rfl) (fun _ _ _ h => h) rfl (fun W hW => by (go_simp; try with_reducible rfl)) hS.base ?_; simp only [Act.put, List.setIfInBounds_toArray, List.set_cons_zero, List.set_cons_succ])
          (refine whd_take 6 rfl rfl (by kernel_rfl) (by kernel_rfl) (by kernel_rfl) (fun _ _ _ h => h) rfl (fun W hW => by (go_simp; try with_reducible rfl)) hS.base ?_; simp only [Act.put, List.setIfInBounds_toArray, List.set_cons_zero, List.set_cons_succ])
          (refine whd_take 7 rfl rfl (by kernel_rfl) (by kernel_rfl) (by kernel_rfl) (fun _ _ _ h => h) rfl (fun W hW => (by (first | exact a_strHi rfl rfl rfl rfl (by omega) (by omega) | exact a_strLo rfl rfl rfl rfl (by omega) (by omega) | exact a_strMid rfl rfl rfl rfl rfl (by omega) (by omega) (by omega)))) hS.base ?_; simp only [Act.put, List.setIfInBounds_toArray, List.set_cons_zero, List.set_cons_succ])
          (refine whd_take 8 rfl rfl (by kernel_rfl) (by kernel_rfl) (by kernel_rfl) (fun _ _ _ h => h) rfl (fun W hW => by (go_simp; try with_reducible rfl)) hS.base ?_; simp only [Act.put, List.setIfInBounds_toArray, List.set_cons_zero, List.set_cons_succ])
          (refine whd_take 9 rfl rfl (by kernel_rfl) (by kernel_rfl) (by kernel_rfl) (fun _ _ _ h => h) rfl (fun W hW => by (go_simp; try with_reducible rfl)) hS.base ?_; simp only [Act.put, List.setIfInBounds_toArray, List.set_cons_zero, List.set_cons_succ])
          (refine whd_take 10 rfl rfl (by kernel_rfl) (by kernel_rfl) (by kernel_rfl) (fun _ _ _ h => h) rfl (fun W hW => (by exact a_strIndex rfl rfl rfl rfl (by omega) (by omega))) hS.base ?_; simp only [Act.put, List.setIfInBounds_toArray, List.set_cons_zero, List.set_cons_succ])
          (refine whd_take 11 rfl rfl (by kernel_rfl) (by kernel_rfl) (by kernel_rfl) (fun _ _ _ h => h) rfl (fun W hW => by (go_simp; try with_reducible rfl)) hS.base ?_; simp only [Act.put, List.setIfInBounds_toArray, List.set_cons_zero, List.set_cons_succ])
          (refine whd_take (v := (.int .u8 (d.toNat : Int))) 12 rfl rfl (by kernel_rfl) (by kernel_rfl) (by kernel_rfl) (fun _ _ _ h => h) rfl (fun W hW => by (go_simp; try simp [hw8])) hS.base ?_; simp only [Act.put, List.setIfInBounds_toArray, List.set_cons_zero, List.set_cons_succ])
          (refine whd_take 13 rfl rfl (by kernel_rfl) (by kernel_rfl) (by kernel_rfl) (fun _ _ _ h => h) rfl (fun W hW => (a_xor8 (d := d) rfl rfl rfl)) hS.base ?_; simp only [Act.put, List.setIfInBounds_toArray, List.set_cons_zero, List.set_cons_succ])
          (refine whd_take 17 rfl rfl (by kernel_rfl) (by kernel_rfl) (by kernel_rfl) (fun _ _ _ h => h) rfl (fun W hW => by (go_simp; try with_reducible rfl)) hS.base ?_; simp only [Act.put, List.setIfInBounds_toArray, List.set_cons_zero, List.set_cons_succ])
          (refine whd_take 18 rfl rfl (by kernel_rfl) (by kernel_rfl) (by kernel_rfl) (fun _ _ _ h => h) rfl (fun W hW => by (go_simp; try with_reducible rfl)) hS.base ?_; simp only [Act.put, List.setIfInBounds_toArray, List.set_cons_zero, List.set_cons_succ])
          (refine whd_take (v := (.int .i64 (at' + 1))) 19 rfl rfl (by kernel_rfl) (by kernel_rfl) (by kernel_rfl) (fun _ _ _ h => h) rfl (fun W hW => by (go_simp; try simp [hw9])) hS.base ?_; simp only [Act.put, List.setIfInBounds_toArray, List.set_cons_zero, List.set_cons_succ])
          (refine whd_take 20 rfl rfl (by kernel_rfl) (by kernel_rfl) (by kernel_rfl) (fun _ _ _ h => h) rfl (fun W hW => (by (first | exact a_strHi rfl rfl rfl rfl (by omega) (by omega) | exact a_strLo rfl rfl rfl rfl (by omega) (by omega) | exact a_strMid rfl rfl rfl rfl rfl (by omega) (by omega) (by omega)))) hS.base ?_; simp only [Act.put, List.setIfInBounds_toArray, List.set_cons_zero, List.set_cons_succ])
          (refine wpAnyH_all (rs := [14]) (by kernel_rfl) (by simp) ?_; intro i hi; simp only [List.mem_cons, List.not_mem_nil, or_false] at hi)
          subst hi
          refine wod_of rfl rfl rfl (a_build1 (v := .int _ _) hS rfl rfl rfl rfl (by rfl) (by simp) ?_)
          clear hS
          intro v1 w3 hS
          simp only [List.length_cons, List.length_nil, Nat.zero_add] at hS
          try simp only [Nat.reduceAdd] at hS
          refine ⟨hS.base, ?_⟩
          simp only [Act.put, List.setIfInBounds_toArray, List.set_cons_zero, List.set_cons_succ]
          (refine wpAnyH_all (rs := [15]) (by kernel_rfl) (by simp) ?_; intro i hi; simp only [List.mem_cons, List.not_mem_nil, or_false] at hi)
          subst hi
          refine wod_of rfl rfl rfl (wp_run (a_toString2 (l := [nth y at'.toNat ^^^ d]) rfl rfl rfl rfl rfl (by exact St.rdx hS (by (repeat (first | exact Ix.here | apply Ix.there))))) ?_)
          refine ⟨hS.base, ?_⟩
          simp only [Act.put, List.setIfInBounds_toArray, List.set_cons_zero, List.set_cons_succ]
          have hyl : y.length = 384 := HN.out
          have hl1 : (y.take at'.toNat).length ≤ 384 := by rw [List.length_take]; omega
          have hl2 : (y.drop (at' + 1).toNat).length ≤ 384 := by rw [List.length_drop]; omega
          (refine whd_take 16 rfl rfl (by kernel_rfl) (by kernel_rfl) (by kernel_rfl) (fun _ _ _ h => h) rfl (fun W hW => (by exact a_concat rfl rfl rfl (by first | omega | (simp; omega)))) hS.base ?_; simp only [Act.put, List.setIfInBounds_toArray, List.set_cons_zero, List.set_cons_succ])
          (refine whd_take 21 rfl rfl (by kernel_rfl) (by kernel_rfl) (by kernel_rfl) (fun _ _ _ h => h) rfl (fun W hW => (by exact a_concat rfl rfl rfl (by first | omega | (simp; omega)))) hS.base ?_; simp only [Act.put, List.setIfInBounds_toArray, List.set_cons_zero, List.set_cons_succ])
          (refine whd_take 22 rfl rfl (by kernel_rfl) (by kernel_rfl) (by kernel_rfl) (fun _ _ _ h => h) rfl (fun W hW => (by exact a_indexW rfl rfl rfl rfl hRl (by rfl) (by omega) (by omega))) hS.base ?_; simp only [Act.put, List.setIfInBounds_toArray, List.set_cons_zero, List.set_cons_succ])
          (refine wpAnyH_all (rs := [23]) (by kernel_rfl) (by simp) ?_; intro i hi; simp only [List.mem_cons, List.not_mem_nil, or_false] at hi)
          subst hi
          refine won_of rfl rfl rfl (a_storeE (v := .string _) hS rfl rfl rfl rfl rfl (by rfl) rfl (by (repeat (first | exact Sw.here | apply Sw.there))) (by intro _; rfl) (by omega) (by rfl) ?_)
          clear hS
          intro w4 hS
          simp only [Act.eval, Array.getD_eq_getD_getElem?, List.getElem?_toArray, List.getElem?_cons_succ, List.getElem?_cons_zero, Option.getD_some] at hS
          refine ⟨hS.base, ?_⟩
          (refine wpAnyH_done (by kernel_rfl) ?_ _)
          have hS := hB _ _ hS
          go_wp2_with (first | refine au1 (n := ?_) | (refine au2 (n := ?_); clear hS; intro w' hS) | (refine au3 (n := ?_); clear hS; intro gb w1 hS) | (refine au4 (n := ?_); clear hS; intro v1 w' hS) | ((with_reducible refine wl_guard ?_); refine stop_mem rfl rfl ?_))
          go_ret
          have e : D.rot i at' d.toNat = (0, { D with lasts := D.lasts.set i.toNat (y.take at'.toNat ++ [nth y at'.toNat ^^^ d] ++ y.drop (at' + 1).toNat), mark := D.mark.set i.toNat true }) := by
            rw [E2.out, if_neg (by rw [hx]; exact Bool.false_ne_true)]
            have h1 : (at' + 1).toNat = at'.toNat + 1 := by omega
            rw [h1, ← set_cut y at'.toNat _ (by omega)]
            simp [Dsk.turn]
          rw [e]
          refine ⟨rfl, ?_⟩
          exact St.packs (vl, vm, vw) hS
end
end Go.Proofs.Ytbfdnpahojoccaa
