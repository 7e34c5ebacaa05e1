/-
  The program's ledger is unpacked.
-/
import Derived.Test.YtjjiibcnknljfaaLedUnp2
set_option linter.unusedSimpArgs false
set_option linter.unusedVariables false
set_option linter.unusedSectionVars false
set_option maxRecDepth 100000
namespace Go.Proofs.Ytjjiibcnknljfaa
open Go.RowKit Go.Cmp

theorem takeS_32 {c : List UInt8} (h : c.length = 32) : takeS gTra 32 c = ([gTra c], true) := by
  unfold takeS
  rw [h]
  simp [chunk, h]
  rw [List.take_of_length_le (by omega)]

section
set_option maxRecDepth 100000
set_option maxHeartbeats 8000000

theorem ledUnp_any (s : List UInt8) (hs : s.length ≤ 100000) (w : World) :
    Calls Try.prog 39 #[.string ⟨s.toArray⟩] w fun e w' => match unpS s with
      | none => e = .returned (.tuple #[.pointer none, .int .i64 4]) ∧ St [] w w' []
      | some D => ∃ g, e = .returned (.tuple #[.pointer (some ⟨g, 0, none⟩), .int .i64 0]) ∧ St [] w w' [ledg g D] := by
  have hS := St.init w
  have e25 : ((25 : Nat) : Int) = 25 := rfl
  have e08 : ((8 : Nat) : Int) = 8 := rfl
  have e32 : ((32 : Nat) : Int) = 32 := rfl
  have e16 : ((16 : Nat) : Int) = 16 := rfl
  have h25 := fun w => records_any s 25 8 (by omega) (by omega) (by omega) (by omega) w
  simp only [e25, e08, e32, e16] at h25
  unfold unpS
  cases h1 : recS s 25 8 with
  | none =>
    simp only [h1] at h25 ⊢
    have h32 := fun w => records_any [] 32 16 (by omega) (by omega) (by omega) (by simp) w
    have e : recS [] 32 16 = none := rfl
    simp only [e25, e08, e32, e16, e] at h32
    have H25 := Lib.hid h25
    have H32 := Lib.hid h32
    clear h25 h32 h1
    (go_enter Try.func39, Try.ntmps39)
    go_wp2_with (fail)
    refine (H25.out _).mono ?_
    rintro e w' ⟨rfl, h⟩
    replace hS := hS.call h
    clear h
    go_wp2_with (fail)
    refine (H32.out _).mono ?_
    rintro e w' ⟨rfl, h⟩
    replace hS := hS.call h
    clear h
    go_wp2_with (first | refine au1 (n := ?_) | (refine au2 (n := ?_); clear hS; intro w' hS) | (refine au3 (n := ?_); clear hS; intro gb w1 hS) | (refine au4 (n := ?_); clear hS; intro v1 w' hS) | ((with_reducible refine wl_guard ?_); refine stop_mem rfl rfl ?_))
    go_ret2
    exact ⟨rfl, hS⟩
  | some x =>
    obtain ⟨a, r⟩ := x
    have hrl : r.length ≤ s.length := by
      have := (recS_some h1).1
      rw [this]
      simp
      omega
    have hak := recS_some h1
    simp only [h1] at h25 ⊢
    have h32 := fun w => records_any r 32 16 (by omega) (by omega) (by omega) (by omega) w
    simp only [e25, e08, e32, e16] at h32
    have H25 := Lib.hid h25
    cases h2 : recS r 32 16 with
    | none =>
      simp only [h2] at h32 ⊢
      have H32 := Lib.hid h32
      clear h25 h32 h1 h2 hak
      (go_enter Try.func39, Try.ntmps39)
      go_wp2_with (fail)
      refine (H25.out _).mono ?_
      rintro e w' ⟨y1, rfl, h⟩
      replace hS := hS.call h
      clear h
      go_wp2_with (fail)
      refine (H32.out _).mono ?_
      rintro e w' ⟨rfl, h⟩
      replace hS := hS.call h
      clear h
      go_wp2_with (first | refine au1 (n := ?_) | (refine au2 (n := ?_); clear hS; intro w' hS) | (refine au3 (n := ?_); clear hS; intro gb w1 hS) | (refine au4 (n := ?_); clear hS; intro v1 w' hS) | ((with_reducible refine wl_guard ?_); refine stop_mem rfl rfl ?_))
      go_ret2
      exact ⟨rfl, hS.nil⟩
    | some y =>
      obtain ⟨b, q⟩ := y
      have hbk := recS_some h2
      simp only [h2] at h32 ⊢
      have H32 := Lib.hid h32
      clear h25 h32 h1 h2
      by_cases hq : q = []
      · rw [if_pos hq]
        subst hq
        simp only
        have HA := Lib.hid hak.2.2.2
        have HB := Lib.hid hbk.2.2.2
        have hal : a.length ≤ 8 := hak.2.1
        have hbl : b.length ≤ 16 := hbk.2.1
        clear hak hbk
        (go_enter Try.func39, Try.ntmps39)
        go_wp2_with (fail)
        refine (H25.out _).mono ?_
        rintro e w' ⟨y1, rfl, h⟩
        replace hS := hS.call h
        clear h
        go_wp2_with (fail)
        refine (H32.out _).mono ?_
        rintro e w' ⟨y2, rfl, h⟩
        replace hS := hS.call h
        clear h
        simp only [List.cons_append, List.nil_append] at hS
        go_wp2_with (first | (go_at_call 22; refine (ledg_new hS).mono ?_; clear hS; rintro e w' ⟨g, rfl, hS⟩) | (first | refine au1 (n := ?_) | (refine au2 (n := ?_); clear hS; intro w' hS) | (refine au3 (n := ?_); clear hS; intro gb w1 hS) | (refine au4 (n := ?_); clear hS; intro v1 w' hS) | ((with_reducible refine wl_guard ?_); refine stop_mem rfl rfl ?_)))
        clear H25 H32
        replace hS : St [] w _ [ledg g ⟨[], []⟩, .vec y1 9 1 a.length (a.flatMap strc), .vec y2 9 1 b.length (b.flatMap strc)] := hS.pick
        go_loopw [42] (fun k wr => ∃ j : Nat, j ≤ a.length ∧ k = .int .i64 j ∧ St [] w wr [ledg g ⟨(a.take j).map gWh, []⟩, .vec y1 9 1 a.length (a.flatMap strc), .vec y2 9 1 b.length (b.flatMap strc)]) (fun k _ => a.length - (intOf k).toNat)
        case atStart => exact ⟨0, by omega, rfl, hS⟩
        case round =>
          clear hS
          obtain ⟨j, hj, rfl, hS⟩ := hrel
          by_cases hlt : j < a.length
          · have hlt1 : (j : Int) < a.length := by omega
            have hget := get_lt (L := a) hlt
            have HE : Hid ((a.take (j + 1)).map gWh = (a.take j).map gWh ++ [gWh (nth a j)]) := Lib.hid (by rw [take_nth hlt, List.map_append]; rfl)
            obtain ⟨c, hc⟩ : ∃ c, nth a j = c := ⟨_, rfl⟩
            rw [hc] at hget HE
            have hW := fun w => whole_any c w
            have eX : (getW c).1 = gWh c := rfl
            simp only [eX] at hW
            obtain ⟨X, hX⟩ : ∃ X, gWh c = X := ⟨_, rfl⟩
            simp only [hX] at hW
            rw [hX] at HE
            have hml : ((a.take j).map gWh).length ≤ 8 := by rw [List.length_map, List.length_take]; omega
            obtain ⟨A, hA⟩ : ∃ A, (a.take j).map gWh = A := ⟨_, rfl⟩
            rw [hA] at HE hml hS
            clear hc eX hX hA
            obtain ⟨x1, x2, x3, x4⟩ := X
            simp only [Acc.cells] at hW
            have HW := Lib.hid hW
            clear hW
            (have hU := St.unpack hS; clear hS; obtain ⟨⟨xa, xt⟩, _, hS⟩ := hU; simp only [List.cons_append, List.nil_append] at hS)
            go_wp2_with (first | (go_at_call 57; refine (HW.out _).mono ?_; rintro e w' ⟨rfl, h⟩; replace hS := hS.call h; clear h) | (first | refine au1 (n := ?_) | (refine au2 (n := ?_); clear hS; intro w' hS) | (refine au3 (n := ?_); clear hS; intro gb w1 hS) | (refine au4 (n := ?_); clear hS; intro v1 w' hS) | ((with_reducible refine wl_guard ?_); refine stop_mem rfl rfl ?_)))
            refine region_end 10 [.vec xa 102 4 A.length (A.flatMap Acc.cells)] [.row g [xa, xt] 92 (0, 0), .row gb [.int .u64 x1, .int .i64 x2, .int .u64 x3, .int .u64 x4] 102 (0, 0), .vec xt 99 4 0 [], .vec y1 9 1 a.length (a.flatMap strc), .vec y2 9 1 b.length (b.flatMap strc)] hS.pick (by kernel_rfl) ?_
            clear hS
            intro F wx hR hB hS
            (refine we_take 0 rfl rfl (by kernel_rfl) (by kernel_rfl) (by kernel_rfl) (fun _ _ _ h => h) (by kernel_rfl) rfl (fun W hW => (by (go_simp; try with_reducible rfl))) hS.base ?_; simp only [Act.put, List.setIfInBounds_toArray, List.set_cons_zero, List.set_cons_succ])
            (refine we_take 1 rfl rfl (by kernel_rfl) (by kernel_rfl) (by kernel_rfl) (fun _ _ _ h => h) (by kernel_rfl) rfl (fun W hW => (by (go_simp; try with_reducible rfl))) hS.base ?_; simp only [Act.put, List.setIfInBounds_toArray, List.set_cons_zero, List.set_cons_succ])
            (refine we_take 2 rfl rfl (by kernel_rfl) (by kernel_rfl) (by kernel_rfl) (fun _ _ _ h => h) (by kernel_rfl) rfl (fun W hW => (by (go_simp; try with_reducible rfl))) hS.base ?_; simp only [Act.put, List.setIfInBounds_toArray, List.set_cons_zero, List.set_cons_succ])
            (refine we_take 3 rfl rfl (by kernel_rfl) (by kernel_rfl) (by kernel_rfl) (fun _ _ _ h => h) (by kernel_rfl) rfl (fun W hW => (by (go_simp; try with_reducible rfl))) hS.base ?_; simp only [Act.put, List.setIfInBounds_toArray, List.set_cons_zero, List.set_cons_succ])
            (refine we_take 4 rfl rfl (by kernel_rfl) (by kernel_rfl) (by kernel_rfl) (fun _ _ _ h => h) (by kernel_rfl) rfl (fun W hW => rdR) hS.base ?_; simp only [Act.put, List.setIfInBounds_toArray, List.set_cons_zero, List.set_cons_succ])
            (refine we_take 5 rfl rfl (by kernel_rfl) (by kernel_rfl) (by kernel_rfl) (fun _ _ _ h => h) (by kernel_rfl) rfl (fun W hW => rdR) hS.base ?_; simp only [Act.put, List.setIfInBounds_toArray, List.set_cons_zero, List.set_cons_succ])
            (refine we_all (rs := [6]) (by kernel_rfl) (by simp) ?_; intro i hi; have hi := List.mem_singleton.1 hi; subst hi)
            (refine wod_of rfl rfl rfl (a_build1 (v := .agg _) hS rfl rfl rfl rfl (by rfl) (by simp) ?_); clear hS; intro v1 w4 hS; simp only [List.length_cons, List.length_nil, Nat.zero_add] at hS; try simp only [Nat.reduceAdd] at hS; (refine ⟨fun _ => hS.base, ?_⟩; simp only [Act.put, List.setIfInBounds_toArray, List.set_cons_zero, List.set_cons_succ]))
            (refine we_all (rs := [7]) (by kernel_rfl) (by simp) ?_; intro i hi; have hi := List.mem_singleton.1 hi; subst hi)
            (refine wod_of rfl rfl rfl (k_app (z := (⟨x1, x2, x3, x4⟩ : Acc)) hS rfl rfl rfl rfl (h1 := by simp [Acc.cells, Value.oneCell']) (h := ?_)); clear hS; intro va w5 hS hv2; (refine ⟨fun _ => hS.base, ?_⟩; simp only [Act.put, List.setIfInBounds_toArray, List.set_cons_zero, List.set_cons_succ]))
            ((refine we_all (rs := [8]) (by kernel_rfl) (by simp) ?_; intro i hi; have hi := List.mem_singleton.1 hi; subst hi); refine wod_of rfl rfl rfl (wp_run (by (go_simp; first | done | exact ⟨rfl, rfl⟩ | with_reducible rfl)) ?_); (refine ⟨fun _ => hS.base, ?_⟩; simp only [Act.put, List.setIfInBounds_toArray, List.set_cons_zero, List.set_cons_succ]))
            ((refine we_all (rs := [9]) (by kernel_rfl) (by simp) ?_; intro i hi; have hi := List.mem_singleton.1 hi; subst hi); refine wod_of rfl rfl rfl (wp_run (by (go_simp; first | done | exact ⟨rfl, rfl⟩ | with_reducible rfl)) ?_); (refine ⟨fun _ => hS.base, ?_⟩; simp only [Act.put, List.setIfInBounds_toArray, List.set_cons_zero, List.set_cons_succ]))
            (refine we_all (rs := [10]) (by kernel_rfl) (by simp) ?_; intro i hi; have hi := List.mem_singleton.1 hi; subst hi)
            (replace hS := hB _ _ hS; simp only [List.cons_append, List.nil_append] at hS; refine won_of rfl rfl rfl (k_st1 hS rfl rfl rfl (h := ?_)); clear hS; intro w6 hS; simp only [List.set_cons_zero, List.set_cons_succ] at hS; simp only [Act.eval, Array.getD_eq_getD_getElem?, List.getElem?_toArray, List.getElem?_cons_succ, List.getElem?_cons_zero, Option.getD_some] at hS; (refine ⟨fun h => absurd rfl h, ?_⟩; refine we_done (by kernel_rfl) ?_ _))
            go_wp2_with (first | refine au1 (n := ?_) | (refine au2 (n := ?_); clear hS; intro w' hS) | (refine au3 (n := ?_); clear hS; intro gb w1 hS) | (refine au4 (n := ?_); clear hS; intro v1 w' hS) | ((with_reducible refine wl_guard ?_); refine stop_mem rfl rfl ?_))
            replace hS := (St.packs (va, xt) hS.pick : St [] w _ (ledg g ⟨A ++ [⟨x1, x2, x3, x4⟩], []⟩ :: [.vec y1 9 1 a.length (a.flatMap strc), .vec y2 9 1 b.length (b.flatMap strc)]))
            exact ⟨⟨j + 1, by omega, by go_num, by rw [HE.out]; exact hS.pick⟩, by simp [intOf]; omega⟩
          · obtain rfl : j = a.length := by omega
            rw [List.take_length] at hS
            go_wp2_with (first | refine au1 (n := ?_) | (refine au2 (n := ?_); clear hS; intro w' hS) | (refine au3 (n := ?_); clear hS; intro gb w1 hS) | (refine au4 (n := ?_); clear hS; intro v1 w' hS) | ((with_reducible refine wl_guard ?_); refine stop_mem rfl rfl ?_))
            obtain ⟨A, hA⟩ : ∃ A, a.map gWh = A := ⟨_, rfl⟩
            rw [hA] at hS
            have HAA := Lib.hid hA
            have hA8 : A.length ≤ 8 := by rw [← hA, List.length_map]; exact hal
            clear hA
            go_loopw [64] (fun k wr => ∃ j : Nat, j ≤ b.length ∧ k = .int .i64 j ∧ St [] w wr [ledg g ⟨A, (b.take j).map gTra⟩, .vec y1 9 1 a.length (a.flatMap strc), .vec y2 9 1 b.length (b.flatMap strc)]) (fun k _ => b.length - (intOf k).toNat)
            case atStart => exact ⟨0, by omega, rfl, hS⟩
            case round =>
              clear hS
              obtain ⟨j, hj, rfl, hS⟩ := hrel
              by_cases hlt : j < b.length
              · have hlt1 : (j : Int) < b.length := by omega
                have hget := get_lt (L := b) hlt
                have hcl := HB.out _ (nth_mem hlt)
                have HE : Hid ((b.take (j + 1)).map gTra = (b.take j).map gTra ++ [gTra (nth b j)]) := Lib.hid (by rw [take_nth hlt, List.map_append]; rfl)
                obtain ⟨c, hc⟩ : ∃ c, nth b j = c := ⟨_, rfl⟩
                rw [hc] at hget HE hcl
                have hT := fun w => transfers_any c w (by omega)
                simp only [takeS_32 hcl, List.length_singleton, List.flatMap_cons, List.flatMap_nil, List.append_nil] at hT
                obtain ⟨X, hX⟩ : ∃ X, gTra c = X := ⟨_, rfl⟩
                simp only [hX] at hT
                rw [hX] at HE
                have hml : ((b.take j).map gTra).length ≤ 16 := by rw [List.length_map, List.length_take]; omega
                obtain ⟨B, hB⟩ : ∃ B, (b.take j).map gTra = B := ⟨_, rfl⟩
                rw [hB] at HE hml hS
                clear hc hX hB hcl
                obtain ⟨x1, x2, x3, x4⟩ := X
                simp only [Tra.cells] at hT
                have HTR := Lib.hid hT
                clear hT
                (have hU := St.unpack hS; clear hS; obtain ⟨⟨xa, xt⟩, _, hS⟩ := hU; simp only [List.cons_append, List.nil_append] at hS)
                go_wp2_with (first | (go_at_call 58; refine (HTR.out _).mono ?_; rintro e w' ⟨y3, rfl, h⟩; replace hS := hS.call h; clear h; simp only [List.cons_append, List.nil_append] at hS) | ((with_reducible refine g_append ?_); refine wl_of rfl ?_; refine k_app (z := (⟨x1, x2, x3, x4⟩ : Tra)) hS rfl rfl rfl rfl (h1 := by simp [Tra.cells, Value.oneCell']) (h := ?_); clear hS; intro v2 w' hS hv2) | (first | refine au1 (n := ?_) | (refine au2 (n := ?_); clear hS; intro w' hS) | (refine au3 (n := ?_); clear hS; intro gb w1 hS) | (refine au4 (n := ?_); clear hS; intro v1 w' hS) | ((with_reducible refine wl_guard ?_); refine stop_mem rfl rfl ?_)))
                replace hS := (St.packs (xa, v2) hS.pick : St [] w _ (ledg g ⟨A, B ++ [⟨x1, x2, x3, x4⟩]⟩ :: [.vec y1 9 1 a.length (a.flatMap strc), .vec y2 9 1 b.length (b.flatMap strc)]))
                exact ⟨⟨j + 1, by omega, by go_num, by rw [HE.out]; exact hS.pick⟩, by simp [intOf]; omega⟩
              · obtain rfl : j = b.length := by omega
                rw [List.take_length] at hS
                go_wp2_with (first | refine au1 (n := ?_) | (refine au2 (n := ?_); clear hS; intro w' hS) | (refine au3 (n := ?_); clear hS; intro gb w1 hS) | (refine au4 (n := ?_); clear hS; intro v1 w' hS) | ((with_reducible refine wl_guard ?_); refine stop_mem rfl rfl ?_))
                go_ret2
                rw [HAA.out]
                exact ⟨g, rfl, hS.pick⟩
      · rw [if_neg hq]
        simp only
        obtain ⟨q0, q1, rfl⟩ := List.exists_cons_of_ne_nil hq
        clear hak hbk
        (go_enter Try.func39, Try.ntmps39)
        go_wp2_with (fail)
        refine (H25.out _).mono ?_
        rintro e w' ⟨y1, rfl, h⟩
        replace hS := hS.call h
        clear h
        go_wp2_with (fail)
        refine (H32.out _).mono ?_
        rintro e w' ⟨y2, rfl, h⟩
        replace hS := hS.call h
        clear h
        simp only [List.cons_append, List.nil_append] at hS
        go_wp2_with (first | (first | refine au1 (n := ?_) | (refine au2 (n := ?_); clear hS; intro w' hS) | (refine au3 (n := ?_); clear hS; intro gb w1 hS) | (refine au4 (n := ?_); clear hS; intro v1 w' hS) | ((with_reducible refine wl_guard ?_); refine stop_mem rfl rfl ?_)))
        go_ret2
        exact ⟨rfl, hS.nil⟩
end
end Go.Proofs.Ytjjiibcnknljfaa
