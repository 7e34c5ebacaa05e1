/-
  A sector is opened: the program's.
-/
import Derived.Test.YtnjboimjlbgdiaaSealOpen
set_option linter.unusedSimpArgs false
set_option linter.unusedVariables false
set_option linter.unusedSectionVars false
set_option maxRecDepth 100000
namespace Go.Proofs.Ytnjboimjlbgdiaa
open Go.RowKit Go.Cmp
set_option maxRecDepth 100000

section
set_option maxHeartbeats 8000000 in
theorem open_any (p : List UInt8) (hl : p.length ≤ 1000000) (w : World) :
    Calls Try.prog 52 #[.string ⟨p.toArray⟩] w fun e w' => e = .returned (.tuple #[.string ⟨(openS p).1.toArray⟩, .bool (openS p).2]) ∧ St [] w w' [] := by
  have hS := St.init w
  by_cases hp : p.length = 384
  case neg =>
    have e : openS p = ([], false) := by unfold openS; rw [if_neg (fun h => hp h.1)]
    rw [e]
    have hp' : ¬ (p.length : Int) = 384 := by omega
    (go_enter Try.func52, Try.ntmps52)
    go_wp2_with (fail)
    refine region_calm (by kernel_rfl) (by kernel_rfl) hS ?_
    (refine Calm.pure rfl (h := ?_); simp only [Act.put, List.setIfInBounds_toArray, List.set_cons_zero, List.set_cons_succ])
    (refine Calm.pure rfl (h := ?_); simp only [Act.put, List.setIfInBounds_toArray, List.set_cons_zero, List.set_cons_succ])
    (refine Calm.run (v := .bool true) rfl (fun W hW => by (go_simp; try simp [hp'])) ?_; simp only [Act.put, List.setIfInBounds_toArray, List.set_cons_zero, List.set_cons_succ])
    (refine Calm.pure rfl (h := ?_); simp only [Act.put, List.setIfInBounds_toArray, List.set_cons_zero, List.set_cons_succ])
    iterate 8 ((refine Calm.skip rfl ?_; simp only [Act.put, List.setIfInBounds_toArray, List.set_cons_zero, List.set_cons_succ]))
    (refine Calm.pure rfl (h := ?_); simp only [Act.put, List.setIfInBounds_toArray, List.set_cons_zero, List.set_cons_succ])
    (refine Calm.nil ?_; clear hS; intro w8 hS)
    go_wp2_with (first | refine au1 (n := ?_) | (refine au2 (n := ?_); clear hS; intro w' hS) | (refine au3 (n := ?_); clear hS; intro gb w1 hS) | (refine au4 (n := ?_); clear hS; intro v1 w' hS) | ((with_reducible refine wl_guard ?_); refine stop_mem rfl rfl ?_))
    go_ret2
    exact ⟨rfl, hS⟩
  have hp1 : p.length ≤ 384 := by omega
  have hp2 : 384 ≤ p.length := by omega
  have hpi : (p.length : Int) = 384 := by omega
  have HPI := Lib.hid hpi
  have hsub : IntKind.i64.wrap ((p.length : Int) - 1) = 383 := by rw [hpi]; rfl
  have HSUB := Lib.hid hsub
  by_cases hg : nth p 0 = nth p 383
  case neg =>
    have e : openS p = ([], false) := by
      unfold openS
      rw [if_neg]
      rintro ⟨_, h2, h3⟩
      exact hg ((open_iff hp h3).1 h2).1
    rw [e]
    obtain ⟨x, hx⟩ : ∃ x, (nth p 0).toNat = x := ⟨_, rfl⟩
    obtain ⟨y, hy⟩ : ∃ y, (nth p 383).toNat = y := ⟨_, rfl⟩
    have hxy : ¬ (x : Int) = y := by
      intro h
      apply hg
      apply UInt8.toNat_inj.1
      omega
    have HX := Lib.hid hx
    have HY := Lib.hid hy
    clear hg hx hy hpi e hp
    (go_enter Try.func52, Try.ntmps52)
    go_wp2_with (fail)
    refine region_calm (by kernel_rfl) (by kernel_rfl) hS ?_
    (refine Calm.pure rfl (h := ?_); simp only [Act.put, List.setIfInBounds_toArray, List.set_cons_zero, List.set_cons_succ])
    (refine Calm.pure rfl (h := ?_); simp only [Act.put, List.setIfInBounds_toArray, List.set_cons_zero, List.set_cons_succ])
    (refine Calm.run (v := .bool false) rfl (fun W hW => by (go_simp; try simp [HPI.out])) ?_; simp only [Act.put, List.setIfInBounds_toArray, List.set_cons_zero, List.set_cons_succ])
    (refine Calm.pure rfl (h := ?_); simp only [Act.put, List.setIfInBounds_toArray, List.set_cons_zero, List.set_cons_succ])
    (refine Calm.pure rfl (h := ?_); simp only [Act.put, List.setIfInBounds_toArray, List.set_cons_zero, List.set_cons_succ])
    refine Calm.run (v := .int .u8 (x : Int)) rfl (fun W hW => by rw [← HX.out]; exact a_strIndex (l := p) (j := 0) rfl rfl rfl rfl (by omega) (by omega)) ?_
    simp only [Act.put, List.setIfInBounds_toArray, List.set_cons_zero, List.set_cons_succ]
    (refine Calm.pure rfl (h := ?_); simp only [Act.put, List.setIfInBounds_toArray, List.set_cons_zero, List.set_cons_succ])
    (refine Calm.pure rfl (h := ?_); simp only [Act.put, List.setIfInBounds_toArray, List.set_cons_zero, List.set_cons_succ])
    (refine Calm.pure rfl (h := ?_); simp only [Act.put, List.setIfInBounds_toArray, List.set_cons_zero, List.set_cons_succ])
    refine Calm.run (v := .int .i64 383) rfl (fun W hW => by (go_simp; try simp [HSUB.out])) ?_
    simp only [Act.put, List.setIfInBounds_toArray, List.set_cons_zero, List.set_cons_succ]
    refine Calm.run (v := .int .u8 (y : Int)) rfl (fun W hW => by rw [← HY.out]; exact a_strIndex (l := p) (j := 383) rfl rfl rfl rfl (by omega) (by omega)) ?_
    simp only [Act.put, List.setIfInBounds_toArray, List.set_cons_zero, List.set_cons_succ]
    (refine Calm.run (v := .bool true) rfl (fun W hW => by (go_simp; try simp [hxy])) ?_; simp only [Act.put, List.setIfInBounds_toArray, List.set_cons_zero, List.set_cons_succ])
    (refine Calm.pure rfl (h := ?_); simp only [Act.put, List.setIfInBounds_toArray, List.set_cons_zero, List.set_cons_succ])
    (refine Calm.nil ?_; clear hS; intro w8 hS)
    go_wp2_with (first | refine au1 (n := ?_) | (refine au2 (n := ?_); clear hS; intro w' hS) | (refine au3 (n := ?_); clear hS; intro gb w1 hS) | (refine au4 (n := ?_); clear hS; intro v1 w' hS) | ((with_reducible refine wl_guard ?_); refine stop_mem rfl rfl ?_))
    go_ret2
    exact ⟨rfl, hS⟩
  have hopn := fun h => open_iff hp h
  have hfac := fun h => takeT_facts (p := p) h
  have hop : openS p = if sealed (nth p 0) (takeT p 1 376).1 = p ∧ (takeT p 1 376).2.2 = 0 then ((takeT p 1 376).1, true) else ([], false) := by
    unfold openS
    by_cases hh : sealed (nth p 0) (takeT p 1 376).1 = p ∧ (takeT p 1 376).2.2 = 0
    · rw [if_pos ⟨hp, hh⟩, if_pos hh]
    · rw [if_neg (fun h => hh h.2), if_neg hh]
  have hta := fun (W : World) (M : List Ent) (v : Value) (hS : St [] w W (.vec v 5 1 p.length (p.flatMap byt) :: M)) => num_take hS 379 4 (by omega) (by omega) (by omega) (hS.rdx Ix.here)
  have htt := fun (W : World) (M : List Ent) (v : Value) (hS : St [] w W (.vec v 5 1 p.length (p.flatMap byt) :: M)) => num_takeText hS 1 376 (by omega) (by omega) (fun W hW => hW.rdx Ix.here)
  have e379 : ((379 : Nat) : Int) = 379 := rfl
  have e4 : ((4 : Nat) : Int) = 4 := rfl
  have e1 : ((1 : Nat) : Int) = 1 := rfl
  have etn : takeN p 379 4 = (leN ((p.drop 379).take 4), 0) := by unfold takeN; rw [if_neg (by omega)]
  simp only [e379, e4, etn] at hta
  simp only [e1] at htt
  have hsb : leN ((p.drop 379).take 4) < 4294967296 := by
    have := leN_lt ((p.drop 379).take 4)
    rw [List.length_take, List.length_drop, Nat.min_eq_left (by omega)] at this
    exact this
  obtain ⟨sb, hsbe⟩ : ∃ sb, leN ((p.drop 379).take 4) = sb := ⟨_, rfl⟩
  obtain ⟨T, hT⟩ : ∃ T, takeT p 1 376 = T := ⟨_, rfl⟩
  simp only [hsbe] at hta hopn hsb
  simp only [hT] at htt hopn hfac hop
  obtain ⟨t1, t2, t3⟩ := T
  simp only at htt hopn hfac hop
  have HTA := Lib.hid hta
  have HTT := Lib.hid htt
  obtain ⟨x, hx⟩ : ∃ x, (nth p 0).toNat = x := ⟨_, rfl⟩
  have HX := Lib.hid hx
  have HY : Hid ((nth p 383).toNat = x) := Lib.hid (by rw [← hg]; exact hx)
  obtain ⟨res, hres⟩ : ∃ res, openS p = res := ⟨_, rfl⟩
  rw [hres] at hop ⊢
  by_cases h3 : t3 = 0
  case neg =>
    rw [if_neg (fun h => h3 h.2)] at hop
    subst hop
    clear hopn hfac hta htt hT hx hres hpi hsub hp hg hsbe
    (go_enter Try.func52, Try.ntmps52)
    go_wp2_with (fail)
    refine region_calm (by kernel_rfl) (by kernel_rfl) hS ?_
    (refine Calm.pure rfl (h := ?_); simp only [Act.put, List.setIfInBounds_toArray, List.set_cons_zero, List.set_cons_succ])
    (refine Calm.pure rfl (h := ?_); simp only [Act.put, List.setIfInBounds_toArray, List.set_cons_zero, List.set_cons_succ])
    (refine Calm.run (v := .bool false) rfl (fun W hW => by (go_simp; try simp [HPI.out])) ?_; simp only [Act.put, List.setIfInBounds_toArray, List.set_cons_zero, List.set_cons_succ])
    (refine Calm.pure rfl (h := ?_); simp only [Act.put, List.setIfInBounds_toArray, List.set_cons_zero, List.set_cons_succ])
    (refine Calm.pure rfl (h := ?_); simp only [Act.put, List.setIfInBounds_toArray, List.set_cons_zero, List.set_cons_succ])
    refine Calm.run (v := .int .u8 (x : Int)) rfl (fun W hW => by rw [← HX.out]; exact a_strIndex (l := p) (j := 0) rfl rfl rfl rfl (by omega) (by omega)) ?_
    simp only [Act.put, List.setIfInBounds_toArray, List.set_cons_zero, List.set_cons_succ]
    (refine Calm.pure rfl (h := ?_); simp only [Act.put, List.setIfInBounds_toArray, List.set_cons_zero, List.set_cons_succ])
    (refine Calm.pure rfl (h := ?_); simp only [Act.put, List.setIfInBounds_toArray, List.set_cons_zero, List.set_cons_succ])
    (refine Calm.pure rfl (h := ?_); simp only [Act.put, List.setIfInBounds_toArray, List.set_cons_zero, List.set_cons_succ])
    refine Calm.run (v := .int .i64 383) rfl (fun W hW => by (go_simp; try simp [HSUB.out])) ?_
    simp only [Act.put, List.setIfInBounds_toArray, List.set_cons_zero, List.set_cons_succ]
    refine Calm.run (v := .int .u8 (x : Int)) rfl (fun W hW => by rw [← HY.out]; exact a_strIndex (l := p) (j := 383) rfl rfl rfl rfl (by omega) (by omega)) ?_
    simp only [Act.put, List.setIfInBounds_toArray, List.set_cons_zero, List.set_cons_succ]
    (refine Calm.pure rfl (h := ?_); simp only [Act.put, List.setIfInBounds_toArray, List.set_cons_zero, List.set_cons_succ])
    (refine Calm.pure rfl (h := ?_); simp only [Act.put, List.setIfInBounds_toArray, List.set_cons_zero, List.set_cons_succ])
    (refine Calm.nil ?_; clear hS; intro w8 hS)
    go_wp2_with (first | ((with_reducible refine g_conv ?_); refine wl_of rfl ?_; refine a_toBytes hS rfl rfl rfl rfl rfl (show p.length ≤ maxLen by unfold maxLen; omega) ?_; clear hS; intro v1 w1 hS) | fail)
    refine (HTA.out _ _ _ (hS.out (by (repeat (first | exact Out.here | apply Out.there))))).mono ?_
    clear hS
    rintro e w' ⟨rfl, hS⟩
    go_wp2_with (fail)
    refine (HTT.out _ _ _ (hS.out (by (repeat (first | exact Out.here | apply Out.there))))).mono ?_
    clear hS
    rintro e w' ⟨rfl, hS⟩
    go_wp2_with (first | refine au1 (n := ?_) | (refine au2 (n := ?_); clear hS; intro w' hS) | (refine au3 (n := ?_); clear hS; intro gb w1 hS) | (refine au4 (n := ?_); clear hS; intro v1 w' hS) | ((with_reducible refine wl_guard ?_); refine stop_mem rfl rfl ?_))
    go_ret2
    exact ⟨rfl, hS.nil⟩
  subst h3
  obtain ⟨n, _, hn1, hn2, ht1, ht2⟩ := hfac rfl
  have hopn := hopn rfl
  have htl : t1.length = n := by rw [ht1, List.length_take, List.length_drop]; omega
  rw [htl] at hopn
  have hsm := sumOf_lt (p.take 379)
  have HSUM := Lib.hid (fun w => crcSum_any (p.take 379) (by rw [List.length_take]; omega) w)
  obtain ⟨sm, hsme⟩ : ∃ sm, sumOf (p.take 379) = sm := ⟨_, rfl⟩
  rw [hsme] at hopn hsm HSUM
  have hw32 : IntKind.u32.wrap (sb : Int) = sb := by
    simp only [IntKind.wrap, IntKind.bits, IntKind.signed]
    simp
    omega
  obtain ⟨q, hq⟩ : ∃ q, p.take 379 = q := ⟨_, rfl⟩
  have HQ : Hid (p.take (379 : Int).toNat = q) := Lib.hid hq
  rw [hq] at HSUM
  by_cases h4 : sb = sm
  case neg =>
    rw [if_neg (fun h => h4 (hopn.1 h.1).2.1)] at hop
    subst hop
    have h4' : ¬ (sb : Int) = sm := by omega
    clear hopn hfac hta htt hT hx hres hpi hsub hp hg hsbe hsme hq ht1
    (go_enter Try.func52, Try.ntmps52)
    go_wp2_with (fail)
    refine region_calm (by kernel_rfl) (by kernel_rfl) hS ?_
    (refine Calm.pure rfl (h := ?_); simp only [Act.put, List.setIfInBounds_toArray, List.set_cons_zero, List.set_cons_succ])
    (refine Calm.pure rfl (h := ?_); simp only [Act.put, List.setIfInBounds_toArray, List.set_cons_zero, List.set_cons_succ])
    (refine Calm.run (v := .bool false) rfl (fun W hW => by (go_simp; try simp [HPI.out])) ?_; simp only [Act.put, List.setIfInBounds_toArray, List.set_cons_zero, List.set_cons_succ])
    (refine Calm.pure rfl (h := ?_); simp only [Act.put, List.setIfInBounds_toArray, List.set_cons_zero, List.set_cons_succ])
    (refine Calm.pure rfl (h := ?_); simp only [Act.put, List.setIfInBounds_toArray, List.set_cons_zero, List.set_cons_succ])
    refine Calm.run (v := .int .u8 (x : Int)) rfl (fun W hW => by rw [← HX.out]; exact a_strIndex (l := p) (j := 0) rfl rfl rfl rfl (by omega) (by omega)) ?_
    simp only [Act.put, List.setIfInBounds_toArray, List.set_cons_zero, List.set_cons_succ]
    (refine Calm.pure rfl (h := ?_); simp only [Act.put, List.setIfInBounds_toArray, List.set_cons_zero, List.set_cons_succ])
    (refine Calm.pure rfl (h := ?_); simp only [Act.put, List.setIfInBounds_toArray, List.set_cons_zero, List.set_cons_succ])
    (refine Calm.pure rfl (h := ?_); simp only [Act.put, List.setIfInBounds_toArray, List.set_cons_zero, List.set_cons_succ])
    refine Calm.run (v := .int .i64 383) rfl (fun W hW => by (go_simp; try simp [HSUB.out])) ?_
    simp only [Act.put, List.setIfInBounds_toArray, List.set_cons_zero, List.set_cons_succ]
    refine Calm.run (v := .int .u8 (x : Int)) rfl (fun W hW => by rw [← HY.out]; exact a_strIndex (l := p) (j := 383) rfl rfl rfl rfl (by omega) (by omega)) ?_
    simp only [Act.put, List.setIfInBounds_toArray, List.set_cons_zero, List.set_cons_succ]
    (refine Calm.pure rfl (h := ?_); simp only [Act.put, List.setIfInBounds_toArray, List.set_cons_zero, List.set_cons_succ])
    (refine Calm.pure rfl (h := ?_); simp only [Act.put, List.setIfInBounds_toArray, List.set_cons_zero, List.set_cons_succ])
    (refine Calm.nil ?_; clear hS; intro w8 hS)
    go_wp2_with (first | ((with_reducible refine g_conv ?_); refine wl_of rfl ?_; refine a_toBytes hS rfl rfl rfl rfl rfl (show p.length ≤ maxLen by unfold maxLen; omega) ?_; clear hS; intro v1 w1 hS) | fail)
    refine (HTA.out _ _ _ (hS.out (by (repeat (first | exact Out.here | apply Out.there))))).mono ?_
    clear hS
    rintro e w' ⟨rfl, hS⟩
    go_wp2_with (fail)
    refine (HTT.out _ _ _ (hS.out (by (repeat (first | exact Out.here | apply Out.there))))).mono ?_
    clear hS
    rintro e w' ⟨rfl, hS⟩
    go_wp2_with (first | ((with_reducible refine g_cut ?_); refine wl_run rfl (v := .string ⟨q.toArray⟩) (by rw [← HQ.out]; exact a_strHi rfl rfl rfl rfl (by omega) (by omega)) ?_) | (go_at_call 68; refine (HSUM.out _).mono ?_; rintro e w' ⟨rfl, h⟩; replace hS := hS.call h; clear h) | (first | refine au1 (n := ?_) | (refine au2 (n := ?_); clear hS; intro w' hS) | (refine au3 (n := ?_); clear hS; intro gb w1 hS) | (refine au4 (n := ?_); clear hS; intro v1 w' hS) | ((with_reducible refine wl_guard ?_); refine stop_mem rfl rfl ?_)))
    go_ret2
    exact ⟨rfl, hS.nil⟩
  subst h4
  have hz : sealed (nth p 0) t1 = p ↔ ∀ j, 3 + n ≤ j → j < 379 → nth p j = 0 := by
    rw [hopn]
    exact ⟨fun h => h.2.2, fun h => ⟨hg, rfl, h⟩⟩
  have hop1 : (∀ j, 3 + n ≤ j → j < 379 → nth p j = 0) → res = (t1, true) := fun hh => by rw [hop, if_pos ⟨hz.2 hh, rfl⟩]
  have hop2 : ¬ (∀ j, 3 + n ≤ j → j < 379 → nth p j = 0) → res = ([], false) := fun hh => by rw [hop, if_neg (fun h => hh (hz.1 h.1))]
  have hzl : ((p.drop (3 + n)).take (379 - (3 + n))).length = 376 - n := by rw [List.length_take, List.length_drop]; omega
  have hzn : ∀ j, j < 376 - n → nth ((p.drop (3 + n)).take (379 - (3 + n))) j = nth p (3 + n + j) := fun j hj => by rw [nth_take (by omega), nth_drop]
  have hseg := fun (W : World) (v : Value) (hR : Rd W 1 v p.length (p.flatMap byt)) => Rd_seg (f := byt) hR (fun _ => rfl) (3 + n) 379 (by omega) (by omega)
  obtain ⟨z, hze⟩ : ∃ z, (p.drop (3 + n)).take (379 - (3 + n)) = z := ⟨_, rfl⟩
  rw [hze] at hzl hzn
  simp only [hze] at hseg
  have HSEG := Lib.hid hseg
  have HZN := Lib.hid hzn
  have HOP1 := Lib.hid hop1
  have HOP2 := Lib.hid hop2
  have HZL := Lib.hid hzl
  have hlo : (3 + (n : Int)).toNat = 3 + n := by omega
  have hhi : (379 : Int).toNat = 379 := rfl
  subst ht2
  clear hop hop1 hop2 hz hopn hfac hta htt hT hx hres hpi hsub hp hg hsbe hsme hq ht1 hzl hzn hseg hze
  obtain ⟨r1, r2⟩ := res
  (go_enter Try.func52, Try.ntmps52)
  go_wp2_with (fail)
  refine region_calm (by kernel_rfl) (by kernel_rfl) hS ?_
  (refine Calm.pure rfl (h := ?_); simp only [Act.put, List.setIfInBounds_toArray, List.set_cons_zero, List.set_cons_succ])
  (refine Calm.pure rfl (h := ?_); simp only [Act.put, List.setIfInBounds_toArray, List.set_cons_zero, List.set_cons_succ])
  (refine Calm.run (v := .bool false) rfl (fun W hW => by (go_simp; try simp [HPI.out])) ?_; simp only [Act.put, List.setIfInBounds_toArray, List.set_cons_zero, List.set_cons_succ])
  (refine Calm.pure rfl (h := ?_); simp only [Act.put, List.setIfInBounds_toArray, List.set_cons_zero, List.set_cons_succ])
  (refine Calm.pure rfl (h := ?_); simp only [Act.put, List.setIfInBounds_toArray, List.set_cons_zero, List.set_cons_succ])
  refine Calm.run (v := .int .u8 (x : Int)) rfl (fun W hW => by rw [← HX.out]; exact a_strIndex (l := p) (j := 0) rfl rfl rfl rfl (by omega) (by omega)) ?_
  simp only [Act.put, List.setIfInBounds_toArray, List.set_cons_zero, List.set_cons_succ]
  (refine Calm.pure rfl (h := ?_); simp only [Act.put, List.setIfInBounds_toArray, List.set_cons_zero, List.set_cons_succ])
  (refine Calm.pure rfl (h := ?_); simp only [Act.put, List.setIfInBounds_toArray, List.set_cons_zero, List.set_cons_succ])
  (refine Calm.pure rfl (h := ?_); simp only [Act.put, List.setIfInBounds_toArray, List.set_cons_zero, List.set_cons_succ])
  refine Calm.run (v := .int .i64 383) rfl (fun W hW => by (go_simp; try simp [HSUB.out])) ?_
  simp only [Act.put, List.setIfInBounds_toArray, List.set_cons_zero, List.set_cons_succ]
  refine Calm.run (v := .int .u8 (x : Int)) rfl (fun W hW => by rw [← HY.out]; exact a_strIndex (l := p) (j := 383) rfl rfl rfl rfl (by omega) (by omega)) ?_
  simp only [Act.put, List.setIfInBounds_toArray, List.set_cons_zero, List.set_cons_succ]
  (refine Calm.pure rfl (h := ?_); simp only [Act.put, List.setIfInBounds_toArray, List.set_cons_zero, List.set_cons_succ])
  (refine Calm.pure rfl (h := ?_); simp only [Act.put, List.setIfInBounds_toArray, List.set_cons_zero, List.set_cons_succ])
  (refine Calm.nil ?_; clear hS; intro w8 hS)
  go_wp2_with (first | ((with_reducible refine g_conv ?_); refine wl_of rfl ?_; refine a_toBytes hS rfl rfl rfl rfl rfl (show p.length ≤ maxLen by unfold maxLen; omega) ?_; clear hS; intro v1 w1 hS) | fail)
  refine (HTA.out _ _ _ (hS.out (by (repeat (first | exact Out.here | apply Out.there))))).mono ?_
  clear hS
  rintro e w' ⟨rfl, hS⟩
  go_wp2_with (fail)
  refine (HTT.out _ _ _ (hS.out (by (repeat (first | exact Out.here | apply Out.there))))).mono ?_
  clear hS
  rintro e w' ⟨rfl, hS⟩
  go_wp2_with (first | ((with_reducible refine g_cut ?_); refine wl_run rfl (v := .string ⟨q.toArray⟩) (by rw [← HQ.out]; exact a_strHi rfl rfl rfl rfl (by omega) (by omega)) ?_) | (go_at_call 68; refine (HSUM.out _).mono ?_; rintro e w' ⟨rfl, h⟩; replace hS := hS.call h; clear h) | ((with_reducible refine g_cut ?_); refine wl_run rfl (x_cut (ti := Try.t5) rfl (hS.rdx Ix.here) rfl rfl rfl rfl rfl rfl (by omega) (by omega) (by omega)) ?_; simp only [hlo, hhi]) | ((with_reducible refine g_len ?_); refine wl_run rfl (a_len (u := cutSl v1 1 (3 + n) 379) rfl rfl rfl (HSEG.out _ _ (hS.rdx Ix.here))) ?_) | (first | refine au1 (n := ?_) | (refine au2 (n := ?_); clear hS; intro w' hS) | (refine au3 (n := ?_); clear hS; intro gb w1 hS) | (refine au4 (n := ?_); clear hS; intro v1 w' hS) | ((with_reducible refine wl_guard ?_); refine stop_mem rfl rfl ?_)))
  have hzb : z.length ≤ 376 := by rw [HZL.out]; omega
  obtain ⟨sv, hsv⟩ : ∃ sv, cutSl v1 1 (3 + n) 379 = sv := ⟨_, rfl⟩
  have HSV := Lib.hid (fun (W : World) (hR : Rd W 1 v1 p.length (p.flatMap byt)) => show Rd W 1 sv z.length (z.flatMap byt) by rw [← hsv]; exact HSEG.out W v1 hR)
  rw [hsv]
  clear hsv HSEG
  go_loopw [52] (fun k wr => ∃ j : Nat, j ≤ z.length ∧ k = .int .i64 j ∧ Hid (∀ i, i < j → nth z i = 0) ∧ St [] w wr [.vec v1 5 1 p.length (p.flatMap byt)]) (fun k _ => z.length - (intOf k).toNat)
  case atStart => exact ⟨0, by omega, rfl, Lib.hid (fun i hi => by omega), hS⟩
  case round =>
    clear hS
    obtain ⟨j, hj, rfl, HJ, hS⟩ := hrel
    by_cases hlt : j < z.length
    · have hlt1 : (j : Int) < z.length := by omega
      have hget := byt_get hlt
      have hzj := HZN.out j (by rw [← HZL.out]; exact hlt)
      by_cases hb0 : nth z j = 0
      · have HN : Hid (∀ i, i < j + 1 → nth z i = 0) := Lib.hid (fun i hi => by
          by_cases h : i = j
          · rw [h]; exact hb0
          · exact HJ.out i (by omega))
        rw [hb0] at hget
        have HG := Lib.hid hget
        clear hget hzj hb0
        go_wp2_with (first | ((with_reducible refine g_index ?_); refine wl_run rfl (a_index (u := sv) (j := (j : Int)) rfl rfl rfl rfl (HSV.out _ (hS.rdx Ix.here)) (by rfl) (by omega) (by omega)) ?_) | ((with_reducible refine g_load ?_); refine wl_run rfl (v := .int .u8 0) (by exact a_loadE (f := byt) (k := 1) (L := z) (j := j) rfl (HSV.out _ (hS.rdx Ix.here)) (by rfl) rfl rfl (by intro _; rfl) HG.out (by rfl)) ?_) | (first | refine au1 (n := ?_) | (refine au2 (n := ?_); clear hS; intro w' hS) | (refine au3 (n := ?_); clear hS; intro gb w1 hS) | (refine au4 (n := ?_); clear hS; intro v1 w' hS) | ((with_reducible refine wl_guard ?_); refine stop_mem rfl rfl ?_)))
        exact ⟨⟨j + 1, by omega, by simp, HN, hS⟩, by simp [intOf]; omega⟩
      · obtain ⟨b, hb⟩ : ∃ b, nth z j = b := ⟨_, rfl⟩
        rw [hb] at hget hzj hb0
        have hbn : ¬ (b.toNat : Int) = 0 := by
          intro h
          apply hb0
          apply UInt8.toNat_inj.1
          have : b.toNat = 0 := by omega
          rw [this]
          rfl
        have HR : Hid ((r1, r2) = (([] : List UInt8), false)) := Lib.hid (HOP2.out (fun h => hb0 (by
          rw [hzj]
          exact h (3 + n + j) (by omega) (by have := HZL.out; omega))))
        have HG := Lib.hid hget
        clear hget hzj hb0 hb HOP1 HOP2
        go_wp2_with (first | ((with_reducible refine g_index ?_); refine wl_run rfl (a_index (u := sv) (j := (j : Int)) rfl rfl rfl rfl (HSV.out _ (hS.rdx Ix.here)) (by rfl) (by omega) (by omega)) ?_) | ((with_reducible refine g_load ?_); refine wl_run rfl (v := .int .u8 (b.toNat : Int)) (by exact a_loadE (f := byt) (k := 1) (L := z) (j := j) rfl (HSV.out _ (hS.rdx Ix.here)) (by rfl) rfl rfl (by intro _; rfl) HG.out (by rfl)) ?_) | (first | refine au1 (n := ?_) | (refine au2 (n := ?_); clear hS; intro w' hS) | (refine au3 (n := ?_); clear hS; intro gb w1 hS) | (refine au4 (n := ?_); clear hS; intro v1 w' hS) | ((with_reducible refine wl_guard ?_); refine stop_mem rfl rfl ?_)))
        go_ret2
        obtain ⟨rfl, rfl⟩ : r1 = [] ∧ r2 = false := by simpa using HR.out
        exact ⟨rfl, hS.nil⟩
    · obtain rfl : j = z.length := by omega
      have HR : Hid ((r1, r2) = (t1, true)) := Lib.hid (HOP1.out (fun i h1 h2 => by
        have hi : i - (3 + n) < 376 - n := by omega
        have h := HJ.out (i - (3 + n)) (by rw [HZL.out]; exact hi)
        rw [HZN.out _ hi, show 3 + n + (i - (3 + n)) = i by omega] at h
        exact h))
      clear HOP1 HOP2 HJ
      go_wp2_with (first | refine au1 (n := ?_) | (refine au2 (n := ?_); clear hS; intro w' hS) | (refine au3 (n := ?_); clear hS; intro gb w1 hS) | (refine au4 (n := ?_); clear hS; intro v1 w' hS) | ((with_reducible refine wl_guard ?_); refine stop_mem rfl rfl ?_))
      go_ret2
      obtain ⟨rfl, rfl⟩ : r1 = t1 ∧ r2 = true := by simpa using HR.out
      exact ⟨rfl, hS.nil⟩
end
end Go.Proofs.Ytnjboimjlbgdiaa
