/-
  A sector is sealed, opened: the document's.
-/
import Derived.Test.YtbfdnpahojoccaaSeal4
set_option linter.unusedSimpArgs false
set_option linter.unusedVariables false
set_option linter.unusedSectionVars false
set_option maxRecDepth 100000
namespace Go.Proofs.Ytbfdnpahojoccaa
open Go.RowKit Go.Cmp
set_option maxRecDepth 100000

section
set_option maxHeartbeats 4000000 in
theorem refOpen_any (p : List UInt8) (hl : p.length ≤ 1000000) (w : World) :
    Calls Try.prog 65 #[.string ⟨p.toArray⟩] w fun e w' => e = .returned (.tuple #[.string ⟨(openS p).1.toArray⟩, .bool (openS p).2]) ∧ St [] w w' [] := by
  have hS := St.init w
  by_cases hp : p.length = 384
  case neg =>
    have e : openS p = ([], false) := by unfold openS; rw [if_neg (fun h => hp h.1)]
    rw [e]
    have hp' : ¬ (p.length : Int) = 384 := by omega
    (go_enter Try.func65, Try.ntmps65)
    go_wp2_with (first | refine au1 (n := ?_) | (refine au2 (n := ?_); clear hS; intro w' hS) | (refine au3 (n := ?_); clear hS; intro gb w1 hS) | (refine au4 (n := ?_); clear hS; intro v1 w' hS) | ((with_reducible refine wl_guard ?_); refine stop_mem rfl rfl ?_))
    go_ret2
    exact ⟨rfl, hS⟩
  have hpi : (p.length : Int) = 384 := by omega
  have hp2 : 384 ≤ p.length := by omega
  have hfac := fun h => takeT_facts (p := p) h
  have hop : openS p = if sealed (nth p 0) (takeT p 1 376).1 = p ∧ (takeT p 1 376).2.2 = 0 then ((takeT p 1 376).1, true) else ([], false) := by
    unfold openS
    by_cases hh : sealed (nth p 0) (takeT p 1 376).1 = p ∧ (takeT p 1 376).2.2 = 0
    · rw [if_pos ⟨hp, hh⟩, if_pos hh]
    · rw [if_neg (fun h => hh h.2), if_neg hh]
  have htt := fun (W : World) (v : Value) (hR : Rd W 1 v p.length (p.flatMap byt)) => ref_takeText (w := W) (v := v) (l := p) 1 376 (by omega) (by omega) hR
  have e1 : ((1 : Nat) : Int) = 1 := rfl
  simp only [e1] at htt
  obtain ⟨T, hT⟩ : ∃ T, takeT p 1 376 = T := ⟨_, rfl⟩
  simp only [hT] at htt hfac hop
  obtain ⟨t1, t2, t3⟩ := T
  simp only at htt hfac hop
  have HTT := Lib.hid htt
  obtain ⟨res, hres⟩ : ∃ res, openS p = res := ⟨_, rfl⟩
  rw [hres] at hop ⊢
  by_cases h3 : t3 = 0
  case neg =>
    rw [if_neg (fun h => h3 h.2)] at hop
    subst hop
    clear hfac htt hT hres hp
    (go_enter Try.func65, Try.ntmps65)
    go_wp2_with (first | ((with_reducible refine g_conv ?_); refine wl_of rfl ?_; refine a_toBytes hS rfl rfl rfl rfl rfl (show p.length ≤ maxLen by unfold maxLen; omega) ?_; clear hS; intro v1 w1 hS) | fail)
    refine (HTT.out _ _ (hS.rdx Ix.here)).mono ?_
    rintro e w' ⟨rfl, h⟩
    replace hS := hS.call h
    clear h
    go_wp2_with (first | refine au1 (n := ?_) | (refine au2 (n := ?_); clear hS; intro w' hS) | (refine au3 (n := ?_); clear hS; intro gb w1 hS) | (refine au4 (n := ?_); clear hS; intro v1 w' hS) | ((with_reducible refine wl_guard ?_); refine stop_mem rfl rfl ?_))
    go_ret2
    exact ⟨rfl, hS.nil⟩
  subst h3
  obtain ⟨n, _, hn1, hn2, ht1, _⟩ := hfac rfl
  have htl : t1.length ≤ 376 := by rw [ht1, List.length_take]; omega
  have HW := Lib.hid (fun w => refWith_any (nth p 0) t1 htl w)
  obtain ⟨x, hx⟩ : ∃ x, (nth p 0).toNat = x := ⟨_, rfl⟩
  rw [hx] at HW
  have HX := Lib.hid hx
  obtain ⟨q, hq⟩ : ∃ q, sealed (nth p 0) t1 = q := ⟨_, rfl⟩
  rw [hq] at HW hop
  clear hfac htt hT hres hp hx hq ht1
  by_cases h4 : q = p
  · subst h4
    rw [if_pos ⟨rfl, rfl⟩] at hop
    subst hop
    (go_enter Try.func65, Try.ntmps65)
    go_wp2_with (first | ((with_reducible refine g_conv ?_); refine wl_of rfl ?_; refine a_toBytes hS rfl rfl rfl rfl rfl (show q.length ≤ maxLen by unfold maxLen; omega) ?_; clear hS; intro v1 w1 hS) | fail)
    refine (HTT.out _ _ (hS.rdx Ix.here)).mono ?_
    rintro e w' ⟨rfl, h⟩
    replace hS := hS.call h
    clear h
    go_wp2_with (first | ((with_reducible refine g_indexV ?_); refine wl_run rfl (v := .int .u8 (x : Int)) (by rw [← HX.out]; exact a_strIndex (l := q) (j := 0) rfl rfl rfl rfl (by omega) (by omega)) ?_) | (go_at_call 66; refine (HW.out _).mono ?_; rintro e w' ⟨rfl, h⟩; replace hS := hS.call h; clear h) | (first | refine au1 (n := ?_) | (refine au2 (n := ?_); clear hS; intro w' hS) | (refine au3 (n := ?_); clear hS; intro gb w1 hS) | (refine au4 (n := ?_); clear hS; intro v1 w' hS) | ((with_reducible refine wl_guard ?_); refine stop_mem rfl rfl ?_)))
    go_ret2
    exact ⟨rfl, hS.nil⟩
  · rw [if_neg (fun h => h4 h.1)] at hop
    subst hop
    have hbq : (q == p) = false := by rw [beq_eq_false_iff_ne]; exact h4
    (go_enter Try.func65, Try.ntmps65)
    go_wp2_with (first | ((with_reducible refine g_conv ?_); refine wl_of rfl ?_; refine a_toBytes hS rfl rfl rfl rfl rfl (show p.length ≤ maxLen by unfold maxLen; omega) ?_; clear hS; intro v1 w1 hS) | fail)
    refine (HTT.out _ _ (hS.rdx Ix.here)).mono ?_
    rintro e w' ⟨rfl, h⟩
    replace hS := hS.call h
    clear h
    go_wp2_with (first | ((with_reducible refine g_indexV ?_); refine wl_run rfl (v := .int .u8 (x : Int)) (by rw [← HX.out]; exact a_strIndex (l := p) (j := 0) rfl rfl rfl rfl (by omega) (by omega)) ?_) | (go_at_call 66; refine (HW.out _).mono ?_; rintro e w' ⟨rfl, h⟩; replace hS := hS.call h; clear h) | (first | refine au1 (n := ?_) | (refine au2 (n := ?_); clear hS; intro w' hS) | (refine au3 (n := ?_); clear hS; intro gb w1 hS) | (refine au4 (n := ?_); clear hS; intro v1 w' hS) | ((with_reducible refine wl_guard ?_); refine stop_mem rfl rfl ?_)))
    go_ret2
    exact ⟨rfl, hS.nil⟩
end
end Go.Proofs.Ytbfdnpahojoccaa
