/-
  A disk with a journal on it: what was kept, as the law notes it.
  What was kept is never lacked: JournalKeeps returns true.
-/
import Derived.Test.YtnjboimjlbgdiaaWldC
import Derived.Test.YtnjboimjlbgdiaaJrn5
set_option linter.unusedSimpArgs false
set_option linter.unusedVariables false
set_option linter.unusedSectionVars false
set_option maxRecDepth 100000
namespace Go.Cmp
open Go.RowKit
/-- What is noted. -/
structure KOk (K : List En) : Prop where
  len : K.length = 8
  op : ∀ s, s < 8 → (nth K s).op ≤ 0 ∨ ((nth K s).op % 8).toNat = s
  par : ∀ s, s < 8 → (nth K s).parent < 18446744073709551616
  big : ∀ s, s < 8 → (nth K s).op ≤ 9223372036854775807
  body : ∀ s, s < 8 → (nth K s).body.length ≤ 1000000
theorem KOk.none : KOk (List.replicate 8 zeroE) := by
  have h : ∀ s, s < 8 → nth (List.replicate 8 zeroE) s = zeroE := by
    intro s hs
    unfold nth
    rw [List.getD_eq_getElem?_getD, List.getElem?_replicate, if_pos hs]
    rfl
  exact ⟨by simp, fun s hs => by rw [h s hs]; exact .inl (by decide), fun s hs => by rw [h s hs]; decide, fun s hs => by rw [h s hs]; decide, fun s hs => by rw [h s hs]; decide⟩
theorem KOk.set {K : List En} (h : KOk K) {e : En} {s0 : Nat} (hs0 : s0 < 8) (h1 : e.op ≤ 0 ∨ (e.op % 8).toNat = s0) (h2 : e.parent < 18446744073709551616) (h3 : e.op ≤ 9223372036854775807) (h4 : e.body.length ≤ 1000000) : KOk (K.set s0 e) := by
  have hn : ∀ s, nth (K.set s0 e) s = if s0 = s then e else nth K s := fun s => nth_setN (by rw [h.len]; exact hs0)
  refine ⟨by simpa using h.len, fun s hs => ?_, fun s hs => ?_, fun s hs => ?_, fun s hs => ?_⟩
  · rw [hn s]
    split
    · rename_i q; subst q; exact h1
    · exact h.op s hs
  · rw [hn s]
    split
    · exact h2
    · exact h.par s hs
  · rw [hn s]
    split
    · exact h3
    · exact h.big s hs
  · rw [hn s]
    split
    · exact h4
    · exact h.body s hs
theorem KOk.zero {K : List En} (h : KOk K) {s0 : Nat} (hs0 : s0 < 8) : KOk (K.set s0 zeroE) := h.set hs0 (.inl (by decide)) (by decide) (by decide) (by decide)
abbrev WK (K : List En) (B : Int) (W : Wd) : Prop := WI (PSK (nth K)) (FSK (nth K)) B W
theorem WK.zero {K : List En} {B : Int} {W : Wd} (h : WK K B W) (hl : K.length = 8) {s0 : Nat} (hs0 : s0 < 8) : WK (K.set s0 zeroE) B W :=
  h.forget fun s hs => by
    rw [nth_setN (by rw [hl]; exact hs0)]
    split
    · exact .inr (by show (0 : Int) ≤ _; omega)
    · exact .inl rfl
/-- Ahead of an act: what it puts over is let go. -/
def preK (K : List En) (al : Bool) (c : Nat) (x : JAct) : List En :=
  if al = true ∧ x.kind = 2 ∧ 0 < x.n then (if (c : Int) < x.n ∧ x.n - 8 ≤ c then K.set (x.n % 8).toNat zeroE else K)
  else if al = true ∧ x.kind = 1 ∧ 0 < x.e.op ∧ nth K (x.e.op % 8).toNat ≠ x.e then (if (c : Int) < x.e.op ∧ x.e.op - 8 ≤ c ∧ x.e.right = true then K.set (x.e.op % 8).toNat zeroE else K)
  else K
def postK (K : List En) (al : Bool) (e : Int) (x : JAct) : List En := if al = true ∧ x.kind = 1 ∧ e = 0 then K.set (x.e.op % 8).toNat x.e else K
theorem preK_cases (K : List En) (al : Bool) (c : Nat) (x : JAct) : preK K al c x = K ∨ ∃ s0, s0 < 8 ∧ preK K al c x = K.set s0 zeroE := by
  unfold preK
  split
  · split
    · exact .inr ⟨_, by omega, rfl⟩
    · exact .inl rfl
  · split
    · split
      · exact .inr ⟨_, by omega, rfl⟩
      · exact .inl rfl
    · exact .inl rfl
theorem preK_ok {K : List En} (h : KOk K) (al : Bool) (c : Nat) (x : JAct) : KOk (preK K al c x) := by
  rcases preK_cases K al c x with e | ⟨s, hs, e⟩
  · rw [e]; exact h
  · rw [e]; exact h.zero hs
theorem preK_WK {K : List En} (h : KOk K) {B : Int} {W : Wd} (hW : WK K B W) (al : Bool) (c : Nat) (x : JAct) : WK (preK K al c x) B W := by
  rcases preK_cases K al c x with e | ⟨s, hs, e⟩
  · rw [e]; exact hW
  · rw [e]; exact hW.zero h.len hs
theorem preK_by {K : List En} (h : KOk K) (al : Bool) (c : Nat) (x : JAct) (hp : x.e.parent < 18446744073709551616) : KeptBy (PSK (nth (preK K al c x))) (FSK (nth (preK K al c x))) al c x := by
  refine keptByK _ al c x hp (fun ha hk h1 h2 hr => ?_) (fun ha hk h1 h2 => ?_)
  · unfold preK
    rw [if_neg (fun q => by have := q.2.1; omega)]
    by_cases q : nth K (x.e.op % 8).toNat = x.e
    · rw [if_neg (fun z => z.2.2.2 q)]
      exact .inl q
    · rw [if_pos ⟨ha, hk, by omega, q⟩, if_pos ⟨h1, by omega, hr⟩, nth_setN (by rw [h.len]; omega), if_pos rfl]
      exact .inr (by decide)
  · unfold preK
    rw [if_pos ⟨ha, hk, by omega⟩, if_pos ⟨h1, by omega⟩, nth_setN (by rw [h.len]; omega), if_pos rfl]
    decide
theorem PSK_stub {K : Nat → En} {s n : Nat} {x : Sl} {t : It} (h : PSK K s n x t) : t.kind = 1 → t.stub = stubE t.ent := h.1.stub
/-- Behind an act: what was put is noted. -/
theorem postK_ok {K : List En} (h : KOk K) {al : Bool} {x : JAct} {e1 : Int} {W1 : Wd} {B : Int} (hp : x.e.parent < 18446744073709551616) (ho : x.e.op ≤ 9223372036854775807) (hb : x.e.body.length ≤ 1000000) (hW : WK K B W1)
    (hput : x.kind = 1 → al = true → e1 = 0 → ∃ D1 J1, W1 = ⟨D1, some J1, J1.check⟩ ∧ J1.has x.e.op = true ∧ nth J1.items (x.e.op % 8).toNat = ⟨1, stubE x.e, x.e⟩) : KOk (postK K al e1 x) ∧ WK (postK K al e1 x) B W1 := by
  unfold postK
  by_cases q : al = true ∧ x.kind = 1 ∧ e1 = 0
  · rw [if_pos q]
    obtain ⟨D1, J1, rfl, h1, h2⟩ := hput q.2.1 q.1 q.2.2
    have hs8 : (x.e.op % 8).toNat < 8 := by omega
    refine ⟨h.set hs8 (.inr rfl) hp ho hb, ?_⟩
    refine (WI.note hW hs8 h2).forget fun s hs => .inl ?_
    rw [nth_setN (by rw [h.len]; exact hs8)]
    by_cases e : s = (x.e.op % 8).toNat
    · rw [if_pos e.symm, if_pos e]
    · rw [if_neg (fun q => e q.symm), if_neg e]
  · rw [if_neg q]
    exact ⟨h, hW⟩
/-- What is told of an entry that was kept. -/
theorem kept_told {K : List En} (h : KOk K) {D : Dsk} {J : Jrn} {B : Int} (hW : OnW (PSK (nth K)) D J B) {s : Nat} (hs : s < 8) (hc : (J.check : Int) < (nth K s).op) :
    J.item0 (nth K s).op = ⟨1, stubE (nth K s), nth K s⟩ ∨ J.item0 (nth K s).op = ⟨2, stubE (nth K s), zeroE⟩ ∨ J.item0 (nth K s).op = ⟨3, zeroB, zeroE⟩ := by
  obtain ⟨a, b, d⟩ := hW.ps s hs
  have hm := J.opAt_mod hs
  have ho : (nth K s).op = (J.opAt s : Int) := by
    rcases b with b | b
    · rcases h.op s hs with q | q
      · omega
      · omega
    · exact b.1
  have hh : J.has (nth K s).op = true := by
    unfold Jrn.has
    simp only [Bool.and_eq_true, decide_eq_true_eq]
    omega
  have e : J.item0 (nth K s).op = nth J.items s := by
    unfold Jrn.item0 Jrn.item
    rw [if_pos hh]
    congr 1
    omega
  rw [e]
  rcases d with d | d
  · omega
  · exact d
theorem en_len (x : En) : x.cells.length = 9 := rfl
theorem kc_seg {K : List En} (h : K.length = 8) {s : Nat} (hs : s < 8) : ((K.flatMap En.cells).drop (s * 9)).take 9 = (nth K s).cells := by
  rw [flat_drop en_len]
  have hget : K[s]? = some (nth K s) := get_lt (by omega)
  obtain ⟨hl, hg⟩ := List.getElem?_eq_some_iff.1 hget
  rw [List.drop_eq_getElem_cons hl, hg, List.flatMap_cons, List.take_append_of_le_length (by rw [en_len]; omega), List.take_of_length_le (by rw [en_len]; omega)]
theorem kc_op {K : List En} (h : K.length = 8) {s : Nat} (hs : s < 8) : (K.flatMap En.cells)[s * 9 + 1]? = some (.int .i64 (nth K s).op) := by
  have e := congrArg (fun l => l[1]?) (kc_seg h hs)
  simp only [List.getElem?_take, List.getElem?_drop] at e
  rw [if_pos (by decide)] at e
  rw [e]
  rfl
theorem kc_set {K : List En} (h : K.length = 8) {s : Nat} (hs : s < 8) (x : En) : (K.flatMap En.cells).take (s * 9) ++ x.cells ++ (K.flatMap En.cells).drop (s * 9 + x.cells.length) = (K.set s x).flatMap En.cells := flat_set en_len K s x (by omega)
theorem kc_len {K : List En} (h : K.length = 8) : (K.flatMap En.cells).length = 72 := by rw [flat_len en_len, h]
end Go.Cmp
namespace Go.Proofs.Ytnjboimjlbgdiaa
open Go.RowKit Go.Cmp

section
variable {S : List Nat} {w0 w : World} {M : List Ent} {g gj : Nat} {J : Jrn}
set_option maxHeartbeats 4000000 in
theorem jrnItem_makes (hJS : St S w0 w (.row gj (jcells g J) 68 (0, 0) :: M)) (hJ : J.items.length = 8) (n : Int) (hn : n ≤ 9223372036854775807) :
    Calls Try.prog 15 #[.pointer (some ⟨gj, 0, none⟩), .int .i64 n] w fun e w' => e = .returned (.agg (J.item0 n).cells.toArray) ∧ St [] w w' [] := by
  have HR := Lib.hid (fun (W : World) (k : Mod [] w W) => hJS.same k)
  have HI := Lib.hid (fun (W : World) (hS : St S w0 W (.row gj (jcells g J) 68 (0, 0) :: M)) => jrnIn_any hS n hn)
  clear hJS
  have hS := St.init w
  cases hh : J.has n
  · have e : J.item0 n = zeroI := by unfold Jrn.item0; rw [hh]; simp
    rw [e]
    rw [hh] at HI
    clear e hh
    (go_enter Try.func15, Try.ntmps15)
    go_wp2_with (first | go_skip | ((with_reducible refine g_alloc ?_); refine wl_of rfl ?_; refine wp_alloc hS rfl rfl rfl rfl ?_; clear hS; intro ga w1 hS) | (go_at_call 28; refine (HI.out _ (HR.out _ hS.base)).mono ?_; rintro e w' ⟨rfl, rfl⟩) | ((with_reducible refine g_store ?_); refine wl_of rfl ?_; refine a_storeA (vs := zeroI.cells) (cs' := zeroI.cells) hS rfl rfl rfl (by rfl) (it_one _) (by (repeat (first | exact Sw.here | apply Sw.there))) (by exact Nat.le_refl 15) (by rfl) ?_; clear hS; intro w' hS) | fail)
    exact end_c1 hS rfl rfl rfl rfl rfl (h := ⟨rfl, hS.nil⟩)
  · have e : J.item0 n = J.item n := by unfold Jrn.item0; rw [hh]; simp
    rw [e]
    rw [hh] at HI
    obtain ⟨h0, hs, _⟩ := J.opAt_of hh
    obtain ⟨m, rfl⟩ := Int.eq_ofNat_of_zero_le (Int.le_of_lt h0)
    obtain ⟨s, hms⟩ : ∃ s, m % 8 = s := ⟨_, rfl⟩
    have hs : s < 8 := by omega
    have HP := Lib.hid (fun (W : World) (hS : St S w0 W (.row gj (jcells g J) 68 (0, 0) :: M)) => jrnItemP_any hS m s hms)
    have HC := Lib.hid (jc_item (gd := g) hJ hs)
    have hx := J.item_at hms
    rw [hx]
    generalize nth J.items s = x at HC
    clear e hh hJ hms h0 hx
    (go_enter Try.func15, Try.ntmps15)
    go_wp2_with (first | go_skip | ((with_reducible refine g_alloc ?_); refine wl_of rfl ?_; refine wp_alloc hS rfl rfl rfl rfl ?_; clear hS; intro ga w1 hS) | (go_at_call 28; refine (HI.out _ (HR.out _ hS.base)).mono ?_; rintro e w' ⟨rfl, rfl⟩) | (go_at_call 29; refine (HP.out _ (HR.out _ hS.base)).mono ?_; rintro e w' ⟨rfl, rfl⟩) | ((with_reducible refine g_load ?_); refine wl_run rfl (by exact a_loadA (vs := x.cells) (off := 2 + s * 15) (HR.out _ hS.base) rfl rfl rfl rfl (by (repeat (first | exact Ix.here | apply Ix.there))) 15 (by rfl) HC.out (by rfl)) ?_) | ((with_reducible refine g_store ?_); refine wl_of rfl ?_; refine a_storeA (vs := x.cells) (cs' := x.cells) hS rfl rfl rfl (by rfl) (it_one _) (by (repeat (first | exact Sw.here | apply Sw.there))) (by exact Nat.le_refl 15) (by rfl) ?_; clear hS; intro w' hS) | fail)
    exact end_c1 hS rfl rfl rfl rfl rfl (h := ⟨rfl, hS.nil⟩)
end
end Go.Proofs.Ytnjboimjlbgdiaa
namespace Go.Proofs.Ytnjboimjlbgdiaa
open Go.RowKit Go.Cmp

section
set_option maxHeartbeats 32000000 in
theorem law_keeps13 (vl : Value) (L : List (JAct × Value)) (w : World) (hL : Rd w 15 vl L.length (L.flatMap jactCells)) (hok : ∀ x ∈ L, JActOk w x) :
    Calls Try.prog 4 #[vl] w fun e w' => e = .returned (.bool true) ∧ St [] w w' [] := by
  have hS := St.init w
  have HL := Lib.hid hL
  have HOK := Lib.hid hok
  clear hL hok
  have HAW := Lib.hid (fun w => awake13_any w)
  obtain ⟨D0, J0, hv, hJ, hbg⟩ := begin13_any
  have K0 : Hid (WK (List.replicate 8 zeroE) 1017 ⟨D0, some J0, 0⟩) := Lib.hid (wi_start hv hJ (fun s n hs hn => by
    have h : nth (List.replicate 8 zeroE) s = zeroE := by
      unfold nth
      rw [List.getD_eq_getElem?_getD, List.getElem?_replicate, if_pos hs]
      rfl
    have h0 : (nth (List.replicate 8 zeroE) s).op < (n : Int) := by rw [h]; show (0 : Int) < _; omega
    exact ⟨.lacks, .inl h0, .inl h0⟩))
  have HBG := Lib.hid hbg
  clear hv hJ hbg
  (go_enter Try.func4, Try.ntmps4)
  go_upto_block 0 with (first | go_skip | (go_at_call 7; refine (HAW.out _).mono ?_; rintro e w' ⟨rfl, h⟩; replace hS := hS.call h; clear h) | (go_at_call 16; refine (HBG.out _).mono ?_; rintro e w' ⟨gw, gd, gj, rfl, h⟩; replace hS := hS.call h; clear h) | ((with_reducible refine g_alloc ?_); refine wl_of rfl ?_; refine wp_alloc hS rfl rfl rfl rfl ?_; clear hS; intro gk w1 hS) | fail)
  replace hS : St [] w _ (.row gk ((List.replicate 8 zeroE).flatMap En.cells) 43 (0, 0) :: (wents gw gd gj ⟨D0, some J0, 0⟩ ++ [])) := hS
  (try simp only [Act.put, List.setIfInBounds_toArray, List.set_cons_zero, List.set_cons_succ])
  go_wp2_with (fail)
  go_loopw [5] (fun k wr => ∃ (j : Nat) (W : Wd) (gj : Nat) (K : List En), j ≤ 50 ∧ j ≤ L.length ∧ k = .int .i64 j ∧ Hid (KOk K) ∧ Hid (WK K (1017 + 40 * j) W) ∧ St [] w wr (.row gk (K.flatMap En.cells) 43 (0, 0) :: (wents gw gd gj W ++ []))) (fun k _ => (50 - intOf k).toNat)
  case atStart => exact ⟨0, _, gj, _, by omega, by omega, rfl, Lib.hid KOk.none, K0, hS⟩
  case round =>
   as_aux_lemma =>
    clear hS K0 HBG HAW
    obtain ⟨j, W, gj, K, hj, hjl, rfl, HKO, HK, hS⟩ := hrel
    by_cases hlt : j < 50 ∧ j < L.length
    · obtain ⟨hlt, hlt2⟩ := hlt
      have hlt1 : (j : Int) < L.length := by omega
      have hlt3 : (j : Int) < 50 := by omega
      have hget0 := Lib.hid (get_lt (L := L) hlt2)
      have HX := Lib.hid (HOK.out _ (nth_mem hlt2))
      obtain ⟨X, hX⟩ : ∃ X, nth L j = X := ⟨_, rfl⟩
      rw [hX] at hget0 HX
      clear hX
      obtain ⟨x, vx⟩ := X
      have hv1 : vx.oneCell' = true := HX.out.rd.one
      have HFA := Lib.hid (fun w => far13_any x vx w)
      have hLx := HL.out
      have hget := hget0.out
      go_upto_region 11 with (first | go_skip | ((with_reducible refine g_len ?_); refine wl_run rfl (by exact a_len rfl rfl rfl (hS.old0 hLx)) ?_) | ((with_reducible refine g_index ?_); refine wl_run rfl (by exact a_index rfl rfl rfl rfl (hS.old0 hLx) (by rfl) (by omega) (by omega)) ?_) | ((with_reducible refine g_load (t := 46) ?_); refine wl_run rfl (by exact a_loadG (vs := x.cells vx) rfl (hS.old0 hLx) rfl rfl rfl (by rfl) (by intro _; rfl) hget rfl) ?_) | ((with_reducible refine g_alloc ?_); refine wl_of rfl ?_; refine wp_alloc hS rfl rfl rfl rfl ?_; clear hS; intro ga w1 hS) | ((with_reducible refine g_store ?_); refine wl_of rfl ?_; refine a_storeA (vs := x.cells vx) (cs' := x.cells vx) hS rfl rfl rfl (by rfl) (act_one x hv1) (by (repeat (first | exact Sw.here | apply Sw.there))) (by exact Nat.le_refl 15) (by rfl) ?_; clear hS; intro w' hS) | fail)
      clear hLx hget
      by_cases hfar : 1000 < (x.e.body.length : Int)
      · rw [decide_eq_true hfar] at HFA
        clear hfar
        go_wp2_with (first | go_skip | ((with_reducible refine g_load ?_); refine wl_run rfl (by exact a_loadA (vs := x.cells vx) (off := 0) hS rfl rfl rfl rfl (by (repeat (first | exact Ix.here | apply Ix.there))) 15 (by rfl) (by rfl) (by rfl)) ?_) | (go_at_call 17; refine (HFA.out _).mono ?_; rintro e w' ⟨rfl, h⟩; replace hS := hS.call h; clear h) | fail)
        go_round
        case rel => exact ⟨j + 1, W, gj, K, by omega, by omega, by go_num, HKO, Lib.hid (HK.out.more (by omega)), hS.pick⟩
        case measure => simp [intOf]; omega
      have hb : x.e.body.length ≤ 1000 := by omega
      rw [decide_eq_false hfar] at HFA
      clear hfar
      go_upto_region 12 with (first | go_skip | ((with_reducible refine g_load ?_); refine wl_run rfl (by exact a_loadA (vs := x.cells vx) (off := 0) hS rfl rfl rfl rfl (by (repeat (first | exact Ix.here | apply Ix.there))) 15 (by rfl) (by rfl) (by rfl)) ?_) | (go_at_call 17; refine (HFA.out _).mono ?_; rintro e w' ⟨rfl, h⟩; replace hS := hS.call h; clear h) | fail)
      clear HFA
      go_cut [7] (fun a wx => ∃ b : Bool, a = .bool b ∧ Hid (b = W.J.isSome) ∧ St [] w wx (.row ga (x.cells vx) 46 (0, 0) :: .row gk (K.flatMap En.cells) 43 (0, 0) :: (wents gw gd gj W ++ [])))
      case first =>
       as_aux_lemma =>
        have hK := HK.out
        clear HK
        cases hK with
        | off D c hc hs h =>
          replace hS : St [] w _ [.row gw [.pointer (some ⟨gd, 0, none⟩), .pointer none, .int .i64 (c : Int)] 50 (0, 0), disk gd D, .row ga (x.cells vx) 46 (0, 0), .row gk (K.flatMap En.cells) 43 (0, 0)] := hS.pick
          clear hc hs h
          go_wp2_with (first | go_skip | ((with_reducible refine g_load ?_); refine wl_run rfl (by first | exact a_load1 hS (off := 1) rfl rfl rfl rfl (by (repeat (first | exact Ix.here | apply Ix.there))) (by rfl) | exact a_load1 hS (off := 0) rfl rfl rfl rfl (by (repeat (first | exact Ix.here | apply Ix.there))) (by rfl) | exact a_load1 hS (off := 2) rfl rfl rfl rfl (by (repeat (first | exact Ix.here | apply Ix.there))) (by rfl)) ?_) | fail)
          go_meet
          exact ⟨false, rfl, Lib.hid rfl, (hS.pick : St [] w _ [.row ga (x.cells vx) 46 (0, 0), .row gk (K.flatMap En.cells) 43 (0, 0), .row gw [.pointer (some ⟨gd, 0, none⟩), .pointer none, .int .i64 (c : Int)] 50 (0, 0), disk gd D])⟩
        | on D J h =>
          replace hS : St [] w _ [.row gw [.pointer (some ⟨gd, 0, none⟩), .pointer (some ⟨gj, 0, none⟩), .int .i64 (J.check : Int)] 50 (0, 0), disk gd D, .row gj (jcells gd J) 68 (0, 0), .row ga (x.cells vx) 46 (0, 0), .row gk (K.flatMap En.cells) 43 (0, 0)] := hS.pick
          clear h
          go_wp2_with (first | go_skip | ((with_reducible refine g_load ?_); refine wl_run rfl (by first | exact a_load1 hS (off := 1) rfl rfl rfl rfl (by (repeat (first | exact Ix.here | apply Ix.there))) (by rfl) | exact a_load1 hS (off := 0) rfl rfl rfl rfl (by (repeat (first | exact Ix.here | apply Ix.there))) (by rfl) | exact a_load1 hS (off := 2) rfl rfl rfl rfl (by (repeat (first | exact Ix.here | apply Ix.there))) (by rfl)) ?_) | fail)
          go_meet
          exact ⟨true, rfl, Lib.hid rfl, (hS.pick : St [] w _ [.row ga (x.cells vx) 46 (0, 0), .row gk (K.flatMap En.cells) 43 (0, 0), .row gw [.pointer (some ⟨gd, 0, none⟩), .pointer (some ⟨gj, 0, none⟩), .int .i64 (J.check : Int)] 50 (0, 0), disk gd D, .row gj (jcells gd J) 68 (0, 0)])⟩
      case rest =>
       as_aux_lemma =>
        clear hS
        obtain ⟨b, rfl, HB, hS⟩ := hcut
        have hkl := HKO.out.len
        have hx1 : -9223372036854775808 ≤ x.n := HX.out.n1
        have hx2 : x.n ≤ 9223372036854775807 := HX.out.n2
        have hx3 : x.e.op ≤ 9223372036854775807 := HX.out.op
        obtain ⟨K1, hK1⟩ : ∃ K1, preK K b W.c x = K1 := ⟨_, rfl⟩
        have HKO1 := Lib.hid (preK_ok HKO.out b W.c x)
        have HW1 := Lib.hid (preK_WK HKO.out HK.out b W.c x)
        have HBY := Lib.hid (preK_by HKO.out b W.c x HX.out.par)
        rw [hK1] at HKO1 HW1 HBY
        have HK1 := Lib.hid hK1
        clear hK1
        have HRG := Lib.hid (fun w => entRightL_any x.e w)
        go_upto_region 13 with (fail)
        go_cut [74] (fun a wx => ∃ v : Bool, a = .bool v ∧ Hid (v = decide ((b = true ∧ x.kind = 2 ∧ 0 < x.n) ∨ (b = true ∧ x.kind = 1 ∧ 0 < x.e.op ∧ nth K (x.e.op % 8).toNat ≠ x.e))) ∧ St [] w wx (.row ga (x.cells vx) 46 (0, 0) :: .row gk (K.flatMap En.cells) 43 (0, 0) :: (wents gw gd gj W ++ [])))
        case first =>
         as_aux_lemma =>
          clear HK1 HKO1 HW1 HBY HRG HK HB
          go_wp2_with (fail)
          refine region_calm (by kernel_rfl) (by kernel_rfl) hS ?_
          cases b
          · clear HKO
            as_aux_lemma =>
              iterate 2 (refine Calm.pure rfl (h := ?_); simp only [Act.put, List.setIfInBounds_toArray, List.set_cons_zero, List.set_cons_succ])
              iterate 3 (refine Calm.skip rfl ?_; simp only [Act.put, List.setIfInBounds_toArray, List.set_cons_zero, List.set_cons_succ])
              iterate 2 (refine Calm.pure rfl (h := ?_); simp only [Act.put, List.setIfInBounds_toArray, List.set_cons_zero, List.set_cons_succ])
              iterate 3 (refine Calm.skip rfl ?_; simp only [Act.put, List.setIfInBounds_toArray, List.set_cons_zero, List.set_cons_succ])
              iterate 4 (refine Calm.pure rfl (h := ?_); simp only [Act.put, List.setIfInBounds_toArray, List.set_cons_zero, List.set_cons_succ])
              iterate 3 (refine Calm.skip rfl ?_; simp only [Act.put, List.setIfInBounds_toArray, List.set_cons_zero, List.set_cons_succ])
              iterate 2 (refine Calm.pure rfl (h := ?_); simp only [Act.put, List.setIfInBounds_toArray, List.set_cons_zero, List.set_cons_succ])
              iterate 4 (refine Calm.skip rfl ?_; simp only [Act.put, List.setIfInBounds_toArray, List.set_cons_zero, List.set_cons_succ])
              iterate 2 (refine Calm.pure rfl (h := ?_); simp only [Act.put, List.setIfInBounds_toArray, List.set_cons_zero, List.set_cons_succ])
              iterate 9 (refine Calm.skip rfl ?_; simp only [Act.put, List.setIfInBounds_toArray, List.set_cons_zero, List.set_cons_succ])
              iterate 2 (refine Calm.pure rfl (h := ?_); simp only [Act.put, List.setIfInBounds_toArray, List.set_cons_zero, List.set_cons_succ])
              (refine Calm.nil ?_; clear hS; intro w8 hS)
              go_wp2_with (first | go_skip | fail | fail)
              go_meet
              exact ⟨false, rfl, Lib.hid (by simp), hS⟩
          by_cases k2 : x.kind = 2
          · have b2 : (x.kind == 2) = true := by rw [k2]; rfl
            have b1 : (x.kind == 1) = false := by rw [k2]; rfl
            have KX := Lib.hid k2
            clear k2
            by_cases n0 : 0 < x.n
            · have bn : decide (0 < x.n) = true := decide_eq_true n0
              as_aux_lemma =>
                iterate 3 (refine Calm.pure rfl (h := ?_); simp only [Act.put, List.setIfInBounds_toArray, List.set_cons_zero, List.set_cons_succ])
                (refine Calm.run rfl (fun W hW => by exact a_load1 hW (off := 0) rfl rfl rfl rfl (by (repeat (first | exact Ix.here | apply Ix.there))) (by rfl)) ?_; simp only [Act.put, List.setIfInBounds_toArray, List.set_cons_zero, List.set_cons_succ])
                (refine Calm.run (v := .bool true) rfl (fun W hW => by (go_simp; try simp [b2])) ?_; simp only [Act.put, List.setIfInBounds_toArray, List.set_cons_zero, List.set_cons_succ])
                iterate 3 (refine Calm.pure rfl (h := ?_); simp only [Act.put, List.setIfInBounds_toArray, List.set_cons_zero, List.set_cons_succ])
                (refine Calm.run rfl (fun W hW => by exact a_load1 hW (off := 10) rfl rfl rfl rfl (by (repeat (first | exact Ix.here | apply Ix.there))) (by rfl)) ?_; simp only [Act.put, List.setIfInBounds_toArray, List.set_cons_zero, List.set_cons_succ])
                (refine Calm.run (v := .bool true) rfl (fun W hW => by (go_simp; try simp [bn])) ?_; simp only [Act.put, List.setIfInBounds_toArray, List.set_cons_zero, List.set_cons_succ])
                iterate 2 (refine Calm.pure rfl (h := ?_); simp only [Act.put, List.setIfInBounds_toArray, List.set_cons_zero, List.set_cons_succ])
                iterate 23 (refine Calm.skip rfl ?_; simp only [Act.put, List.setIfInBounds_toArray, List.set_cons_zero, List.set_cons_succ])
                iterate 1 (refine Calm.pure rfl (h := ?_); simp only [Act.put, List.setIfInBounds_toArray, List.set_cons_zero, List.set_cons_succ])
                (refine Calm.nil ?_; clear hS; intro w8 hS)
                go_wp2_with (first | go_skip | fail | fail)
                go_meet
                exact ⟨true, rfl, Lib.hid (by simp [KX.out, n0]), hS⟩
            · have bn : decide (0 < x.n) = false := decide_eq_false n0
              as_aux_lemma =>
                iterate 3 (refine Calm.pure rfl (h := ?_); simp only [Act.put, List.setIfInBounds_toArray, List.set_cons_zero, List.set_cons_succ])
                (refine Calm.run rfl (fun W hW => by exact a_load1 hW (off := 0) rfl rfl rfl rfl (by (repeat (first | exact Ix.here | apply Ix.there))) (by rfl)) ?_; simp only [Act.put, List.setIfInBounds_toArray, List.set_cons_zero, List.set_cons_succ])
                (refine Calm.run (v := .bool true) rfl (fun W hW => by (go_simp; try simp [b2])) ?_; simp only [Act.put, List.setIfInBounds_toArray, List.set_cons_zero, List.set_cons_succ])
                iterate 3 (refine Calm.pure rfl (h := ?_); simp only [Act.put, List.setIfInBounds_toArray, List.set_cons_zero, List.set_cons_succ])
                (refine Calm.run rfl (fun W hW => by exact a_load1 hW (off := 10) rfl rfl rfl rfl (by (repeat (first | exact Ix.here | apply Ix.there))) (by rfl)) ?_; simp only [Act.put, List.setIfInBounds_toArray, List.set_cons_zero, List.set_cons_succ])
                (refine Calm.run (v := .bool false) rfl (fun W hW => by (go_simp; try simp [bn])) ?_; simp only [Act.put, List.setIfInBounds_toArray, List.set_cons_zero, List.set_cons_succ])
                iterate 5 (refine Calm.pure rfl (h := ?_); simp only [Act.put, List.setIfInBounds_toArray, List.set_cons_zero, List.set_cons_succ])
                (refine Calm.run rfl (fun W hW => by exact a_load1 hW (off := 0) rfl rfl rfl rfl (by (repeat (first | exact Ix.here | apply Ix.there))) (by rfl)) ?_; simp only [Act.put, List.setIfInBounds_toArray, List.set_cons_zero, List.set_cons_succ])
                (refine Calm.run (v := .bool false) rfl (fun W hW => by (go_simp; try simp [b1])) ?_; simp only [Act.put, List.setIfInBounds_toArray, List.set_cons_zero, List.set_cons_succ])
                iterate 2 (refine Calm.pure rfl (h := ?_); simp only [Act.put, List.setIfInBounds_toArray, List.set_cons_zero, List.set_cons_succ])
                iterate 4 (refine Calm.skip rfl ?_; simp only [Act.put, List.setIfInBounds_toArray, List.set_cons_zero, List.set_cons_succ])
                iterate 2 (refine Calm.pure rfl (h := ?_); simp only [Act.put, List.setIfInBounds_toArray, List.set_cons_zero, List.set_cons_succ])
                iterate 9 (refine Calm.skip rfl ?_; simp only [Act.put, List.setIfInBounds_toArray, List.set_cons_zero, List.set_cons_succ])
                iterate 2 (refine Calm.pure rfl (h := ?_); simp only [Act.put, List.setIfInBounds_toArray, List.set_cons_zero, List.set_cons_succ])
                (refine Calm.nil ?_; clear hS; intro w8 hS)
                go_wp2_with (first | go_skip | fail | fail)
                go_meet
                exact ⟨false, rfl, Lib.hid (by simp [KX.out, n0]), hS⟩
          have b2 : (x.kind == 2) = false := by rw [beq_eq_false_iff_ne]; exact k2
          by_cases k1 : x.kind = 1
          · have b1 : (x.kind == 1) = true := by rw [k1]; rfl
            have KX := Lib.hid k1
            clear k1 k2
            by_cases n0 : 0 < x.e.op
            · have bn : decide (0 < x.e.op) = true := decide_eq_true n0
              have hmod0 : Int.tmod x.e.op 8 = x.e.op % 8 := Int.tmod_eq_emod_of_nonneg (by omega)
              obtain ⟨s, hs⟩ : ∃ s, (x.e.op % 8).toNat = s := ⟨_, rfl⟩
              have hs8 : s < 8 := by omega
              have hmod : Int.tmod x.e.op 8 = (s : Int) := by omega
              have hseg := kc_seg hkl hs8
              have HSX := Lib.hid hs
              clear hs hmod0
              by_cases hE : nth K s = x.e
              · have hq : eqV Try.prog 4 24 (.agg (nth K s).cells.toArray) (.agg x.e.cells.toArray) = some true := by rw [eqEn, decide_eq_true hE]
                have HEX := Lib.hid hE
                clear hE
                as_aux_lemma =>
                  iterate 3 (refine Calm.pure rfl (h := ?_); simp only [Act.put, List.setIfInBounds_toArray, List.set_cons_zero, List.set_cons_succ])
                  (refine Calm.run rfl (fun W hW => by exact a_load1 hW (off := 0) rfl rfl rfl rfl (by (repeat (first | exact Ix.here | apply Ix.there))) (by rfl)) ?_; simp only [Act.put, List.setIfInBounds_toArray, List.set_cons_zero, List.set_cons_succ])
                  (refine Calm.run (v := .bool false) rfl (fun W hW => by (go_simp; try simp [b2])) ?_; simp only [Act.put, List.setIfInBounds_toArray, List.set_cons_zero, List.set_cons_succ])
                  iterate 2 (refine Calm.pure rfl (h := ?_); simp only [Act.put, List.setIfInBounds_toArray, List.set_cons_zero, List.set_cons_succ])
                  iterate 3 (refine Calm.skip rfl ?_; simp only [Act.put, List.setIfInBounds_toArray, List.set_cons_zero, List.set_cons_succ])
                  iterate 5 (refine Calm.pure rfl (h := ?_); simp only [Act.put, List.setIfInBounds_toArray, List.set_cons_zero, List.set_cons_succ])
                  (refine Calm.run rfl (fun W hW => by exact a_load1 hW (off := 0) rfl rfl rfl rfl (by (repeat (first | exact Ix.here | apply Ix.there))) (by rfl)) ?_; simp only [Act.put, List.setIfInBounds_toArray, List.set_cons_zero, List.set_cons_succ])
                  (refine Calm.run (v := .bool true) rfl (fun W hW => by (go_simp; try simp [b1])) ?_; simp only [Act.put, List.setIfInBounds_toArray, List.set_cons_zero, List.set_cons_succ])
                  iterate 4 (refine Calm.pure rfl (h := ?_); simp only [Act.put, List.setIfInBounds_toArray, List.set_cons_zero, List.set_cons_succ])
                  (refine Calm.run rfl (fun W hW => by exact a_load1 hW (off := 2) rfl rfl rfl rfl (by (repeat (first | exact Ix.here | apply Ix.there))) (by rfl)) ?_; simp only [Act.put, List.setIfInBounds_toArray, List.set_cons_zero, List.set_cons_succ])
                  (refine Calm.run (v := .bool true) rfl (fun W hW => by (go_simp; try simp [bn])) ?_; simp only [Act.put, List.setIfInBounds_toArray, List.set_cons_zero, List.set_cons_succ])
                  iterate 4 (refine Calm.pure rfl (h := ?_); simp only [Act.put, List.setIfInBounds_toArray, List.set_cons_zero, List.set_cons_succ])
                  (refine Calm.run rfl (fun W hW => by exact a_load1 hW (off := 2) rfl rfl rfl rfl (by (repeat (first | exact Ix.here | apply Ix.there))) (by rfl)) ?_; simp only [Act.put, List.setIfInBounds_toArray, List.set_cons_zero, List.set_cons_succ])
                  (refine Calm.run (v := .int .i64 ((s : Nat) : Int)) rfl (fun W hW => by (go_simp; try simp [hmod])) ?_; simp only [Act.put, List.setIfInBounds_toArray, List.set_cons_zero, List.set_cons_succ])
                  (refine Calm.run (v := .pointer (some ⟨gk, s * 9, none⟩)) rfl (fun W hW => by rw [show (⟨gk, s * 9, none⟩ : Addr) = ⟨gk, 0 + ((s : Nat) : Int).toNat * 9, none⟩ from by simp]; exact a_arrK rfl rfl rfl rfl (by rfl) (by omega) (by omega)) ?_; simp only [Act.put, List.setIfInBounds_toArray, List.set_cons_zero, List.set_cons_succ])
                  (refine Calm.run rfl (fun W hW => by exact a_loadA (vs := (nth K s).cells) (off := s * 9) hW rfl rfl rfl rfl (by (repeat (first | exact Ix.here | apply Ix.there))) 9 (by rfl) hseg (by rfl)) ?_; simp only [Act.put, List.setIfInBounds_toArray, List.set_cons_zero, List.set_cons_succ])
                  iterate 1 (refine Calm.pure rfl (h := ?_); simp only [Act.put, List.setIfInBounds_toArray, List.set_cons_zero, List.set_cons_succ])
                  (refine Calm.run rfl (fun W hW => by exact a_loadA (vs := x.e.cells) (off := 1) hW rfl rfl rfl rfl (by (repeat (first | exact Ix.here | apply Ix.there))) 9 (by rfl) (by rfl) (by rfl)) ?_; simp only [Act.put, List.setIfInBounds_toArray, List.set_cons_zero, List.set_cons_succ])
                  ((with_reducible refine c_neqS (t := 24) ?_); refine Calm.run rfl (fun W hW => by exact x_structNe rfl rfl rfl enGuard hq) ?_; simp only [Act.put, List.setIfInBounds_toArray, List.set_cons_zero, List.set_cons_succ])
                  iterate 2 (refine Calm.pure rfl (h := ?_); simp only [Act.put, List.setIfInBounds_toArray, List.set_cons_zero, List.set_cons_succ])
                  (refine Calm.nil ?_; clear hS; intro w8 hS)
                  go_wp2_with (first | go_skip | fail | fail)
                  go_meet
                  exact ⟨false, rfl, Lib.hid (by rw [eq_comm, decide_eq_false_iff_not]; exact fun q => q.elim (fun q => absurd q.2.1 (by rw [KX.out]; decide)) (fun q => q.2.2.2 (by rw [HSX.out]; exact HEX.out))), hS⟩
              · have hq : eqV Try.prog 4 24 (.agg (nth K s).cells.toArray) (.agg x.e.cells.toArray) = some false := by rw [eqEn, decide_eq_false hE]
                have HEX := Lib.hid hE
                clear hE
                as_aux_lemma =>
                  iterate 3 (refine Calm.pure rfl (h := ?_); simp only [Act.put, List.setIfInBounds_toArray, List.set_cons_zero, List.set_cons_succ])
                  (refine Calm.run rfl (fun W hW => by exact a_load1 hW (off := 0) rfl rfl rfl rfl (by (repeat (first | exact Ix.here | apply Ix.there))) (by rfl)) ?_; simp only [Act.put, List.setIfInBounds_toArray, List.set_cons_zero, List.set_cons_succ])
                  (refine Calm.run (v := .bool false) rfl (fun W hW => by (go_simp; try simp [b2])) ?_; simp only [Act.put, List.setIfInBounds_toArray, List.set_cons_zero, List.set_cons_succ])
                  iterate 2 (refine Calm.pure rfl (h := ?_); simp only [Act.put, List.setIfInBounds_toArray, List.set_cons_zero, List.set_cons_succ])
                  iterate 3 (refine Calm.skip rfl ?_; simp only [Act.put, List.setIfInBounds_toArray, List.set_cons_zero, List.set_cons_succ])
                  iterate 5 (refine Calm.pure rfl (h := ?_); simp only [Act.put, List.setIfInBounds_toArray, List.set_cons_zero, List.set_cons_succ])
                  (refine Calm.run rfl (fun W hW => by exact a_load1 hW (off := 0) rfl rfl rfl rfl (by (repeat (first | exact Ix.here | apply Ix.there))) (by rfl)) ?_; simp only [Act.put, List.setIfInBounds_toArray, List.set_cons_zero, List.set_cons_succ])
                  (refine Calm.run (v := .bool true) rfl (fun W hW => by (go_simp; try simp [b1])) ?_; simp only [Act.put, List.setIfInBounds_toArray, List.set_cons_zero, List.set_cons_succ])
                  iterate 4 (refine Calm.pure rfl (h := ?_); simp only [Act.put, List.setIfInBounds_toArray, List.set_cons_zero, List.set_cons_succ])
                  (refine Calm.run rfl (fun W hW => by exact a_load1 hW (off := 2) rfl rfl rfl rfl (by (repeat (first | exact Ix.here | apply Ix.there))) (by rfl)) ?_; simp only [Act.put, List.setIfInBounds_toArray, List.set_cons_zero, List.set_cons_succ])
                  (refine Calm.run (v := .bool true) rfl (fun W hW => by (go_simp; try simp [bn])) ?_; simp only [Act.put, List.setIfInBounds_toArray, List.set_cons_zero, List.set_cons_succ])
                  iterate 4 (refine Calm.pure rfl (h := ?_); simp only [Act.put, List.setIfInBounds_toArray, List.set_cons_zero, List.set_cons_succ])
                  (refine Calm.run rfl (fun W hW => by exact a_load1 hW (off := 2) rfl rfl rfl rfl (by (repeat (first | exact Ix.here | apply Ix.there))) (by rfl)) ?_; simp only [Act.put, List.setIfInBounds_toArray, List.set_cons_zero, List.set_cons_succ])
                  (refine Calm.run (v := .int .i64 ((s : Nat) : Int)) rfl (fun W hW => by (go_simp; try simp [hmod])) ?_; simp only [Act.put, List.setIfInBounds_toArray, List.set_cons_zero, List.set_cons_succ])
                  (refine Calm.run (v := .pointer (some ⟨gk, s * 9, none⟩)) rfl (fun W hW => by rw [show (⟨gk, s * 9, none⟩ : Addr) = ⟨gk, 0 + ((s : Nat) : Int).toNat * 9, none⟩ from by simp]; exact a_arrK rfl rfl rfl rfl (by rfl) (by omega) (by omega)) ?_; simp only [Act.put, List.setIfInBounds_toArray, List.set_cons_zero, List.set_cons_succ])
                  (refine Calm.run rfl (fun W hW => by exact a_loadA (vs := (nth K s).cells) (off := s * 9) hW rfl rfl rfl rfl (by (repeat (first | exact Ix.here | apply Ix.there))) 9 (by rfl) hseg (by rfl)) ?_; simp only [Act.put, List.setIfInBounds_toArray, List.set_cons_zero, List.set_cons_succ])
                  iterate 1 (refine Calm.pure rfl (h := ?_); simp only [Act.put, List.setIfInBounds_toArray, List.set_cons_zero, List.set_cons_succ])
                  (refine Calm.run rfl (fun W hW => by exact a_loadA (vs := x.e.cells) (off := 1) hW rfl rfl rfl rfl (by (repeat (first | exact Ix.here | apply Ix.there))) 9 (by rfl) (by rfl) (by rfl)) ?_; simp only [Act.put, List.setIfInBounds_toArray, List.set_cons_zero, List.set_cons_succ])
                  ((with_reducible refine c_neqS (t := 24) ?_); refine Calm.run rfl (fun W hW => by exact x_structNe rfl rfl rfl enGuard hq) ?_; simp only [Act.put, List.setIfInBounds_toArray, List.set_cons_zero, List.set_cons_succ])
                  iterate 2 (refine Calm.pure rfl (h := ?_); simp only [Act.put, List.setIfInBounds_toArray, List.set_cons_zero, List.set_cons_succ])
                  (refine Calm.nil ?_; clear hS; intro w8 hS)
                  go_wp2_with (first | go_skip | fail | fail)
                  go_meet
                  exact ⟨true, rfl, Lib.hid (by rw [eq_comm, decide_eq_true_iff]; exact .inr ⟨(by first | rfl | trivial), KX.out, n0, by rw [HSX.out]; exact HEX.out⟩), hS⟩
            · have bn : decide (0 < x.e.op) = false := decide_eq_false n0
              as_aux_lemma =>
                iterate 3 (refine Calm.pure rfl (h := ?_); simp only [Act.put, List.setIfInBounds_toArray, List.set_cons_zero, List.set_cons_succ])
                (refine Calm.run rfl (fun W hW => by exact a_load1 hW (off := 0) rfl rfl rfl rfl (by (repeat (first | exact Ix.here | apply Ix.there))) (by rfl)) ?_; simp only [Act.put, List.setIfInBounds_toArray, List.set_cons_zero, List.set_cons_succ])
                (refine Calm.run (v := .bool false) rfl (fun W hW => by (go_simp; try simp [b2])) ?_; simp only [Act.put, List.setIfInBounds_toArray, List.set_cons_zero, List.set_cons_succ])
                iterate 2 (refine Calm.pure rfl (h := ?_); simp only [Act.put, List.setIfInBounds_toArray, List.set_cons_zero, List.set_cons_succ])
                iterate 3 (refine Calm.skip rfl ?_; simp only [Act.put, List.setIfInBounds_toArray, List.set_cons_zero, List.set_cons_succ])
                iterate 5 (refine Calm.pure rfl (h := ?_); simp only [Act.put, List.setIfInBounds_toArray, List.set_cons_zero, List.set_cons_succ])
                (refine Calm.run rfl (fun W hW => by exact a_load1 hW (off := 0) rfl rfl rfl rfl (by (repeat (first | exact Ix.here | apply Ix.there))) (by rfl)) ?_; simp only [Act.put, List.setIfInBounds_toArray, List.set_cons_zero, List.set_cons_succ])
                (refine Calm.run (v := .bool true) rfl (fun W hW => by (go_simp; try simp [b1])) ?_; simp only [Act.put, List.setIfInBounds_toArray, List.set_cons_zero, List.set_cons_succ])
                iterate 4 (refine Calm.pure rfl (h := ?_); simp only [Act.put, List.setIfInBounds_toArray, List.set_cons_zero, List.set_cons_succ])
                (refine Calm.run rfl (fun W hW => by exact a_load1 hW (off := 2) rfl rfl rfl rfl (by (repeat (first | exact Ix.here | apply Ix.there))) (by rfl)) ?_; simp only [Act.put, List.setIfInBounds_toArray, List.set_cons_zero, List.set_cons_succ])
                (refine Calm.run (v := .bool false) rfl (fun W hW => by (go_simp; try simp [bn])) ?_; simp only [Act.put, List.setIfInBounds_toArray, List.set_cons_zero, List.set_cons_succ])
                iterate 2 (refine Calm.pure rfl (h := ?_); simp only [Act.put, List.setIfInBounds_toArray, List.set_cons_zero, List.set_cons_succ])
                iterate 9 (refine Calm.skip rfl ?_; simp only [Act.put, List.setIfInBounds_toArray, List.set_cons_zero, List.set_cons_succ])
                iterate 2 (refine Calm.pure rfl (h := ?_); simp only [Act.put, List.setIfInBounds_toArray, List.set_cons_zero, List.set_cons_succ])
                (refine Calm.nil ?_; clear hS; intro w8 hS)
                go_wp2_with (first | go_skip | fail | fail)
                go_meet
                exact ⟨false, rfl, Lib.hid (by rw [eq_comm, decide_eq_false_iff_not]; exact fun q => q.elim (fun q => absurd q.2.1 (by rw [KX.out]; decide)) (fun q => absurd q.2.2.1 (by omega))), hS⟩
          have b1 : (x.kind == 1) = false := by rw [beq_eq_false_iff_ne]; exact k1
          as_aux_lemma =>
            iterate 3 (refine Calm.pure rfl (h := ?_); simp only [Act.put, List.setIfInBounds_toArray, List.set_cons_zero, List.set_cons_succ])
            (refine Calm.run rfl (fun W hW => by exact a_load1 hW (off := 0) rfl rfl rfl rfl (by (repeat (first | exact Ix.here | apply Ix.there))) (by rfl)) ?_; simp only [Act.put, List.setIfInBounds_toArray, List.set_cons_zero, List.set_cons_succ])
            (refine Calm.run (v := .bool false) rfl (fun W hW => by (go_simp; try simp [b2])) ?_; simp only [Act.put, List.setIfInBounds_toArray, List.set_cons_zero, List.set_cons_succ])
            iterate 2 (refine Calm.pure rfl (h := ?_); simp only [Act.put, List.setIfInBounds_toArray, List.set_cons_zero, List.set_cons_succ])
            iterate 3 (refine Calm.skip rfl ?_; simp only [Act.put, List.setIfInBounds_toArray, List.set_cons_zero, List.set_cons_succ])
            iterate 5 (refine Calm.pure rfl (h := ?_); simp only [Act.put, List.setIfInBounds_toArray, List.set_cons_zero, List.set_cons_succ])
            (refine Calm.run rfl (fun W hW => by exact a_load1 hW (off := 0) rfl rfl rfl rfl (by (repeat (first | exact Ix.here | apply Ix.there))) (by rfl)) ?_; simp only [Act.put, List.setIfInBounds_toArray, List.set_cons_zero, List.set_cons_succ])
            (refine Calm.run (v := .bool false) rfl (fun W hW => by (go_simp; try simp [b1])) ?_; simp only [Act.put, List.setIfInBounds_toArray, List.set_cons_zero, List.set_cons_succ])
            iterate 2 (refine Calm.pure rfl (h := ?_); simp only [Act.put, List.setIfInBounds_toArray, List.set_cons_zero, List.set_cons_succ])
            iterate 4 (refine Calm.skip rfl ?_; simp only [Act.put, List.setIfInBounds_toArray, List.set_cons_zero, List.set_cons_succ])
            iterate 2 (refine Calm.pure rfl (h := ?_); simp only [Act.put, List.setIfInBounds_toArray, List.set_cons_zero, List.set_cons_succ])
            iterate 9 (refine Calm.skip rfl ?_; simp only [Act.put, List.setIfInBounds_toArray, List.set_cons_zero, List.set_cons_succ])
            iterate 2 (refine Calm.pure rfl (h := ?_); simp only [Act.put, List.setIfInBounds_toArray, List.set_cons_zero, List.set_cons_succ])
            (refine Calm.nil ?_; clear hS; intro w8 hS)
            go_wp2_with (first | go_skip | fail | fail)
            go_meet
            exact ⟨false, rfl, Lib.hid (by simp [k1, k2]), hS⟩
        case rest =>
         as_aux_lemma =>
          clear hS
          obtain ⟨v, rfl, HV, hS⟩ := hcut
          go_upto_if 74 with (fail)
          go_cut [] (fun wx => St [] w wx (.row ga (x.cells vx) 46 (0, 0) :: .row gk (K1.flatMap En.cells) 43 (0, 0) :: (wents gw gd gj W ++ [])))
          case first =>
           as_aux_lemma =>
            clear HKO1 HW1 HBY
            have hK := HK.out
            clear HK
            by_cases q1 : b = true ∧ x.kind = 2 ∧ 0 < x.n
            · as_aux_lemma =>
              obtain rfl : v = true := by rw [HV.out]; exact decide_eq_true (.inl q1)
              obtain ⟨hb1, k2, n0⟩ := q1
              subst hb1
              have b2 : (x.kind == 2) = true := by rw [k2]; rfl
              have b1 : (x.kind == 1) = false := by rw [k2]; rfl
              cases hK with
              | off D c hc hs h => exact absurd HB.out (by simp)
              | on D J h =>
                have hJc := h.check
                clear h HV HB
                have hmod0 : Int.tmod x.n 8 = x.n % 8 := Int.tmod_eq_emod_of_nonneg (by omega)
                obtain ⟨s, hs⟩ : ∃ s, (x.n % 8).toNat = s := ⟨_, rfl⟩
                have hs8 : s < 8 := by omega
                have hmod : Int.tmod x.n 8 = (s : Int) := by omega
                have hdef : K1 = if ((J.check : Nat) : Int) < x.n ∧ x.n - 8 ≤ (J.check : Nat) then K.set s zeroE else K := by rw [← HK1.out, ← hs]; unfold preK; rw [if_pos ⟨rfl, k2, n0⟩]
                have HSX := Lib.hid hs
                clear hs hmod0 HK1 k2
                replace hS : St [] w _ [.row ga (x.cells vx) 46 (0, 0), .row gk (K.flatMap En.cells) 43 (0, 0), .row gw [.pointer (some ⟨gd, 0, none⟩), .pointer (some ⟨gj, 0, none⟩), .int .i64 (J.check : Int)] 50 (0, 0), disk gd D, .row gj (jcells gd J) 68 (0, 0)] := hS
                by_cases c1 : ((J.check : Nat) : Int) < x.n
                · by_cases c2 : x.n - 8 ≤ (J.check : Nat)
                  · have b3 : decide (x.n - 8 ≤ ((J.check : Nat) : Int)) = true := decide_eq_true c2
                    rw [if_pos ⟨c1, c2⟩] at hdef
                    have HD := Lib.hid hdef
                    clear hdef
                    go_wp2_with (first | go_skip | ((with_reducible refine g_load ?_); refine wl_run rfl (by first | exact a_load1 hS (g := gw) (off := 1) rfl rfl rfl rfl (by (repeat (first | exact Ix.here | apply Ix.there))) (by rfl) | exact a_load1 hS (g := gw) (off := 2) rfl rfl rfl rfl (by (repeat (first | exact Ix.here | apply Ix.there))) (by rfl) | exact a_load1 hS (g := ga) (off := 0) rfl rfl rfl rfl (by (repeat (first | exact Ix.here | apply Ix.there))) (by rfl) | exact a_load1 hS (g := ga) (off := 2) rfl rfl rfl rfl (by (repeat (first | exact Ix.here | apply Ix.there))) (by rfl) | exact a_load1 hS (g := ga) (off := 10) rfl rfl rfl rfl (by (repeat (first | exact Ix.here | apply Ix.there))) (by rfl)) ?_) | ((with_reducible refine g_index ?_); refine wl_run rfl (v := .pointer (some ⟨gk, s * 9, none⟩)) (by rw [show (⟨gk, s * 9, none⟩ : Addr) = ⟨gk, 0 + ((s : Nat) : Int).toNat * 9, none⟩ from by simp]; exact a_arrK rfl rfl rfl rfl (by rfl) (by omega) (by omega)) ?_) | ((with_reducible refine g_store ?_); refine wl_of rfl ?_; refine a_storeA (off := s * 9) (vs := zeroE.cells) (cs' := (K.set s zeroE).flatMap En.cells) hS rfl rfl rfl (by rfl) (en_one _) (by (repeat (first | exact Sw.here | apply Sw.there))) (by rw [kc_len hkl]; show s * 9 + 9 ≤ 72; omega) (kc_set hkl hs8 _) ?_; clear hS; intro w' hS) | fail)
                    go_meet
                    rw [← HD.out] at hS
                    exact hS
                  · have b3 : decide (x.n - 8 ≤ ((J.check : Nat) : Int)) = false := decide_eq_false c2
                    rw [if_neg (fun q => c2 q.2)] at hdef
                    have HD := Lib.hid hdef
                    clear hdef
                    go_wp2_with (first | go_skip | ((with_reducible refine g_load ?_); refine wl_run rfl (by first | exact a_load1 hS (g := gw) (off := 1) rfl rfl rfl rfl (by (repeat (first | exact Ix.here | apply Ix.there))) (by rfl) | exact a_load1 hS (g := gw) (off := 2) rfl rfl rfl rfl (by (repeat (first | exact Ix.here | apply Ix.there))) (by rfl) | exact a_load1 hS (g := ga) (off := 0) rfl rfl rfl rfl (by (repeat (first | exact Ix.here | apply Ix.there))) (by rfl) | exact a_load1 hS (g := ga) (off := 2) rfl rfl rfl rfl (by (repeat (first | exact Ix.here | apply Ix.there))) (by rfl) | exact a_load1 hS (g := ga) (off := 10) rfl rfl rfl rfl (by (repeat (first | exact Ix.here | apply Ix.there))) (by rfl)) ?_) | fail)
                    go_meet
                    rw [← HD.out] at hS
                    exact hS
                · rw [if_neg (fun q => c1 q.1)] at hdef
                  have HD := Lib.hid hdef
                  clear hdef
                  go_wp2_with (first | go_skip | ((with_reducible refine g_load ?_); refine wl_run rfl (by first | exact a_load1 hS (g := gw) (off := 1) rfl rfl rfl rfl (by (repeat (first | exact Ix.here | apply Ix.there))) (by rfl) | exact a_load1 hS (g := gw) (off := 2) rfl rfl rfl rfl (by (repeat (first | exact Ix.here | apply Ix.there))) (by rfl) | exact a_load1 hS (g := ga) (off := 0) rfl rfl rfl rfl (by (repeat (first | exact Ix.here | apply Ix.there))) (by rfl) | exact a_load1 hS (g := ga) (off := 2) rfl rfl rfl rfl (by (repeat (first | exact Ix.here | apply Ix.there))) (by rfl) | exact a_load1 hS (g := ga) (off := 10) rfl rfl rfl rfl (by (repeat (first | exact Ix.here | apply Ix.there))) (by rfl)) ?_) | fail)
                  go_meet
                  rw [← HD.out] at hS
                  exact hS
            by_cases q2 : b = true ∧ x.kind = 1 ∧ 0 < x.e.op ∧ nth K (x.e.op % 8).toNat ≠ x.e
            · as_aux_lemma =>
              obtain rfl : v = true := by rw [HV.out]; exact decide_eq_true (.inr q2)
              obtain ⟨hb1, k1, n0, ne⟩ := q2
              subst hb1
              have b2 : (x.kind == 2) = false := by rw [k1]; rfl
              have b1 : (x.kind == 1) = true := by rw [k1]; rfl
              cases hK with
              | off D c hc hs h => exact absurd HB.out (by simp)
              | on D J h =>
                have hJc := h.check
                clear h HV HB
                have hmod0 : Int.tmod x.e.op 8 = x.e.op % 8 := Int.tmod_eq_emod_of_nonneg (by omega)
                obtain ⟨s, hs⟩ : ∃ s, (x.e.op % 8).toNat = s := ⟨_, rfl⟩
                have hs8 : s < 8 := by omega
                have hmod : Int.tmod x.e.op 8 = (s : Int) := by omega
                have hdef : K1 = if ((J.check : Nat) : Int) < x.e.op ∧ x.e.op - 8 ≤ (J.check : Nat) ∧ x.e.right = true then K.set s zeroE else K := by rw [← HK1.out, ← hs]; unfold preK; rw [if_neg q1, if_pos ⟨rfl, k1, n0, ne⟩]
                have HSX := Lib.hid hs
                clear hs hmod0 HK1 k1 ne q1
                replace hS : St [] w _ [.row ga (x.cells vx) 46 (0, 0), .row gk (K.flatMap En.cells) 43 (0, 0), .row gw [.pointer (some ⟨gd, 0, none⟩), .pointer (some ⟨gj, 0, none⟩), .int .i64 (J.check : Int)] 50 (0, 0), disk gd D, .row gj (jcells gd J) 68 (0, 0)] := hS
                by_cases c1 : ((J.check : Nat) : Int) < x.e.op
                · by_cases c2 : x.e.op - 8 ≤ (J.check : Nat)
                  · have b3 : decide (x.e.op - 8 ≤ ((J.check : Nat) : Int)) = true := decide_eq_true c2
                    cases hr : x.e.right
                    · rw [if_neg (fun q => by rw [hr] at q; exact absurd q.2.2 (by simp))] at hdef
                      rw [hr] at HRG
                      have HD := Lib.hid hdef
                      clear hdef hr
                      go_wp2_with (first | go_skip | ((with_reducible refine g_load ?_); refine wl_run rfl (by first | exact a_load1 hS (g := gw) (off := 1) rfl rfl rfl rfl (by (repeat (first | exact Ix.here | apply Ix.there))) (by rfl) | exact a_load1 hS (g := gw) (off := 2) rfl rfl rfl rfl (by (repeat (first | exact Ix.here | apply Ix.there))) (by rfl) | exact a_load1 hS (g := ga) (off := 0) rfl rfl rfl rfl (by (repeat (first | exact Ix.here | apply Ix.there))) (by rfl) | exact a_load1 hS (g := ga) (off := 2) rfl rfl rfl rfl (by (repeat (first | exact Ix.here | apply Ix.there))) (by rfl) | exact a_load1 hS (g := ga) (off := 10) rfl rfl rfl rfl (by (repeat (first | exact Ix.here | apply Ix.there))) (by rfl)) ?_) | ((with_reducible refine g_load ?_); refine wl_run rfl (by exact a_loadA (vs := x.e.cells) (off := 1) hS rfl rfl rfl rfl (by (repeat (first | exact Ix.here | apply Ix.there))) 9 (by rfl) (by rfl) (by rfl)) ?_) | (go_at_call 18; refine (HRG.out _).mono ?_; rintro e w' ⟨rfl, h⟩; replace hS := hS.call h; clear h) | fail)
                      go_meet
                      rw [← HD.out] at hS
                      exact hS
                    · rw [if_pos ⟨c1, c2, hr⟩] at hdef
                      rw [hr] at HRG
                      have HD := Lib.hid hdef
                      clear hdef hr
                      go_wp2_with (first | go_skip | ((with_reducible refine g_load ?_); refine wl_run rfl (by first | exact a_load1 hS (g := gw) (off := 1) rfl rfl rfl rfl (by (repeat (first | exact Ix.here | apply Ix.there))) (by rfl) | exact a_load1 hS (g := gw) (off := 2) rfl rfl rfl rfl (by (repeat (first | exact Ix.here | apply Ix.there))) (by rfl) | exact a_load1 hS (g := ga) (off := 0) rfl rfl rfl rfl (by (repeat (first | exact Ix.here | apply Ix.there))) (by rfl) | exact a_load1 hS (g := ga) (off := 2) rfl rfl rfl rfl (by (repeat (first | exact Ix.here | apply Ix.there))) (by rfl) | exact a_load1 hS (g := ga) (off := 10) rfl rfl rfl rfl (by (repeat (first | exact Ix.here | apply Ix.there))) (by rfl)) ?_) | ((with_reducible refine g_load ?_); refine wl_run rfl (by exact a_loadA (vs := x.e.cells) (off := 1) hS rfl rfl rfl rfl (by (repeat (first | exact Ix.here | apply Ix.there))) 9 (by rfl) (by rfl) (by rfl)) ?_) | (go_at_call 18; refine (HRG.out _).mono ?_; rintro e w' ⟨rfl, h⟩; replace hS := hS.call h; clear h) | ((with_reducible refine g_index ?_); refine wl_run rfl (v := .pointer (some ⟨gk, s * 9, none⟩)) (by rw [show (⟨gk, s * 9, none⟩ : Addr) = ⟨gk, 0 + ((s : Nat) : Int).toNat * 9, none⟩ from by simp]; exact a_arrK rfl rfl rfl rfl (by rfl) (by omega) (by omega)) ?_) | ((with_reducible refine g_store ?_); refine wl_of rfl ?_; refine a_storeA (off := s * 9) (vs := zeroE.cells) (cs' := (K.set s zeroE).flatMap En.cells) hS rfl rfl rfl (by rfl) (en_one _) (by (repeat (first | exact Sw.here | apply Sw.there))) (by rw [kc_len hkl]; show s * 9 + 9 ≤ 72; omega) (kc_set hkl hs8 _) ?_; clear hS; intro w' hS) | fail)
                      go_meet
                      rw [← HD.out] at hS
                      exact hS
                  · have b3 : decide (x.e.op - 8 ≤ ((J.check : Nat) : Int)) = false := decide_eq_false c2
                    rw [if_neg (fun q => c2 q.2.1)] at hdef
                    have HD := Lib.hid hdef
                    clear hdef
                    go_wp2_with (first | go_skip | ((with_reducible refine g_load ?_); refine wl_run rfl (by first | exact a_load1 hS (g := gw) (off := 1) rfl rfl rfl rfl (by (repeat (first | exact Ix.here | apply Ix.there))) (by rfl) | exact a_load1 hS (g := gw) (off := 2) rfl rfl rfl rfl (by (repeat (first | exact Ix.here | apply Ix.there))) (by rfl) | exact a_load1 hS (g := ga) (off := 0) rfl rfl rfl rfl (by (repeat (first | exact Ix.here | apply Ix.there))) (by rfl) | exact a_load1 hS (g := ga) (off := 2) rfl rfl rfl rfl (by (repeat (first | exact Ix.here | apply Ix.there))) (by rfl) | exact a_load1 hS (g := ga) (off := 10) rfl rfl rfl rfl (by (repeat (first | exact Ix.here | apply Ix.there))) (by rfl)) ?_) | fail)
                    go_meet
                    rw [← HD.out] at hS
                    exact hS
                · rw [if_neg (fun q => c1 q.1)] at hdef
                  have HD := Lib.hid hdef
                  clear hdef
                  go_wp2_with (first | go_skip | ((with_reducible refine g_load ?_); refine wl_run rfl (by first | exact a_load1 hS (g := gw) (off := 1) rfl rfl rfl rfl (by (repeat (first | exact Ix.here | apply Ix.there))) (by rfl) | exact a_load1 hS (g := gw) (off := 2) rfl rfl rfl rfl (by (repeat (first | exact Ix.here | apply Ix.there))) (by rfl) | exact a_load1 hS (g := ga) (off := 0) rfl rfl rfl rfl (by (repeat (first | exact Ix.here | apply Ix.there))) (by rfl) | exact a_load1 hS (g := ga) (off := 2) rfl rfl rfl rfl (by (repeat (first | exact Ix.here | apply Ix.there))) (by rfl) | exact a_load1 hS (g := ga) (off := 10) rfl rfl rfl rfl (by (repeat (first | exact Ix.here | apply Ix.there))) (by rfl)) ?_) | fail)
                  go_meet
                  rw [← HD.out] at hS
                  exact hS
            obtain rfl : v = false := by rw [HV.out]; exact decide_eq_false (fun q => q.elim q1 q2)
            have HD : Hid (K1 = K) := Lib.hid (by rw [← HK1.out]; unfold preK; rw [if_neg q1, if_neg q2])
            go_wp2_with (first | go_skip | fail | fail)
            go_meet
            rw [← HD.out] at hS
            exact hS
          case rest =>
           as_aux_lemma =>
            clear hS HV HK1 HRG HK HKO hkl
            have hS := hcut
            clear hcut
            have hkl := HKO1.out.len
            have HBY2 : Hid (KeptBy (PSK (nth K1)) (FSK (nth K1)) W.J.isSome W.c x) := Lib.hid (by rw [← HB.out]; exact HBY.out)
            have HW2 := Lib.hid (deed_keep (keepsK _) HW1.out (by omega) HBY2.out HX.out.par HX.out.n2)
            have HDO := Lib.hid (fun (W1 : World) (M : List Ent) (hS : St [] w W1 (wents gw gd gj W ++ M)) => does13_any (keepsK _) HW1.out (by omega) (x, vx) HX.out hb (Reads.old HX.out.rd) hS)
            have HPU := Lib.hid (deed_put HW1.out (by omega) (fun _ _ _ _ h => PSK_stub h) (x := x) HX.out.par)
            obtain ⟨Y, hY⟩ : ∃ Y, deedW W x = Y := ⟨_, rfl⟩
            rw [hY] at HW2 HPU
            simp only at HDO
            rw [hY] at HDO
            obtain ⟨e1, W1⟩ := Y
            simp only at HW2 HDO HPU
            clear hY HBY HBY2
            have HPW : Hid (x.kind = 1 → b = true → e1 = 0 → ∃ D1 J1, W1 = ⟨D1, some J1, J1.check⟩ ∧ J1.has x.e.op = true ∧ nth J1.items (x.e.op % 8).toNat = ⟨1, stubE x.e, x.e⟩) := Lib.hid (fun k1 hb1 he => by
              obtain ⟨D1, J1, e2, _, h2, h3, _⟩ := HPU.out k1 (HB.out ▸ hb1) he
              exact ⟨D1, J1, e2, h2, h3⟩)
            have HPO := Lib.hid (postK_ok HKO1.out HX.out.par HX.out.op (Nat.le_trans hb (by decide)) HW2.out HPW.out)
            obtain ⟨K2, hK2⟩ : ∃ K2, postK K1 b e1 x = K2 := ⟨_, rfl⟩
            rw [hK2] at HPO
            have HK2 := Lib.hid hK2
            clear hK2 HPU HW1 HW2 HB
            go_upto_region 20 with (first | go_skip | ((with_reducible refine g_load ?_); refine wl_run rfl (by exact a_loadA (vs := x.cells vx) (off := 0) hS rfl rfl rfl rfl (by (repeat (first | exact Ix.here | apply Ix.there))) 15 (by rfl) (by rfl) (by rfl)) ?_) | (go_at_call 19; refine (HDO.out _ [.row ga (x.cells vx) 46 (0, 0), .row gk (K1.flatMap En.cells) 43 (0, 0)] (St.back (A := [.row ga (x.cells vx) 46 (0, 0), .row gk (K1.flatMap En.cells) 43 (0, 0)]) hS)).mono ?_; clear hS; rintro e w' ⟨gj2, rfl, hS⟩) | fail)
            replace hS : St [] w _ (.row ga (x.cells vx) 46 (0, 0) :: .row gk (K1.flatMap En.cells) 43 (0, 0) :: (wents gw gd gj2 W1 ++ [])) := St.ahead (A := [.row ga (x.cells vx) 46 (0, 0), .row gk (K1.flatMap En.cells) 43 (0, 0)]) hS
            clear HDO
            go_cut [124] (fun a wx => ∃ v : Bool, a = .bool v ∧ Hid (v = decide (b = true ∧ x.kind = 1 ∧ e1 = 0)) ∧ St [] w wx (.row ga (x.cells vx) 46 (0, 0) :: .row gk (K1.flatMap En.cells) 43 (0, 0) :: (wents gw gd gj2 W1 ++ [])))
            case first =>
             as_aux_lemma =>
              clear HPO HPW HK2 HKO1
              cases b
              · go_wp2_with (first | go_skip | ((with_reducible refine g_load ?_); refine wl_run rfl (by exact a_load1 hS (off := 0) rfl rfl rfl rfl (by (repeat (first | exact Ix.here | apply Ix.there))) (by rfl)) ?_) | fail)
                go_meet
                exact ⟨false, rfl, Lib.hid (by simp), hS⟩
              by_cases k1 : x.kind = 1
              · have b1 : (x.kind == 1) = true := by rw [k1]; rfl
                have KX := Lib.hid k1
                clear k1
                by_cases k2 : e1 = 0
                · have b2 : (e1 == 0) = true := by rw [k2]; rfl
                  have KY := Lib.hid k2
                  clear k2
                  go_wp2_with (first | go_skip | ((with_reducible refine g_load ?_); refine wl_run rfl (by exact a_load1 hS (off := 0) rfl rfl rfl rfl (by (repeat (first | exact Ix.here | apply Ix.there))) (by rfl)) ?_) | fail)
                  go_meet
                  exact ⟨true, rfl, Lib.hid (by simp [KX.out, KY.out]), hS⟩
                · have b2 : (e1 == 0) = false := by rw [beq_eq_false_iff_ne]; exact k2
                  have KY := Lib.hid k2
                  clear k2
                  go_wp2_with (first | go_skip | ((with_reducible refine g_load ?_); refine wl_run rfl (by exact a_load1 hS (off := 0) rfl rfl rfl rfl (by (repeat (first | exact Ix.here | apply Ix.there))) (by rfl)) ?_) | fail)
                  go_meet
                  exact ⟨false, rfl, Lib.hid (by simp [KX.out, KY.out]), hS⟩
              have b1 : (x.kind == 1) = false := by rw [beq_eq_false_iff_ne]; exact k1
              go_wp2_with (first | go_skip | ((with_reducible refine g_load ?_); refine wl_run rfl (by exact a_load1 hS (off := 0) rfl rfl rfl rfl (by (repeat (first | exact Ix.here | apply Ix.there))) (by rfl)) ?_) | fail)
              go_meet
              exact ⟨false, rfl, Lib.hid (by simp [k1]), hS⟩
            case rest =>
             as_aux_lemma =>
              clear hS
              obtain ⟨v, rfl, HV, hS⟩ := hcut
              go_upto_if 124 with (fail)
              go_cut [] (fun wx => St [] w wx (.row ga (x.cells vx) 46 (0, 0) :: .row gk (K2.flatMap En.cells) 43 (0, 0) :: (wents gw gd gj2 W1 ++ [])))
              case first =>
               as_aux_lemma =>
                by_cases q : b = true ∧ x.kind = 1 ∧ e1 = 0
                · as_aux_lemma =>
                  obtain rfl : v = true := by rw [HV.out]; exact decide_eq_true q
                  have hdef : K2 = K1.set (x.e.op % 8).toNat x.e := by rw [← HK2.out]; unfold postK; rw [if_pos q]
                  obtain ⟨D1, J1, _, h2, _⟩ := HPW.out q.2.1 q.1 q.2.2
                  have n0 := (J1.opAt_of h2).1
                  clear HPO HPW HK2 HKO1 HV h2
                  have hmod0 : Int.tmod x.e.op 8 = x.e.op % 8 := Int.tmod_eq_emod_of_nonneg (by omega)
                  obtain ⟨s, hs⟩ : ∃ s, (x.e.op % 8).toNat = s := ⟨_, rfl⟩
                  have hs8 : s < 8 := by omega
                  have hmod : Int.tmod x.e.op 8 = (s : Int) := by omega
                  rw [hs] at hdef
                  have HSX := Lib.hid hs
                  have HD := Lib.hid hdef
                  clear hs hmod0 hdef q
                  go_wp2_with (first | go_skip | ((with_reducible refine g_load ?_); refine wl_run rfl (by exact a_load1 hS (off := 2) rfl rfl rfl rfl (by (repeat (first | exact Ix.here | apply Ix.there))) (by rfl)) ?_) | ((with_reducible refine g_load ?_); refine wl_run rfl (by exact a_loadA (vs := x.e.cells) (off := 1) hS rfl rfl rfl rfl (by (repeat (first | exact Ix.here | apply Ix.there))) 9 (by rfl) (by rfl) (by rfl)) ?_) | ((with_reducible refine g_index ?_); refine wl_run rfl (v := .pointer (some ⟨gk, s * 9, none⟩)) (by rw [show (⟨gk, s * 9, none⟩ : Addr) = ⟨gk, 0 + ((s : Nat) : Int).toNat * 9, none⟩ from by simp]; exact a_arrK rfl rfl rfl rfl (by rfl) (by omega) (by omega)) ?_) | ((with_reducible refine g_store ?_); refine wl_of rfl ?_; refine a_storeA (off := s * 9) (vs := x.e.cells) (cs' := (K1.set s x.e).flatMap En.cells) hS rfl rfl rfl (by rfl) (en_one _) (by (repeat (first | exact Sw.here | apply Sw.there))) (by rw [kc_len hkl]; show s * 9 + 9 ≤ 72; omega) (kc_set hkl hs8 _) ?_; clear hS; intro w' hS) | fail)
                  go_meet
                  rw [← HD.out] at hS
                  exact hS
                obtain rfl : v = false := by rw [HV.out]; exact decide_eq_false q
                have HD : Hid (K2 = K1) := Lib.hid (by rw [← HK2.out]; unfold postK; rw [if_neg q])
                go_wp2_with (first | go_skip | fail | fail)
                go_meet
                rw [← HD.out] at hS
                exact hS
              case rest =>
               as_aux_lemma =>
                clear hS HK2 HKO1 HPW hkl HV
                have hS := hcut
                clear hcut
                have HKO2 := Lib.hid HPO.out.1
                have HW3 := Lib.hid HPO.out.2
                clear HPO
                go_upto_block 2 with (fail)
                go_wp2_with (fail)
                go_loopw [10] (fun k wr => ∃ (i : Nat) (K3 : List En), i ≤ 8 ∧ k = .int .i64 (i : Int) ∧ Hid (KOk K3) ∧ Hid (WK K3 (1017 + 40 * (j : Int) + 40) W1) ∧ St [] w wr (.row ga (x.cells vx) 46 (0, 0) :: .row gk (K3.flatMap En.cells) 43 (0, 0) :: (wents gw gd gj2 W1 ++ []))) (fun k _ => (8 - intOf k).toNat)
                case atStart => exact ⟨0, K2, by omega, rfl, HKO2, HW3, hS⟩
                case round =>
                 as_aux_lemma =>
                  clear hS HKO2 HW3
                  obtain ⟨i, K3, hi, rfl, HKO3, HW3, hS⟩ := hrel
                  have hK := HW3.out
                  cases hK with
                  | off D1 c1 hc hs h =>
                    replace hS : St [] w _ [.row ga (x.cells vx) 46 (0, 0), .row gk (K3.flatMap En.cells) 43 (0, 0), .row gw [.pointer (some ⟨gd, 0, none⟩), .pointer none, .int .i64 (c1 : Int)] 50 (0, 0), disk gd D1] := hS
                    clear hc hs h
                    by_cases hi8 : i < 8
                    · have hi1 : (i : Int) < 8 := by omega
                      go_wp2_with (first | go_skip | ((with_reducible refine g_load ?_); refine wl_run rfl (by first | exact a_load1 hS (off := 1) rfl rfl rfl rfl (by (repeat (first | exact Ix.here | apply Ix.there))) (by rfl) | exact a_load1 hS (off := 0) rfl rfl rfl rfl (by (repeat (first | exact Ix.here | apply Ix.there))) (by rfl) | exact a_load1 hS (off := 2) rfl rfl rfl rfl (by (repeat (first | exact Ix.here | apply Ix.there))) (by rfl)) ?_) | fail)
                      go_round
                      case rel => exact ⟨j + 1, ⟨D1, none, c1⟩, gj2, K3, by omega, by omega, by go_num, HKO3, Lib.hid (HW3.out.more (by omega)), (hS.pick : St [] w _ [.row gk (K3.flatMap En.cells) 43 (0, 0), .row gw [.pointer (some ⟨gd, 0, none⟩), .pointer none, .int .i64 (c1 : Int)] 50 (0, 0), disk gd D1])⟩
                      case measure => simp [intOf]; omega
                    · have hi1 : ¬ (i : Int) < 8 := by omega
                      go_wp2_with (first | go_skip | ((with_reducible refine g_load ?_); refine wl_run rfl (by first | exact a_load1 hS (off := 1) rfl rfl rfl rfl (by (repeat (first | exact Ix.here | apply Ix.there))) (by rfl) | exact a_load1 hS (off := 0) rfl rfl rfl rfl (by (repeat (first | exact Ix.here | apply Ix.there))) (by rfl) | exact a_load1 hS (off := 2) rfl rfl rfl rfl (by (repeat (first | exact Ix.here | apply Ix.there))) (by rfl)) ?_) | fail)
                      go_round
                      case rel => exact ⟨j + 1, ⟨D1, none, c1⟩, gj2, K3, by omega, by omega, by go_num, HKO3, Lib.hid (HW3.out.more (by omega)), (hS.pick : St [] w _ [.row gk (K3.flatMap En.cells) 43 (0, 0), .row gw [.pointer (some ⟨gd, 0, none⟩), .pointer none, .int .i64 (c1 : Int)] 50 (0, 0), disk gd D1])⟩
                      case measure => simp [intOf]; omega
                  | on D1 J1 h1 =>
                    replace hS : St [] w _ [.row ga (x.cells vx) 46 (0, 0), .row gk (K3.flatMap En.cells) 43 (0, 0), .row gw [.pointer (some ⟨gd, 0, none⟩), .pointer (some ⟨gj2, 0, none⟩), .int .i64 (J1.check : Int)] 50 (0, 0), disk gd D1, .row gj2 (jcells gd J1) 68 (0, 0)] := hS
                    have hJc := h1.check
                    have hkl := HKO3.out.len
                    by_cases hi8 : i < 8
                    · have hi1 : (i : Int) < 8 := by omega
                      have hs8 : i < 8 := hi8
                      have hop9 := kc_op hkl hi8
                      have hseg := kc_seg hkl hi8
                      go_upto_region 25 with (first | go_skip | ((with_reducible refine g_load ?_); refine wl_run rfl (by first | exact a_load1 hS (off := 1) rfl rfl rfl rfl (by (repeat (first | exact Ix.here | apply Ix.there))) (by rfl) | exact a_load1 hS (off := 0) rfl rfl rfl rfl (by (repeat (first | exact Ix.here | apply Ix.there))) (by rfl) | exact a_load1 hS (off := 2) rfl rfl rfl rfl (by (repeat (first | exact Ix.here | apply Ix.there))) (by rfl)) ?_) | fail)
                      go_wp2_with (fail)
                      refine region_calm (by kernel_rfl) (by kernel_rfl) hS ?_
                      by_cases hle : (nth K3 i).op ≤ (J1.check : Int)
                      · as_aux_lemma =>
                        have hle1 : decide ((nth K3 i).op ≤ (J1.check : Int)) = true := decide_eq_true hle
                        have HKN := Lib.hid (HKO3.out.zero hs8)
                        have HWN : Hid (WK (K3.set i zeroE) (1017 + 40 * (j : Int) + 40) ⟨D1, some J1, J1.check⟩) := Lib.hid (WK.zero HW3.out hkl hs8)
                        clear HKO3 HW3 h1
                        (refine Calm.pure rfl (h := ?_); simp only [Act.put, List.setIfInBounds_toArray, List.set_cons_zero, List.set_cons_succ])
                        (refine Calm.run (v := .pointer (some ⟨gk, i * 9, none⟩)) rfl (fun W hW => by rw [show (⟨gk, i * 9, none⟩ : Addr) = ⟨gk, 0 + ((i : Nat) : Int).toNat * 9, none⟩ from by simp]; exact a_arrK rfl rfl rfl rfl (by rfl) (by omega) (by omega)) ?_; simp only [Act.put, List.setIfInBounds_toArray, List.set_cons_zero, List.set_cons_succ])
                        (refine Calm.pure rfl (h := ?_); simp only [Act.put, List.setIfInBounds_toArray, List.set_cons_zero, List.set_cons_succ])
                        (refine Calm.run rfl (fun W hW => by exact a_load1 hW (off := i * 9 + 1) rfl rfl rfl rfl (by (repeat (first | exact Ix.here | apply Ix.there))) hop9) ?_; simp only [Act.put, List.setIfInBounds_toArray, List.set_cons_zero, List.set_cons_succ])
                        (refine Calm.pure rfl (h := ?_); simp only [Act.put, List.setIfInBounds_toArray, List.set_cons_zero, List.set_cons_succ])
                        (refine Calm.run rfl (fun W hW => p_nil rfl rfl) ?_; simp only [Act.put, List.setIfInBounds_toArray, List.set_cons_zero, List.set_cons_succ])
                        (refine Calm.pure rfl (h := ?_); simp only [Act.put, List.setIfInBounds_toArray, List.set_cons_zero, List.set_cons_succ])
                        (refine Calm.run rfl (fun W hW => by exact a_load1 hW (off := 2) rfl rfl rfl rfl (by (repeat (first | exact Ix.here | apply Ix.there))) (by rfl)) ?_; simp only [Act.put, List.setIfInBounds_toArray, List.set_cons_zero, List.set_cons_succ])
                        (refine Calm.run (v := .bool true) rfl (fun W hW => by (go_simp; try simp [hle1])) ?_; simp only [Act.put, List.setIfInBounds_toArray, List.set_cons_zero, List.set_cons_succ])
                        (refine Calm.nil ?_; clear hS; intro w8 hS)
                        clear hle hle1
                        go_wp2_with (first | go_skip | ((with_reducible refine g_index ?_); refine wl_run rfl (v := .pointer (some ⟨gk, i * 9, none⟩)) (by rw [show (⟨gk, i * 9, none⟩ : Addr) = ⟨gk, 0 + ((i : Nat) : Int).toNat * 9, none⟩ from by simp]; exact a_arrK rfl rfl rfl rfl (by rfl) (by omega) (by omega)) ?_) | ((with_reducible refine g_store ?_); refine wl_of rfl ?_; refine a_storeA (off := i * 9) (vs := zeroE.cells) (cs' := (K3.set i zeroE).flatMap En.cells) hS rfl rfl rfl (by rfl) (en_one _) (by (repeat (first | exact Sw.here | apply Sw.there))) (by rw [kc_len hkl]; show i * 9 + 9 ≤ 72; omega) (kc_set hkl hs8 _) ?_; clear hS; intro w' hS) | fail)
                        go_round
                        case rel => exact ⟨i + 1, K3.set i zeroE, by omega, by go_num, HKN, HWN, hS⟩
                        case measure => simp [intOf]; omega
                      · as_aux_lemma =>
                        have hle1 : decide ((nth K3 i).op ≤ (J1.check : Int)) = false := decide_eq_false hle
                        have HT := Lib.hid (kept_told HKO3.out h1 hs8 (by omega))
                        have hbig := HKO3.out.big i hs8
                        have HIM := Lib.hid (fun (S : List Nat) (w0 W : World) (M : List Ent) (hS : St S w0 W (.row gj2 (jcells gd J1) 68 (0, 0) :: M)) => jrnItem_makes hS h1.len (nth K3 i).op hbig)
                        have HSO := Lib.hid (fun w => slotStubOf_any (nth K3 i) (HKO3.out.par i hs8) (HKO3.out.body i hs8) w)
                        (refine Calm.pure rfl (h := ?_); simp only [Act.put, List.setIfInBounds_toArray, List.set_cons_zero, List.set_cons_succ])
                        (refine Calm.run (v := .pointer (some ⟨gk, i * 9, none⟩)) rfl (fun W hW => by rw [show (⟨gk, i * 9, none⟩ : Addr) = ⟨gk, 0 + ((i : Nat) : Int).toNat * 9, none⟩ from by simp]; exact a_arrK rfl rfl rfl rfl (by rfl) (by omega) (by omega)) ?_; simp only [Act.put, List.setIfInBounds_toArray, List.set_cons_zero, List.set_cons_succ])
                        (refine Calm.pure rfl (h := ?_); simp only [Act.put, List.setIfInBounds_toArray, List.set_cons_zero, List.set_cons_succ])
                        (refine Calm.run rfl (fun W hW => by exact a_load1 hW (off := i * 9 + 1) rfl rfl rfl rfl (by (repeat (first | exact Ix.here | apply Ix.there))) hop9) ?_; simp only [Act.put, List.setIfInBounds_toArray, List.set_cons_zero, List.set_cons_succ])
                        (refine Calm.pure rfl (h := ?_); simp only [Act.put, List.setIfInBounds_toArray, List.set_cons_zero, List.set_cons_succ])
                        (refine Calm.run rfl (fun W hW => p_nil rfl rfl) ?_; simp only [Act.put, List.setIfInBounds_toArray, List.set_cons_zero, List.set_cons_succ])
                        (refine Calm.pure rfl (h := ?_); simp only [Act.put, List.setIfInBounds_toArray, List.set_cons_zero, List.set_cons_succ])
                        (refine Calm.run rfl (fun W hW => by exact a_load1 hW (off := 2) rfl rfl rfl rfl (by (repeat (first | exact Ix.here | apply Ix.there))) (by rfl)) ?_; simp only [Act.put, List.setIfInBounds_toArray, List.set_cons_zero, List.set_cons_succ])
                        (refine Calm.run (v := .bool false) rfl (fun W hW => by (go_simp; try simp [hle1])) ?_; simp only [Act.put, List.setIfInBounds_toArray, List.set_cons_zero, List.set_cons_succ])
                        (refine Calm.nil ?_; clear hS; intro w8 hS)
                        clear h1 hle hle1
                        generalize J1.item0 (nth K3 i).op = t at HT HIM
                        go_upto_region 27 with (fail)
                        go_wp2_with (fail)
                        refine region_drift0 10 hS (by kernel_rfl) ?_
                        clear hS
                        intro wx hR hB hS
                        (refine d_take 0 rfl rfl (by kernel_rfl) (by kernel_rfl) (by kernel_rfl) (fun _ _ _ h => h) (by kernel_rfl) rfl (fun W hW => (by (go_simp; try with_reducible rfl))) hS.base ?_; simp only [Act.put, List.setIfInBounds_toArray, List.set_cons_zero, List.set_cons_succ])
                        (refine d_take 1 rfl rfl (by kernel_rfl) (by kernel_rfl) (by kernel_rfl) (fun _ _ _ h => h) (by kernel_rfl) rfl (fun W hW => (by (go_simp; try with_reducible rfl))) hS.base ?_; simp only [Act.put, List.setIfInBounds_toArray, List.set_cons_zero, List.set_cons_succ])
                        (refine d_take 2 rfl rfl (by kernel_rfl) (by kernel_rfl) (by kernel_rfl) (fun _ _ _ h => h) (by kernel_rfl) rfl (fun W hW => (by (go_simp; try with_reducible rfl))) hS.base ?_; simp only [Act.put, List.setIfInBounds_toArray, List.set_cons_zero, List.set_cons_succ])
                        (refine d_take 3 rfl rfl (by kernel_rfl) (by kernel_rfl) (by kernel_rfl) (fun _ _ _ h => h) (by kernel_rfl) rfl (fun W hW => (by exact a_load1 (hR W hW) (off := 1) rfl rfl rfl rfl (by (repeat (first | exact Ix.here | apply Ix.there))) (by rfl))) hS.base ?_; simp only [Act.put, List.setIfInBounds_toArray, List.set_cons_zero, List.set_cons_succ])
                        (refine d_take 4 rfl rfl (by kernel_rfl) (by kernel_rfl) (by kernel_rfl) (fun _ _ _ h => h) (by kernel_rfl) rfl (fun W hW => (by (go_simp; try with_reducible rfl))) hS.base ?_; simp only [Act.put, List.setIfInBounds_toArray, List.set_cons_zero, List.set_cons_succ])
                        (refine d_take (v := (.pointer (some ⟨gk, i * 9, none⟩))) 5 rfl rfl (by kernel_rfl) (by kernel_rfl) (by kernel_rfl) (fun _ _ _ h => h) (by kernel_rfl) rfl (fun W hW => by (rw [show (⟨gk, i * 9, none⟩ : Addr) = ⟨gk, 0 + ((i : Nat) : Int).toNat * 9, none⟩ from by simp]; exact a_arrK rfl rfl rfl rfl (by rfl) (by omega) (by omega))) hS.base ?_; simp only [Act.put, List.setIfInBounds_toArray, List.set_cons_zero, List.set_cons_succ])
                        (refine d_take 6 rfl rfl (by kernel_rfl) (by kernel_rfl) (by kernel_rfl) (fun _ _ _ h => h) (by kernel_rfl) rfl (fun W hW => (by (go_simp; try with_reducible rfl))) hS.base ?_; simp only [Act.put, List.setIfInBounds_toArray, List.set_cons_zero, List.set_cons_succ])
                        (refine d_take 7 rfl rfl (by kernel_rfl) (by kernel_rfl) (by kernel_rfl) (fun _ _ _ h => h) (by kernel_rfl) rfl (fun W hW => (by exact a_load1 (hR W hW) (off := i * 9 + 1) rfl rfl rfl rfl (by (repeat (first | exact Ix.here | apply Ix.there))) hop9)) hS.base ?_; simp only [Act.put, List.setIfInBounds_toArray, List.set_cons_zero, List.set_cons_succ])
                        (refine d_call 8 rfl rfl (by kernel_rfl) (by kernel_rfl) (by kernel_rfl) (fun _ _ _ h => h) (by kernel_rfl) rfl (fun W => by go_simp) hS.base (fun W hW => (HIM.out _ _ W _ ((hR W hW).out (by (repeat (first | exact Out.here | apply Out.there)))))) ?_; simp only [Act.put, List.setIfInBounds_toArray, List.set_cons_zero, List.set_cons_succ])
                        (refine d_all (rs := [9]) (by kernel_rfl) (by simp) ?_; intro wd hd; replace hS := hS.same hd; clear hd; intro i hi; have hi := List.mem_singleton.1 hi; subst hi)
                        refine wod_of rfl rfl rfl (wp_alloc hS rfl rfl rfl rfl ?_)
                        clear hS
                        intro gi w3 hS
                        (refine ⟨fun _ => hS.base, ?_⟩; simp only [Act.put, List.setIfInBounds_toArray, List.set_cons_zero, List.set_cons_succ])
                        (refine d_all (rs := [10]) (by kernel_rfl) (by simp) ?_; intro wd hd; replace hS := hS.same hd; clear hd; intro i hi; have hi := List.mem_singleton.1 hi; subst hi)
                        refine won_of rfl rfl rfl (a_storeA (vs := t.cells) (cs' := t.cells) hS rfl rfl rfl (by rfl) (it_one _) (by (repeat (first | exact Sw.here | apply Sw.there))) (by exact Nat.le_refl 15) (by rfl) ?_)
                        clear hS
                        intro w4 hS
                        replace hS := hB _ _ hS
                        (refine ⟨fun h => absurd rfl h, ?_⟩; refine d_done (by kernel_rfl) ?_ _; intro wd hd; replace hS := hS.same hd; clear hd)
                        simp only [Act.put, List.setIfInBounds_toArray, List.set_cons_zero, List.set_cons_succ]
                        clear hR hB HIM
                        go_upto_region 29 with (first | go_skip | ((with_reducible refine g_index ?_); refine wl_run rfl (v := .pointer (some ⟨gk, i * 9, none⟩)) (by rw [show (⟨gk, i * 9, none⟩ : Addr) = ⟨gk, 0 + ((i : Nat) : Int).toNat * 9, none⟩ from by simp]; exact a_arrK rfl rfl rfl rfl (by rfl) (by omega) (by omega)) ?_) | ((with_reducible refine g_load ?_); refine wl_run rfl (by exact a_loadA (vs := (nth K3 i).cells) (off := i * 9) hS rfl rfl rfl rfl (by (repeat (first | exact Ix.here | apply Ix.there))) 9 (by rfl) hseg (by rfl)) ?_) | (go_at_call 20; refine (HSO.out _).mono ?_; rintro e w' ⟨rfl, h⟩; replace hS := hS.call h; clear h) | ((with_reducible refine g_alloc ?_); refine wl_of rfl ?_; refine wp_alloc hS rfl rfl rfl rfl ?_; clear hS; intro gs w1 hS) | ((with_reducible refine g_store ?_); refine wl_of rfl ?_; refine a_storeA (vs := (stubE (nth K3 i)).cells) (cs' := (stubE (nth K3 i)).cells) hS rfl rfl rfl (by rfl) (stb_one _) (by (repeat (first | exact Sw.here | apply Sw.there))) (by exact Nat.le_refl 5) (by rfl) ?_; clear hS; intro w' hS) | fail)
                        have hq1 : eqV Try.prog 4 24 (.agg (nth K3 i).cells.toArray) (.agg (nth K3 i).cells.toArray) = some true := by rw [eqEn, decide_eq_true rfl]
                        have hq2 : eqV Try.prog 4 35 (.agg (stubE (nth K3 i)).cells.toArray) (.agg (stubE (nth K3 i)).cells.toArray) = some true := by rw [eqStb, decide_eq_true rfl]
                        generalize stubE (nth K3 i) = sb at HT hq2 hS
                        generalize hEE : nth K3 i = E at HT hq1 hseg
                        go_wp2_with (fail)
                        refine region_calm (by kernel_rfl) (by kernel_rfl) hS ?_
                        rcases HT.out with rfl | rfl | rfl
                        · clear HT
                          iterate 1 (refine Calm.pure rfl (h := ?_); simp only [Act.put, List.setIfInBounds_toArray, List.set_cons_zero, List.set_cons_succ])
                          (refine Calm.run rfl (fun W hW => by exact a_load1 hW (off := 0) rfl rfl rfl rfl (by (repeat (first | exact Ix.here | apply Ix.there))) (by rfl)) ?_; simp only [Act.put, List.setIfInBounds_toArray, List.set_cons_zero, List.set_cons_succ])
                          iterate 3 (refine Calm.pure rfl (h := ?_); simp only [Act.put, List.setIfInBounds_toArray, List.set_cons_zero, List.set_cons_succ])
                          (refine Calm.run rfl (fun W hW => by exact a_load1 hW (off := 0) rfl rfl rfl rfl (by (repeat (first | exact Ix.here | apply Ix.there))) (by rfl)) ?_; simp only [Act.put, List.setIfInBounds_toArray, List.set_cons_zero, List.set_cons_succ])
                          iterate 3 (refine Calm.pure rfl (h := ?_); simp only [Act.put, List.setIfInBounds_toArray, List.set_cons_zero, List.set_cons_succ])
                          (refine Calm.run rfl (fun W hW => by exact a_loadA (vs := E.cells) (off := 6) hW rfl rfl rfl rfl (by (repeat (first | exact Ix.here | apply Ix.there))) 9 (by rfl) (by rfl) (by rfl)) ?_; simp only [Act.put, List.setIfInBounds_toArray, List.set_cons_zero, List.set_cons_succ])
                          iterate 1 (refine Calm.pure rfl (h := ?_); simp only [Act.put, List.setIfInBounds_toArray, List.set_cons_zero, List.set_cons_succ])
                          (refine Calm.run (v := .pointer (some ⟨gk, i * 9, none⟩)) rfl (fun W hW => by rw [show (⟨gk, i * 9, none⟩ : Addr) = ⟨gk, 0 + ((i : Nat) : Int).toNat * 9, none⟩ from by simp]; exact a_arrK rfl rfl rfl rfl (by rfl) (by omega) (by omega)) ?_; simp only [Act.put, List.setIfInBounds_toArray, List.set_cons_zero, List.set_cons_succ])
                          (refine Calm.run rfl (fun W hW => by exact a_loadA (vs := E.cells) (off := i * 9) hW rfl rfl rfl rfl (by (repeat (first | exact Ix.here | apply Ix.there))) 9 (by rfl) hseg (by rfl)) ?_; simp only [Act.put, List.setIfInBounds_toArray, List.set_cons_zero, List.set_cons_succ])
                          ((with_reducible refine c_neqS (t := 24) ?_); refine Calm.run rfl (fun W hW => by exact x_structNe rfl rfl rfl enGuard hq1) ?_; simp only [Act.put, List.setIfInBounds_toArray, List.set_cons_zero, List.set_cons_succ])
                          iterate 4 (refine Calm.pure rfl (h := ?_); simp only [Act.put, List.setIfInBounds_toArray, List.set_cons_zero, List.set_cons_succ])
                          (refine Calm.run rfl (fun W hW => by exact a_load1 hW (off := 0) rfl rfl rfl rfl (by (repeat (first | exact Ix.here | apply Ix.there))) (by rfl)) ?_; simp only [Act.put, List.setIfInBounds_toArray, List.set_cons_zero, List.set_cons_succ])
                          iterate 2 (refine Calm.pure rfl (h := ?_); simp only [Act.put, List.setIfInBounds_toArray, List.set_cons_zero, List.set_cons_succ])
                          iterate 4 (refine Calm.skip rfl ?_; simp only [Act.put, List.setIfInBounds_toArray, List.set_cons_zero, List.set_cons_succ])
                          iterate 2 (refine Calm.pure rfl (h := ?_); simp only [Act.put, List.setIfInBounds_toArray, List.set_cons_zero, List.set_cons_succ])
                          (refine Calm.nil ?_; clear hS; intro w8 hS)
                          go_wp2_with (first | go_skip | fail | fail)
                          go_round
                          case rel => exact ⟨i + 1, K3, by omega, by go_num, HKO3, HW3, (hS.pick : St [] w _ [.row ga (x.cells vx) 46 (0, 0), .row gk (K3.flatMap En.cells) 43 (0, 0), .row gw [.pointer (some ⟨gd, 0, none⟩), .pointer (some ⟨gj2, 0, none⟩), .int .i64 (J1.check : Int)] 50 (0, 0), disk gd D1, .row gj2 (jcells gd J1) 68 (0, 0)])⟩
                          case measure => simp [intOf]; omega
                        · clear HT
                          iterate 1 (refine Calm.pure rfl (h := ?_); simp only [Act.put, List.setIfInBounds_toArray, List.set_cons_zero, List.set_cons_succ])
                          (refine Calm.run rfl (fun W hW => by exact a_load1 hW (off := 0) rfl rfl rfl rfl (by (repeat (first | exact Ix.here | apply Ix.there))) (by rfl)) ?_; simp only [Act.put, List.setIfInBounds_toArray, List.set_cons_zero, List.set_cons_succ])
                          iterate 3 (refine Calm.pure rfl (h := ?_); simp only [Act.put, List.setIfInBounds_toArray, List.set_cons_zero, List.set_cons_succ])
                          (refine Calm.run rfl (fun W hW => by exact a_load1 hW (off := 0) rfl rfl rfl rfl (by (repeat (first | exact Ix.here | apply Ix.there))) (by rfl)) ?_; simp only [Act.put, List.setIfInBounds_toArray, List.set_cons_zero, List.set_cons_succ])
                          iterate 2 (refine Calm.pure rfl (h := ?_); simp only [Act.put, List.setIfInBounds_toArray, List.set_cons_zero, List.set_cons_succ])
                          iterate 6 (refine Calm.skip rfl ?_; simp only [Act.put, List.setIfInBounds_toArray, List.set_cons_zero, List.set_cons_succ])
                          iterate 4 (refine Calm.pure rfl (h := ?_); simp only [Act.put, List.setIfInBounds_toArray, List.set_cons_zero, List.set_cons_succ])
                          (refine Calm.run rfl (fun W hW => by exact a_load1 hW (off := 0) rfl rfl rfl rfl (by (repeat (first | exact Ix.here | apply Ix.there))) (by rfl)) ?_; simp only [Act.put, List.setIfInBounds_toArray, List.set_cons_zero, List.set_cons_succ])
                          iterate 3 (refine Calm.pure rfl (h := ?_); simp only [Act.put, List.setIfInBounds_toArray, List.set_cons_zero, List.set_cons_succ])
                          (refine Calm.run rfl (fun W hW => by exact a_loadA (vs := sb.cells) (off := 1) hW rfl rfl rfl rfl (by (repeat (first | exact Ix.here | apply Ix.there))) 5 (by rfl) (by rfl) (by rfl)) ?_; simp only [Act.put, List.setIfInBounds_toArray, List.set_cons_zero, List.set_cons_succ])
                          (refine Calm.run rfl (fun W hW => by exact a_loadA (vs := sb.cells) (off := 0) hW rfl rfl rfl rfl (by (repeat (first | exact Ix.here | apply Ix.there))) 5 (by rfl) (by rfl) (by rfl)) ?_; simp only [Act.put, List.setIfInBounds_toArray, List.set_cons_zero, List.set_cons_succ])
                          ((with_reducible refine c_neqS (t := 35) ?_); refine Calm.run rfl (fun W hW => by exact x_structNe rfl rfl rfl stbGuard hq2) ?_; simp only [Act.put, List.setIfInBounds_toArray, List.set_cons_zero, List.set_cons_succ])
                          iterate 2 (refine Calm.pure rfl (h := ?_); simp only [Act.put, List.setIfInBounds_toArray, List.set_cons_zero, List.set_cons_succ])
                          (refine Calm.nil ?_; clear hS; intro w8 hS)
                          go_wp2_with (first | go_skip | fail | fail)
                          go_round
                          case rel => exact ⟨i + 1, K3, by omega, by go_num, HKO3, HW3, (hS.pick : St [] w _ [.row ga (x.cells vx) 46 (0, 0), .row gk (K3.flatMap En.cells) 43 (0, 0), .row gw [.pointer (some ⟨gd, 0, none⟩), .pointer (some ⟨gj2, 0, none⟩), .int .i64 (J1.check : Int)] 50 (0, 0), disk gd D1, .row gj2 (jcells gd J1) 68 (0, 0)])⟩
                          case measure => simp [intOf]; omega
                        · clear HT
                          iterate 1 (refine Calm.pure rfl (h := ?_); simp only [Act.put, List.setIfInBounds_toArray, List.set_cons_zero, List.set_cons_succ])
                          (refine Calm.run rfl (fun W hW => by exact a_load1 hW (off := 0) rfl rfl rfl rfl (by (repeat (first | exact Ix.here | apply Ix.there))) (by rfl)) ?_; simp only [Act.put, List.setIfInBounds_toArray, List.set_cons_zero, List.set_cons_succ])
                          iterate 3 (refine Calm.pure rfl (h := ?_); simp only [Act.put, List.setIfInBounds_toArray, List.set_cons_zero, List.set_cons_succ])
                          (refine Calm.run rfl (fun W hW => by exact a_load1 hW (off := 0) rfl rfl rfl rfl (by (repeat (first | exact Ix.here | apply Ix.there))) (by rfl)) ?_; simp only [Act.put, List.setIfInBounds_toArray, List.set_cons_zero, List.set_cons_succ])
                          iterate 2 (refine Calm.pure rfl (h := ?_); simp only [Act.put, List.setIfInBounds_toArray, List.set_cons_zero, List.set_cons_succ])
                          iterate 6 (refine Calm.skip rfl ?_; simp only [Act.put, List.setIfInBounds_toArray, List.set_cons_zero, List.set_cons_succ])
                          iterate 4 (refine Calm.pure rfl (h := ?_); simp only [Act.put, List.setIfInBounds_toArray, List.set_cons_zero, List.set_cons_succ])
                          (refine Calm.run rfl (fun W hW => by exact a_load1 hW (off := 0) rfl rfl rfl rfl (by (repeat (first | exact Ix.here | apply Ix.there))) (by rfl)) ?_; simp only [Act.put, List.setIfInBounds_toArray, List.set_cons_zero, List.set_cons_succ])
                          iterate 2 (refine Calm.pure rfl (h := ?_); simp only [Act.put, List.setIfInBounds_toArray, List.set_cons_zero, List.set_cons_succ])
                          iterate 4 (refine Calm.skip rfl ?_; simp only [Act.put, List.setIfInBounds_toArray, List.set_cons_zero, List.set_cons_succ])
                          iterate 2 (refine Calm.pure rfl (h := ?_); simp only [Act.put, List.setIfInBounds_toArray, List.set_cons_zero, List.set_cons_succ])
                          (refine Calm.nil ?_; clear hS; intro w8 hS)
                          go_wp2_with (first | go_skip | fail | fail)
                          go_round
                          case rel => exact ⟨i + 1, K3, by omega, by go_num, HKO3, HW3, (hS.pick : St [] w _ [.row ga (x.cells vx) 46 (0, 0), .row gk (K3.flatMap En.cells) 43 (0, 0), .row gw [.pointer (some ⟨gd, 0, none⟩), .pointer (some ⟨gj2, 0, none⟩), .int .i64 (J1.check : Int)] 50 (0, 0), disk gd D1, .row gj2 (jcells gd J1) 68 (0, 0)])⟩
                          case measure => simp [intOf]; omega
                    · have hi1 : ¬ (i : Int) < 8 := by omega
                      clear h1
                      go_wp2_with (first | go_skip | ((with_reducible refine g_load ?_); refine wl_run rfl (by first | exact a_load1 hS (off := 1) rfl rfl rfl rfl (by (repeat (first | exact Ix.here | apply Ix.there))) (by rfl) | exact a_load1 hS (off := 0) rfl rfl rfl rfl (by (repeat (first | exact Ix.here | apply Ix.there))) (by rfl) | exact a_load1 hS (off := 2) rfl rfl rfl rfl (by (repeat (first | exact Ix.here | apply Ix.there))) (by rfl)) ?_) | fail)
                      go_round
                      case rel => exact ⟨j + 1, ⟨D1, some J1, J1.check⟩, gj2, K3, by omega, by omega, by go_num, HKO3, Lib.hid (HW3.out.more (by omega)), (hS.pick : St [] w _ [.row gk (K3.flatMap En.cells) 43 (0, 0), .row gw [.pointer (some ⟨gd, 0, none⟩), .pointer (some ⟨gj2, 0, none⟩), .int .i64 (J1.check : Int)] 50 (0, 0), disk gd D1, .row gj2 (jcells gd J1) 68 (0, 0)])⟩
                      case measure => simp [intOf]; omega
    · by_cases hlt1 : (j : Int) < L.length
      all_goals
        try (have hlt2 : ¬ (j : Int) < 50 := by omega)
        have hLx := HL.out
        go_wp2_with (first | go_skip | ((with_reducible refine g_len ?_); refine wl_run rfl (by exact a_len rfl rfl rfl (hS.old0 hLx)) ?_) | fail)
        go_ret
        exact ⟨rfl, hS.nil⟩
end
end Go.Proofs.Ytnjboimjlbgdiaa
