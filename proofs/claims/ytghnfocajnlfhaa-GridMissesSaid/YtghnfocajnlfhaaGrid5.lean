/-
  Texts in blocks: a text loaded, by the program.
-/
import Derived.Test.YtghnfocajnlfhaaGrid4
import Derived.Test.YtghnfocajnlfhaaBldr
set_option linter.unusedSimpArgs false
set_option linter.unusedVariables false
set_option linter.unusedSectionVars false
set_option maxRecDepth 100000
namespace Go.Cmp
open Go.RowKit
def natI (n : Nat) : List Value := [.int .i64 (n : Int)]
/-- What the block i of so many bytes has. -/
def partL (D : Dsk) (a : Nat) (N : List Nat) (i : Nat) : List UInt8 × Bool := hasG (D.read (secG a i)).1 i (nth N i)
def wantL (size i : Nat) : Nat := min 320 (size - 320 * i)
def goodL (D : Dsk) (a size : Nat) (N : List Nat) (i : Nat) : Bool := (partL D a N i).2 && decide ((partL D a N i).1.length = wantL size i)
def missL (D : Dsk) (a size : Nat) (N : List Nat) (n : Nat) : List Nat := (List.range n).filter fun i => !goodL D a size N i
def textL (D : Dsk) (a : Nat) (N : List Nat) (n : Nat) : List UInt8 := (List.range n).flatMap fun i => (partL D a N i).1
def loadG (D : Dsk) (a size : Nat) (N : List Nat) : List UInt8 × List Nat :=
  if missL D a size N (cntG size) = [] then (textL D a N (cntG size), []) else ([], missL D a size N (cntG size))
theorem missL_snoc (D : Dsk) (a size : Nat) (N : List Nat) (n : Nat) : missL D a size N (n + 1) = if goodL D a size N n = true then missL D a size N n else missL D a size N n ++ [n] := by
  unfold missL
  rw [List.range_succ, List.filter_append]
  cases h : goodL D a size N n <;> simp [h]
theorem textL_snoc (D : Dsk) (a : Nat) (N : List Nat) (n : Nat) : textL D a N (n + 1) = textL D a N n ++ (partL D a N n).1 := by
  unfold textL
  rw [List.range_succ, List.flatMap_append]
  simp
theorem partL_len (D : Dsk) (a : Nat) (N : List Nat) (i : Nat) : (partL D a N i).1.length ≤ 320 := by
  unfold partL hasG
  split
  · exact Nat.zero_le _
  · rename_i h
    have h2 : ¬ 320 < (openS (D.read (secG a i)).1).1.length := fun q => h (.inr (.inl q))
    simp only
    omega
theorem textL_len (D : Dsk) (a : Nat) (N : List Nat) : ∀ n, (textL D a N n).length ≤ 320 * n
  | 0 => by simp [textL]
  | n + 1 => by rw [textL_snoc, List.length_append]; have := textL_len D a N n; have := partL_len D a N n; omega
theorem missL_len (D : Dsk) (a size : Nat) (N : List Nat) (n : Nat) : (missL D a size N n).length ≤ n := by
  unfold missL
  exact Nat.le_trans (List.length_filter_le _ _) (by simp)
/-- No block is missing: the text is there whole. -/
theorem textL_full {D : Dsk} {a size : Nat} {N : List Nat} : ∀ n, n ≤ cntG size → missL D a size N n = [] → (textL D a N n).length = min size (320 * n)
  | 0, _, _ => by simp [textL]
  | n + 1, hn, h => by
    have hlt := cntG_lt.1 (show n < cntG size by omega)
    rw [missL_snoc] at h
    cases hg : goodL D a size N n
    · rw [hg, if_neg (by simp)] at h
      exact absurd h (by simp)
    · rw [hg, if_pos rfl] at h
      have ih := textL_full n (by omega) h
      unfold goodL at hg
      simp only [Bool.and_eq_true, decide_eq_true_eq] at hg
      rw [textL_snoc, List.length_append, ih, hg.2]
      unfold wantL
      omega
end Go.Cmp
namespace Go.Proofs.Ytghnfocajnlfhaa
open Go.RowKit Go.Cmp

section
variable {S : List Nat} {w0 w : World} {M : List Ent} {g : Nat} {D : Dsk}
set_option maxHeartbeats 8000000 in
theorem gridLoad_any (hS : St S w0 w (disk g D :: M)) (hD : D.Ok) (ho : D.off = false) (h32 : D.lasts.length = 32) (a : Nat) (ha : a < 2) (size : Nat) (hsz : size ≤ 1920) (N : List Nat) (hN : N.length = 6) (C : List Value) (hC : C = N.map fun n => .int .u64 (n : Int)) :
    Calls Try.prog 12 #[.pointer (some ⟨g, 0, none⟩), .int .i64 a, .int .i64 size, .agg C.toArray] w fun e w' => ∃ v, e = .returned (.tuple #[.string ⟨(loadG D a size N).1.toArray⟩, v, .int .i64 0]) ∧ St S w0 w' (.vec v 3 1 (loadG D a size N).2.length ((loadG D a size N).2.flatMap natI) :: disk g D :: M) := by
  have HMA : Hid (∀ w, Calls Try.prog 25 #[.int .i64 a, .int .i64 0] w fun e w' => e = .returned (.bool true) ∧ w' = w) := Lib.hid (fun w => gridMay_any a 0 ha (by omega) w)
  have HBL : Hid (∀ (i : Nat), i < 6 → ∀ (W : World) (M : List Ent), St S w0 W (disk g D :: M) → Calls Try.prog 19 #[.pointer (some ⟨g, 0, none⟩), .int .i64 a, .int .i64 i, .int .u64 (nth N i : Nat)] W fun e w' => e = .returned (.tuple #[.string ⟨(partL D a N i).1.toArray⟩, .bool (partL D a N i).2, .int .i64 0]) ∧ St S w0 w' (disk g D :: M)) := Lib.hid (fun i hi W M hS => by
    have h := gridBlock_any hS hD a i ha hi (nth N i)
    have e0 : (D.read (secG a i)).2 = 0 := by
      have his : D.is (secG a i) = true := by unfold Dsk.is secG; rw [h32]; simp; omega
      unfold Dsk.read
      rw [if_neg (by rw [his]; simp), if_neg (by rw [ho]; simp)]
    have eb : blockG D a i (nth N i) = ((partL D a N i).1, (partL D a N i).2, 0) := by unfold blockG partL; rw [if_neg (by rw [e0]; decide)]
    rw [eb] at h
    exact h)
  have hCl : C.length = 6 := by rw [hC, List.length_map, hN]
  have HCG : Hid (∀ i, i < 6 → C[i]? = some (.int .u64 (nth N i : Nat))) := Lib.hid (fun i hi => by rw [hC, List.getElem?_map, get_lt (by omega)]; rfl)
  have hc6 : cntG size ≤ 6 := by unfold cntG; omega
  clear hC hN ho h32
  match C, hCl with
  | [c0, c1, c2, c3, c4, c5], _ =>
  (go_enter Try.func12, Try.ntmps12)
  go_wp2_with (first | go_skip | ((with_reducible refine g_box ?_); refine wl_of rfl ?_; refine wp_box hS rfl rfl rfl ?_; clear hS; intro ga w1 hS) | ((with_reducible refine g_alloc ?_); refine wl_of rfl ?_; refine wp_alloc hS rfl rfl rfl rfl ?_; clear hS; intro gb w1 hS) | (go_at_call 25; refine (HMA.out _).mono ?_; rintro e w' ⟨rfl, rfl⟩) | fail)
  replace hS : St S w0 _ (.row gb [.pointer none, .slice none 0 0] 65 (0, 0) :: .vec (.slice none 0 0) 5 1 0 [] :: .vec (.slice none 0 0) 3 1 0 [] :: .row ga [c0, c1, c2, c3, c4, c5] 29 (0, 0) :: disk g D :: M) := ((hS.addNil 3 1).addNil 5 1).pick
  go_loopw [12, 13] (fun m k wz => ∃ (i : Nat) (p vb : Value), i ≤ cntG size ∧ k = .int .i64 i ∧ (p = .pointer none ∨ p = .pointer (some ⟨gb, 0, none⟩)) ∧ (i = 0 → vb = .slice none 0 0) ∧ St S w0 wz (.row gb [p, vb] 65 (0, 0) :: .vec vb 5 1 (textL D a N i).length ((textL D a N i).flatMap byt) :: .vec m 3 1 (missL D a size N i).length ((missL D a size N i).flatMap natI) :: .row ga [c0, c1, c2, c3, c4, c5] 29 (0, 0) :: disk g D :: M)) (fun _ k _ => 6 - (intOf k).toNat)
  case atStart => exact ⟨0, _, _, by omega, rfl, .inl rfl, fun _ => rfl, hS⟩
  case round =>
    clear hS HMA
    obtain ⟨i, p, vb, hi, rfl, hp, hv0, hS⟩ := hrel
    by_cases hil : i < cntG size
    · have hlt := cntG_lt.1 hil
      have hil1 : (i : Int) * 320 < size := by omega
      have HCI := Lib.hid (HCG.out i (by omega))
      have HB1 := Lib.hid (HBL.out i (by omega))
      have hl1 : (textL D a N i).length ≤ 1000000 := by have := textL_len D a N i; omega
      have hl2 : (partL D a N i).1.length ≤ 1000000 := by have := partL_len D a N i; omega
      have HTX := Lib.hid (textL_snoc D a N i)
      have hms := missL_snoc D a size N i
      have hgl : goodL D a size N i = ((partL D a N i).2 && decide ((partL D a N i).1.length = wantL size i)) := rfl
      have hmll := missL_len D a size N i
      rw [hgl] at hms
      clear hgl
      obtain ⟨q, hq⟩ : ∃ q, wantL size i = q := ⟨_, rfl⟩
      have HMI : Hid ((if (size : Int) - (i : Int) * 320 < 320 then (size : Int) - (i : Int) * 320 else 320) = (q : Int)) := Lib.hid (by rw [← hq]; unfold wantL; split <;> omega)
      rw [hq] at hms
      have hq2 : q ≤ 320 := by rw [← hq]; unfold wantL; omega
      generalize partL D a N i = X at HB1 hl2 HTX hms
      obtain ⟨x, ok⟩ := X
      simp only at HB1 hl2 HTX hms
      clear hq hlt
      cases ok
      · have HMS : Hid (missL D a size N (i + 1) = missL D a size N i ++ [i]) := Lib.hid (by rw [hms, if_neg (by simp)])
        clear hms
        go_wp2_with (first | go_skip | ((with_reducible refine g_index ?_); refine wl_run rfl (a_arr (n := 6) rfl rfl rfl rfl rfl (by omega) (by omega)) ?_) | ((with_reducible refine wl_guard ?_); refine stop_mem rfl rfl ?_))
        refine wl_run rfl (a_load1 hS rfl rfl rfl rfl (by (repeat (first | exact Ix.here | apply Ix.there))) HCI.out) ?_
        go_wp2_with (first | go_skip | (go_at_call 19; (refine (HB1.out _ _ (hS.out (by (repeat (first | exact Out.here | apply Out.there))))).mono ?_; clear hS; rintro e w' ⟨rfl, hS⟩)) | ((with_reducible refine g_min ?_); refine wl_run rfl (x_min (m := (q : Int)) rfl rfl rfl HMI.out) ?_) | ((with_reducible refine g_bs ?_); refine wl_of rfl ?_; refine a_build1 (v := .int .i64 (i : Int)) (cs := natI i) hS rfl rfl rfl rfl (by rfl) (by show 1 ≤ 16777216; omega) ?_; clear hS; intro vq w' hS) | ((with_reducible refine g_append ?_); refine wl_of rfl ?_; refine k_app (z := i) (f := natI) (L := missL D a size N i) (k := 1) hS rfl rfl rfl rfl (hR := by exact hS.rdx Ix.here) (h1 := by simp [natI, Value.oneCell']) (h := ?_); clear hS; intro va w' hS hv2) | fail)
        replace hS : St S w0 _ (.row gb [p, vb] 65 (0, 0) :: .vec vb 5 1 (textL D a N i).length ((textL D a N i).flatMap byt) :: .vec va 3 1 (missL D a size N i ++ [i]).length ((missL D a size N i ++ [i]).flatMap natI) :: .row ga [c0, c1, c2, c3, c4, c5] 29 (0, 0) :: disk g D :: M) := hS.pick
        refine (bldr_write x hS hp hl1 hl2).mono ?_
        clear hS
        rintro e w' ⟨v3, rfl, hS⟩
        go_wp2_with (fail)
        exact ⟨⟨i + 1, _, v3, by omega, by simp, .inr rfl, fun h => absurd h (by omega), by rw [HTX.out, HMS.out]; exact hS.pick⟩, by simp [intOf]; omega⟩
      · by_cases hlq : x.length = q
        · have HMS : Hid (missL D a size N (i + 1) = missL D a size N i) := Lib.hid (by rw [hms, if_pos (by simp [hlq])])
          have hlq1 : ((x.length : Int) != (q : Int)) = false := by rw [hlq]; simp
          clear hms hlq
          go_wp2_with (first | go_skip | ((with_reducible refine g_index ?_); refine wl_run rfl (a_arr (n := 6) rfl rfl rfl rfl rfl (by omega) (by omega)) ?_) | ((with_reducible refine wl_guard ?_); refine stop_mem rfl rfl ?_))
          refine wl_run rfl (a_load1 hS rfl rfl rfl rfl (by (repeat (first | exact Ix.here | apply Ix.there))) HCI.out) ?_
          go_wp2_with (first | go_skip | (go_at_call 19; (refine (HB1.out _ _ (hS.out (by (repeat (first | exact Out.here | apply Out.there))))).mono ?_; clear hS; rintro e w' ⟨rfl, hS⟩)) | ((with_reducible refine g_min ?_); refine wl_run rfl (x_min (m := (q : Int)) rfl rfl rfl HMI.out) ?_) | ((with_reducible refine g_bs ?_); refine wl_of rfl ?_; refine a_build1 (v := .int .i64 (i : Int)) (cs := natI i) hS rfl rfl rfl rfl (by rfl) (by show 1 ≤ 16777216; omega) ?_; clear hS; intro vq w' hS) | ((with_reducible refine g_append ?_); refine wl_of rfl ?_; refine k_app (z := i) (f := natI) (L := missL D a size N i) (k := 1) hS rfl rfl rfl rfl (hR := by exact hS.rdx Ix.here) (h1 := by simp [natI, Value.oneCell']) (h := ?_); clear hS; intro va w' hS hv2) | fail)
          replace hS : St S w0 _ (.row gb [p, vb] 65 (0, 0) :: .vec vb 5 1 (textL D a N i).length ((textL D a N i).flatMap byt) :: .vec u12 3 1 (missL D a size N i).length ((missL D a size N i).flatMap natI) :: .row ga [c0, c1, c2, c3, c4, c5] 29 (0, 0) :: disk g D :: M) := hS.pick
          refine (bldr_write x hS hp hl1 hl2).mono ?_
          clear hS
          rintro e w' ⟨v3, rfl, hS⟩
          go_wp2_with (fail)
          exact ⟨⟨i + 1, _, v3, by omega, by simp, .inr rfl, fun h => absurd h (by omega), by rw [HTX.out, HMS.out]; exact hS.pick⟩, by simp [intOf]; omega⟩
        · have HMS : Hid (missL D a size N (i + 1) = missL D a size N i ++ [i]) := Lib.hid (by rw [hms, if_neg (by simp [hlq])])
          have hlq1 : ((x.length : Int) != (q : Int)) = true := by simp; omega
          clear hms hlq
          go_wp2_with (first | go_skip | ((with_reducible refine g_index ?_); refine wl_run rfl (a_arr (n := 6) rfl rfl rfl rfl rfl (by omega) (by omega)) ?_) | ((with_reducible refine wl_guard ?_); refine stop_mem rfl rfl ?_))
          refine wl_run rfl (a_load1 hS rfl rfl rfl rfl (by (repeat (first | exact Ix.here | apply Ix.there))) HCI.out) ?_
          go_wp2_with (first | go_skip | (go_at_call 19; (refine (HB1.out _ _ (hS.out (by (repeat (first | exact Out.here | apply Out.there))))).mono ?_; clear hS; rintro e w' ⟨rfl, hS⟩)) | ((with_reducible refine g_min ?_); refine wl_run rfl (x_min (m := (q : Int)) rfl rfl rfl HMI.out) ?_) | ((with_reducible refine g_bs ?_); refine wl_of rfl ?_; refine a_build1 (v := .int .i64 (i : Int)) (cs := natI i) hS rfl rfl rfl rfl (by rfl) (by show 1 ≤ 16777216; omega) ?_; clear hS; intro vq w' hS) | ((with_reducible refine g_append ?_); refine wl_of rfl ?_; refine k_app (z := i) (f := natI) (L := missL D a size N i) (k := 1) hS rfl rfl rfl rfl (hR := by exact hS.rdx Ix.here) (h1 := by simp [natI, Value.oneCell']) (h := ?_); clear hS; intro va w' hS hv2) | fail)
          replace hS : St S w0 _ (.row gb [p, vb] 65 (0, 0) :: .vec vb 5 1 (textL D a N i).length ((textL D a N i).flatMap byt) :: .vec va 3 1 (missL D a size N i ++ [i]).length ((missL D a size N i ++ [i]).flatMap natI) :: .row ga [c0, c1, c2, c3, c4, c5] 29 (0, 0) :: disk g D :: M) := hS.pick
          refine (bldr_write x hS hp hl1 hl2).mono ?_
          clear hS
          rintro e w' ⟨v3, rfl, hS⟩
          go_wp2_with (fail)
          exact ⟨⟨i + 1, _, v3, by omega, by simp, .inr rfl, fun h => absurd h (by omega), by rw [HTX.out, HMS.out]; exact hS.pick⟩, by simp [intOf]; omega⟩
    · obtain rfl : i = cntG size := by omega
      have hfull := textL_full (D := D) (a := a) (size := size) (N := N) (cntG size) (Nat.le_refl _)
      have hge : ¬ ((cntG size : Nat) : Int) * 320 < size := by unfold cntG; omega
      have hld : loadG D a size N = if missL D a size N (cntG size) = [] then (textL D a N (cntG size), []) else ([], missL D a size N (cntG size)) := rfl
      have htl := textL_len D a N (cntG size)
      generalize missL D a size N (cntG size) = ML at hS hfull hld
      generalize textL D a N (cntG size) = TL at hS hfull hld htl
      have hz : cntG size = 0 ∨ 0 < size := by unfold cntG; omega
      have hle : size ≤ 320 * cntG size := by unfold cntG; omega
      by_cases hml : ML = []
      · subst hml
        rw [if_pos rfl] at hld
        have HE := Lib.hid hld
        have hf := hfull rfl
        clear hfull HBL HCG hld
        by_cases h0 : TL = []
        · subst h0
          have hc0 : cntG size = 0 := by
            rcases hz with h | h
            · exact h
            · simp at hf; omega
          obtain rfl := hv0 hc0
          clear hv0 hf hz hc0 hle
          go_wp2_with (first | go_skip | ((with_reducible refine g_len ?_); refine wl_run rfl (by exact a_len rfl rfl rfl (hS.rdx (by (repeat (first | exact Ix.here | apply Ix.there))))) ?_) | (go_at_call 30; (refine (bldr_string0 hS).mono ?_; clear hS; rintro e w' ⟨rfl, hS⟩)) | fail)
          go_ret3
          exact ⟨.slice none 0 0, by rw [HE.out]; rfl, by rw [HE.out]; exact (St.addNil (hS.pick : St S w0 _ (disk g D :: M)) 3 1)⟩
        · clear hv0 hf hz hle
          go_wp2_with (first | go_skip | ((with_reducible refine g_len ?_); refine wl_run rfl (by exact a_len rfl rfl rfl (hS.rdx (by (repeat (first | exact Ix.here | apply Ix.there))))) ?_) | (go_at_call 30; (refine (bldr_string hS h0 (by omega)).mono ?_; clear hS; rintro e w' ⟨rfl, hS⟩)) | fail)
          go_ret3
          exact ⟨.slice none 0 0, by rw [HE.out]; rfl, by rw [HE.out]; exact (St.addNil (hS.pick : St S w0 _ (disk g D :: M)) 3 1)⟩
      · rw [if_neg hml] at hld
        have HE := Lib.hid hld
        have hlp : 0 < ML.length := List.length_pos_iff.2 hml
        clear hfull HBL HCG hv0 hz hle hml hld
        go_wp2_with (first | go_skip | ((with_reducible refine g_len ?_); refine wl_run rfl (by exact a_len rfl rfl rfl (hS.rdx (by (repeat (first | exact Ix.here | apply Ix.there))))) ?_) | fail)
        go_ret3
        exact ⟨u12, by rw [HE.out]; rfl, by rw [HE.out]; exact hS.pick⟩
end
end Go.Proofs.Ytghnfocajnlfhaa
