/-
  The document's sessions: its functions that find, look, tell and note.
  The document's sessions: note.
  The document's sessions: one more; a call.
-/
import Derived.Test.YtjjiibcnknljfaaGreatSesB
set_option linter.unusedSimpArgs false
set_option linter.unusedVariables false
set_option linter.unusedSectionVars false
set_option maxRecDepth 100000
namespace Go.Cmp
open Go.RowKit
/-- Where the eldest of the first j stands; -1: nowhere. -/
def eld (T : List Ses) : Nat → Int
  | 0 => -1
  | j + 1 => if eld T j < 0 ∨ (nth T j).op < (nth T (eld T j).toNat).op then j else eld T j
theorem eld_range (T : List Ses) : ∀ j, -1 ≤ eld T j ∧ eld T j < j
  | 0 => by simp [eld]
  | j + 1 => by
    have := eld_range T j
    simp only [eld]
    split <;> (push_cast; omega)
theorem eld_best (T : List Ses) : ∀ j, 0 < j → 0 ≤ eld T j ∧ nth T (eld T j).toNat = best T j
  | 0, h => by omega
  | j + 1, _ => by
    by_cases hj : j = 0
    · subst hj
      simp [eld, best]
    · obtain ⟨h1, h2⟩ := eld_best T j (by omega)
      simp only [eld, best, h2]
      by_cases h3 : (nth T j).op < (best T j).op
      · rw [if_pos (.inr h3), if_pos h3]
        exact ⟨by omega, by rw [Int.toNat_natCast]⟩
      · rw [if_neg (by intro h; rcases h with h | h; omega; exact h3 h), if_neg h3]
        exact ⟨h1, h2⟩
/-- The first j without the one at gn. -/
def skip (T : List Ses) (gn : Int) : Nat → List Ses
  | 0 => []
  | j + 1 => if (j : Int) = gn then skip T gn j else skip T gn j ++ [nth T j]
theorem skip_none (T : List Ses) {gn : Int} (hg : gn < 0) : ∀ j, j ≤ T.length → skip T gn j = T.take j
  | 0, _ => by simp [skip]
  | j + 1, h => by
    simp only [skip]
    rw [if_neg (by omega), skip_none T hg j (by omega), take_nth (by omega)]
theorem skip_at (T : List Ses) {p : Nat} (hp : p < T.length) : ∀ j, j ≤ T.length → skip T p j = (T.take j).eraseIdx p
  | 0, _ => by simp [skip]
  | j + 1, h => by
    simp only [skip]
    have hl : (T.take j).length = j := by rw [List.length_take]; omega
    rw [skip_at T hp j (by omega), take_nth (by omega)]
    by_cases h1 : j < p
    · rw [if_neg (by omega), List.eraseIdx_of_length_le (by omega), List.eraseIdx_of_length_le (by rw [List.length_append, List.length_singleton]; omega)]
    · by_cases h2 : j = p
      · subst h2
        rw [if_pos rfl, List.eraseIdx_of_length_le (by omega), List.eraseIdx_append_of_length_le (by omega), hl]
        simp
      · rw [if_neg (by omega), List.eraseIdx_append_of_lt_length (by omega)]
theorem skip_len (T : List Ses) (gn : Int) : ∀ j, (skip T gn j).length ≤ j
  | 0 => by simp [skip]
  | j + 1 => by
    have := skip_len T gn j
    simp only [skip]
    split
    · omega
    · rw [List.length_append, List.length_singleton]; omega
/-- Whose the one at gn is, once it was met. -/
def met (T : List Ses) (gn : Int) (j : Nat) : Int := if 0 ≤ gn ∧ gn < j then (nth T gn.toNat).client else 0
theorem met_hit (T : List Ses) (j : Nat) : met T j (j + 1) = (nth T j).client := by unfold met; rw [if_pos (by omega), Int.toNat_natCast]
theorem met_miss (T : List Ses) {gn : Int} {j : Nat} (h : (j : Int) ≠ gn) : met T gn (j + 1) = met T gn j := by
  unfold met
  by_cases h1 : 0 ≤ gn ∧ gn < j
  · rw [if_pos h1, if_pos (by omega)]
  · rw [if_neg h1, if_neg (by omega)]
end Go.Cmp
namespace Go.Proofs.YtjjiibcnknljfaaGreat
open Go.RowKit Go.Cmp

/-- The document's table. -/
def rses (g : Nat) (T : List Ses) : Ent := pack (fun _ : Value => True) fun v =>
  [.row g [v] 65 (0, 0), .vec v 41 5 T.length (T.flatMap Ses.cells)]

section
variable {S : List Nat} {w0 w : World} {M : List Ent} {g : Nat} {T : List Ses}

theorem fits_any (n least : Int) (w : World) : Calls Tryz.prog 111 #[.int .i64 n, .int .i64 least] w fun e w' => e = .returned (.bool (may n least)) ∧ w' = w := by
  by_cases h1 : least ≤ n
  · by_cases h2 : n ≤ 72057594037927935
    · have e : may n least = true := by simp [may, h1, h2]
      rw [e]
      (go_enter Tryz.func111, Tryz.ntmps111)
      go_wp2_with (first | refine au1 (n := ?_) | (refine au2 (n := ?_); clear hS; intro w' hS) | (refine au3 (n := ?_); clear hS; intro gb w1 hS) | (refine au4 (n := ?_); clear hS; intro v1 w' hS) | ((with_reducible refine wl_guard ?_); refine stop_mem rfl rfl ?_))
      go_ret
      exact ⟨rfl, rfl⟩
    · have e : may n least = false := by simp [may, h2]
      rw [e]
      (go_enter Tryz.func111, Tryz.ntmps111)
      go_wp2_with (first | refine au1 (n := ?_) | (refine au2 (n := ?_); clear hS; intro w' hS) | (refine au3 (n := ?_); clear hS; intro gb w1 hS) | (refine au4 (n := ?_); clear hS; intro v1 w' hS) | ((with_reducible refine wl_guard ?_); refine stop_mem rfl rfl ?_))
      go_ret
      exact ⟨rfl, rfl⟩
  · have e : may n least = false := by simp [may, h1]
    rw [e]
    (go_enter Tryz.func111, Tryz.ntmps111)
    go_wp2_with (first | refine au1 (n := ?_) | (refine au2 (n := ?_); clear hS; intro w' hS) | (refine au3 (n := ?_); clear hS; intro gb w1 hS) | (refine au4 (n := ?_); clear hS; intro v1 w' hS) | ((with_reducible refine wl_guard ?_); refine stop_mem rfl rfl ?_))
    go_ret
    exact ⟨rfl, rfl⟩

set_option maxHeartbeats 1000000 in
theorem rses_place (hS : St S w0 w (rses g T :: M)) (hl : T.length ≤ 1000000) (c : Int) : Calls Tryz.prog 83 #[.pointer (some ⟨g, 0, none⟩), .int .i64 c] w fun e w' => e = .returned (.int .i64 (whose c T)) ∧ w' = w := by
  (have hU := St.unpack hS; clear hS; obtain ⟨vs, _, hS⟩ := hU; simp only [List.cons_append, List.nil_append] at hS)
  (go_enter Tryz.func83, Tryz.ntmps83)
  go_wp2_with (first | refine au1 (n := ?_) | (refine au2 (n := ?_); clear hS; intro w' hS) | (refine au3 (n := ?_); clear hS; intro gb w1 hS) | (refine au4 (n := ?_); clear hS; intro v1 w' hS) | ((with_reducible refine wl_guard ?_); refine stop_mem rfl rfl ?_))
  go_loop [5] (fun k => ∃ j : Nat, j ≤ T.length ∧ k = .int .i64 j ∧ Hid (∀ i, i < j → (decide ((nth T i).client = c)) = false)) (fun k => T.length - (intOf k).toNat)
  case atStart => exact ⟨0, Nat.zero_le _, rfl, Lib.hid (fun i hi => by omega)⟩
  case round =>
    obtain ⟨j, hj, rfl, HJ⟩ := hrel
    by_cases hlt : j < T.length
    · go_wp2_with (first | refine au1 (n := ?_) | (refine au2 (n := ?_); clear hS; intro w' hS) | (refine au3 (n := ?_); clear hS; intro gb w1 hS) | (refine au4 (n := ?_); clear hS; intro v1 w' hS) | ((with_reducible refine wl_guard ?_); refine stop_mem rfl rfl ?_))
      · have hx2 : (nth T j).client = c := by first | assumption | simp_all
        go_ret
        have hp : whose c T = j := idx_first hlt (by simpa using hx2) HJ.out
        first | exact ⟨rfl, rfl⟩ | (rw [hp]; exact ⟨rfl, rfl⟩)
      · have hx2 : (nth T j).client ≠ c := by first | assumption | simp_all
        go_round
        case rel =>
          refine ⟨j + 1, by omega, by go_num, Lib.hid (fun i hi => ?_)⟩
          by_cases h : i = j
          · subst h; simpa using hx2
          · exact HJ.out i (by omega)
        case measure => simp [intOf]; omega
    · obtain rfl : j = T.length := by omega
      have hp : whose c T = -1 := idx_none (fun x hx => by obtain ⟨i, h1, h2⟩ := mem_nth' hx; have := HJ.out i h1; rw [h2] at this; exact this)
      go_wp2_with (first | refine au1 (n := ?_) | (refine au2 (n := ?_); clear hS; intro w' hS) | (refine au3 (n := ?_); clear hS; intro gb w1 hS) | (refine au4 (n := ?_); clear hS; intro v1 w' hS) | ((with_reducible refine wl_guard ?_); refine stop_mem rfl rfl ?_))
      go_ret
      first | exact ⟨rfl, rfl⟩ | (rw [hp]; exact ⟨rfl, rfl⟩)

set_option maxHeartbeats 1000000 in
theorem rses_look (hS : St S w0 w (rses g T :: M)) (hl : T.length ≤ 1000000) (c : Int) :
    Calls Tryz.prog 51 #[.pointer (some ⟨g, 0, none⟩), .int .i64 c] w fun e w' => e = .returned (.tuple #[.agg (sLook T c).1.cells.toArray, .bool (sLook T c).2]) ∧ St S w0 w' (rses g T :: M) := by
  have HF := Lib.hid (fun (w : World) (M : List Ent) (hS : St S w0 w (rses g T :: M)) => rses_place hS hl c)
  have hr := idx_range (p := fun s : Ses => decide (s.client = c)) T
  by_cases hp : whose c T < 0
  · have e : sLook T c = (zSes, false) := by unfold sLook; rw [if_pos hp]
    rw [e]
    (go_enter Tryz.func51, Tryz.ntmps51)
    go_wp2_with (first | (go_at_call 83; refine (HF.out _ _ (hS.out (by (repeat (first | exact Out.here | apply Out.there))))).mono ?_; rintro e w' ⟨rfl, rfl⟩) | (first | refine au1 (n := ?_) | (refine au2 (n := ?_); clear hS; intro w' hS) | (refine au3 (n := ?_); clear hS; intro gb w1 hS) | (refine au4 (n := ?_); clear hS; intro v1 w' hS) | ((with_reducible refine wl_guard ?_); refine stop_mem rfl rfl ?_)))
    exact end_cell2 hS rfl rfl rfl rfl rfl rfl (h := ⟨rfl, hS.pick⟩)
  · have e : sLook T c = (nth T (whose c T).toNat, true) := by unfold sLook; rw [if_neg hp]
    rw [e]
    clear e
    obtain ⟨p, hp2⟩ := Int.eq_ofNat_of_zero_le (show 0 ≤ whose c T by omega)
    have hr2 : (p : Int) < T.length := by rw [← hp2]; exact hr.2
    rw [hp2] at hp HF ⊢
    rw [Int.toNat_natCast]
    have hpl : p < T.length := by omega
    have hget := get_lt (L := T) hpl
    (go_enter Tryz.func51, Tryz.ntmps51)
    go_wp2_with (first | (go_at_call 83; refine (HF.out _ _ (hS.out (by (repeat (first | exact Out.here | apply Out.there))))).mono ?_; rintro e w' ⟨rfl, rfl⟩; replace hS := hS.out (m := rses g T) (by (repeat (first | exact Out.here | apply Out.there))); (have hU := St.unpack hS; clear hS; obtain ⟨vs, _, hS⟩ := hU; simp only [List.cons_append, List.nil_append] at hS)) | (first | refine au1 (n := ?_) | (refine au2 (n := ?_); clear hS; intro w' hS) | (refine au3 (n := ?_); clear hS; intro gb w1 hS) | (refine au4 (n := ?_); clear hS; intro v1 w' hS) | ((with_reducible refine wl_guard ?_); refine stop_mem rfl rfl ?_)))
    exact end_cell2 hS rfl rfl rfl rfl rfl rfl (h := ⟨rfl, (St.packs vs hS : St S w0 _ (rses g T :: M))⟩)

set_option maxHeartbeats 1000000 in
theorem rses_verdict (hS : St S w0 w (rses g T :: M)) (hl : T.length ≤ 1000000) (c s r : Int) (hr : ∀ x ∈ T, 0 ≤ x.request ∧ x.request ≤ 72057594037927935) :
    Calls Tryz.prog 23 #[.pointer (some ⟨g, 0, none⟩), .int .i64 c, .int .i64 s, .int .i64 r] w fun e w' => e = .returned (.int .i64 (sVerdict T c s r)) ∧ St S w0 w' (rses g T :: M) := by
  have HF := Lib.hid (fun (w : World) (M : List Ent) (hS : St S w0 w (rses g T :: M)) => rses_look hS hl c)
  have hrq : 0 ≤ (sLook T c).1.request ∧ (sLook T c).1.request ≤ 72057594037927935 := by
    have hr0 := idx_range (p := fun s : Ses => decide (s.client = c)) T
    have hr1 : whose c T < T.length := hr0.2
    unfold sLook
    split
    · simp [zSes]
    · exact hr _ (nth_mem (by omega))
  obtain ⟨b, hb⟩ : ∃ b, (sLook T c).2 = b := ⟨_, rfl⟩
  obtain ⟨y, hy⟩ : ∃ y, (sLook T c).1 = y := ⟨_, rfl⟩
  have e : sVerdict T c s r = if b = false ∨ y.session ≠ s then 5 else if r = y.request then 2 else if r < y.request then 3 else if r - 1 = y.request then 1 else 4 := by unfold sVerdict; rw [hb, hy]
  rw [e]
  rw [hb, hy] at HF
  rw [hy] at hrq
  clear e hb hy
  obtain ⟨q1, q2⟩ := hrq
  obtain ⟨ya, yb, yc, yd, ye⟩ := y
  simp only at q1 q2 ⊢
  simp only [Ses.cells] at HF
  cases b
  · rw [if_pos (.inl rfl)]
    (go_enter Tryz.func23, Tryz.ntmps23)
    go_wp2_with (first | (go_at_call 51; refine (HF.out _ _ (hS.out (by (repeat (first | exact Out.here | apply Out.there))))).mono ?_; clear hS; rintro e w' ⟨rfl, hS⟩) | (first | refine au1 (n := ?_) | (refine au2 (n := ?_); clear hS; intro w' hS) | (refine au3 (n := ?_); clear hS; intro gb w1 hS) | (refine au4 (n := ?_); clear hS; intro v1 w' hS) | ((with_reducible refine wl_guard ?_); refine stop_mem rfl rfl ?_)))
    go_ret
    exact ⟨rfl, hS.pick⟩
  · by_cases hs : yb = s
    · rw [if_neg (by simp [hs])]
      by_cases c1 : r = yc
      · rw [if_pos c1]
        (go_enter Tryz.func23, Tryz.ntmps23)
        go_wp2_with (first | (go_at_call 51; refine (HF.out _ _ (hS.out (by (repeat (first | exact Out.here | apply Out.there))))).mono ?_; clear hS; rintro e w' ⟨rfl, hS⟩) | (first | refine au1 (n := ?_) | (refine au2 (n := ?_); clear hS; intro w' hS) | (refine au3 (n := ?_); clear hS; intro gb w1 hS) | (refine au4 (n := ?_); clear hS; intro v1 w' hS) | ((with_reducible refine wl_guard ?_); refine stop_mem rfl rfl ?_)))
        go_ret
        exact ⟨rfl, hS.pick⟩
      · rw [if_neg c1]
        by_cases c2 : r < yc
        · rw [if_pos c2]
          (go_enter Tryz.func23, Tryz.ntmps23)
          go_wp2_with (first | (go_at_call 51; refine (HF.out _ _ (hS.out (by (repeat (first | exact Out.here | apply Out.there))))).mono ?_; clear hS; rintro e w' ⟨rfl, hS⟩) | (first | refine au1 (n := ?_) | (refine au2 (n := ?_); clear hS; intro w' hS) | (refine au3 (n := ?_); clear hS; intro gb w1 hS) | (refine au4 (n := ?_); clear hS; intro v1 w' hS) | ((with_reducible refine wl_guard ?_); refine stop_mem rfl rfl ?_)))
          go_ret
          exact ⟨rfl, hS.pick⟩
        · rw [if_neg c2]
          by_cases c3 : r = yc + 1
          · rw [if_pos (by omega)]
            (go_enter Tryz.func23, Tryz.ntmps23)
            go_wp2_with (first | (go_at_call 51; refine (HF.out _ _ (hS.out (by (repeat (first | exact Out.here | apply Out.there))))).mono ?_; clear hS; rintro e w' ⟨rfl, hS⟩) | (first | refine au1 (n := ?_) | (refine au2 (n := ?_); clear hS; intro w' hS) | (refine au3 (n := ?_); clear hS; intro gb w1 hS) | (refine au4 (n := ?_); clear hS; intro v1 w' hS) | ((with_reducible refine wl_guard ?_); refine stop_mem rfl rfl ?_)))
            go_ret
            exact ⟨rfl, hS.pick⟩
          · rw [if_neg (by omega)]
            (go_enter Tryz.func23, Tryz.ntmps23)
            go_wp2_with (first | (go_at_call 51; refine (HF.out _ _ (hS.out (by (repeat (first | exact Out.here | apply Out.there))))).mono ?_; clear hS; rintro e w' ⟨rfl, hS⟩) | (first | refine au1 (n := ?_) | (refine au2 (n := ?_); clear hS; intro w' hS) | (refine au3 (n := ?_); clear hS; intro gb w1 hS) | (refine au4 (n := ?_); clear hS; intro v1 w' hS) | ((with_reducible refine wl_guard ?_); refine stop_mem rfl rfl ?_)))
            go_ret
            exact ⟨rfl, hS.pick⟩
    · rw [if_pos (.inr hs)]
      (go_enter Tryz.func23, Tryz.ntmps23)
      go_wp2_with (first | (go_at_call 51; refine (HF.out _ _ (hS.out (by (repeat (first | exact Out.here | apply Out.there))))).mono ?_; clear hS; rintro e w' ⟨rfl, hS⟩) | (first | refine au1 (n := ?_) | (refine au2 (n := ?_); clear hS; intro w' hS) | (refine au3 (n := ?_); clear hS; intro gb w1 hS) | (refine au4 (n := ?_); clear hS; intro v1 w' hS) | ((with_reducible refine wl_guard ?_); refine stop_mem rfl rfl ?_)))
      go_ret
      exact ⟨rfl, hS.pick⟩
end
end Go.Proofs.YtjjiibcnknljfaaGreat
namespace Go.Proofs.YtjjiibcnknljfaaGreat
open Go.RowKit Go.Cmp

section
variable {S : List Nat} {w0 w : World} {M : List Ent} {g : Nat} {T : List Ses}

set_option maxHeartbeats 4000000 in
theorem rses_note (hS : St S w0 w (rses g T :: M)) (hl : T.length ≤ 1000000) (c r o : Int) (t : List UInt8) :
    Calls Tryz.prog 81 #[.pointer (some ⟨g, 0, none⟩), .int .i64 c, .int .i64 r, .int .i64 o, .string ⟨t.toArray⟩] w fun e w' => e = .returned (.int .i64 (sNote T c r o t).1) ∧ St S w0 w' (rses g (sNote T c r o t).2 :: M) := by
  have HF := Lib.hid (fun (w : World) (M : List Ent) (hS : St S w0 w (rses g T :: M)) => rses_place hS hl c)
  have hr := idx_range (p := fun s : Ses => decide (s.client = c)) T
  obtain ⟨br, hbr⟩ : ∃ b, may r 0 = b := ⟨_, rfl⟩
  obtain ⟨bo, hbo⟩ : ∃ b, may o 0 = b := ⟨_, rfl⟩
  have HBR := Lib.hid hbr
  have HBO := Lib.hid hbo
  have e0 : sNote T c r o t = if whose c T < 0 then (8, T) else if br = false ∨ bo = false then (1, T) else if (200 : Int) < t.length then (5, T) else (0, T.set (whose c T).toNat { nth T (whose c T).toNat with request := r, op := o, reply := t }) := by unfold sNote; rw [hbr, hbo]
  rw [e0]
  clear e0 hbr hbo
  by_cases hp : whose c T < 0
  · rw [if_pos hp]
    (go_enter Tryz.func81, Tryz.ntmps81)
    go_wp2_with (first | (go_at_call 83; refine (HF.out _ _ (hS.out (by (repeat (first | exact Out.here | apply Out.there))))).mono ?_; rintro e w' ⟨rfl, rfl⟩) | (first | refine au1 (n := ?_) | (refine au2 (n := ?_); clear hS; intro w' hS) | (refine au3 (n := ?_); clear hS; intro gb w1 hS) | (refine au4 (n := ?_); clear hS; intro v1 w' hS) | ((with_reducible refine wl_guard ?_); refine stop_mem rfl rfl ?_)))
    go_ret
    exact ⟨rfl, hS⟩
  · rw [if_neg hp]
    obtain ⟨p, hp2⟩ := Int.eq_ofNat_of_zero_le (show 0 ≤ whose c T by omega)
    have hr2 : (p : Int) < T.length := by rw [← hp2]; exact hr.2
    rw [hp2] at hp HF ⊢
    rw [Int.toNat_natCast]
    have hpl : p < T.length := by omega
    have hget := get_lt (L := T) hpl
    obtain ⟨X, hX⟩ : ∃ X, nth T p = X := ⟨_, rfl⟩
    rw [hX] at hget ⊢
    clear hX hr
    by_cases hc : br = false ∨ bo = false
    · rw [if_pos hc]
      cases br
      · (go_enter Tryz.func81, Tryz.ntmps81)
        go_wp2_with (first | (go_at_call 83; refine (HF.out _ _ (hS.out (by (repeat (first | exact Out.here | apply Out.there))))).mono ?_; rintro e w' ⟨rfl, rfl⟩) | (go_at_call 111; refine (fits_any _ _ _).mono ?_; rintro e w' ⟨rfl, rfl⟩; simp only [HBR.out, HBO.out]) | (first | refine au1 (n := ?_) | (refine au2 (n := ?_); clear hS; intro w' hS) | (refine au3 (n := ?_); clear hS; intro gb w1 hS) | (refine au4 (n := ?_); clear hS; intro v1 w' hS) | ((with_reducible refine wl_guard ?_); refine stop_mem rfl rfl ?_)))
        go_ret
        exact ⟨rfl, hS⟩
      · obtain rfl : bo = false := by simpa using hc
        (go_enter Tryz.func81, Tryz.ntmps81)
        go_wp2_with (first | (go_at_call 83; refine (HF.out _ _ (hS.out (by (repeat (first | exact Out.here | apply Out.there))))).mono ?_; rintro e w' ⟨rfl, rfl⟩) | (go_at_call 111; refine (fits_any _ _ _).mono ?_; rintro e w' ⟨rfl, rfl⟩; simp only [HBR.out, HBO.out]) | (first | refine au1 (n := ?_) | (refine au2 (n := ?_); clear hS; intro w' hS) | (refine au3 (n := ?_); clear hS; intro gb w1 hS) | (refine au4 (n := ?_); clear hS; intro v1 w' hS) | ((with_reducible refine wl_guard ?_); refine stop_mem rfl rfl ?_)))
        go_ret
        exact ⟨rfl, hS⟩
    · rw [if_neg hc]
      obtain ⟨rfl, rfl⟩ : br = true ∧ bo = true := by cases br <;> cases bo <;> simp_all
      clear hc
      by_cases ht : (200 : Int) < t.length
      · rw [if_pos ht]
        (go_enter Tryz.func81, Tryz.ntmps81)
        go_wp2_with (first | (go_at_call 83; refine (HF.out _ _ (hS.out (by (repeat (first | exact Out.here | apply Out.there))))).mono ?_; rintro e w' ⟨rfl, rfl⟩) | (go_at_call 111; refine (fits_any _ _ _).mono ?_; rintro e w' ⟨rfl, rfl⟩; simp only [HBR.out, HBO.out]) | (first | refine au1 (n := ?_) | (refine au2 (n := ?_); clear hS; intro w' hS) | (refine au3 (n := ?_); clear hS; intro gb w1 hS) | (refine au4 (n := ?_); clear hS; intro v1 w' hS) | ((with_reducible refine wl_guard ?_); refine stop_mem rfl rfl ?_)))
        go_ret
        exact ⟨rfl, hS⟩
      · rw [if_neg ht]
        obtain ⟨L1, hL1⟩ : ∃ L1, T.set p { X with request := r } = L1 := ⟨_, rfl⟩
        have hg1 : L1[p]? = some { X with request := r } := by rw [← hL1]; simp [hpl]
        obtain ⟨L2, hL2⟩ : ∃ L2, L1.set p { X with request := r, op := o } = L2 := ⟨_, rfl⟩
        have hg2 : L2[p]? = some { X with request := r, op := o } := by
          have h1 : p < L1.length := by rw [← hL1, List.length_set]; exact hpl
          rw [← hL2]; simp [h1]
        have e3 : T.set p { X with request := r, op := o, reply := t } = L2.set p { X with request := r, op := o, reply := t } := by rw [← hL2, ← hL1, List.set_set, List.set_set]
        rw [e3]
        have HL1 := Lib.hid hL1
        have HL2 := Lib.hid hL2
        have hl1 : L1.length = T.length := by rw [← hL1, List.length_set]
        have hl2 : L2.length = L1.length := by rw [← hL2, List.length_set]
        clear hL1 hL2 e3
        (go_enter Tryz.func81, Tryz.ntmps81)
        go_wp2_with (first | (go_at_call 83; refine (HF.out _ _ (hS.out (by (repeat (first | exact Out.here | apply Out.there))))).mono ?_; rintro e w' ⟨rfl, rfl⟩; replace hS := hS.out (m := rses g T) (by (repeat (first | exact Out.here | apply Out.there))); (have hU := St.unpack hS; clear hS; obtain ⟨vs, _, hS⟩ := hU; simp only [List.cons_append, List.nil_append] at hS)) | (go_at_call 111; refine (fits_any _ _ _).mono ?_; rintro e w' ⟨rfl, rfl⟩; simp only [HBR.out, HBO.out]) | ((with_reducible refine g_store ?_); refine wl_of rfl ?_; refine a_storeF (v := .int _ _) (L := T) (j := p) (k := 5) (c := 2) (z := { X with request := r }) hS rfl rfl rfl rfl rfl (by rfl) (by (repeat (first | exact Sw.here | apply Sw.there))) (by intro _; rfl) hget (by omega) (by rfl) ?_; clear hS; intro w' hS; rw [HL1.out] at hS) | ((with_reducible refine g_store ?_); refine wl_of rfl ?_; refine a_storeF (v := .int _ _) (L := L1) (j := p) (k := 5) (c := 3) (z := { X with request := r, op := o }) hS rfl rfl rfl rfl rfl (by rfl) (by (repeat (first | exact Sw.here | apply Sw.there))) (by intro _; rfl) hg1 (by omega) (by rfl) ?_; clear hS; intro w' hS; rw [HL2.out] at hS) | ((with_reducible refine g_store ?_); refine wl_of rfl ?_; refine a_storeF (v := .string _) (L := L2) (j := p) (k := 5) (c := 4) (z := { X with request := r, op := o, reply := t }) hS rfl rfl rfl rfl rfl (by rfl) (by (repeat (first | exact Sw.here | apply Sw.there))) (by intro _; rfl) hg2 (by omega) (by rfl) ?_; clear hS; intro w' hS) | (first | refine au1 (n := ?_) | (refine au2 (n := ?_); clear hS; intro w' hS) | (refine au3 (n := ?_); clear hS; intro gb w1 hS) | (refine au4 (n := ?_); clear hS; intro v1 w' hS) | ((with_reducible refine wl_guard ?_); refine stop_mem rfl rfl ?_)))
        go_ret
        exact ⟨rfl, St.packs vs hS⟩
end
end Go.Proofs.YtjjiibcnknljfaaGreat
namespace Go.Proofs.YtjjiibcnknljfaaGreat
open Go.RowKit Go.Cmp

section
variable {S : List Nat} {w0 w : World} {M : List Ent} {g : Nat} {T : List Ses}

/-- What the document's Open leaves of the old ones. -/
theorem skip_all (hT : (T.map (·.client)).Nodup) (h3 : T.length ≤ 3) :
    skip T (if 3 ≤ T.length then eld T T.length else -1) T.length = (if 3 ≤ T.length then T.eraseIdx (whose (best T T.length).client T).toNat else T) ∧
    met T (if 3 ≤ T.length then eld T T.length else -1) T.length = (if 3 ≤ T.length then (best T T.length).client else 0) := by
  by_cases h : 3 ≤ T.length
  · rw [if_pos h, if_pos h, if_pos h]
    obtain ⟨h1, h2⟩ := eld_best T T.length (by omega)
    have h4 := (eld_range T T.length).2
    obtain ⟨p, hp⟩ := Int.eq_ofNat_of_zero_le h1
    rw [hp, Int.toNat_natCast] at h2
    rw [hp] at h4 ⊢
    have hpl : p < T.length := by omega
    have hw : whose (best T T.length).client T = p := by
      refine idx_first hpl (by rw [h2]; simp) (fun j hj => ?_)
      have hne : (nth T j).client ≠ (best T T.length).client := by
        intro he
        rw [← h2] at he
        have h5 : (T.map (·.client))[j]'(by simp; omega) = (T.map (·.client))[p]'(by simp; omega) := by
          have e1 : nth T j = T[j]'(by omega) := nth_eq (by rw [List.getElem?_eq_getElem])
          have e2 : nth T p = T[p]'(by omega) := nth_eq (by rw [List.getElem?_eq_getElem])
          rw [e1, e2] at he
          simpa using he
        have := (List.getElem_inj hT).1 h5
        omega
      simpa using hne
    refine ⟨?_, ?_⟩
    · rw [skip_at T hpl _ (Nat.le_refl _), List.take_length, hw, Int.toNat_natCast]
    · unfold met
      rw [if_pos (by omega), Int.toNat_natCast, h2]
  · rw [if_neg h, if_neg h, if_neg h]
    refine ⟨?_, ?_⟩
    · rw [skip_none T (by omega) _ (Nat.le_refl _), List.take_length]
    · unfold met
      rw [if_neg (by omega)]

set_option maxHeartbeats 8000000 in
theorem rses_open (hS : St S w0 w (rses g T :: M)) (hT : SGood T) (c o : Int) :
    Calls Tryz.prog 80 #[.pointer (some ⟨g, 0, none⟩), .int .i64 c, .int .i64 o] w fun e w' => e = .returned (.tuple #[.int .i64 (sOpen T c o).1, .int .i64 (sOpen T c o).2.1]) ∧ St S w0 w' (rses g (sOpen T c o).2.2 :: M) := by
  have hT3 := hT.ok.len
  have HF := Lib.hid (fun (w : World) (M : List Ent) (hS : St S w0 w (rses g T :: M)) (c : Int) => rses_place hS (show T.length ≤ 1000000 by omega) c)
  have HK := Lib.hid (skip_all (T := T) (by exact hT.one) hT3)
  clear hT
  obtain ⟨bc, hbc⟩ : ∃ b, may c 1 = b := ⟨_, rfl⟩
  obtain ⟨bo, hbo⟩ : ∃ b, may o 1 = b := ⟨_, rfl⟩
  have HBC := Lib.hid hbc
  have HBO := Lib.hid hbo
  have e0 : sOpen T c o = if bc = false ∨ bo = false then (0, 1, T) else if 0 ≤ whose c T then (0, 7, T) else (if 3 ≤ T.length then (best T T.length).client else 0, 0, (if 3 ≤ T.length then T.eraseIdx (whose (best T T.length).client T).toNat else T) ++ [newSes c o]) := by
    unfold sOpen; rw [hbc, hbo]
    split
    · rfl
    · split
      · rfl
      · split <;> rfl
  rw [e0]
  clear e0 hbc hbo
  have hr := idx_range (p := fun s : Ses => decide (s.client = c)) T
  (have hU := St.unpack hS; clear hS; obtain ⟨vs, _, hS⟩ := hU; simp only [List.cons_append, List.nil_append] at hS)
  by_cases hc : bc = false ∨ bo = false
  · rw [if_pos hc]
    cases bc
    · (go_enter Tryz.func80, Tryz.ntmps80)
      go_wp2_with (first | (go_at_call 111; refine (fits_any _ _ _).mono ?_; rintro e w' ⟨rfl, rfl⟩; simp only [HBC.out, HBO.out]) | (first | refine au1 (n := ?_) | (refine au2 (n := ?_); clear hS; intro w' hS) | (refine au3 (n := ?_); clear hS; intro gb w1 hS) | (refine au4 (n := ?_); clear hS; intro v1 w' hS) | ((with_reducible refine wl_guard ?_); refine stop_mem rfl rfl ?_)))
      go_ret2
      exact ⟨rfl, St.packs vs hS⟩
    · obtain rfl : bo = false := by simpa using hc
      (go_enter Tryz.func80, Tryz.ntmps80)
      go_wp2_with (first | (go_at_call 111; refine (fits_any _ _ _).mono ?_; rintro e w' ⟨rfl, rfl⟩; simp only [HBC.out, HBO.out]) | (first | refine au1 (n := ?_) | (refine au2 (n := ?_); clear hS; intro w' hS) | (refine au3 (n := ?_); clear hS; intro gb w1 hS) | (refine au4 (n := ?_); clear hS; intro v1 w' hS) | ((with_reducible refine wl_guard ?_); refine stop_mem rfl rfl ?_)))
      go_ret2
      exact ⟨rfl, St.packs vs hS⟩
  · rw [if_neg hc]
    obtain ⟨rfl, rfl⟩ : bc = true ∧ bo = true := by cases bc <;> cases bo <;> simp_all
    clear hc
    by_cases hw : 0 ≤ whose c T
    · rw [if_pos hw]
      (go_enter Tryz.func80, Tryz.ntmps80)
      go_wp2_with (first | (go_at_call 111; refine (fits_any _ _ _).mono ?_; rintro e w' ⟨rfl, rfl⟩; simp only [HBC.out, HBO.out]) | (go_at_call 83; refine (HF.out _ _ (St.packs vs hS) _).mono ?_; rintro e w' ⟨rfl, rfl⟩) | (first | refine au1 (n := ?_) | (refine au2 (n := ?_); clear hS; intro w' hS) | (refine au3 (n := ?_); clear hS; intro gb w1 hS) | (refine au4 (n := ?_); clear hS; intro v1 w' hS) | ((with_reducible refine wl_guard ?_); refine stop_mem rfl rfl ?_)))
      go_ret2
      exact ⟨rfl, St.packs vs hS⟩
    · rw [if_neg hw]
      have hr1 : -1 ≤ whose c T := hr.1
      have HW1 : Hid (whose c T = -1) := Lib.hid (by omega)
      clear hw hr1 hr
      obtain ⟨gn, hgn⟩ : ∃ gn, (if 3 ≤ T.length then eld T T.length else -1) = gn := ⟨_, rfl⟩
      rw [hgn] at HK
      obtain ⟨T2, hT2⟩ : ∃ T2, (if 3 ≤ T.length then T.eraseIdx (whose (best T T.length).client T).toNat else T) = T2 := ⟨_, rfl⟩
      obtain ⟨w2, hw2⟩ : ∃ w2, (if 3 ≤ T.length then (best T T.length).client else 0) = w2 := ⟨_, rfl⟩
      rw [hT2, hw2] at HK ⊢
      have HGN := Lib.hid hgn
      clear hT2 hw2 hgn
      have HW : Hid (∀ (W : World) (M : List Ent), St S w0 W (rses g T :: M) → Calls Tryz.prog 83 #[.pointer (some ⟨g, 0, none⟩), .int .i64 c] W fun e w' => e = .returned (.int .i64 (-1)) ∧ w' = W) := Lib.hid (fun W M hS => by have := HF.out W M hS c; rwa [HW1.out] at this)
      clear HW1 HF
      (go_enter Tryz.func80, Tryz.ntmps80)
      go_wp2_with (first | (go_at_call 111; refine (fits_any _ _ _).mono ?_; rintro e w' ⟨rfl, rfl⟩; simp only [HBC.out, HBO.out]) | (go_at_call 83; refine (HW.out _ _ (St.packs vs hS)).mono ?_; rintro e w' ⟨rfl, rfl⟩) | (first | refine au1 (n := ?_) | (refine au2 (n := ?_); clear hS; intro w' hS) | (refine au3 (n := ?_); clear hS; intro gb w1 hS) | (refine au4 (n := ?_); clear hS; intro v1 w' hS) | ((with_reducible refine wl_guard ?_); refine stop_mem rfl rfl ?_)))
      go_loopw [8, 9] (fun p k wr => ∃ (j : Nat) (q : Int), j ≤ T.length ∧ k = .int .i64 j ∧ p = .int .i64 q ∧ Hid (q = if 3 ≤ T.length then eld T j else -1) ∧ (j = T.length ∨ j = 0 ∨ 3 ≤ T.length) ∧ St S w0 wr (.row g [vs] 65 (0, 0) :: .vec vs 41 5 T.length (T.flatMap Ses.cells) :: M)) (fun _ k _ => T.length - (intOf k).toNat)
      case atStart => exact ⟨0, -1, by omega, rfl, rfl, Lib.hid (by simp [eld]), by omega, hS.pick⟩
      case round =>
        clear hS
        obtain ⟨j, q, hj, rfl, rfl, HQ, hjx, hS⟩ := hrel
        by_cases hlt : j < T.length ∧ 3 ≤ T.length
        · obtain ⟨hlt, h3⟩ := hlt
          have hq := HQ.out
          rw [if_pos h3] at hq
          have hqr := eld_range T j
          rw [← hq] at hqr
          obtain ⟨hq1, hq2⟩ := hqr
          have h31 : (3 : Int) ≤ T.length := by omega
          have hlt1 : (j : Int) < T.length := by omega
          have hget := get_lt (L := T) hlt
          obtain ⟨y, hy⟩ : ∃ y, nth T j = y := ⟨_, rfl⟩
          have hst : eld T (j + 1) = if q < 0 ∨ y.op < (nth T q.toNat).op then (j : Int) else q := by
            simp only [eld]; rw [← hq, hy]
          rw [hy] at hget
          have HST := Lib.hid hst
          clear hst hq hy
          by_cases hq0 : q < 0
          · go_wp2_with (first | refine au1 (n := ?_) | (refine au2 (n := ?_); clear hS; intro w' hS) | (refine au3 (n := ?_); clear hS; intro gb w1 hS) | (refine au4 (n := ?_); clear hS; intro v1 w' hS) | ((with_reducible refine wl_guard ?_); refine stop_mem rfl rfl ?_))
            refine region_calm (by kernel_rfl) (by kernel_rfl) hS ?_
            (repeat (first | ((with_reducible refine c_call ?_); first | fail) | refine calm1 (n := ?_)))
            (refine Calm.nil ?_; clear hS; intro w8 hS)
            go_wp2_with (first | refine au1 (n := ?_) | (refine au2 (n := ?_); clear hS; intro w' hS) | (refine au3 (n := ?_); clear hS; intro gb w1 hS) | (refine au4 (n := ?_); clear hS; intro v1 w' hS) | ((with_reducible refine wl_guard ?_); refine stop_mem rfl rfl ?_))
            refine ⟨⟨j + 1, j, by omega, by go_num, rfl, Lib.hid (by rw [if_pos h3, HST.out, if_pos (.inl hq0)]), by omega, hS⟩, by simp [intOf]; omega⟩
          · obtain ⟨p, rfl⟩ := Int.eq_ofNat_of_zero_le (show 0 ≤ q by omega)
            have hpl : p < T.length := by omega
            have hpl1 : (p : Int) < T.length := by omega
            have hget2 := get_lt (L := T) hpl
            rw [Int.toNat_natCast] at HST
            obtain ⟨z, hz⟩ : ∃ z, nth T p = z := ⟨_, rfl⟩
            rw [hz] at hget2 HST
            clear hz
            by_cases hyz : y.op < z.op
            · go_wp2_with (first | refine au1 (n := ?_) | (refine au2 (n := ?_); clear hS; intro w' hS) | (refine au3 (n := ?_); clear hS; intro gb w1 hS) | (refine au4 (n := ?_); clear hS; intro v1 w' hS) | ((with_reducible refine wl_guard ?_); refine stop_mem rfl rfl ?_))
              refine region_calm (by kernel_rfl) (by kernel_rfl) hS ?_
              (repeat (first | ((with_reducible refine c_call ?_); first | fail) | refine calm1 (n := ?_)))
              (refine Calm.nil ?_; clear hS; intro w8 hS)
              go_wp2_with (first | refine au1 (n := ?_) | (refine au2 (n := ?_); clear hS; intro w' hS) | (refine au3 (n := ?_); clear hS; intro gb w1 hS) | (refine au4 (n := ?_); clear hS; intro v1 w' hS) | ((with_reducible refine wl_guard ?_); refine stop_mem rfl rfl ?_))
              refine ⟨⟨j + 1, j, by omega, by go_num, rfl, Lib.hid (by rw [if_pos h3, HST.out, if_pos (.inr hyz)]), by omega, hS⟩, by simp [intOf]; omega⟩
            · go_wp2_with (first | refine au1 (n := ?_) | (refine au2 (n := ?_); clear hS; intro w' hS) | (refine au3 (n := ?_); clear hS; intro gb w1 hS) | (refine au4 (n := ?_); clear hS; intro v1 w' hS) | ((with_reducible refine wl_guard ?_); refine stop_mem rfl rfl ?_))
              refine region_calm (by kernel_rfl) (by kernel_rfl) hS ?_
              (repeat (first | ((with_reducible refine c_call ?_); first | fail) | refine calm1 (n := ?_)))
              (refine Calm.nil ?_; clear hS; intro w8 hS)
              go_wp2_with (first | refine au1 (n := ?_) | (refine au2 (n := ?_); clear hS; intro w' hS) | (refine au3 (n := ?_); clear hS; intro gb w1 hS) | (refine au4 (n := ?_); clear hS; intro v1 w' hS) | ((with_reducible refine wl_guard ?_); refine stop_mem rfl rfl ?_))
              refine ⟨⟨j + 1, p, by omega, by go_num, rfl, Lib.hid (by rw [if_pos h3, HST.out, if_neg (by omega)]), by omega, hS⟩, by simp [intOf]; omega⟩
        · have hq : q = gn := by
            rw [HQ.out, ← HGN.out]
            by_cases h3 : 3 ≤ T.length
            · rw [if_pos h3, if_pos h3, show j = T.length by omega]
            · rw [if_neg h3, if_neg h3]
          subst hq
          clear HQ HGN
          have hlt0 : ¬ (j : Int) < T.length ∨ ¬ (3 : Int) ≤ T.length := by omega
          by_cases hl1 : (j : Int) < T.length
          all_goals
            try (have h31 : ¬ (3 : Int) ≤ T.length := by omega)
            clear hlt0 hlt hjx
            go_wp2_with (first | ((with_reducible refine g_bs ?_); refine wl_of rfl ?_; refine a_build0 (k := 5) hS rfl rfl (by rfl) ?_; clear hS; intro v1 w' hS) | (first | refine au1 (n := ?_) | (refine au2 (n := ?_); clear hS; intro w' hS) | (refine au3 (n := ?_); clear hS; intro gb w1 hS) | (refine au4 (n := ?_); clear hS; intro v1 w' hS) | ((with_reducible refine wl_guard ?_); refine stop_mem rfl rfl ?_)))
            replace hS : St S w0 _ (.vec v1 41 5 (skip T q 0).length ((skip T q 0).flatMap Ses.cells) :: .row g [vs] 65 (0, 0) :: .vec vs 41 5 T.length (T.flatMap Ses.cells) :: M) := hS
            go_loopw [10, 11, 12] (fun a l k wr => ∃ i : Nat, i ≤ T.length ∧ k = .int .i64 i ∧ a = .int .i64 (met T q i) ∧ St S w0 wr (.vec l 41 5 (skip T q i).length ((skip T q i).flatMap Ses.cells) :: .row g [vs] 65 (0, 0) :: .vec vs 41 5 T.length (T.flatMap Ses.cells) :: M)) (fun _ _ k _ => T.length - (intOf k).toNat)
            case atStart => exact ⟨0, by omega, rfl, by unfold met; rw [if_neg (by omega)], hS⟩
            case round =>
              clear hS
              obtain ⟨i, hi, rfl, rfl, hS⟩ := hrel
              by_cases hil : i < T.length
              · have hil1 : (i : Int) < T.length := by omega
                have hget := get_lt (L := T) hil
                have hst : skip T q (i + 1) = if (i : Int) = q then skip T q i else skip T q i ++ [nth T i] := rfl
                have hsl := skip_len T q i
                by_cases hiq : (i : Int) = q
                · have hm := met_hit T i
                  rw [if_pos hiq] at hst
                  subst hiq
                  have HM := Lib.hid hm
                  have HST := Lib.hid hst
                  obtain ⟨y, hy⟩ : ∃ y, nth T i = y := ⟨_, rfl⟩
                  rw [hy] at hget HM
                  clear hm hst hy
                  go_wp2_with (first | refine au1 (n := ?_) | (refine au2 (n := ?_); clear hS; intro w' hS) | (refine au3 (n := ?_); clear hS; intro gb w1 hS) | (refine au4 (n := ?_); clear hS; intro v1 w' hS) | ((with_reducible refine wl_guard ?_); refine stop_mem rfl rfl ?_))
                  refine ⟨⟨i + 1, by omega, by go_num, by rw [HM.out], by rw [HST.out]; exact hS⟩, by simp [intOf]; omega⟩
                · have hm := met_miss T hiq
                  rw [if_neg hiq] at hst
                  have HM := Lib.hid hm
                  have HST := Lib.hid hst
                  obtain ⟨y, hy⟩ : ∃ y, nth T i = y := ⟨_, rfl⟩
                  rw [hy] at hget HST
                  obtain ⟨K, hK⟩ : ∃ K, skip T q i = K := ⟨_, rfl⟩
                  rw [hK] at hS hsl HST
                  clear hm hst hy hK
                  obtain ⟨ya, yb, yc, yd, ye⟩ := y
                  go_wp2_with (first | ((with_reducible refine g_append ?_); refine wl_of rfl ?_; refine k_app (z := (⟨ya, yb, yc, yd, ye⟩ : Ses)) hS rfl rfl rfl rfl (h1 := by simp [Ses.cells, Value.oneCell']) (h := ?_); clear hS; intro v2 w' hS hv2) | (first | refine au1 (n := ?_) | (refine au2 (n := ?_); clear hS; intro w' hS) | (refine au3 (n := ?_); clear hS; intro gb w1 hS) | (refine au4 (n := ?_); clear hS; intro v1 w' hS) | ((with_reducible refine wl_guard ?_); refine stop_mem rfl rfl ?_)))
                  refine ⟨⟨i + 1, by omega, by go_num, by rw [HM.out], by rw [HST.out]; exact hS.pick⟩, by simp [intOf]; omega⟩
              · obtain rfl : i = T.length := by omega
                have hsl := skip_len T q T.length
                obtain ⟨k1, k2⟩ := HK.out
                rw [k1] at hS hsl
                rw [k2]
                clear k1 k2 HK
                go_wp2_with (first | ((with_reducible refine g_append ?_); refine wl_of rfl ?_; refine k_app (z := (newSes c o)) hS rfl rfl rfl rfl (h1 := by simp [Ses.cells, Value.oneCell']) (h := ?_); clear hS; intro v2 w' hS hv2) | (first | refine au1 (n := ?_) | (refine au2 (n := ?_); clear hS; intro w' hS) | (refine au3 (n := ?_); clear hS; intro gb w1 hS) | (refine au4 (n := ?_); clear hS; intro v1 w' hS) | ((with_reducible refine wl_guard ?_); refine stop_mem rfl rfl ?_)))
                go_ret2
                exact ⟨rfl, St.packs v2 hS⟩

end
end Go.Proofs.YtjjiibcnknljfaaGreat
