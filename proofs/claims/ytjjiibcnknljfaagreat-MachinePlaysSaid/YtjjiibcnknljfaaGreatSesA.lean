/-
  Sessions of clients, in plain lists.
  The program's sessions: where one stands.
  The program's sessions: look, verdict, note.
  The program's sessions: note.
  The program's sessions: the one whose last use is the eldest; open.
  The program's sessions: open.
-/
import Derived.Test.YtjjiibcnknljfaaGreatGen
import Derived.Test.YtjjiibcnknljfaaGreatChecked
set_option linter.unusedSimpArgs false
set_option linter.unusedVariables false
set_option linter.unusedSectionVars false
set_option maxRecDepth 100000
namespace Go.Cmp
open Go.RowKit

structure Ses where
  client : Int
  session : Int
  request : Int
  op : Int
  reply : List UInt8
deriving Inhabited, DecidableEq
def Ses.cells (x : Ses) : List Value := [.int .i64 x.client, .int .i64 x.session, .int .i64 x.request, .int .i64 x.op, .string ⟨x.reply.toArray⟩]
theorem Ses.ones (x : Ses) : ∀ u ∈ x.cells, u.oneCell' = true := by
  intro u hu
  simp only [Ses.cells, List.mem_cons, List.not_mem_nil, or_false] at hu
  rcases hu with rfl | rfl | rfl | rfl | rfl <;> rfl
def zSes : Ses := ⟨0, 0, 0, 0, []⟩

/-- Whose session stands where. -/
def whose (c : Int) (T : List Ses) : Int := idx (fun s => decide (s.client = c)) T
def may (n least : Int) : Bool := decide (least ≤ n) && decide (n ≤ 72057594037927935)
/-- The one whose last use is the eldest, of the first j. -/
def best (T : List Ses) : Nat → Ses
  | 0 => nth T 0
  | j + 1 => if (nth T j).op < (best T j).op then nth T j else best T j
def newSes (c o : Int) : Ses := ⟨c, o, 0, o, []⟩
def sOpen (T : List Ses) (c o : Int) : Int × Int × List Ses :=
  if may c 1 = false ∨ may o 1 = false then (0, 1, T)
  else if 0 ≤ whose c T then (0, 7, T)
  else if 3 ≤ T.length then ((best T T.length).client, 0, T.eraseIdx (whose (best T T.length).client T).toNat ++ [newSes c o])
  else (0, 0, T ++ [newSes c o])
def sLook (T : List Ses) (c : Int) : Ses × Bool := if whose c T < 0 then (zSes, false) else (nth T (whose c T).toNat, true)
def sVerdict (T : List Ses) (c s r : Int) : Int :=
  if (sLook T c).2 = false ∨ (sLook T c).1.session ≠ s then 5
  else if r = (sLook T c).1.request then 2
  else if r < (sLook T c).1.request then 3
  else if r - 1 = (sLook T c).1.request then 1 else 4
def sNote (T : List Ses) (c r o : Int) (t : List UInt8) : Int × List Ses :=
  if whose c T < 0 then (8, T)
  else if may r 0 = false ∨ may o 0 = false then (1, T)
  else if (200 : Int) < t.length then (5, T)
  else (0, T.set (whose c T).toNat { nth T (whose c T).toNat with request := r, op := o, reply := t })
theorem best_mem (T : List Ses) (h : 0 < T.length) : ∀ j, j ≤ T.length → best T j ∈ T
  | 0, _ => nth_mem h
  | j + 1, hj => by
    have := best_mem T h j (by omega)
    simp only [best]
    split
    · exact nth_mem (by omega)
    · exact this
structure SOk (T : List Ses) : Prop where
  len : T.length ≤ 3
  req : ∀ s ∈ T, 0 ≤ s.request ∧ s.request ≤ 72057594037927935
end Go.Cmp
namespace Go.Proofs.YtjjiibcnknljfaaGreat
open Go.RowKit Go.Cmp

/-- The program's table. -/
def ses (g : Nat) (T : List Ses) : Ent := pack (fun _ : Value => True) fun v =>
  [.row g [v] 108 (0, 0), .vec v 41 5 T.length (T.flatMap Ses.cells)]

set_option maxHeartbeats 1000000 in
theorem ses_delete {α : Type} {f : α → List Value} (hf : ∀ x, (f x).length = 5) (ho1 : ∀ x, ∀ u ∈ f x, u.oneCell' = true) {S : List Nat} {w0 w : World} {M : List Ent} {v : Value} {L : List α} (hS : St S w0 w (.vec v 41 5 L.length (L.flatMap f) :: M)) (i : Nat) (hi : i < L.length) (hl : L.length ≤ 1000000000) :
    Calls Tryz.prog 95 #[v, .int .i64 (i : Int), .int .i64 ((i : Int) + 1)] w fun e w' => e = .returned (cutSl v 5 0 (L.eraseIdx i).length) ∧ St S w0 w' (.vec (cutSl v 5 0 (L.eraseIdx i).length) 41 5 (L.eraseIdx i).length ((L.eraseIdx i).flatMap f) :: M) := by
  have hel : (L.eraseIdx i).length = i + (L.length - (i + 1)) := by rw [List.length_eraseIdx_of_lt hi]; omega
  have HF := Lib.hid (flat_erase hf L i hi)
  have H1 : Hid (∀ u ∈ L.flatMap f, u.oneCell' = true) := Lib.hid (by
    intro u hu
    obtain ⟨x, _, hx⟩ := List.mem_flatMap.1 hu
    exact ho1 x u hx)
  rw [hel]
  have hne : ¬ (i : Int) = (i : Int) + 1 := by omega
  clear hf ho1 hel
  (go_enter Tryz.func95, Tryz.ntmps95)
  go_wp2_with (first | ((with_reducible refine g_cut ?_); refine wl_cut3 hS rfl rfl i (i + 1) (by (repeat (first | exact Ix.here | apply Ix.there))) rfl rfl rfl rfl rfl (by rfl) (by omega) (by omega) (by omega) ?_; intro u3) | (first | refine au1 (n := ?_) | (refine au2 (n := ?_); clear hS; intro w' hS) | (refine au3 (n := ?_); clear hS; intro gb w1 hS) | (refine au4 (n := ?_); clear hS; intro v1 w' hS) | ((with_reducible refine wl_guard ?_); refine stop_mem rfl rfl ?_)))
  refine wp_region_tail 6 (by kernel_rfl) (by kernel_rfl) hS ?_
  clear hS
  intro w2 hS
  simp only [List.take_succ_cons, List.take_zero, List.drop_succ_cons, List.drop_zero]
  iterate 2 (still_step)
  refine ws_run rfl (x_cutHi rfl (hS.rdv (i := 0) rfl) rfl rfl rfl rfl rfl (by omega) (by omega)) ?_
  simp only [Act.put, List.setIfInBounds_toArray, List.set_cons_zero, List.set_cons_succ]
  iterate 2 (still_step)
  refine ws_run rfl (x_cutLo rfl (hS.rdv (i := 0) rfl) rfl rfl rfl rfl rfl (by omega) (by omega)) ?_
  simp only [Act.put, List.setIfInBounds_toArray, List.set_cons_zero, List.set_cons_succ]
  refine wpStill_nil ?_
  refine wl_of rfl (a_delApp hS rfl i (i + 1) (by (repeat (first | exact Sw.here | apply Sw.there))) rfl rfl rfl (by rfl) H1.out (by omega) (by omega) (by omega) rfl ?_)
  clear hS
  intro w3 hS
  have hlt : i + (L.length - (i + 1)) < L.length := by omega
  have hRn : Rd w3 5 (cutSl v 5 0 (i + (L.length - (i + 1)))) (i + (L.length - (i + 1))) ((((L.flatMap f).take (i * 5) ++ (L.flatMap f).drop ((i + 1) * 5) ++ (L.flatMap f).drop ((i + (L.length - (i + 1))) * 5)).take ((i + (L.length - (i + 1))) * 5)).drop (0 * 5)) := (hS.rdv (i := 0) rfl).cut 0 _ (by omega) (by omega)
  go_wp2_with (first | ((with_reducible refine g_len ?_); refine wl_run rfl (a_len rfl rfl rfl hRn) ?_) | ((with_reducible refine g_cut ?_); refine wl_run rfl (x_cutBeyond hS rfl (i + (L.length - (i + 1))) (by (repeat (first | exact Ix.here | apply Ix.there))) rfl rfl rfl rfl (by rfl) hlt) ?_) | ((with_reducible refine g_clear ?_); refine wl_of rfl ?_; refine a_clear hS rfl (i + (L.length - (i + 1))) (by (repeat (first | exact Out.here | apply Out.there))) rfl rfl (by rfl) hlt ?_; clear hS; intro w4 hS) | (first | refine au1 (n := ?_) | (refine au2 (n := ?_); clear hS; intro w' hS) | (refine au3 (n := ?_); clear hS; intro gb w1 hS) | (refine au4 (n := ?_); clear hS; intro v1 w' hS) | ((with_reducible refine wl_guard ?_); refine stop_mem rfl rfl ?_)))
  go_ret
  refine ⟨rfl, ?_⟩
  rw [HF.out] at hS
  exact hS

section
variable {S : List Nat} {w0 w : World} {M : List Ent} {g : Nat} {T : List Ses}

theorem ses_new (hS : St S w0 w M) : Calls Tryz.prog 28 #[] w fun e w' => ∃ g, e = .returned (.pointer (some ⟨g, 0, none⟩)) ∧ St S w0 w' (ses g [] :: M) := by
  (go_enter Tryz.func28, Tryz.ntmps28)
  go_wp2_with (first | refine au1 (n := ?_) | (refine au2 (n := ?_); clear hS; intro w' hS) | (refine au3 (n := ?_); clear hS; intro gb w1 hS) | (refine au4 (n := ?_); clear hS; intro v1 w' hS) | ((with_reducible refine wl_guard ?_); refine stop_mem rfl rfl ?_))
  go_ret
  have hS := hS.addNil 41 5
  exact ⟨gb, rfl, St.packs (Value.slice none 0 0) hS⟩

theorem may_any (n least : Int) (w : World) : Calls Tryz.prog 91 #[.int .i64 n, .int .i64 least] w fun e w' => e = .returned (.bool (may n least)) ∧ w' = w := by
  by_cases h1 : least ≤ n
  · by_cases h2 : n ≤ 72057594037927935
    · have e : may n least = true := by simp [may, h1, h2]
      rw [e]
      (go_enter Tryz.func91, Tryz.ntmps91)
      go_wp2_with (first | refine au1 (n := ?_) | (refine au2 (n := ?_); clear hS; intro w' hS) | (refine au3 (n := ?_); clear hS; intro gb w1 hS) | (refine au4 (n := ?_); clear hS; intro v1 w' hS) | ((with_reducible refine wl_guard ?_); refine stop_mem rfl rfl ?_))
      go_ret
      exact ⟨rfl, rfl⟩
    · have e : may n least = false := by simp [may, h2]
      rw [e]
      (go_enter Tryz.func91, Tryz.ntmps91)
      go_wp2_with (first | refine au1 (n := ?_) | (refine au2 (n := ?_); clear hS; intro w' hS) | (refine au3 (n := ?_); clear hS; intro gb w1 hS) | (refine au4 (n := ?_); clear hS; intro v1 w' hS) | ((with_reducible refine wl_guard ?_); refine stop_mem rfl rfl ?_))
      go_ret
      exact ⟨rfl, rfl⟩
  · have e : may n least = false := by simp [may, h1]
    rw [e]
    (go_enter Tryz.func91, Tryz.ntmps91)
    go_wp2_with (first | refine au1 (n := ?_) | (refine au2 (n := ?_); clear hS; intro w' hS) | (refine au3 (n := ?_); clear hS; intro gb w1 hS) | (refine au4 (n := ?_); clear hS; intro v1 w' hS) | ((with_reducible refine wl_guard ?_); refine stop_mem rfl rfl ?_))
    go_ret
    exact ⟨rfl, rfl⟩

theorem clos_is {i : Nat} (s : Ses) (c : Int) (gb : Nat) (hS : St S w0 w M) (hM : Ix M i (.row gb [.int .i64 c] 3 (0, 0))) : Calls Tryz.prog 113 #[.agg s.cells.toArray, .pointer (some ⟨gb, 0, none⟩)] w fun e w' => e = .returned (.bool (decide (s.client = c))) ∧ St S w0 w' M := by
  obtain ⟨a, b, r, o, t⟩ := s
  have h0 := hM.get
  obtain ⟨M', hM'⟩ : ∃ M', M' = M := ⟨_, rfl⟩
  simp only [Ses.cells]
  (go_enter Tryz.func113, Tryz.ntmps113)
  go_wp2_with (first | ((with_reducible refine g_load ?_); refine wl_run rfl (a_load1 hS rfl rfl rfl rfl (Ix.there hM) rfl) ?_) | (first | refine au1 (n := ?_) | (refine au2 (n := ?_); clear hS; intro w' hS) | (refine au3 (n := ?_); clear hS; intro gb w1 hS) | (refine au4 (n := ?_); clear hS; intro v1 w' hS) | ((with_reducible refine wl_guard ?_); refine stop_mem rfl rfl ?_)))
  go_ret
  refine ⟨?_, hS.tail⟩
  first | rfl | simp
end
end Go.Proofs.YtjjiibcnknljfaaGreat
namespace Go.Proofs.YtjjiibcnknljfaaGreat
open Go.RowKit Go.Cmp

section
variable {S : List Nat} {w0 w : World} {M : List Ent} {g : Nat} {T : List Ses}

set_option maxHeartbeats 1000000 in
theorem index_any {i : Nat} (v : Value) (T : List Ses) (c : Int) (gb : Nat) (hS : St S w0 w M) (hM : Ix M i (.row gb [.int .i64 c] 3 (0, 0))) (hV : Reads S w0 M 5 v T.length (T.flatMap Ses.cells)) (hl : T.length ≤ 1000000) :
    Calls Tryz.prog 112 #[v, .func (.func 113) #[] #[.pointer (some ⟨gb, 0, none⟩)]] w fun e w' => e = .returned (.int .i64 (whose c T)) ∧ St S w0 w' M := by
  (go_enter Tryz.func112, Tryz.ntmps112)
  go_wp2_with (first | refine au1 (n := ?_) | (refine au2 (n := ?_); clear hS; intro w' hS) | (refine au3 (n := ?_); clear hS; intro gb w1 hS) | (refine au4 (n := ?_); clear hS; intro v1 w' hS) | ((with_reducible refine wl_guard ?_); refine stop_mem rfl rfl ?_))
  go_loopw [8] (fun k wr => ∃ j : Nat, j ≤ T.length ∧ k = .int .i64 j ∧ Hid (∀ i, i < j → (decide ((nth T i).client = c)) = false) ∧ St S w0 wr M) (fun k _ => T.length - (intOf k).toNat)
  case atStart => exact ⟨0, by omega, rfl, Lib.hid (fun i hi => by omega), hS⟩
  case round =>
    clear hS
    obtain ⟨j, hj, rfl, HJ, hS⟩ := hrel
    by_cases hlt : j < T.length
    · have hlt1 : (j : Int) < T.length := by omega
      by_cases hx : (nth T j).client = c
      · have hd : decide ((nth T j).client = c) = true := by simpa using hx
        have hp : whose c T = j := idx_first hlt hd HJ.out
        have H := Lib.hid (fun (W : World) (hS : St S w0 W M) => clos_is (nth T j) c gb hS hM)
        rw [hd] at H
        have HP := Lib.hid hp
        clear hp hd hx
        go_wp2_with (first | (go_at_call 113; refine (H.out _ hS).mono ?_; clear hS; rintro e w' ⟨rfl, hS⟩) | (first | refine au1 (n := ?_) | (refine au2 (n := ?_); clear hS; intro w' hS) | (refine au3 (n := ?_); clear hS; intro gb w1 hS) | (refine au4 (n := ?_); clear hS; intro v1 w' hS) | ((with_reducible refine wl_guard ?_); refine stop_mem rfl rfl ?_)))
        go_ret
        rw [HP.out]
        exact ⟨rfl, hS⟩
      · have hd : decide ((nth T j).client = c) = false := by simpa using hx
        have H := Lib.hid (fun (W : World) (hS : St S w0 W M) => clos_is (nth T j) c gb hS hM)
        rw [hd] at H
        have HJ2 : Hid (∀ i, i < j + 1 → (decide ((nth T i).client = c)) = false) := Lib.hid (fun i hi => by
          by_cases h : i = j
          · rw [h]; exact hd
          · exact HJ.out i (by omega))
        clear hd hx
        go_wp2_with (first | (go_at_call 113; refine (H.out _ hS).mono ?_; clear hS; rintro e w' ⟨rfl, hS⟩) | (first | refine au1 (n := ?_) | (refine au2 (n := ?_); clear hS; intro w' hS) | (refine au3 (n := ?_); clear hS; intro gb w1 hS) | (refine au4 (n := ?_); clear hS; intro v1 w' hS) | ((with_reducible refine wl_guard ?_); refine stop_mem rfl rfl ?_)))
        refine ⟨⟨j + 1, by omega, by go_num, HJ2, hS⟩, by simp [intOf]; omega⟩
    · obtain rfl : j = T.length := by omega
      have hp : whose c T = -1 := idx_none (fun x hx => by obtain ⟨i, h1, h2⟩ := mem_nth' hx; have := HJ.out i h1; rw [h2] at this; exact this)
      have HP := Lib.hid hp
      clear hp
      go_wp2_with (first | refine au1 (n := ?_) | (refine au2 (n := ?_); clear hS; intro w' hS) | (refine au3 (n := ?_); clear hS; intro gb w1 hS) | (refine au4 (n := ?_); clear hS; intro v1 w' hS) | ((with_reducible refine wl_guard ?_); refine stop_mem rfl rfl ?_))
      go_ret
      rw [HP.out]
      exact ⟨rfl, hS⟩

theorem ses_place (hS : St S w0 w (ses g T :: M)) (hl : T.length ≤ 1000000) (c : Int) : Calls Tryz.prog 82 #[.pointer (some ⟨g, 0, none⟩), .int .i64 c] w fun e w' => e = .returned (.int .i64 (whose c T)) ∧ St S w0 w' (ses g T :: M) := by
  (have hU := St.unpack hS; clear hS; obtain ⟨vs, _, hS⟩ := hU; simp only [List.cons_append, List.nil_append] at hS)
  (go_enter Tryz.func82, Tryz.ntmps82)
  go_wp2_with (first | (go_at_call 112; refine (index_any vs T c gb hS (by (repeat (first | exact Ix.here | apply Ix.there))) (fun W hW => hW.rdx (by (repeat (first | exact Ix.here | apply Ix.there)))) hl).mono ?_; clear hS; rintro e w' ⟨rfl, hS⟩) | (first | refine au1 (n := ?_) | (refine au2 (n := ?_); clear hS; intro w' hS) | (refine au3 (n := ?_); clear hS; intro gb w1 hS) | (refine au4 (n := ?_); clear hS; intro v1 w' hS) | ((with_reducible refine wl_guard ?_); refine stop_mem rfl rfl ?_)))
  go_ret
  exact ⟨rfl, St.packs vs hS⟩

set_option maxHeartbeats 1000000 in
theorem ses_look (hS : St S w0 w (ses g T :: M)) (hl : T.length ≤ 1000000) (c : Int) :
    Calls Tryz.prog 49 #[.pointer (some ⟨g, 0, none⟩), .int .i64 c] w fun e w' => e = .returned (.tuple #[.agg (sLook T c).1.cells.toArray, .bool (sLook T c).2]) ∧ St S w0 w' (ses g T :: M) := by
  have HF := Lib.hid (fun (w : World) (M : List Ent) (hS : St S w0 w (ses g T :: M)) => ses_place hS hl c)
  have hr := idx_range (p := fun s : Ses => decide (s.client = c)) T
  by_cases hp : whose c T < 0
  · have e : sLook T c = (zSes, false) := by unfold sLook; rw [if_pos hp]
    rw [e]
    (go_enter Tryz.func49, Tryz.ntmps49)
    go_wp2_with (first | (go_at_call 82; refine (HF.out _ _ (hS.out (by (repeat (first | exact Out.here | apply Out.there))))).mono ?_; clear hS; rintro e w' ⟨rfl, hS⟩) | (first | refine au1 (n := ?_) | (refine au2 (n := ?_); clear hS; intro w' hS) | (refine au3 (n := ?_); clear hS; intro gb w1 hS) | (refine au4 (n := ?_); clear hS; intro v1 w' hS) | ((with_reducible refine wl_guard ?_); refine stop_mem rfl rfl ?_)))
    exact end_cell2 hS rfl rfl rfl rfl rfl rfl (h := ⟨rfl, hS.pick⟩)
  · have e : sLook T c = (nth T (whose c T).toNat, true) := by unfold sLook; rw [if_neg hp]
    rw [e]
    clear e
    obtain ⟨p, hp2⟩ := Int.eq_ofNat_of_zero_le (show 0 ≤ whose c T by omega)
    have hr2 : (p : Int) < T.length := by rw [← hp2]; exact hr.2
    rw [hp2] at hp HF ⊢
    rw [Int.toNat_natCast]
    have hpl : p < T.length := by omega
    have hget := get_lt (L := T) hpl
    (go_enter Tryz.func49, Tryz.ntmps49)
    go_wp2_with (first | (go_at_call 82; refine (HF.out _ _ (hS.out (by (repeat (first | exact Out.here | apply Out.there))))).mono ?_; clear hS; rintro e w' ⟨rfl, hS⟩; (have hU := St.unpack hS; clear hS; obtain ⟨vs, _, hS⟩ := hU; simp only [List.cons_append, List.nil_append] at hS)) | (first | refine au1 (n := ?_) | (refine au2 (n := ?_); clear hS; intro w' hS) | (refine au3 (n := ?_); clear hS; intro gb w1 hS) | (refine au4 (n := ?_); clear hS; intro v1 w' hS) | ((with_reducible refine wl_guard ?_); refine stop_mem rfl rfl ?_)))
    exact end_cell2 hS rfl rfl rfl rfl rfl rfl (h := ⟨rfl, (St.packs vs hS : St S w0 _ (ses g T :: M))⟩)

set_option maxHeartbeats 1000000 in
theorem ses_verdict (hS : St S w0 w (ses g T :: M)) (hl : T.length ≤ 1000000) (c s r : Int) (hr : ∀ x ∈ T, 0 ≤ x.request ∧ x.request ≤ 72057594037927935) (h1 : -9223372036854775808 ≤ r) (h2 : r ≤ 9223372036854775807) :
    Calls Tryz.prog 48 #[.pointer (some ⟨g, 0, none⟩), .int .i64 c, .int .i64 s, .int .i64 r] w fun e w' => e = .returned (.int .i64 (sVerdict T c s r)) ∧ St S w0 w' (ses g T :: M) := by
  have HF := Lib.hid (fun (w : World) (M : List Ent) (hS : St S w0 w (ses g T :: M)) => ses_look hS hl c)
  have hrq : 0 ≤ (sLook T c).1.request ∧ (sLook T c).1.request ≤ 72057594037927935 := by
    have hr0 := idx_range (p := fun s : Ses => decide (s.client = c)) T
    have hr1 : whose c T < T.length := hr0.2
    unfold sLook
    split
    · simp [zSes]
    · exact hr _ (nth_mem (by omega))
  obtain ⟨b, hb⟩ : ∃ b, (sLook T c).2 = b := ⟨_, rfl⟩
  obtain ⟨y, hy⟩ : ∃ y, (sLook T c).1 = y := ⟨_, rfl⟩
  have e : sVerdict T c s r = if b = false ∨ y.session ≠ s then 5 else if r = y.request then 2 else if r < y.request then 3 else if r - 1 = y.request then 1 else 4 := by unfold sVerdict; rw [hb, hy]
  rw [e]
  rw [hb, hy] at HF
  rw [hy] at hrq
  clear e hb hy
  obtain ⟨q1, q2⟩ := hrq
  obtain ⟨ya, yb, yc, yd, ye⟩ := y
  simp only at q1 q2 ⊢
  simp only [Ses.cells] at HF
  cases b
  · rw [if_pos (.inl rfl)]
    (go_enter Tryz.func48, Tryz.ntmps48)
    go_wp2_with (first | (go_at_call 49; refine (HF.out _ _ (hS.out (by (repeat (first | exact Out.here | apply Out.there))))).mono ?_; clear hS; rintro e w' ⟨rfl, hS⟩) | (first | refine au1 (n := ?_) | (refine au2 (n := ?_); clear hS; intro w' hS) | (refine au3 (n := ?_); clear hS; intro gb w1 hS) | (refine au4 (n := ?_); clear hS; intro v1 w' hS) | ((with_reducible refine wl_guard ?_); refine stop_mem rfl rfl ?_)))
    go_ret
    exact ⟨rfl, hS.pick⟩
  · by_cases hs : yb = s
    · rw [if_neg (by simp [hs])]
      by_cases c1 : r = yc
      · rw [if_pos c1]
        (go_enter Tryz.func48, Tryz.ntmps48)
        go_wp2_with (first | (go_at_call 49; refine (HF.out _ _ (hS.out (by (repeat (first | exact Out.here | apply Out.there))))).mono ?_; clear hS; rintro e w' ⟨rfl, hS⟩) | (first | refine au1 (n := ?_) | (refine au2 (n := ?_); clear hS; intro w' hS) | (refine au3 (n := ?_); clear hS; intro gb w1 hS) | (refine au4 (n := ?_); clear hS; intro v1 w' hS) | ((with_reducible refine wl_guard ?_); refine stop_mem rfl rfl ?_)))
        go_ret
        exact ⟨rfl, hS.pick⟩
      · rw [if_neg c1]
        by_cases c2 : r < yc
        · rw [if_pos c2]
          (go_enter Tryz.func48, Tryz.ntmps48)
          go_wp2_with (first | (go_at_call 49; refine (HF.out _ _ (hS.out (by (repeat (first | exact Out.here | apply Out.there))))).mono ?_; clear hS; rintro e w' ⟨rfl, hS⟩) | (first | refine au1 (n := ?_) | (refine au2 (n := ?_); clear hS; intro w' hS) | (refine au3 (n := ?_); clear hS; intro gb w1 hS) | (refine au4 (n := ?_); clear hS; intro v1 w' hS) | ((with_reducible refine wl_guard ?_); refine stop_mem rfl rfl ?_)))
          go_ret
          exact ⟨rfl, hS.pick⟩
        · rw [if_neg c2]
          by_cases c3 : r - 1 = yc
          · rw [if_pos c3]
            (go_enter Tryz.func48, Tryz.ntmps48)
            go_wp2_with (first | (go_at_call 49; refine (HF.out _ _ (hS.out (by (repeat (first | exact Out.here | apply Out.there))))).mono ?_; clear hS; rintro e w' ⟨rfl, hS⟩) | (first | refine au1 (n := ?_) | (refine au2 (n := ?_); clear hS; intro w' hS) | (refine au3 (n := ?_); clear hS; intro gb w1 hS) | (refine au4 (n := ?_); clear hS; intro v1 w' hS) | ((with_reducible refine wl_guard ?_); refine stop_mem rfl rfl ?_)))
            go_ret
            exact ⟨rfl, hS.pick⟩
          · rw [if_neg c3]
            (go_enter Tryz.func48, Tryz.ntmps48)
            go_wp2_with (first | (go_at_call 49; refine (HF.out _ _ (hS.out (by (repeat (first | exact Out.here | apply Out.there))))).mono ?_; clear hS; rintro e w' ⟨rfl, hS⟩) | (first | refine au1 (n := ?_) | (refine au2 (n := ?_); clear hS; intro w' hS) | (refine au3 (n := ?_); clear hS; intro gb w1 hS) | (refine au4 (n := ?_); clear hS; intro v1 w' hS) | ((with_reducible refine wl_guard ?_); refine stop_mem rfl rfl ?_)))
            go_ret
            exact ⟨rfl, hS.pick⟩
    · rw [if_pos (.inr hs)]
      (go_enter Tryz.func48, Tryz.ntmps48)
      go_wp2_with (first | (go_at_call 49; refine (HF.out _ _ (hS.out (by (repeat (first | exact Out.here | apply Out.there))))).mono ?_; clear hS; rintro e w' ⟨rfl, hS⟩) | (first | refine au1 (n := ?_) | (refine au2 (n := ?_); clear hS; intro w' hS) | (refine au3 (n := ?_); clear hS; intro gb w1 hS) | (refine au4 (n := ?_); clear hS; intro v1 w' hS) | ((with_reducible refine wl_guard ?_); refine stop_mem rfl rfl ?_)))
      go_ret
      exact ⟨rfl, hS.pick⟩
end
end Go.Proofs.YtjjiibcnknljfaaGreat
namespace Go.Proofs.YtjjiibcnknljfaaGreat
open Go.RowKit Go.Cmp

section
variable {S : List Nat} {w0 w : World} {M : List Ent} {g : Nat} {T : List Ses}

set_option maxHeartbeats 4000000 in
theorem ses_note (hS : St S w0 w (ses g T :: M)) (hl : T.length ≤ 1000000) (c r o : Int) (t : List UInt8) :
    Calls Tryz.prog 64 #[.pointer (some ⟨g, 0, none⟩), .int .i64 c, .int .i64 r, .int .i64 o, .string ⟨t.toArray⟩] w fun e w' => e = .returned (.int .i64 (sNote T c r o t).1) ∧ St S w0 w' (ses g (sNote T c r o t).2 :: M) := by
  have HF := Lib.hid (fun (w : World) (M : List Ent) (hS : St S w0 w (ses g T :: M)) => ses_place hS hl c)
  have hr := idx_range (p := fun s : Ses => decide (s.client = c)) T
  obtain ⟨br, hbr⟩ : ∃ b, may r 0 = b := ⟨_, rfl⟩
  obtain ⟨bo, hbo⟩ : ∃ b, may o 0 = b := ⟨_, rfl⟩
  have HBR := Lib.hid hbr
  have HBO := Lib.hid hbo
  have e0 : sNote T c r o t = if whose c T < 0 then (8, T) else if br = false ∨ bo = false then (1, T) else if (200 : Int) < t.length then (5, T) else (0, T.set (whose c T).toNat { nth T (whose c T).toNat with request := r, op := o, reply := t }) := by unfold sNote; rw [hbr, hbo]
  rw [e0]
  clear e0 hbr hbo
  by_cases hp : whose c T < 0
  · rw [if_pos hp]
    (go_enter Tryz.func64, Tryz.ntmps64)
    go_wp2_with (first | (go_at_call 82; refine (HF.out _ _ (hS.out (by (repeat (first | exact Out.here | apply Out.there))))).mono ?_; clear hS; rintro e w' ⟨rfl, hS⟩) | (first | refine au1 (n := ?_) | (refine au2 (n := ?_); clear hS; intro w' hS) | (refine au3 (n := ?_); clear hS; intro gb w1 hS) | (refine au4 (n := ?_); clear hS; intro v1 w' hS) | ((with_reducible refine wl_guard ?_); refine stop_mem rfl rfl ?_)))
    go_ret
    exact ⟨rfl, hS⟩
  · rw [if_neg hp]
    obtain ⟨p, hp2⟩ := Int.eq_ofNat_of_zero_le (show 0 ≤ whose c T by omega)
    have hr2 : (p : Int) < T.length := by rw [← hp2]; exact hr.2
    rw [hp2] at hp HF ⊢
    rw [Int.toNat_natCast]
    have hpl : p < T.length := by omega
    have hget := get_lt (L := T) hpl
    obtain ⟨X, hX⟩ : ∃ X, nth T p = X := ⟨_, rfl⟩
    rw [hX] at hget ⊢
    clear hX hr
    by_cases hc : br = false ∨ bo = false
    · rw [if_pos hc]
      cases br
      · (go_enter Tryz.func64, Tryz.ntmps64)
        go_wp2_with (first | (go_at_call 82; refine (HF.out _ _ (hS.out (by (repeat (first | exact Out.here | apply Out.there))))).mono ?_; clear hS; rintro e w' ⟨rfl, hS⟩) | (go_at_call 91; refine (may_any _ _ _).mono ?_; rintro e w' ⟨rfl, rfl⟩; simp only [HBR.out, HBO.out]) | (first | refine au1 (n := ?_) | (refine au2 (n := ?_); clear hS; intro w' hS) | (refine au3 (n := ?_); clear hS; intro gb w1 hS) | (refine au4 (n := ?_); clear hS; intro v1 w' hS) | ((with_reducible refine wl_guard ?_); refine stop_mem rfl rfl ?_)))
        go_ret
        exact ⟨rfl, hS⟩
      · obtain rfl : bo = false := by simpa using hc
        (go_enter Tryz.func64, Tryz.ntmps64)
        go_wp2_with (first | (go_at_call 82; refine (HF.out _ _ (hS.out (by (repeat (first | exact Out.here | apply Out.there))))).mono ?_; clear hS; rintro e w' ⟨rfl, hS⟩) | (go_at_call 91; refine (may_any _ _ _).mono ?_; rintro e w' ⟨rfl, rfl⟩; simp only [HBR.out, HBO.out]) | (first | refine au1 (n := ?_) | (refine au2 (n := ?_); clear hS; intro w' hS) | (refine au3 (n := ?_); clear hS; intro gb w1 hS) | (refine au4 (n := ?_); clear hS; intro v1 w' hS) | ((with_reducible refine wl_guard ?_); refine stop_mem rfl rfl ?_)))
        go_ret
        exact ⟨rfl, hS⟩
    · rw [if_neg hc]
      obtain ⟨rfl, rfl⟩ : br = true ∧ bo = true := by cases br <;> cases bo <;> simp_all
      clear hc
      by_cases ht : (200 : Int) < t.length
      · rw [if_pos ht]
        (go_enter Tryz.func64, Tryz.ntmps64)
        go_wp2_with (first | (go_at_call 82; refine (HF.out _ _ (hS.out (by (repeat (first | exact Out.here | apply Out.there))))).mono ?_; clear hS; rintro e w' ⟨rfl, hS⟩) | (go_at_call 91; refine (may_any _ _ _).mono ?_; rintro e w' ⟨rfl, rfl⟩; simp only [HBR.out, HBO.out]) | (first | refine au1 (n := ?_) | (refine au2 (n := ?_); clear hS; intro w' hS) | (refine au3 (n := ?_); clear hS; intro gb w1 hS) | (refine au4 (n := ?_); clear hS; intro v1 w' hS) | ((with_reducible refine wl_guard ?_); refine stop_mem rfl rfl ?_)))
        go_ret
        exact ⟨rfl, hS⟩
      · rw [if_neg ht]
        obtain ⟨L1, hL1⟩ : ∃ L1, T.set p { X with request := r } = L1 := ⟨_, rfl⟩
        have hg1 : L1[p]? = some { X with request := r } := by rw [← hL1]; simp [hpl]
        obtain ⟨L2, hL2⟩ : ∃ L2, L1.set p { X with request := r, op := o } = L2 := ⟨_, rfl⟩
        have hg2 : L2[p]? = some { X with request := r, op := o } := by
          have h1 : p < L1.length := by rw [← hL1, List.length_set]; exact hpl
          rw [← hL2]; simp [h1]
        have e3 : T.set p { X with request := r, op := o, reply := t } = L2.set p { X with request := r, op := o, reply := t } := by rw [← hL2, ← hL1, List.set_set, List.set_set]
        rw [e3]
        have HL1 := Lib.hid hL1
        have HL2 := Lib.hid hL2
        have hl1 : L1.length = T.length := by rw [← hL1, List.length_set]
        have hl2 : L2.length = L1.length := by rw [← hL2, List.length_set]
        clear hL1 hL2 e3
        (go_enter Tryz.func64, Tryz.ntmps64)
        go_wp2_with (first | (go_at_call 82; refine (HF.out _ _ (hS.out (by (repeat (first | exact Out.here | apply Out.there))))).mono ?_; clear hS; rintro e w' ⟨rfl, hS⟩; (have hU := St.unpack hS; clear hS; obtain ⟨vs, _, hS⟩ := hU; simp only [List.cons_append, List.nil_append] at hS)) | (go_at_call 91; refine (may_any _ _ _).mono ?_; rintro e w' ⟨rfl, rfl⟩; simp only [HBR.out, HBO.out]) | ((with_reducible refine g_store ?_); refine wl_of rfl ?_; refine a_storeF (v := .int _ _) (L := T) (j := p) (k := 5) (c := 2) (z := { X with request := r }) hS rfl rfl rfl rfl rfl (by rfl) (by (repeat (first | exact Sw.here | apply Sw.there))) (by intro _; rfl) hget (by omega) (by rfl) ?_; clear hS; intro w' hS; rw [HL1.out] at hS) | ((with_reducible refine g_store ?_); refine wl_of rfl ?_; refine a_storeF (v := .int _ _) (L := L1) (j := p) (k := 5) (c := 3) (z := { X with request := r, op := o }) hS rfl rfl rfl rfl rfl (by rfl) (by (repeat (first | exact Sw.here | apply Sw.there))) (by intro _; rfl) hg1 (by omega) (by rfl) ?_; clear hS; intro w' hS; rw [HL2.out] at hS) | ((with_reducible refine g_store ?_); refine wl_of rfl ?_; refine a_storeF (v := .string _) (L := L2) (j := p) (k := 5) (c := 4) (z := { X with request := r, op := o, reply := t }) hS rfl rfl rfl rfl rfl (by rfl) (by (repeat (first | exact Sw.here | apply Sw.there))) (by intro _; rfl) hg2 (by omega) (by rfl) ?_; clear hS; intro w' hS) | ((with_reducible refine g_nilc ?_); refine wl_run rfl (a_nilc rfl rfl (by (first | exact St.rdx hS (by (repeat (first | exact Ix.here | apply Ix.there))) | exact Reads.at (by assumption) hS (by (repeat (first | exact List.Sublist.refl _ | apply List.Sublist.cons))) | exact St.old0 hS (by assumption))) (by omega)) ?_) | (first | refine au1 (n := ?_) | (refine au2 (n := ?_); clear hS; intro w' hS) | (refine au3 (n := ?_); clear hS; intro gb w1 hS) | (refine au4 (n := ?_); clear hS; intro v1 w' hS) | ((with_reducible refine wl_guard ?_); refine stop_mem rfl rfl ?_)))
        go_ret
        exact ⟨rfl, St.packs vs hS⟩
end
end Go.Proofs.YtjjiibcnknljfaaGreat
namespace Go.Proofs.YtjjiibcnknljfaaGreat
open Go.RowKit Go.Cmp

section
variable {S : List Nat} {w0 w : World} {M : List Ent} {g : Nat} {T : List Ses}

theorem nan_any (x : Int) (w : World) : Calls Tryz.prog 121 #[.int .i64 x] w fun e w' => e = .returned (.bool false) ∧ w' = w := by
  (go_enter Tryz.func121, Tryz.ntmps121)
  go_wp2_with (first | refine au1 (n := ?_) | (refine au2 (n := ?_); clear hS; intro w' hS) | (refine au3 (n := ?_); clear hS; intro gb w1 hS) | (refine au4 (n := ?_); clear hS; intro v1 w' hS) | ((with_reducible refine wl_guard ?_); refine stop_mem rfl rfl ?_))
  go_ret
  exact ⟨rfl, rfl⟩
def cmpI (x y : Int) : Int := if x < y then -1 else if y < x then 1 else 0
theorem cmp_any (x y : Int) (w : World) : Calls Tryz.prog 94 #[.int .i64 x, .int .i64 y] w fun e w' => e = .returned (.int .i64 (cmpI x y)) ∧ w' = w := by
  unfold cmpI
  by_cases h1 : x < y
  · rw [if_pos h1]
    (go_enter Tryz.func94, Tryz.ntmps94)
    go_wp2_with (first | (go_at_call 121; refine (nan_any _ _).mono ?_; rintro e w' ⟨rfl, rfl⟩) | (first | refine au1 (n := ?_) | (refine au2 (n := ?_); clear hS; intro w' hS) | (refine au3 (n := ?_); clear hS; intro gb w1 hS) | (refine au4 (n := ?_); clear hS; intro v1 w' hS) | ((with_reducible refine wl_guard ?_); refine stop_mem rfl rfl ?_)))
    go_ret
    exact ⟨rfl, rfl⟩
  · rw [if_neg h1]
    by_cases h2 : y < x
    · rw [if_pos h2]
      (go_enter Tryz.func94, Tryz.ntmps94)
      go_wp2_with (first | (go_at_call 121; refine (nan_any _ _).mono ?_; rintro e w' ⟨rfl, rfl⟩) | (first | refine au1 (n := ?_) | (refine au2 (n := ?_); clear hS; intro w' hS) | (refine au3 (n := ?_); clear hS; intro gb w1 hS) | (refine au4 (n := ?_); clear hS; intro v1 w' hS) | ((with_reducible refine wl_guard ?_); refine stop_mem rfl rfl ?_)))
      go_ret
      exact ⟨rfl, rfl⟩
    · rw [if_neg h2]
      (go_enter Tryz.func94, Tryz.ntmps94)
      go_wp2_with (first | (go_at_call 121; refine (nan_any _ _).mono ?_; rintro e w' ⟨rfl, rfl⟩) | (first | refine au1 (n := ?_) | (refine au2 (n := ?_); clear hS; intro w' hS) | (refine au3 (n := ?_); clear hS; intro gb w1 hS) | (refine au4 (n := ?_); clear hS; intro v1 w' hS) | ((with_reducible refine wl_guard ?_); refine stop_mem rfl rfl ?_)))
      go_ret
      exact ⟨rfl, rfl⟩

theorem elder (a b : Ses) (w : World) : Calls Tryz.prog 93 #[.agg a.cells.toArray, .agg b.cells.toArray] w fun e w' => e = .returned (.int .i64 (cmpI a.op b.op)) ∧ St [] w w' [] := by
  have hS := St.init w
  obtain ⟨a1, a2, a3, a4, a5⟩ := a
  obtain ⟨b1, b2, b3, b4, b5⟩ := b
  simp only [Ses.cells]
  (go_enter Tryz.func93, Tryz.ntmps93)
  go_wp2_with (first | (go_at_call 94; refine (cmp_any _ _ _).mono ?_; rintro e w' ⟨rfl, rfl⟩) | (first | refine au1 (n := ?_) | (refine au2 (n := ?_); clear hS; intro w' hS) | (refine au3 (n := ?_); clear hS; intro gb w1 hS) | (refine au4 (n := ?_); clear hS; intro v1 w' hS) | ((with_reducible refine wl_guard ?_); refine stop_mem rfl rfl ?_)))
  go_ret
  exact ⟨rfl, hS.nil⟩

theorem end_cell1 {P : Program} {a : Act} (hS : St S w0 w M) {fn : Func} {R : Ending → World → Prop} {p : Tmp} {ty : TypeId} (hr : fn.results = #[.cell p ty]) {g : Nat} (hp : a.tmps.getD p undef = .pointer (some ⟨g, 0, none⟩)) {i : Nat} {cs : List Value} {e : TypeId} {fr : Nat × Nat} {d : TypeDesc} (hu : P.underlying ty = some d) (hd : (match d with | .struct _ | .array _ _ => true | _ => false) = true)
    (hdf : a.defers = []) (hM : Ix M i (.row g cs e fr) := by (repeat (first | exact Ix.here | apply Ix.there))) (hi : (P.info? ty).map (·.size) = some cs.length := by rfl) (h : R (.returned (.agg cs.toArray)) w) : bodyPost P fn R .ret a w := by
  refine bodyPost_ret (v := .agg cs.toArray) ?_ hdf h
  have hp' : a.tmps[p]?.getD undef = .pointer (some ⟨g, 0, none⟩) := by simpa using hp
  have hl := run_loadVar_row (P := P) w g e ty cs.toArray fr d (hS.row hM.get) hu hd (by simpa using hi)
  simp [results, hr, hp', asAddr, hl]

set_option maxHeartbeats 4000000 in
theorem min_any (v : Value) (T : List Ses) (hS : St S w0 w M) (hV : Reads S w0 M 5 v T.length (T.flatMap Ses.cells)) (h0 : 0 < T.length) (hl : T.length ≤ 1000000) :
    Calls Tryz.prog 92 #[v, .func (.func 93) #[] #[]] w fun e w' => e = .returned (.agg (best T T.length).cells.toArray) ∧ St S w0 w' M := by
  have hget0 := get_lt (L := T) h0
  have h01 : (1 : Int) ≤ T.length := by omega
  have hb0 : best T 1 = nth T 0 := by simp [best]
  obtain ⟨M0, hM0⟩ : ∃ M0, M = M0 := ⟨_, rfl⟩
  (go_enter Tryz.func92, Tryz.ntmps92)
  go_wp2_with (first | refine au1 (n := ?_) | (refine au2 (n := ?_); clear hS; intro w' hS) | (refine au3 (n := ?_); clear hS; intro gb w1 hS) | (refine au4 (n := ?_); clear hS; intro v1 w' hS) | ((with_reducible refine wl_guard ?_); refine stop_mem rfl rfl ?_))
  obtain ⟨R, hReq, hS⟩ := hS.gen
  go_loopw [6] (fun k wr => ∃ j : Nat, 1 ≤ j ∧ j ≤ T.length ∧ k = .int .i64 j ∧ St S w0 wr (.row gb (best T j).cells 41 (0, 0) :: R)) (fun k _ => T.length - (intOf k).toNat)
  case atStart => exact ⟨1, by omega, by omega, rfl, by rw [hb0]; exact hS⟩
  case round =>
    clear hS
    obtain ⟨j, hj1, hj, rfl, hS⟩ := hrel
    subst hReq
    by_cases hlt : j < T.length
    · have hlt1 : (j : Int) < T.length := by omega
      have hget := get_lt (L := T) hlt
      have hbs : best T (j + 1) = if (nth T j).op < (best T j).op then nth T j else best T j := rfl
      obtain ⟨b, hb⟩ : ∃ b, best T j = b := ⟨_, rfl⟩
      obtain ⟨x, hx⟩ : ∃ x, nth T j = x := ⟨_, rfl⟩
      rw [hb, hx] at hbs
      rw [hb] at hS
      rw [hx] at hget
      clear hb hx
      have HB := Lib.hid hbs
      clear hbs hget0 hb0
      have hcmp := elder x b
      obtain ⟨b1, b2, b3, b4, b5⟩ := b
      simp only [Ses.cells] at hS hcmp
      by_cases hop : x.op < b4
      · have hc : cmpI x.op b4 = -1 := by simp [cmpI, hop]
        rw [hc] at hcmp
        have HC := Lib.hid hcmp
        clear hcmp hc
        go_wp2_with (first | refine au1 (n := ?_) | (refine au2 (n := ?_); clear hS; intro w' hS) | (refine au3 (n := ?_); clear hS; intro gb w1 hS) | (refine au4 (n := ?_); clear hS; intro v1 w' hS) | ((with_reducible refine wl_guard ?_); refine stop_mem rfl rfl ?_))
        refine region_calm (by kernel_rfl) (by kernel_rfl) hS ?_
        (repeat (first | ((with_reducible refine c_call ?_); first | (refine Calm.call2 (calm_makes HC.out) rfl (h := ?_); simp only [Act.put, List.setIfInBounds_toArray, List.set_cons_zero, List.set_cons_succ])) | refine calm1 (n := ?_)))
        (refine Calm.nil ?_; clear hS; intro w8 hS)
        go_wp2_with (first | refine au1 (n := ?_) | (refine au2 (n := ?_); clear hS; intro w' hS) | (refine au3 (n := ?_); clear hS; intro gb w1 hS) | (refine au4 (n := ?_); clear hS; intro v1 w' hS) | ((with_reducible refine wl_guard ?_); refine stop_mem rfl rfl ?_))
        refine ⟨⟨j + 1, by omega, by omega, by go_num, by rw [HB.out, if_pos hop]; exact hS⟩, by simp [intOf]; omega⟩
      · have HB2 : best T (j + 1) = ⟨b1, b2, b3, b4, b5⟩ := by rw [HB.out]; exact if_neg hop
        have hc : ¬ cmpI x.op b4 < 0 := by unfold cmpI; rw [if_neg hop]; split <;> omega
        obtain ⟨ci, hci⟩ : ∃ ci, cmpI x.op b4 = ci := ⟨_, rfl⟩
        rw [hci] at hc hcmp
        have HC := Lib.hid hcmp
        have HB3 := Lib.hid HB2
        clear hcmp hci HB2
        go_wp2_with (first | refine au1 (n := ?_) | (refine au2 (n := ?_); clear hS; intro w' hS) | (refine au3 (n := ?_); clear hS; intro gb w1 hS) | (refine au4 (n := ?_); clear hS; intro v1 w' hS) | ((with_reducible refine wl_guard ?_); refine stop_mem rfl rfl ?_))
        refine region_calm (by kernel_rfl) (by kernel_rfl) hS ?_
        (repeat (first | ((with_reducible refine c_call ?_); first | (refine Calm.call2 (calm_makes HC.out) rfl (h := ?_); simp only [Act.put, List.setIfInBounds_toArray, List.set_cons_zero, List.set_cons_succ])) | refine calm1 (n := ?_)))
        (refine Calm.nil ?_; clear hS; intro w8 hS)
        go_wp2_with (first | refine au1 (n := ?_) | (refine au2 (n := ?_); clear hS; intro w' hS) | (refine au3 (n := ?_); clear hS; intro gb w1 hS) | (refine au4 (n := ?_); clear hS; intro v1 w' hS) | ((with_reducible refine wl_guard ?_); refine stop_mem rfl rfl ?_))
        refine ⟨⟨j + 1, by omega, by omega, by go_num, by rw [HB3.out]; exact hS⟩, by simp [intOf]; omega⟩
    · obtain rfl : j = T.length := by omega
      obtain ⟨b, hb⟩ : ∃ b, best T T.length = b := ⟨_, rfl⟩
      rw [hb] at hS
      have HB := Lib.hid hb
      clear hb
      obtain ⟨b1, b2, b3, b4, b5⟩ := b
      simp only [Ses.cells] at hS
      go_wp2_with (first | refine au1 (n := ?_) | (refine au2 (n := ?_); clear hS; intro w' hS) | (refine au3 (n := ?_); clear hS; intro gb w1 hS) | (refine au4 (n := ?_); clear hS; intro v1 w' hS) | ((with_reducible refine wl_guard ?_); refine stop_mem rfl rfl ?_))
      exact end_cell1 hS rfl rfl rfl rfl rfl (h := ⟨by rw [HB.out]; rfl, hS.pick⟩)
end
end Go.Proofs.YtjjiibcnknljfaaGreat
namespace Go.Proofs.YtjjiibcnknljfaaGreat
open Go.RowKit Go.Cmp

section
variable {S : List Nat} {w0 w : World} {M : List Ent} {g : Nat} {T : List Ses}

set_option maxHeartbeats 4000000 in
theorem ses_open (hS : St S w0 w (ses g T :: M)) (hT : T.length ≤ 3) (c o : Int) :
    Calls Tryz.prog 63 #[.pointer (some ⟨g, 0, none⟩), .int .i64 c, .int .i64 o] w fun e w' => e = .returned (.tuple #[.int .i64 (sOpen T c o).1, .int .i64 (sOpen T c o).2.1]) ∧ St S w0 w' (ses g (sOpen T c o).2.2 :: M) := by
  have HF := Lib.hid (fun (w : World) (M : List Ent) (hS : St S w0 w (ses g T :: M)) (c : Int) => ses_place hS (show T.length ≤ 1000000 by omega) c)
  obtain ⟨bc, hbc⟩ : ∃ b, may c 1 = b := ⟨_, rfl⟩
  obtain ⟨bo, hbo⟩ : ∃ b, may o 1 = b := ⟨_, rfl⟩
  have HBC := Lib.hid hbc
  have HBO := Lib.hid hbo
  have e0 : sOpen T c o = if bc = false ∨ bo = false then (0, 1, T) else if 0 ≤ whose c T then (0, 7, T) else if 3 ≤ T.length then ((best T T.length).client, 0, T.eraseIdx (whose (best T T.length).client T).toNat ++ [newSes c o]) else (0, 0, T ++ [newSes c o]) := by unfold sOpen; rw [hbc, hbo]
  rw [e0]
  clear e0 hbc hbo
  have hr := idx_range (p := fun s : Ses => decide (s.client = c)) T
  (have hU := St.unpack hS; clear hS; obtain ⟨vs, _, hS⟩ := hU; simp only [List.cons_append, List.nil_append] at hS)
  by_cases hc : bc = false ∨ bo = false
  · rw [if_pos hc]
    cases bc
    · (go_enter Tryz.func63, Tryz.ntmps63)
      go_wp2_with (first | (go_at_call 91; refine (may_any _ _ _).mono ?_; rintro e w' ⟨rfl, rfl⟩; simp only [HBC.out, HBO.out]) | (first | refine au1 (n := ?_) | (refine au2 (n := ?_); clear hS; intro w' hS) | (refine au3 (n := ?_); clear hS; intro gb w1 hS) | (refine au4 (n := ?_); clear hS; intro v1 w' hS) | ((with_reducible refine wl_guard ?_); refine stop_mem rfl rfl ?_)))
      go_ret2
      exact ⟨rfl, St.packs vs hS⟩
    · obtain rfl : bo = false := by simpa using hc
      (go_enter Tryz.func63, Tryz.ntmps63)
      go_wp2_with (first | (go_at_call 91; refine (may_any _ _ _).mono ?_; rintro e w' ⟨rfl, rfl⟩; simp only [HBC.out, HBO.out]) | (first | refine au1 (n := ?_) | (refine au2 (n := ?_); clear hS; intro w' hS) | (refine au3 (n := ?_); clear hS; intro gb w1 hS) | (refine au4 (n := ?_); clear hS; intro v1 w' hS) | ((with_reducible refine wl_guard ?_); refine stop_mem rfl rfl ?_)))
      go_ret2
      exact ⟨rfl, St.packs vs hS⟩
  · rw [if_neg hc]
    obtain ⟨rfl, rfl⟩ : bc = true ∧ bo = true := by cases bc <;> cases bo <;> simp_all
    clear hc
    by_cases hw : 0 ≤ whose c T
    · rw [if_pos hw]
      (go_enter Tryz.func63, Tryz.ntmps63)
      go_wp2_with (first | (go_at_call 91; refine (may_any _ _ _).mono ?_; rintro e w' ⟨rfl, rfl⟩; simp only [HBC.out, HBO.out]) | (go_at_call 82; refine (HF.out _ _ (St.packs vs hS) _).mono ?_; clear hS; rintro e w' ⟨rfl, hS⟩) | (first | refine au1 (n := ?_) | (refine au2 (n := ?_); clear hS; intro w' hS) | (refine au3 (n := ?_); clear hS; intro gb w1 hS) | (refine au4 (n := ?_); clear hS; intro v1 w' hS) | ((with_reducible refine wl_guard ?_); refine stop_mem rfl rfl ?_)))
      go_ret2
      exact ⟨rfl, hS⟩
    · rw [if_neg hw]
      have hr1 : -1 ≤ whose c T := hr.1
      have HW1 : Hid (whose c T = -1) := Lib.hid (by omega)
      clear hw hr1 hr
      by_cases h3 : 3 ≤ T.length
      · rw [if_pos h3]
        have h31 : (3 : Int) ≤ T.length := by omega
        have hbm := best_mem T (by omega) T.length (Nat.le_refl _)
        obtain ⟨b, hb⟩ : ∃ b, best T T.length = b := ⟨_, rfl⟩
        rw [hb] at hbm ⊢
        have hb0 : 0 ≤ whose b.client T := by
          by_cases h : whose b.client T < 0
          · have := idx_neg (p := fun s : Ses => decide (s.client = b.client)) h b hbm
            simp at this
          · omega
        have hbr : whose b.client T < T.length := (idx_range (p := fun s : Ses => decide (s.client = b.client)) T).2
        obtain ⟨p, hp⟩ := Int.eq_ofNat_of_zero_le hb0
        rw [hp] at hbr ⊢
        rw [Int.toNat_natCast]
        have hpl : p < T.length := by omega
        have HMIN := Lib.hid (fun (w : World) (M : List Ent) (v : Value) (hS : St S w0 w M) (hV : Reads S w0 M 5 v T.length (T.flatMap Ses.cells)) => min_any v T hS hV (by omega) (by omega))
        rw [hb] at HMIN
        obtain ⟨b1, b2, b3, b4, b5⟩ := b
        simp only [Ses.cells] at HMIN
        simp only at hp ⊢
        have HW2 : Hid (whose b1 T = (p : Int)) := Lib.hid hp
        clear hp hb hbm hb0
        obtain ⟨L1, hL1⟩ : ∃ L1, T.eraseIdx p = L1 := ⟨_, rfl⟩
        have hl1 : L1.length ≤ 3 := by rw [← hL1]; have := List.length_eraseIdx_le T p; omega
        have HD := Lib.hid (fun (w : World) (M : List Ent) (v : Value) (hS : St S w0 w (.vec v 41 5 T.length (T.flatMap Ses.cells) :: M)) => ses_delete (f := Ses.cells) (L := T) (fun _ => rfl) Ses.ones hS p hpl (by omega))
        rw [hL1] at HD ⊢
        clear hL1
        (go_enter Tryz.func63, Tryz.ntmps63)
        go_wp2_with (first | (go_at_call 91; refine (may_any _ _ _).mono ?_; rintro e w' ⟨rfl, rfl⟩; simp only [HBC.out, HBO.out]) | (go_at_call 82; refine (HF.out _ _ (St.packs vs hS) _).mono ?_; clear hS; rintro e w' ⟨rfl, hS⟩; (have hU := St.unpack hS; clear hS; obtain ⟨vs, _, hS⟩ := hU; simp only [List.cons_append, List.nil_append] at hS); simp only [HW1.out, HW2.out]) | (go_at_call 92; refine (HMIN.out _ _ vs hS (fun W hW => hW.rdx (by (repeat (first | exact Ix.here | apply Ix.there))))).mono ?_; clear hS; rintro e w' ⟨rfl, hS⟩) | (go_at_call 95; refine (HD.out _ _ vs (hS.out (by (repeat (first | exact Out.here | apply Out.there))))).mono ?_; clear hS; rintro e w' ⟨rfl, hS⟩; generalize cutSl vs 5 0 L1.length = v2 at hS ⊢) | ((with_reducible refine g_append ?_); refine wl_of rfl ?_; refine k_app (z := (⟨c, o, 0, o, []⟩ : Ses)) hS rfl rfl rfl rfl (h1 := by simp [Ses.cells, Value.oneCell']) (h := ?_); clear hS; intro v2 w' hS hv2) | (first | refine au1 (n := ?_) | (refine au2 (n := ?_); clear hS; intro w' hS) | (refine au3 (n := ?_); clear hS; intro gb w1 hS) | (refine au4 (n := ?_); clear hS; intro v1 w' hS) | ((with_reducible refine wl_guard ?_); refine stop_mem rfl rfl ?_)))
        go_ret2
        rw [show newSes c o = ⟨c, o, 0, o, []⟩ from rfl]
        exact ⟨rfl, St.packs v2 hS⟩
      · rw [if_neg h3]
        have h31 : ¬ (3 : Int) ≤ T.length := by omega
        (go_enter Tryz.func63, Tryz.ntmps63)
        go_wp2_with (first | (go_at_call 91; refine (may_any _ _ _).mono ?_; rintro e w' ⟨rfl, rfl⟩; simp only [HBC.out, HBO.out]) | (go_at_call 82; refine (HF.out _ _ (St.packs vs hS) _).mono ?_; clear hS; rintro e w' ⟨rfl, hS⟩; (have hU := St.unpack hS; clear hS; obtain ⟨vs, _, hS⟩ := hU; simp only [List.cons_append, List.nil_append] at hS); simp only [HW1.out]) | ((with_reducible refine g_append ?_); refine wl_of rfl ?_; refine k_app (z := (⟨c, o, 0, o, []⟩ : Ses)) hS rfl rfl rfl rfl (h1 := by simp [Ses.cells, Value.oneCell']) (h := ?_); clear hS; intro v2 w' hS hv2) | (first | refine au1 (n := ?_) | (refine au2 (n := ?_); clear hS; intro w' hS) | (refine au3 (n := ?_); clear hS; intro gb w1 hS) | (refine au4 (n := ?_); clear hS; intro v1 w' hS) | ((with_reducible refine wl_guard ?_); refine stop_mem rfl rfl ?_)))
        go_ret2
        rw [show newSes c o = ⟨c, o, 0, o, []⟩ from rfl]
        exact ⟨rfl, St.packs v2 hS⟩
end
end Go.Proofs.YtjjiibcnknljfaaGreat
