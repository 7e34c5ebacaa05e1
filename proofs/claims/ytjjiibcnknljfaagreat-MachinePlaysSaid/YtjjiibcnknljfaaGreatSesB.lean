/-
  The chapter's example; a table with one session; the statement on verdicts: the walk.
  A table that is not there; the statement on it: the walk.
  The program's sessions: a call; the list; the document's comparison of lists.
  Sessions compared; the document's comparison of lists.
  Sessions: no two of a client; who goes; in plain lists.
-/
import Derived.Test.YtjjiibcnknljfaaGreatSesA
import Derived.Test.YtjjiibcnknljfaaGreatGen
set_option linter.unusedSimpArgs false
set_option linter.unusedVariables false
set_option linter.unusedSectionVars false
set_option maxRecDepth 100000
namespace Go.Proofs.YtjjiibcnknljfaaGreat
open Go.RowKit Go.Cmp

def tab1 : List Ses := [⟨7, 1, 0, 1, []⟩]
def tab2 : List Ses := [⟨7, 1, 1, 2, [97]⟩]

section
variable {c o l t : Int}
def One (c o l t : Int) : Prop := may c 1 = true ∧ may o 1 = true ∧ c < 72057594037927935 ∧ may l 0 = true ∧ may t 0 = true
theorem open_one (h1 : may c 1 = true) (h2 : may o 1 = true) : sOpen [] c o = (0, 0, [newSes c o]) := by
  unfold sOpen
  rw [if_neg (by simp [h1, h2]), if_neg (by simp [whose, idx]), if_neg (by simp)]
  rfl
theorem open_none (h : ¬ (may c 1 = true ∧ may o 1 = true)) : sOpen [] c o = (0, 1, []) := by
  unfold sOpen
  rw [if_pos]
  cases h1 : may c 1
  · exact .inl rfl
  · cases h2 : may o 1
    · exact .inr rfl
    · exact absurd ⟨h1, h2⟩ h
theorem whose_one (c : Int) (x : Ses) (h : x.client = c) : whose c [x] = 0 := by simp [whose, idx, h]
theorem note_one (h1 : may l 0 = true) (h2 : may t 0 = true) : sNote [newSes c o] c l t [] = (0, [⟨c, o, l, t, []⟩]) := by
  unfold sNote
  rw [whose_one c _ rfl, if_neg (by omega), if_neg (by simp [h1, h2]), if_neg (by simp)]
  rfl
theorem note_none (h : ¬ (may l 0 = true ∧ may t 0 = true)) : sNote [newSes c o] c l t [] = (1, [newSes c o]) := by
  unfold sNote
  rw [whose_one c _ rfl, if_neg (by omega), if_pos]
  cases h1 : may l 0
  · exact .inl rfl
  · cases h2 : may t 0
    · exact .inr rfl
    · exact absurd ⟨h1, h2⟩ h
theorem look_one (x : Ses) : sLook [x] x.client = (x, true) := by
  unfold sLook
  rw [whose_one _ x rfl, if_neg (by omega)]
  rfl
theorem look_other (x : Ses) {c : Int} (h : x.client ≠ c) : sLook [x] c = (zSes, false) := by
  unfold sLook
  rw [if_pos (by simp [whose, idx, h])]

end

end Go.Proofs.YtjjiibcnknljfaaGreat
namespace Go.Cmp
open Go.RowKit
structure Act8 where
  kind : Int
  client : Int
  session : Int
  request : Int
  op : Int
  reply : List UInt8
deriving Inhabited
def Act8.Ok (x : Act8) : Prop := -9223372036854775808 ≤ x.request ∧ x.request ≤ 9223372036854775807
def Act8.cells (x : Act8) : List Value := [.int .i64 x.kind, .int .i64 x.client, .int .i64 x.session, .int .i64 x.request, .int .i64 x.op, .string ⟨x.reply.toArray⟩]
end Go.Cmp
namespace Go.Proofs.YtjjiibcnknljfaaGreat
open Go.RowKit Go.Cmp

theorem nil_open (c o : Int) (w : World) : Calls Tryz.prog 63 #[.pointer none, .int .i64 c, .int .i64 o] w fun e w' => e = .returned (.tuple #[.int .i64 0, .int .i64 2]) ∧ w' = w := by
  (go_enter Tryz.func63, Tryz.ntmps63)
  go_wp2_with (first | refine au1 (n := ?_) | (refine au2 (n := ?_); clear hS; intro w' hS) | (refine au3 (n := ?_); clear hS; intro gb w1 hS) | (refine au4 (n := ?_); clear hS; intro v1 w' hS) | ((with_reducible refine wl_guard ?_); refine stop_mem rfl rfl ?_))
  go_ret2
  exact ⟨rfl, rfl⟩
theorem nil_place8 (c : Int) (w : World) : Calls Tryz.prog 82 #[.pointer none, .int .i64 c] w fun e w' => e = .returned (.int .i64 (-1)) ∧ St [] w w' [] := by
  have hS := St.init w
  (go_enter Tryz.func82, Tryz.ntmps82)
  go_wp2_with (first | refine au1 (n := ?_) | (refine au2 (n := ?_); clear hS; intro w' hS) | (refine au3 (n := ?_); clear hS; intro gb w1 hS) | (refine au4 (n := ?_); clear hS; intro v1 w' hS) | ((with_reducible refine wl_guard ?_); refine stop_mem rfl rfl ?_))
  go_ret
  exact ⟨rfl, hS.nil⟩
theorem nil_look8 (c : Int) (w : World) : Calls Tryz.prog 49 #[.pointer none, .int .i64 c] w fun e w' => e = .returned (.tuple #[.agg #[.int .i64 0, .int .i64 0, .int .i64 0, .int .i64 0, .string ⟨#[]⟩], .bool false]) ∧ St [] w w' [] := by
  have hS := St.init w
  (go_enter Tryz.func49, Tryz.ntmps49)
  go_wp2_with (first | (go_at_call 82; refine (nil_place8 _ _).mono ?_; rintro e w' ⟨rfl, h⟩; replace hS := hS.call h; clear h) | (first | refine au1 (n := ?_) | (refine au2 (n := ?_); clear hS; intro w' hS) | (refine au3 (n := ?_); clear hS; intro gb w1 hS) | (refine au4 (n := ?_); clear hS; intro v1 w' hS) | ((with_reducible refine wl_guard ?_); refine stop_mem rfl rfl ?_)))
  exact end_cell2 hS rfl rfl rfl rfl rfl rfl (h := ⟨rfl, hS.nil⟩)
theorem nil_verdict (c s r : Int) (w : World) : Calls Tryz.prog 48 #[.pointer none, .int .i64 c, .int .i64 s, .int .i64 r] w fun e w' => e = .returned (.int .i64 5) ∧ St [] w w' [] := by
  have hS := St.init w
  (go_enter Tryz.func48, Tryz.ntmps48)
  go_wp2_with (first | (go_at_call 49; refine (nil_look8 _ _).mono ?_; rintro e w' ⟨rfl, h⟩; replace hS := hS.call h; clear h) | (first | refine au1 (n := ?_) | (refine au2 (n := ?_); clear hS; intro w' hS) | (refine au3 (n := ?_); clear hS; intro gb w1 hS) | (refine au4 (n := ?_); clear hS; intro v1 w' hS) | ((with_reducible refine wl_guard ?_); refine stop_mem rfl rfl ?_)))
  go_ret
  exact ⟨rfl, hS.nil⟩
theorem nil_note (c r o : Int) (t : List UInt8) (w : World) : Calls Tryz.prog 64 #[.pointer none, .int .i64 c, .int .i64 r, .int .i64 o, .string ⟨t.toArray⟩] w fun e w' => e = .returned (.int .i64 2) ∧ St [] w w' [] := by
  have hS := St.init w
  (go_enter Tryz.func64, Tryz.ntmps64)
  go_wp2_with (first | (go_at_call 82; refine (nil_place8 _ _).mono ?_; rintro e w' ⟨rfl, h⟩; replace hS := hS.call h; clear h) | (first | refine au1 (n := ?_) | (refine au2 (n := ?_); clear hS; intro w' hS) | (refine au3 (n := ?_); clear hS; intro gb w1 hS) | (refine au4 (n := ?_); clear hS; intro v1 w' hS) | ((with_reducible refine wl_guard ?_); refine stop_mem rfl rfl ?_)))
  go_ret
  exact ⟨rfl, hS.nil⟩
theorem nil_list (w : World) : Calls Tryz.prog 33 #[.pointer none] w fun e w' => e = .returned (.slice none 0 0) ∧ St [] w w' [] := by
  have hS := St.init w
  (go_enter Tryz.func33, Tryz.ntmps33)
  go_wp2_with (first | refine au1 (n := ?_) | (refine au2 (n := ?_); clear hS; intro w' hS) | (refine au3 (n := ?_); clear hS; intro gb w1 hS) | (refine au4 (n := ?_); clear hS; intro v1 w' hS) | ((with_reducible refine wl_guard ?_); refine stop_mem rfl rfl ?_))
  go_ret
  exact ⟨rfl, hS⟩
set_option maxHeartbeats 2000000 in
theorem nil_pack (w : World) : Calls Tryz.prog 55 #[.pointer none] w fun e w' => e = .returned (.string ⟨#[0]⟩) ∧ St [] w w' [] := by
  have hS := St.init w
  (go_enter Tryz.func55, Tryz.ntmps55)
  go_wp2_with (first | (go_at_call 33; refine (nil_list _).mono ?_; rintro e w' ⟨rfl, h⟩; replace hS := hS.call h; clear h) | ((with_reducible refine g_len ?_); refine wl_run rfl (a_len rfl rfl rfl (Rd.nil _ 5)) ?_) | (first | refine au1 (n := ?_) | (refine au2 (n := ?_); clear hS; intro w' hS) | (refine au3 (n := ?_); clear hS; intro gb w1 hS) | (refine au4 (n := ?_); clear hS; intro v1 w' hS) | ((with_reducible refine wl_guard ?_); refine stop_mem rfl rfl ?_)))
  go_loopw [4, 17] (fun b k wr => b = v1 ∧ k = .int .i64 0 ∧ St [] w wr [.vec v1 5 1 1 [.int .u8 0]]) (fun _ _ _ => 0)
  case atStart => exact ⟨rfl, rfl, hS.pick⟩
  case round =>
    clear hS
    obtain ⟨rfl, rfl, hS⟩ := hrel
    go_wp2_with (first | ((with_reducible refine g_conv ?_); refine wl_run rfl (a_toString2 (l := [0]) rfl rfl rfl rfl rfl (by exact St.rdx hS (by (repeat (first | exact Ix.here | apply Ix.there))))) ?_) | (first | refine au1 (n := ?_) | (refine au2 (n := ?_); clear hS; intro w' hS) | (refine au3 (n := ?_); clear hS; intro gb w1 hS) | (refine au4 (n := ?_); clear hS; intro v1 w' hS) | ((with_reducible refine wl_guard ?_); refine stop_mem rfl rfl ?_)))
    go_ret
    exact ⟨rfl, hS.nil⟩

end Go.Proofs.YtjjiibcnknljfaaGreat
namespace Go.Cmp
open Go.RowKit
/-- What a call says, and what is behind it. -/
def sDo (T : List Ses) (x : Act8) : Int × Int × List Ses :=
  if x.kind = 1 then sOpen T x.client x.op
  else if x.kind = 2 then (0, (sNote T x.client x.request x.op x.reply).1, (sNote T x.client x.request x.op x.reply).2)
  else (sVerdict T x.client x.session x.request, 0, T)
theorem sOpen_ok {T : List Ses} (h : SOk T) (c o : Int) : SOk (sOpen T c o).2.2 := by
  unfold sOpen
  split
  · exact h
  · split
    · exact h
    · split
      · rename_i h3
        refine ⟨?_, fun s hs => ?_⟩
        · simp only [List.length_append, List.length_singleton]
          have hl := h.len
          have hbm := best_mem T (by omega) T.length (Nat.le_refl _)
          have hb0 : 0 ≤ whose (best T T.length).client T := by
            by_cases hh : whose (best T T.length).client T < 0
            · have := idx_neg (p := fun s : Ses => decide (s.client = (best T T.length).client)) hh _ hbm
              simp at this
            · omega
          have hbr : whose (best T T.length).client T < T.length := (idx_range (p := fun s : Ses => decide (s.client = (best T T.length).client)) T).2
          rw [List.length_eraseIdx_of_lt (by omega)]
          omega
        · simp only at hs
          rcases List.mem_append.1 hs with hs | hs
          · exact h.req s (List.mem_of_mem_eraseIdx hs)
          · simp only [List.mem_singleton] at hs; subst hs; simp [newSes]
      · rename_i h3
        refine ⟨by simp only [List.length_append, List.length_singleton]; omega, fun s hs => ?_⟩
        simp only at hs
        rcases List.mem_append.1 hs with hs | hs
        · exact h.req s hs
        · simp only [List.mem_singleton] at hs; subst hs; simp [newSes]
theorem sNote_ok {T : List Ses} (h : SOk T) (c r o : Int) (t : List UInt8) : SOk (sNote T c r o t).2 := by
  unfold sNote
  split
  · exact h
  · split
    · exact h
    · rename_i hm
      split
      · exact h
      · refine ⟨by simp only [List.length_set]; exact h.len, fun s hs => ?_⟩
        simp only at hs
        rcases List.mem_or_eq_of_mem_set hs with hs | rfl
        · exact h.req s hs
        · have : may r 0 = true := by cases hh : may r 0; exact absurd (.inl hh) hm; rfl
          simpa [may] using this
theorem sDo_ok {T : List Ses} (h : SOk T) (x : Act8) : SOk (sDo T x).2.2 := by
  unfold sDo
  split
  · exact sOpen_ok h _ _
  · split
    · exact sNote_ok h _ _ _ _
    · exact h
end Go.Cmp
namespace Go.Proofs.YtjjiibcnknljfaaGreat
open Go.RowKit Go.Cmp

section
variable {S : List Nat} {w0 w : World} {M : List Ent} {g : Nat} {T : List Ses}


theorem clone_any (v : Value) (L : List Ses) (hS : St S w0 w M) (hV : Reads S w0 M 5 v L.length (L.flatMap Ses.cells)) (hl : L.length ≤ 1000) (hn : v = .slice none 0 0 ∨ ∃ g n cap, v = .slice (some ⟨g, 0, none⟩) n cap) :
    Calls Tryz.prog 66 #[v] w fun e w' => ∃ u, e = .returned u ∧ St S w0 w' (.vec u 41 5 L.length (L.flatMap Ses.cells) :: M) := by
  rcases hn with rfl | ⟨g, n, cap, rfl⟩
  · have h0 : L = [] := by
      obtain ⟨h1, p, c, h2, h3, _⟩ := hV w hS
      simp only [Value.slice.injEq] at h2
      exact List.eq_nil_of_length_eq_zero (by omega)
    subst h0
    (go_enter Tryz.func66, Tryz.ntmps66)
    go_wp2_with (first | ((with_reducible refine g_eql ?_); refine wl_run rfl (x_eqnil rfl rfl rfl rfl) ?_) | (first | refine au1 (n := ?_) | (refine au2 (n := ?_); clear hS; intro w' hS) | (refine au3 (n := ?_); clear hS; intro gb w1 hS) | (refine au4 (n := ?_); clear hS; intro v1 w' hS) | ((with_reducible refine wl_guard ?_); refine stop_mem rfl rfl ?_)))
    go_ret
    exact ⟨_, rfl, hS.addNil _ _⟩
  · have H1 : Hid (∀ u ∈ L.flatMap Ses.cells, u.oneCell' = true) := Lib.hid (by
      intro u hu
      obtain ⟨x, _, hx⟩ := List.mem_flatMap.1 hu
      exact Ses.ones x u hx)
    (go_enter Tryz.func66, Tryz.ntmps66)
    go_wp2_with (first | ((with_reducible refine g_eql ?_); refine wl_run rfl (x_eqnil rfl rfl rfl rfl) ?_) | ((with_reducible refine g_bs ?_); refine wl_of rfl ?_; refine a_build0 (k := 5) hS rfl rfl (by rfl) ?_; clear hS; intro v1 w' hS) | ((with_reducible refine g_append ?_); refine wl_of rfl ?_; refine a_append hS rfl rfl rfl rfl (by (repeat (first | exact Out.here | apply Out.there))) (by (first | exact St.rdx hS (by (repeat (first | exact Ix.here | apply Ix.there))) | exact Reads.at (by assumption) hS (by (repeat (first | exact List.Sublist.refl _ | apply List.Sublist.cons))) | exact St.old0 hS (by assumption))) (by rfl) (by rfl) (by omega) H1.out ?_; clear hS; intro v9 w9 hS hv9) | (first | refine au1 (n := ?_) | (refine au2 (n := ?_); clear hS; intro w' hS) | (refine au3 (n := ?_); clear hS; intro gb w1 hS) | (refine au4 (n := ?_); clear hS; intro v1 w' hS) | ((with_reducible refine wl_guard ?_); refine stop_mem rfl rfl ?_)))
    go_ret
    refine ⟨_, rfl, ?_⟩
    rw [Nat.zero_add, List.nil_append] at hS
    exact hS

theorem ses_list (hS : St S w0 w (ses g T :: M)) (hl : T.length ≤ 1000) : Calls Tryz.prog 33 #[.pointer (some ⟨g, 0, none⟩)] w fun e w' => ∃ u, e = .returned u ∧ St S w0 w' (.vec u 41 5 T.length (T.flatMap Ses.cells) :: ses g T :: M) := by
  (have hU := St.unpack hS; clear hS; obtain ⟨vs, _, hS⟩ := hU; simp only [List.cons_append, List.nil_append] at hS)
  have hn : vs = .slice none 0 0 ∨ ∃ g n cap, vs = .slice (some ⟨g, 0, none⟩) n cap := by
    rcases (hS.vec (i := 1) rfl).2 with ⟨h, _⟩ | ⟨g, cap, _, _, h, _⟩
    · exact .inl h
    · exact .inr ⟨g, _, cap, h⟩
  have HN := Lib.hid hn
  clear hn
  (go_enter Tryz.func33, Tryz.ntmps33)
  go_wp2_with (first | (go_at_call 66; refine (clone_any vs T hS (fun W hW => hW.rdx (by (repeat (first | exact Ix.here | apply Ix.there)))) hl HN.out).mono ?_; clear hS; rintro e w' ⟨u, rfl, hS⟩) | (first | refine au1 (n := ?_) | (refine au2 (n := ?_); clear hS; intro w' hS) | (refine au3 (n := ?_); clear hS; intro gb w1 hS) | (refine au4 (n := ?_); clear hS; intro v1 w' hS) | ((with_reducible refine wl_guard ?_); refine stop_mem rfl rfl ?_)))
  go_ret
  refine ⟨u, rfl, ?_⟩
  have hS := (St.packs vs hS : St S w0 _ (ses g T :: .vec u 41 5 T.length (T.flatMap Ses.cells) :: M))
  exact hS.pick
end
end Go.Proofs.YtjjiibcnknljfaaGreat
namespace Go.Proofs.YtjjiibcnknljfaaGreat
open Go.RowKit Go.Cmp

theorem sesEq_dec (X Y : Ses) : decide (X = Y) = (decide (X.client = Y.client) && decide (X.session = Y.session) && decide (X.request = Y.request) && decide (X.op = Y.op) && decide (X.reply = Y.reply)) := by
  obtain ⟨a1, a2, a3, a4, a5⟩ := X
  obtain ⟨b1, b2, b3, b4, b5⟩ := Y
  rw [Bool.eq_iff_iff]
  simp [and_assoc]
theorem bytes_beq' (a b : List UInt8) : ((⟨a.toArray⟩ : ByteArray).toList == (⟨b.toArray⟩ : ByteArray).toList) = decide (a = b) := by
  rw [ByteArray.toList_eq, ByteArray.toList_eq, Bool.eq_iff_iff]
  simp
theorem sesNe_op (X Y : Ses) {o : Oper} {a : Act} {w : World} {x y : Operand} {r : TypeId} (ho : o.op = .binOp .neq 41 x y r) (hx : a.eval x = .agg X.cells.toArray) (hy : a.eval y = .agg Y.cells.toArray) :
    (execOp a.eval o).run Tryz.prog w = .ok (.value (.bool (!decide (X = Y)))) w := by
  rw [sesEq_dec]
  obtain ⟨a1, a2, a3, a4, a5⟩ := X
  obtain ⟨b1, b2, b3, b4, b5⟩ := Y
  simp only [Ses.cells] at hx hy
  simp only [execOp, ho, hx, hy]
  go_simp
  by_cases h1 : a1 = b1 <;> by_cases h2 : a2 = b2 <;> by_cases h3 : a3 = b3 <;> by_cases h4 : a4 = b4 <;> by_cases h5 : a5 = b5 <;> simp [h1, h2, h3, h4, h5, bytes_beq']

section
variable {S : List Nat} {w0 w : World} {M : List Ent}
set_option maxHeartbeats 4000000 in
theorem same_any (u v : Value) (A B : List Ses) (hS : St S w0 w M) (hA : Reads S w0 M 5 u A.length (A.flatMap Ses.cells)) (hB : Reads S w0 M 5 v B.length (B.flatMap Ses.cells)) (hl : A.length ≤ 1000) :
    Calls Tryz.prog 24 #[u, v] w fun e w' => e = .returned (.bool (decide (A = B))) ∧ St S w0 w' M := by
  by_cases hlen : A.length = B.length
  · have hl1 : (A.length : Int) = B.length := by omega
    (go_enter Tryz.func24, Tryz.ntmps24)
    go_wp2_with (first | ((with_reducible refine g_len ?_); refine wl_run rfl (a_len rfl rfl rfl (hA _ hS)) ?_) | ((with_reducible refine g_len ?_); refine wl_run rfl (a_len rfl rfl rfl (hB _ hS)) ?_) | (first | refine au1 (n := ?_) | (refine au2 (n := ?_); clear hS; intro w' hS) | (refine au3 (n := ?_); clear hS; intro gb w1 hS) | (refine au4 (n := ?_); clear hS; intro v1 w' hS) | ((with_reducible refine wl_guard ?_); refine stop_mem rfl rfl ?_)))
    go_loopw [5] (fun k wr => ∃ j : Nat, j ≤ A.length ∧ k = .int .i64 j ∧ Hid (A.take j = B.take j) ∧ St S w0 wr M) (fun k _ => A.length - (intOf k).toNat)
    case atStart => exact ⟨0, by omega, rfl, Lib.hid (by simp), hS⟩
    case round =>
      clear hS
      obtain ⟨j, hj, rfl, HJ, hS⟩ := hrel
      by_cases hlt : j < A.length
      · have hlt1 : (j : Int) < A.length := by omega
        have hlt2 : (j : Int) < B.length := by omega
        have ga := get_lt (L := A) hlt
        have gb := get_lt (L := B) (j := j) (by omega)
        have hA1 := hA
        obtain ⟨x, hx⟩ : ∃ x, nth A j = x := ⟨_, rfl⟩
        obtain ⟨y, hy⟩ : ∃ y, nth B j = y := ⟨_, rfl⟩
        rw [hx] at ga
        rw [hy] at gb
        by_cases hxy : x = y
        · have HN : Hid (A.take (j + 1) = B.take (j + 1)) := Lib.hid (by rw [List.take_add_one, List.take_add_one, HJ.out, ga, gb, hxy])
          have hd : (!decide (x = y)) = false := by simp [hxy]
          go_wp2_with (first | ((with_reducible refine g_len ?_); refine wl_run rfl (a_len rfl rfl rfl (hA _ hS)) ?_) | (first | refine au1 (n := ?_) | (refine au2 (n := ?_); clear hS; intro w' hS) | (refine au3 (n := ?_); clear hS; intro gb w1 hS) | (refine au4 (n := ?_); clear hS; intro v1 w' hS) | ((with_reducible refine wl_guard ?_); refine stop_mem rfl rfl ?_)))
          refine region_calm (by kernel_rfl) (by kernel_rfl) hS ?_
          iterate 2 (refine Calm.pure rfl (h := ?_); simp only [Act.put, List.setIfInBounds_toArray, List.set_cons_zero, List.set_cons_succ])
          (refine Calm.run (v := ptrAt u (j * 5)) rfl (fun W hW => a_index (u := u) (j := (j : Int)) rfl rfl rfl rfl (hA W hW) (by rfl) (by omega) (by omega)) ?_; simp only [Act.put, List.setIfInBounds_toArray, List.set_cons_zero, List.set_cons_succ])
          (refine Calm.run (v := .agg x.cells.toArray) rfl (fun W hW => a_loadG (j := j) (vs := x.cells) rfl (hA W hW) rfl rfl rfl (by rfl) (by intro _; rfl) ga (by rfl)) ?_; simp only [Act.put, List.setIfInBounds_toArray, List.set_cons_zero, List.set_cons_succ])
          iterate 2 (refine Calm.pure rfl (h := ?_); simp only [Act.put, List.setIfInBounds_toArray, List.set_cons_zero, List.set_cons_succ])
          (refine Calm.run (v := ptrAt v (j * 5)) rfl (fun W hW => a_index (u := v) (j := (j : Int)) rfl rfl rfl rfl (hB W hW) (by rfl) (by omega) (by omega)) ?_; simp only [Act.put, List.setIfInBounds_toArray, List.set_cons_zero, List.set_cons_succ])
          (refine Calm.run (v := .agg y.cells.toArray) rfl (fun W hW => a_loadG (j := j) (vs := y.cells) rfl (hB W hW) rfl rfl rfl (by rfl) (by intro _; rfl) gb (by rfl)) ?_; simp only [Act.put, List.setIfInBounds_toArray, List.set_cons_zero, List.set_cons_succ])
          (refine Calm.run (v := .bool (!decide (x = y))) rfl (fun W hW => sesNe_op x y rfl rfl rfl) ?_; simp only [Act.put, List.setIfInBounds_toArray, List.set_cons_zero, List.set_cons_succ])
          rw [hd]
          (refine Calm.nil ?_; clear hS; intro w8 hS)
          go_wp2_with (first | refine au1 (n := ?_) | (refine au2 (n := ?_); clear hS; intro w' hS) | (refine au3 (n := ?_); clear hS; intro gb w1 hS) | (refine au4 (n := ?_); clear hS; intro v1 w' hS) | ((with_reducible refine wl_guard ?_); refine stop_mem rfl rfl ?_))
          refine ⟨⟨j + 1, by omega, by go_num, HN, hS⟩, by simp [intOf]; omega⟩
        · have hne : ¬ A = B := by
            intro e
            subst e
            apply hxy
            rw [← hx, ← hy]
          have hd : (!decide (x = y)) = true := by simp [hxy]
          have HNE := Lib.hid hne
          clear hne
          go_wp2_with (first | ((with_reducible refine g_len ?_); refine wl_run rfl (a_len rfl rfl rfl (hA _ hS)) ?_) | (first | refine au1 (n := ?_) | (refine au2 (n := ?_); clear hS; intro w' hS) | (refine au3 (n := ?_); clear hS; intro gb w1 hS) | (refine au4 (n := ?_); clear hS; intro v1 w' hS) | ((with_reducible refine wl_guard ?_); refine stop_mem rfl rfl ?_)))
          refine region_calm (by kernel_rfl) (by kernel_rfl) hS ?_
          iterate 2 (refine Calm.pure rfl (h := ?_); simp only [Act.put, List.setIfInBounds_toArray, List.set_cons_zero, List.set_cons_succ])
          (refine Calm.run (v := ptrAt u (j * 5)) rfl (fun W hW => a_index (u := u) (j := (j : Int)) rfl rfl rfl rfl (hA W hW) (by rfl) (by omega) (by omega)) ?_; simp only [Act.put, List.setIfInBounds_toArray, List.set_cons_zero, List.set_cons_succ])
          (refine Calm.run (v := .agg x.cells.toArray) rfl (fun W hW => a_loadG (j := j) (vs := x.cells) rfl (hA W hW) rfl rfl rfl (by rfl) (by intro _; rfl) ga (by rfl)) ?_; simp only [Act.put, List.setIfInBounds_toArray, List.set_cons_zero, List.set_cons_succ])
          iterate 2 (refine Calm.pure rfl (h := ?_); simp only [Act.put, List.setIfInBounds_toArray, List.set_cons_zero, List.set_cons_succ])
          (refine Calm.run (v := ptrAt v (j * 5)) rfl (fun W hW => a_index (u := v) (j := (j : Int)) rfl rfl rfl rfl (hB W hW) (by rfl) (by omega) (by omega)) ?_; simp only [Act.put, List.setIfInBounds_toArray, List.set_cons_zero, List.set_cons_succ])
          (refine Calm.run (v := .agg y.cells.toArray) rfl (fun W hW => a_loadG (j := j) (vs := y.cells) rfl (hB W hW) rfl rfl rfl (by rfl) (by intro _; rfl) gb (by rfl)) ?_; simp only [Act.put, List.setIfInBounds_toArray, List.set_cons_zero, List.set_cons_succ])
          (refine Calm.run (v := .bool (!decide (x = y))) rfl (fun W hW => sesNe_op x y rfl rfl rfl) ?_; simp only [Act.put, List.setIfInBounds_toArray, List.set_cons_zero, List.set_cons_succ])
          rw [hd]
          (refine Calm.nil ?_; clear hS; intro w8 hS)
          go_wp2_with (first | refine au1 (n := ?_) | (refine au2 (n := ?_); clear hS; intro w' hS) | (refine au3 (n := ?_); clear hS; intro gb w1 hS) | (refine au4 (n := ?_); clear hS; intro v1 w' hS) | ((with_reducible refine wl_guard ?_); refine stop_mem rfl rfl ?_))
          go_ret
          rw [decide_eq_false HNE.out]
          exact ⟨rfl, hS⟩
      · obtain rfl : j = A.length := by omega
        have he : A = B := by have := HJ.out; rw [List.take_length, hlen, List.take_length] at this; exact this
        have HE := Lib.hid he
        clear he
        go_wp2_with (first | ((with_reducible refine g_len ?_); refine wl_run rfl (a_len rfl rfl rfl (hA _ hS)) ?_) | (first | refine au1 (n := ?_) | (refine au2 (n := ?_); clear hS; intro w' hS) | (refine au3 (n := ?_); clear hS; intro gb w1 hS) | (refine au4 (n := ?_); clear hS; intro v1 w' hS) | ((with_reducible refine wl_guard ?_); refine stop_mem rfl rfl ?_)))
        go_ret
        rw [decide_eq_true HE.out]
        exact ⟨rfl, hS⟩
  · have hl1 : ¬ (A.length : Int) = B.length := by omega
    have hne : ¬ A = B := fun e => hlen (by rw [e])
    (go_enter Tryz.func24, Tryz.ntmps24)
    go_wp2_with (first | ((with_reducible refine g_len ?_); refine wl_run rfl (a_len rfl rfl rfl (hA _ hS)) ?_) | ((with_reducible refine g_len ?_); refine wl_run rfl (a_len rfl rfl rfl (hB _ hS)) ?_) | (first | refine au1 (n := ?_) | (refine au2 (n := ?_); clear hS; intro w' hS) | (refine au3 (n := ?_); clear hS; intro gb w1 hS) | (refine au4 (n := ?_); clear hS; intro v1 w' hS) | ((with_reducible refine wl_guard ?_); refine stop_mem rfl rfl ?_)))
    go_ret
    rw [decide_eq_false hne]
    exact ⟨rfl, hS⟩
end
end Go.Proofs.YtjjiibcnknljfaaGreat
namespace Go.Cmp
open Go.RowKit
structure SGood (T : List Ses) : Prop where
  ok : SOk T
  one : (T.map (·.client)).Nodup
  may : ∀ s ∈ T, 1 ≤ s.client
theorem uniq_eq : ∀ {T : List Ses}, (T.map (·.client)).Nodup → ∀ {s t : Ses}, s ∈ T → t ∈ T → s.client = t.client → s = t
  | [], _, _, _, h, _, _ => by cases h
  | x :: T, h, s, t, hs, ht, e => by
    rw [List.map_cons, List.nodup_cons] at h
    rcases List.mem_cons.1 hs with h1 | h1
    · rcases List.mem_cons.1 ht with h2 | h2
      · rw [h1, h2]
      · exact absurd (List.mem_map.2 ⟨t, h2, by rw [← e, h1]⟩) h.1
    · rcases List.mem_cons.1 ht with h2 | h2
      · exact absurd (List.mem_map.2 ⟨s, h1, by rw [e, h2]⟩) h.1
      · exact uniq_eq h.2 h1 h2 e
theorem look_uniq {T : List Ses} (h : (T.map (·.client)).Nodup) {s : Ses} (hs : s ∈ T) : sLook T s.client = (s, true) := by
  have hr := idx_range (p := fun x : Ses => decide (x.client = s.client)) T
  have hn : ¬ whose s.client T < 0 := fun h0 => by
    have := idx_neg (p := fun x : Ses => decide (x.client = s.client)) h0 s hs
    simp at this
  have hh := idx_hit (p := fun x : Ses => decide (x.client = s.client)) (l := T) (by unfold whose at hn; omega)
  have hlt : whose s.client T < T.length := hr.2
  unfold sLook
  rw [if_neg hn]
  have := uniq_eq h (nth_mem (L := T) (j := (whose s.client T).toNat) (by omega)) hs (by simpa [whose] using hh)
  rw [this]
theorem look_not {T : List Ses} {c : Int} (h : ∀ s ∈ T, s.client ≠ c) : sLook T c = (zSes, false) := by
  unfold sLook
  rw [if_pos]
  have : whose c T = -1 := idx_none (fun x hx => by simpa using h x hx)
  omega
theorem whose_not {T : List Ses} {c : Int} (h : ¬ 0 ≤ whose c T) : ∀ s ∈ T, s.client ≠ c := fun s hs => by
  have := idx_neg (p := fun x : Ses => decide (x.client = c)) (by unfold whose at h; omega) s hs
  simpa using this
theorem best_le (T : List Ses) : ∀ (j k : Nat), k < j → (best T j).op ≤ (nth T k).op
  | 0, k, h => by omega
  | j + 1, k, h => by
    have ih := best_le T j
    simp only [best]
    by_cases hk : k = j
    · subst hk; split <;> omega
    · have := ih k (by omega)
      split <;> omega
/-- Who opens. -/
theorem open_says {T : List Ses} (hT : SGood T) (c o : Int) :
    ((sOpen T c o).2.1 ≠ 0 ∧ (sOpen T c o).1 = 0 ∧ (sOpen T c o).2.2 = T) ∨
    ((sOpen T c o).2.1 = 0 ∧ 1 ≤ c ∧ (∀ s ∈ T, s.client ≠ c) ∧
      ((T.length < 3 ∧ (sOpen T c o).1 = 0 ∧ (sOpen T c o).2.2 = T ++ [newSes c o]) ∨
       (T.length = 3 ∧ ∃ p, p < 3 ∧ (sOpen T c o).1 = (nth T p).client ∧ (sOpen T c o).2.2 = T.eraseIdx p ++ [newSes c o] ∧ ∀ k, k < 3 → (nth T p).op ≤ (nth T k).op))) := by
  have hl := hT.ok.len
  unfold sOpen
  split
  · exact .inl ⟨by simp, rfl, rfl⟩
  · rename_i hm
    have hc : may c 1 = true := by cases h : may c 1; exact absurd (.inl h) hm; rfl
    have hc1 : 1 ≤ c := by simp [Cmp.may] at hc; omega
    split
    · exact .inl ⟨by simp, rfl, rfl⟩
    · rename_i hw
      refine .inr ?_
      have hnot := whose_not hw
      split
      · rename_i h3
        have h33 : T.length = 3 := by omega
        have hbm := best_mem T (by omega) T.length (Nat.le_refl _)
        have hb0 : 0 ≤ whose (best T T.length).client T := by
          by_cases hh : whose (best T T.length).client T < 0
          · have := idx_neg (p := fun s : Ses => decide (s.client = (best T T.length).client)) hh _ hbm
            simp at this
          · omega
        have hbr : whose (best T T.length).client T < T.length := (idx_range (p := fun s : Ses => decide (s.client = (best T T.length).client)) T).2
        have hh := idx_hit (p := fun x : Ses => decide (x.client = (best T T.length).client)) (l := T) (by unfold whose at hb0; exact hb0)
        have he := uniq_eq hT.one (nth_mem (L := T) (j := (whose (best T T.length).client T).toNat) (by omega)) hbm (by simpa [whose] using hh)
        refine ⟨rfl, hc1, hnot, .inr ⟨h33, (whose (best T T.length).client T).toNat, by omega, by rw [he], rfl, fun k hk => ?_⟩⟩
        rw [he]
        exact best_le T T.length k (by omega)
      · exact ⟨rfl, hc1, hnot, .inl ⟨by omega, rfl, rfl⟩⟩
theorem open_good {T : List Ses} (hT : SGood T) (c o : Int) : SGood (sOpen T c o).2.2 := by
  refine ⟨sOpen_ok hT.ok c o, ?_, ?_⟩
  · rcases open_says hT c o with ⟨_, _, e⟩ | ⟨_, h1, hn, ⟨_, _, e⟩ | ⟨_, p, _, _, e, _⟩⟩
    · rw [e]; exact hT.one
    · rw [e, List.map_append, List.nodup_append]
      refine ⟨hT.one, by simp, fun a ha b hb => ?_⟩
      obtain ⟨s, hs, rfl⟩ := List.mem_map.1 ha
      simp [newSes] at hb
      subst hb
      exact hn s hs
    · rw [e, List.map_append, List.nodup_append]
      refine ⟨hT.one.sublist ((List.eraseIdx_sublist T p).map _), by simp, fun a ha b hb => ?_⟩
      obtain ⟨s, hs, rfl⟩ := List.mem_map.1 ha
      simp [newSes] at hb
      subst hb
      exact hn s (List.mem_of_mem_eraseIdx hs)
  · rcases open_says hT c o with ⟨_, _, e⟩ | ⟨_, h1, hn, ⟨_, _, e⟩ | ⟨_, p, _, _, e, _⟩⟩
    · rw [e]; exact hT.may
    · rw [e]
      intro s hs
      rcases List.mem_append.1 hs with hs | hs
      · exact hT.may s hs
      · simp only [List.mem_singleton] at hs; subst hs; exact h1
    · rw [e]
      intro s hs
      rcases List.mem_append.1 hs with hs | hs
      · exact hT.may s (List.mem_of_mem_eraseIdx hs)
      · simp only [List.mem_singleton] at hs; subst hs; exact h1
theorem note_clients (T : List Ses) (c r o : Int) (t : List UInt8) : (sNote T c r o t).2.map (·.client) = T.map (·.client) := by
  have hr : whose c T < T.length := (idx_range (p := fun s : Ses => decide (s.client = c)) T).2
  unfold sNote
  split
  · rfl
  · split
    · rfl
    · split
      · rfl
      · simp only
        rw [List.map_set]
        apply List.ext_getElem?
        intro i
        rw [List.getElem?_set]
        split
        · rename_i e
          subst e
          have h1 : (whose c T).toNat < T.length := by omega
          rw [List.getElem?_map, get_lt h1]
          simp [h1]
        · rfl
theorem note_good {T : List Ses} (hT : SGood T) (c r o : Int) (t : List UInt8) : SGood (sNote T c r o t).2 := by
  have e := note_clients T c r o t
  refine ⟨sNote_ok hT.ok c r o t, by rw [e]; exact hT.one, fun s hs => ?_⟩
  have hs2 : s.client ∈ (sNote T c r o t).2.map (·.client) := List.mem_map.2 ⟨s, hs, rfl⟩
  rw [e] at hs2
  obtain ⟨u, hu, hue⟩ := List.mem_map.1 hs2
  rw [← hue]
  exact hT.may u hu
theorem do_good {T : List Ses} (h : SGood T) (x : Act8) : SGood (sDo T x).2.2 := by
  unfold sDo
  split
  · exact open_good h _ _
  · split
    · exact note_good h _ _ _ _
    · exact h
theorem few_says {T : List Ses} (hT : SGood T) (c o : Int) (he : (sOpen T c o).2.1 = 0) :
    (∀ s ∈ T, s.client = (sOpen T c o).1 → sLook (sOpen T c o).2.2 s.client = (zSes, false) ∧ T.length = 3 ∧ ∀ k, k < T.length → s.op ≤ (nth T k).op) ∧
    (∀ s ∈ T, s.client ≠ (sOpen T c o).1 → sLook (sOpen T c o).2.2 s.client = (s, true)) ∧
    sLook (sOpen T c o).2.2 c = (newSes c o, true) ∧ (decide ((sOpen T c o).1 ≠ 0) = decide (T.length = 3)) := by
  have hg := open_good hT c o
  rcases open_says hT c o with ⟨h, _⟩ | ⟨_, h1, hn, ⟨h3, e1, e2⟩ | ⟨h3, p, hp, e1, e2, e3⟩⟩
  · exact absurd he h
  · have hnew : newSes c o ∈ (sOpen T c o).2.2 := by rw [e2]; simp
    have hlk := look_uniq hg.one hnew
    refine ⟨fun s hs hc => ?_, fun s hs _ => look_uniq hg.one (by rw [e2]; simp [hs]), hlk, by rw [e1]; simp; omega⟩
    rw [e1] at hc
    have := hT.may s hs
    omega
  · have hnew : newSes c o ∈ (sOpen T c o).2.2 := by rw [e2]; simp
    have hlk := look_uniq hg.one hnew
    have hpl : p < T.length := by omega
    have hgp : T[p] = nth T p := by have := get_lt hpl; rw [List.getElem?_eq_getElem hpl] at this; simpa using this
    have hperm := cons_eraseIdx_perm T p hpl
    have hpn : ∀ x ∈ T.eraseIdx p, x.client ≠ (nth T p).client := by
      have h := ((hperm.map (·.client)).nodup_iff).2 hT.one
      rw [List.map_cons, List.nodup_cons, hgp] at h
      intro x hx hxc
      exact h.1 (List.mem_map.2 ⟨x, hx, hxc⟩)
    have hmp := nth_mem hpl
    refine ⟨fun s hs hc => ?_, fun s hs hc => ?_, hlk, ?_⟩
    · rw [e1] at hc
      have hsp := uniq_eq hT.one hs hmp hc
      refine ⟨look_not fun x hx => ?_, h3, fun k hk => by rw [hsp]; exact e3 k (by omega)⟩
      rw [e2] at hx
      rcases List.mem_append.1 hx with hx | hx
      · rw [hsp]; exact hpn x hx
      · simp only [List.mem_singleton] at hx
        subst hx
        exact fun h => hn s hs h.symm
    · rw [e1] at hc
      refine look_uniq hg.one ?_
      rw [e2]
      refine List.mem_append.2 (.inl ?_)
      have := (hperm.mem_iff (a := s)).2 hs
      rw [hgp] at this
      rcases List.mem_cons.1 this with h | h
      · exact absurd (by rw [h]) hc
      · exact h
    · rw [e1, h3]
      have := hT.may _ hmp
      simp
      omega
end Go.Cmp
