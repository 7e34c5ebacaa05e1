/-
  The bytes of sessions: what they are; the program's Pack.
  The bytes of sessions: the document's Pack.
-/
import Derived.Test.YtjjiibcnknljfaaGreatSesR
import Derived.Test.YtjjiibcnknljfaaGreatCodec
set_option linter.unusedSimpArgs false
set_option linter.unusedVariables false
set_option linter.unusedSectionVars false
set_option maxRecDepth 100000
namespace Go.Cmp
open Go.RowKit
/-- A number that a session may have. -/
def Fit (n : Int) : Prop := 0 ≤ n ∧ n ≤ 72057594037927935
structure Ses.Fits (x : Ses) : Prop where
  client : Fit x.client
  session : Fit x.session
  request : Fit x.request
  op : Fit x.op
  reply : x.reply.length ≤ 200
def SFit (T : List Ses) : Prop := ∀ x ∈ T, x.Fits
theorem may_fit {n l : Int} (hl : 0 ≤ l) (h : may n l = true) : Fit n := by simp [may] at h; exact ⟨by omega, by omega⟩
theorem sOpen_fit {T : List Ses} (h : SFit T) (c o : Int) : SFit (sOpen T c o).2.2 := by
  unfold sOpen
  split
  · exact h
  · rename_i hm
    have h1 : may c 1 = true := by cases hh : may c 1; exact absurd (.inl hh) hm; rfl
    have h2 : may o 1 = true := by cases hh : may o 1; exact absurd (.inr hh) hm; rfl
    have hn : (newSes c o).Fits := ⟨may_fit (by omega) h1, may_fit (by omega) h2, ⟨by simp [newSes], by simp [newSes]⟩, may_fit (by omega) h2, by simp [newSes]⟩
    split
    · exact h
    · split
      · intro x hx
        rcases List.mem_append.1 hx with hx | hx
        · exact h x (List.mem_of_mem_eraseIdx hx)
        · simp only [List.mem_singleton] at hx; subst hx; exact hn
      · intro x hx
        rcases List.mem_append.1 hx with hx | hx
        · exact h x hx
        · simp only [List.mem_singleton] at hx; subst hx; exact hn
theorem sNote_fit {T : List Ses} (h : SFit T) (c r o : Int) (t : List UInt8) : SFit (sNote T c r o t).2 := by
  unfold sNote
  split
  · exact h
  · rename_i hw
    split
    · exact h
    · rename_i hm
      split
      · exact h
      · rename_i ht
        intro x hx
        simp only at hx
        rcases List.mem_or_eq_of_mem_set hx with hx | rfl
        · exact h x hx
        · have h1 : may r 0 = true := by cases hh : may r 0; exact absurd (.inl hh) hm; rfl
          have h2 : may o 0 = true := by cases hh : may o 0; exact absurd (.inr hh) hm; rfl
          have hr := (idx_range (p := fun s : Ses => decide (s.client = c)) T).2
          have hl : (whose c T).toNat < T.length := by
            have : whose c T < T.length := hr
            omega
          have hy := h _ (nth_mem hl)
          exact ⟨hy.client, hy.session, may_fit (by omega) h1, may_fit (by omega) h2, by simp only; omega⟩
theorem sDo_fit {T : List Ses} (h : SFit T) (x : Act8) : SFit (sDo T x).2.2 := by
  unfold sDo
  split
  · exact sOpen_fit h _ _
  · split
    · exact sNote_fit h _ _ _ _
    · exact h
/-- A session's bytes; all bytes. -/
def sFour (x : Ses) : List UInt8 := leB 8 x.client.toNat ++ leB 8 x.session.toNat ++ leB 8 x.request.toNat ++ leB 8 x.op.toNat
def sBytes (x : Ses) : List UInt8 := sFour x ++ txt x.reply
def sPack (T : List Ses) : List UInt8 := [UInt8.ofNat T.length] ++ T.flatMap sBytes
theorem sFour_length (x : Ses) : (sFour x).length = 32 := by unfold sFour; simp only [List.length_append, leB_length]
theorem sBytes_length (x : Ses) : (sBytes x).length = 34 + x.reply.length := by unfold sBytes; rw [List.length_append, sFour_length, txt_length]; omega
theorem sBytes_le {T : List Ses} (h : SFit T) : ∀ j, j ≤ T.length → ((T.take j).flatMap sBytes).length ≤ 234 * j
  | 0, _ => by simp
  | j + 1, hj => by
    have h1 := sBytes_le h j (by omega)
    have h2 := (h _ (nth_mem (show j < T.length by omega))).reply
    have h3 := sBytes_length (nth T j)
    rw [take_nth (by omega), List.flatMap_append, List.length_append]
    simp only [List.flatMap_cons, List.flatMap_nil, List.append_nil]
    omega
end Go.Cmp
namespace Go.Proofs.YtjjiibcnknljfaaGreat
open Go.RowKit Go.Cmp

section
variable {S : List Nat} {w0 w : World} {M : List Ent} {g : Nat} {T : List Ses}

theorem ses_numbers (hS : St S w0 w M) (g : Nat) : Calls Tryz.prog 85 #[.pointer (some ⟨g, 0, none⟩)] w fun e w' => e = .returned (.agg #[.pointer (some ⟨g, 0, none⟩), .pointer (some ⟨g, 1, none⟩), .pointer (some ⟨g, 2, none⟩), .pointer (some ⟨g, 3, none⟩)]) ∧ St S w0 w' M := by
  (go_enter Tryz.func85, Tryz.ntmps85)
  go_wp2_with (first | refine au1 (n := ?_) | (refine au2 (n := ?_); clear hS; intro w' hS) | (refine au3 (n := ?_); clear hS; intro gb w1 hS) | (refine au4 (n := ?_); clear hS; intro v1 w' hS) | ((with_reducible refine wl_guard ?_); refine stop_mem rfl rfl ?_))
  (refine wp_region_tail 13 (by kernel_rfl) (by kernel_rfl) hS ?_; clear hS; intro w' hS; simp only [List.take_succ_cons, List.take_zero, List.drop_succ_cons, List.drop_zero]; ((repeat (first | ((with_reducible refine s_load ?_); refine z_read rfl (h := ?_); simp only [Act.put, List.setIfInBounds_toArray, List.set_cons_zero, List.set_cons_succ]) | ((with_reducible refine s_index ?_); refine z_idx rfl (h := ?_); simp only [Act.put, List.setIfInBounds_toArray, List.set_cons_zero, List.set_cons_succ]) | ((with_reducible refine s_field ?_); refine z_fld rfl (h := ?_); simp only [Act.put, List.setIfInBounds_toArray, List.set_cons_zero, List.set_cons_succ]) | ((with_reducible refine s_len ?_); refine z_len rfl (h := ?_); simp only [Act.put, List.setIfInBounds_toArray, List.set_cons_zero, List.set_cons_succ]) | ((with_reducible refine s_cut ?_); refine z_str rfl (h := ?_); simp only [Act.put, List.setIfInBounds_toArray, List.set_cons_zero, List.set_cons_succ]) | ((with_reducible refine s_indexV ?_); refine z_six rfl (h := ?_); simp only [Act.put, List.setIfInBounds_toArray, List.set_cons_zero, List.set_cons_succ]) | ((with_reducible refine s_bin ?_); refine z_cat rfl (h := ?_); simp only [Act.put, List.setIfInBounds_toArray, List.set_cons_zero, List.set_cons_succ]) | ((with_reducible refine s_conv ?_); refine z_tos rfl (h := ?_); simp only [Act.put, List.setIfInBounds_toArray, List.set_cons_zero, List.set_cons_succ]) | still_step)); refine wpStill_nil ?_))
  go_wp2_with (first | refine au1 (n := ?_) | (refine au2 (n := ?_); clear hS; intro w' hS) | (refine au3 (n := ?_); clear hS; intro gb w1 hS) | (refine au4 (n := ?_); clear hS; intro v1 w' hS) | ((with_reducible refine wl_guard ?_); refine stop_mem rfl rfl ?_))
  exact end_cell1 hS rfl rfl rfl rfl rfl (h := ⟨rfl, hS.tail⟩)

/-- 'num.Put' of a number of a session, behind bytes of one's own. -/
theorem put8 {v : Value} {l : List UInt8} (hS : St S w0 w (.vec v 5 1 l.length (l.flatMap byt) :: M)) (x : Int) (hx : Fit x) (hl : l.length ≤ 100000000) :
    Calls Tryz.prog 53 #[v, .int .u64 x, .int .i64 8] w fun e w' => ∃ v', e = .returned (.tuple #[v', .int .i64 0]) ∧ St S w0 w' (.vec v' 5 1 (l ++ leB 8 x.toNat).length ((l ++ leB 8 x.toNat).flatMap byt) :: M) := by
  have h := num_put (v := v) (l := l) hS x 8 (by omega) (by omega) hx.1 (by have := hx.2; omega) (by omega) (hS.rdx (by (repeat (first | exact Ix.here | apply Ix.there))))
  refine h.mono ?_
  rintro e w' ⟨v', rfl, hS⟩
  exact ⟨v', rfl, hS.pick⟩
theorem putT {v : Value} {l : List UInt8} (hS : St S w0 w (.vec v 5 1 l.length (l.flatMap byt) :: M)) (t : List UInt8) (ht : t.length ≤ 200) (hl : l.length ≤ 100000000) :
    Calls Tryz.prog 54 #[v, .string ⟨t.toArray⟩] w fun e w' => ∃ v', e = .returned (.tuple #[v', .int .i64 0]) ∧ St S w0 w' (.vec v' 5 1 (l ++ txt t).length ((l ++ txt t).flatMap byt) :: M) := by
  have h := num_putText (v := v) (l := l) hS t (by omega) (by omega) (fun W hW => hW.rdx (by (repeat (first | exact Ix.here | apply Ix.there))))
  refine h.mono ?_
  rintro e w' ⟨v', rfl, hS⟩
  exact ⟨v', rfl, hS.pick⟩

set_option maxRecDepth 100000 in
set_option maxHeartbeats 8000000 in
theorem ses_pack (hS : St S w0 w (ses g T :: M)) (hl : T.length ≤ 3) (hf : SFit T) :
    Calls Tryz.prog 55 #[.pointer (some ⟨g, 0, none⟩)] w fun e w' => e = .returned (.string ⟨(sPack T).toArray⟩) ∧ St S w0 w' (ses g T :: M) := by
  have HL := Lib.hid (fun (w : World) (M : List Ent) (hS : St S w0 w (ses g T :: M)) => ses_list hS (show T.length ≤ 1000 by omega))
  have HF := Lib.hid hf
  clear hf
  have hl1 : (T.length : Int) ≤ 3 := by omega
  (go_enter Tryz.func55, Tryz.ntmps55)
  go_wp2_with (first | (go_at_call 33; refine (HL.out _ _ (hS.out (by (repeat (first | exact Out.here | apply Out.there))))).mono ?_; clear hS; rintro e w' ⟨u, rfl, hS⟩) | (first | refine au1 (n := ?_) | (refine au2 (n := ?_); clear hS; intro w' hS) | (refine au3 (n := ?_); clear hS; intro gb w1 hS) | (refine au4 (n := ?_); clear hS; intro v1 w' hS) | ((with_reducible refine wl_guard ?_); refine stop_mem rfl rfl ?_)))
  have e1 : [Value.int .u8 (T.length : Int)] = ([UInt8.ofNat T.length] ++ (T.take 0).flatMap sBytes).flatMap byt := by simp [byt]; omega
  rw [e1] at hS
  replace hS : St S w0 w' (.vec v1 5 1 ([UInt8.ofNat T.length] ++ (T.take 0).flatMap sBytes).length (([UInt8.ofNat T.length] ++ (T.take 0).flatMap sBytes).flatMap byt) :: .vec u 41 5 T.length (T.flatMap Ses.cells) :: ses g T :: M) := by simpa using hS
  clear e1
  go_loopw [4, 17] (fun b k wr => ∃ (j : Nat), j ≤ T.length ∧ k = .int .i64 j ∧ St S w0 wr (.vec b 5 1 ([UInt8.ofNat T.length] ++ (T.take j).flatMap sBytes).length (([UInt8.ofNat T.length] ++ (T.take j).flatMap sBytes).flatMap byt) :: .vec u 41 5 T.length (T.flatMap Ses.cells) :: ses g T :: M)) (fun _ k _ => T.length - (intOf k).toNat)
  case atStart => exact ⟨0, by omega, rfl, hS⟩
  case round =>
    clear hS
    obtain ⟨j, hj, rfl, hS⟩ := hrel
    by_cases hlt : j < T.length
    · have hlt1 : (j : Int) < T.length := by omega
      have hget := get_lt (L := T) hlt
      have hx := HF.out _ (nth_mem hlt)
      have hle := sBytes_le HF.out j hj
      have hn := take_nth hlt
      have HN := Lib.hid hn
      obtain ⟨x, hX⟩ : ∃ X, nth T j = X := ⟨_, rfl⟩
      rw [hX] at hget hx HN
      obtain ⟨acc, hacc⟩ : ∃ acc, (T.take j).flatMap sBytes = acc := ⟨_, rfl⟩
      have HE : Hid ((T.take (j + 1)).flatMap sBytes = acc ++ sBytes x) := Lib.hid (by rw [HN.out, List.flatMap_append, hacc]; simp)
      rw [hacc] at hS hle
      clear hX hn hacc HN
      obtain ⟨pre, hpre⟩ : ∃ pre, [UInt8.ofNat T.length] ++ acc = pre := ⟨_, rfl⟩
      have hpl : pre.length ≤ 10000 := by rw [← hpre]; simp; omega
      rw [hpre] at hS
      have HPRE := Lib.hid hpre
      clear hpre hle
      obtain ⟨f1, f2, f3, f4, f5⟩ := hx
      obtain ⟨ca, cb, cc, cd, ce⟩ := x
      simp only at f1 f2 f3 f4 f5
      have F1 := Lib.hid f1
      have F2 := Lib.hid f2
      have F3 := Lib.hid f3
      have F4 := Lib.hid f4
      obtain ⟨a1, a2⟩ := f1
      obtain ⟨b1, b2⟩ := f2
      obtain ⟨c1, c2⟩ := f3
      obtain ⟨d1, d2⟩ := f4
      go_wp2_with (first | (go_at_call 85; refine (ses_numbers hS _).mono ?_; clear hS; rintro e w' ⟨rfl, hS⟩) | (first | refine au1 (n := ?_) | (refine au2 (n := ?_); clear hS; intro w' hS) | (refine au3 (n := ?_); clear hS; intro gb w1 hS) | (refine au4 (n := ?_); clear hS; intro v1 w' hS) | ((with_reducible refine wl_guard ?_); refine stop_mem rfl rfl ?_)))
      obtain ⟨gs, rfl⟩ : ∃ gs, gs = gb := ⟨_, rfl⟩
      obtain ⟨part, hpart⟩ : ∃ part : Nat → List UInt8, part = fun i => ([ca.toNat, cb.toNat, cc.toNat, cd.toNat].take i).flatMap (leB 8) := ⟨_, rfl⟩
      have p0 : part 0 = [] := by rw [hpart]; rfl
      have p1 : part 1 = part 0 ++ leB 8 ca.toNat := by rw [hpart]; simp
      have p2 : part 2 = part 1 ++ leB 8 cb.toNat := by rw [hpart]; simp
      have p3 : part 3 = part 2 ++ leB 8 cc.toNat := by rw [hpart]; simp
      have p4 : part 4 = part 3 ++ leB 8 cd.toNat := by rw [hpart]; simp
      have hp4 : part 4 = sFour ⟨ca, cb, cc, cd, ce⟩ := by rw [p4, p3, p2, p1, p0]; simp [sFour]
      have hplen : ∀ i, (part i).length ≤ 32 := by
        intro i
        rw [hpart]
        simp only [flatMap_leB_length, List.length_take, List.length_cons, List.length_nil]
        omega
      have hs0 : pre = pre ++ part 0 := by rw [p0, List.append_nil]
      rw [hs0] at hS
      have P1 := Lib.hid p1
      have P2 := Lib.hid p2
      have P3 := Lib.hid p3
      have P4 := Lib.hid p4
      have HP4 := Lib.hid hp4
      have HPL := Lib.hid hplen
      clear hpart p0 p1 p2 p3 p4 hp4 hs0 hplen
      go_loopw [4, 22] (fun b k wr => ∃ i : Nat, i ≤ 4 ∧ k = .int .i64 i ∧ St S w0 wr (.vec b 5 1 (pre ++ part i).length ((pre ++ part i).flatMap byt) :: .row gs [.int .i64 ca, .int .i64 cb, .int .i64 cc, .int .i64 cd, .string ⟨ce.toArray⟩] 41 (0, 0) :: .vec u 41 5 T.length (T.flatMap Ses.cells) :: ses g T :: M)) (fun _ k _ => 4 - (intOf k).toNat)
      case atStart => exact ⟨0, by omega, rfl, hS.pick⟩
      case round =>
        clear hS
        obtain ⟨i, hi, rfl, hS⟩ := hrel
        by_cases hi4 : i < 4
        · have hal : (pre ++ part i).length ≤ 100000000 := by have := HPL.out i; rw [List.length_append]; omega
          have hi41 : (i : Int) < 4 := by omega
          obtain ⟨A, hA⟩ : ∃ A, pre ++ part i = A := ⟨_, rfl⟩
          rw [hA] at hS hal
          have HA := Lib.hid hA
          clear hA
          rcases (show i = 0 ∨ i = 1 ∨ i = 2 ∨ i = 3 by omega) with rfl | rfl | rfl | rfl
          · go_wp2_with (first | (go_at_call 53; refine (put8 (hS.out (by (repeat (first | exact Out.here | apply Out.there)))) _ F1.out hal).mono ?_; clear hS; rintro e w' ⟨v', rfl, hS⟩) | ((with_reducible refine g_indexV ?_); refine wl_run rfl (x_indexA rfl rfl rfl rfl rfl rfl rfl rfl (by omega) (by omega) (by rfl)) ?_) | (first | refine au1 (n := ?_) | (refine au2 (n := ?_); clear hS; intro w' hS) | (refine au3 (n := ?_); clear hS; intro gb w1 hS) | (refine au4 (n := ?_); clear hS; intro v1 w' hS) | ((with_reducible refine wl_guard ?_); refine stop_mem rfl rfl ?_)))
            refine ⟨⟨1, by omega, by go_num, by rw [P1.out, ← List.append_assoc, HA.out]; exact hS.pick⟩, by simp [intOf]⟩
          · go_wp2_with (first | (go_at_call 53; refine (put8 (hS.out (by (repeat (first | exact Out.here | apply Out.there)))) _ F2.out hal).mono ?_; clear hS; rintro e w' ⟨v', rfl, hS⟩) | ((with_reducible refine g_indexV ?_); refine wl_run rfl (x_indexA rfl rfl rfl rfl rfl rfl rfl rfl (by omega) (by omega) (by rfl)) ?_) | (first | refine au1 (n := ?_) | (refine au2 (n := ?_); clear hS; intro w' hS) | (refine au3 (n := ?_); clear hS; intro gb w1 hS) | (refine au4 (n := ?_); clear hS; intro v1 w' hS) | ((with_reducible refine wl_guard ?_); refine stop_mem rfl rfl ?_)))
            refine ⟨⟨2, by omega, by go_num, by rw [P2.out, ← List.append_assoc, HA.out]; exact hS.pick⟩, by simp [intOf]⟩
          · go_wp2_with (first | (go_at_call 53; refine (put8 (hS.out (by (repeat (first | exact Out.here | apply Out.there)))) _ F3.out hal).mono ?_; clear hS; rintro e w' ⟨v', rfl, hS⟩) | ((with_reducible refine g_indexV ?_); refine wl_run rfl (x_indexA rfl rfl rfl rfl rfl rfl rfl rfl (by omega) (by omega) (by rfl)) ?_) | (first | refine au1 (n := ?_) | (refine au2 (n := ?_); clear hS; intro w' hS) | (refine au3 (n := ?_); clear hS; intro gb w1 hS) | (refine au4 (n := ?_); clear hS; intro v1 w' hS) | ((with_reducible refine wl_guard ?_); refine stop_mem rfl rfl ?_)))
            refine ⟨⟨3, by omega, by go_num, by rw [P3.out, ← List.append_assoc, HA.out]; exact hS.pick⟩, by simp [intOf]⟩
          · go_wp2_with (first | (go_at_call 53; refine (put8 (hS.out (by (repeat (first | exact Out.here | apply Out.there)))) _ F4.out hal).mono ?_; clear hS; rintro e w' ⟨v', rfl, hS⟩) | ((with_reducible refine g_indexV ?_); refine wl_run rfl (x_indexA rfl rfl rfl rfl rfl rfl rfl rfl (by omega) (by omega) (by rfl)) ?_) | (first | refine au1 (n := ?_) | (refine au2 (n := ?_); clear hS; intro w' hS) | (refine au3 (n := ?_); clear hS; intro gb w1 hS) | (refine au4 (n := ?_); clear hS; intro v1 w' hS) | ((with_reducible refine wl_guard ?_); refine stop_mem rfl rfl ?_)))
            refine ⟨⟨4, by omega, by go_num, by rw [P4.out, ← List.append_assoc, HA.out]; exact hS.pick⟩, by simp [intOf]⟩
        · obtain rfl : i = 4 := by omega
          rw [HP4.out] at hS
          have hal : (pre ++ sFour ⟨ca, cb, cc, cd, ce⟩).length ≤ 100000000 := by rw [List.length_append, sFour_length]; omega
          go_wp2_with (first | (go_at_call 54; refine (putT (hS.out (by (repeat (first | exact Out.here | apply Out.there)))) _ f5 hal).mono ?_; clear hS; rintro e w' ⟨v', rfl, hS⟩) | (first | refine au1 (n := ?_) | (refine au2 (n := ?_); clear hS; intro w' hS) | (refine au3 (n := ?_); clear hS; intro gb w1 hS) | (refine au4 (n := ?_); clear hS; intro v1 w' hS) | ((with_reducible refine wl_guard ?_); refine stop_mem rfl rfl ?_)))
          refine ⟨⟨j + 1, by omega, by go_num, ?_⟩, by simp [intOf]; omega⟩
          rw [HE.out, ← List.append_assoc, HPRE.out]
          unfold sBytes
          rw [← List.append_assoc]
          exact hS.pick
    · obtain rfl : j = T.length := by omega
      rw [List.take_length] at hS
      go_wp2_with (first | ((with_reducible refine g_conv ?_); refine wl_run rfl (a_toString2 (l := sPack T) rfl rfl rfl rfl rfl (by exact St.rdx hS (by (repeat (first | exact Ix.here | apply Ix.there))))) ?_) | (first | refine au1 (n := ?_) | (refine au2 (n := ?_); clear hS; intro w' hS) | (refine au3 (n := ?_); clear hS; intro gb w1 hS) | (refine au4 (n := ?_); clear hS; intro v1 w' hS) | ((with_reducible refine wl_guard ?_); refine stop_mem rfl rfl ?_)))
      go_ret
      exact ⟨rfl, hS.pick⟩
end
end Go.Proofs.YtjjiibcnknljfaaGreat
namespace Go.Proofs.YtjjiibcnknljfaaGreat
open Go.RowKit Go.Cmp

section
variable {S : List Nat} {w0 w : World} {M : List Ent} {g : Nat} {T : List Ses}

theorem u64_id {x : Int} (h0 : 0 ≤ x) (h1 : x ≤ 72057594037927935) : IntKind.u64.wrap x = x := by
  simp only [IntKind.wrap, IntKind.bits, IntKind.signed]
  simp
  omega
theorem rputT {v : Value} {l : List UInt8} (hS : St S w0 w (.vec v 5 1 l.length (l.flatMap byt) :: M)) (t : List UInt8) (ht : t.length ≤ 200) (hl : l.length ≤ 100000000) :
    Calls Tryz.prog 58 #[v, .string ⟨t.toArray⟩] w fun e w' => ∃ v', e = .returned (.tuple #[v', .int .i64 0]) ∧ St S w0 w' (.vec v' 5 1 (l ++ txt t).length ((l ++ txt t).flatMap byt) :: M) := by
  have h := ref_putText (v := v) (l := l) hS t (by omega) (by omega) (fun W hW => hW.rdx (by (repeat (first | exact Ix.here | apply Ix.there))))
  refine h.mono ?_
  rintro e w' ⟨v', rfl, hS⟩
  exact ⟨v', rfl, hS.pick⟩

set_option maxRecDepth 100000 in
set_option maxHeartbeats 8000000 in
theorem rses_packO {vs : Value} (hS : St S w0 w (.row g [vs] 65 (0, 0) :: .vec vs 41 5 T.length (T.flatMap Ses.cells) :: M)) (hl : T.length ≤ 3) (hf : SFit T) :
    Calls Tryz.prog 59 #[.pointer (some ⟨g, 0, none⟩)] w fun e w' => e = .returned (.string ⟨(sPack T).toArray⟩) ∧ St S w0 w' (.row g [vs] 65 (0, 0) :: .vec vs 41 5 T.length (T.flatMap Ses.cells) :: M) := by
  have HF := Lib.hid hf
  clear hf
  have hl1 : (T.length : Int) ≤ 3 := by omega
  (go_enter Tryz.func59, Tryz.ntmps59)
  go_wp2_with (first | refine au1 (n := ?_) | (refine au2 (n := ?_); clear hS; intro w' hS) | (refine au3 (n := ?_); clear hS; intro gb w1 hS) | (refine au4 (n := ?_); clear hS; intro v1 w' hS) | ((with_reducible refine wl_guard ?_); refine stop_mem rfl rfl ?_))
  have e1 : [Value.int .u8 (T.length : Int)] = ([UInt8.ofNat T.length] ++ (T.take 0).flatMap sBytes).flatMap byt := by simp [byt]; omega
  rw [e1] at hS
  replace hS : St S w0 w' (.vec v1 5 1 ([UInt8.ofNat T.length] ++ (T.take 0).flatMap sBytes).length (([UInt8.ofNat T.length] ++ (T.take 0).flatMap sBytes).flatMap byt) :: .row g [vs] 65 (0, 0) :: .vec vs 41 5 T.length (T.flatMap Ses.cells) :: M) := by simpa using hS
  clear e1
  go_loopw [3, 4] (fun b k wr => ∃ (j : Nat), j ≤ T.length ∧ k = .int .i64 j ∧ St S w0 wr (.vec b 5 1 ([UInt8.ofNat T.length] ++ (T.take j).flatMap sBytes).length (([UInt8.ofNat T.length] ++ (T.take j).flatMap sBytes).flatMap byt) :: .row g [vs] 65 (0, 0) :: .vec vs 41 5 T.length (T.flatMap Ses.cells) :: M)) (fun _ k _ => T.length - (intOf k).toNat)
  case atStart => exact ⟨0, by omega, rfl, hS⟩
  case round =>
    clear hS
    obtain ⟨j, hj, rfl, hS⟩ := hrel
    by_cases hlt : j < T.length
    · have hlt1 : (j : Int) < T.length := by omega
      have hget := get_lt (L := T) hlt
      have hx := HF.out _ (nth_mem hlt)
      have hle := sBytes_le HF.out j hj
      have hn := take_nth hlt
      have HN := Lib.hid hn
      obtain ⟨x, hX⟩ : ∃ X, nth T j = X := ⟨_, rfl⟩
      rw [hX] at hget hx HN
      obtain ⟨acc, hacc⟩ : ∃ acc, (T.take j).flatMap sBytes = acc := ⟨_, rfl⟩
      have HE : Hid ((T.take (j + 1)).flatMap sBytes = acc ++ sBytes x) := Lib.hid (by rw [HN.out, List.flatMap_append, hacc]; simp)
      rw [hacc] at hS hle
      clear hX hn hacc HN
      obtain ⟨pre, hpre⟩ : ∃ pre, [UInt8.ofNat T.length] ++ acc = pre := ⟨_, rfl⟩
      have hpl : pre.length ≤ 10000 := by rw [← hpre]; simp; omega
      rw [hpre] at hS
      have HPRE := Lib.hid hpre
      clear hpre hle
      obtain ⟨f1, f2, f3, f4, f5⟩ := hx
      obtain ⟨ca, cb, cc, cd, ce⟩ := x
      simp only at f1 f2 f3 f4 f5
      obtain ⟨a1, a2⟩ := f1
      obtain ⟨b1, b2⟩ := f2
      obtain ⟨c1, c2⟩ := f3
      obtain ⟨d1, d2⟩ := f4
      have E1 := Lib.hid (ref_eight ca a1 (by omega))
      have E2 := Lib.hid (ref_eight cb b1 (by omega))
      have E3 := Lib.hid (ref_eight cc c1 (by omega))
      have E4 := Lib.hid (ref_eight cd d1 (by omega))
      have u1 := u64_id a1 a2
      have u2 := u64_id b1 b2
      have u3 := u64_id c1 c2
      have u4 := u64_id d1 d2
      go_wp2_with (first | refine au1 (n := ?_) | (refine au2 (n := ?_); clear hS; intro w' hS) | (refine au3 (n := ?_); clear hS; intro gb w1 hS) | (refine au4 (n := ?_); clear hS; intro v1 w' hS) | ((with_reducible refine wl_guard ?_); refine stop_mem rfl rfl ?_))
      refine region_calm (by kernel_rfl) (by kernel_rfl) hS ?_
      (refine Calm.pure rfl (h := ?_); simp only [Act.put, List.setIfInBounds_toArray, List.set_cons_zero, List.set_cons_succ])
      (refine Calm.read rfl (h := ?_); simp only [Act.put, List.setIfInBounds_toArray, List.set_cons_zero, List.set_cons_succ])
      (refine Calm.pure rfl (h := ?_); simp only [Act.put, List.setIfInBounds_toArray, List.set_cons_zero, List.set_cons_succ])
      (refine Calm.call2 (calm_makes E1.out) rfl (h := ?_); simp only [Act.put, List.setIfInBounds_toArray, List.set_cons_zero, List.set_cons_succ])
      (refine Calm.pure rfl (h := ?_); simp only [Act.put, List.setIfInBounds_toArray, List.set_cons_zero, List.set_cons_succ])
      (refine Calm.read rfl (h := ?_); simp only [Act.put, List.setIfInBounds_toArray, List.set_cons_zero, List.set_cons_succ])
      (refine Calm.pure rfl (h := ?_); simp only [Act.put, List.setIfInBounds_toArray, List.set_cons_zero, List.set_cons_succ])
      (refine Calm.call2 (calm_makes E2.out) rfl (h := ?_); simp only [Act.put, List.setIfInBounds_toArray, List.set_cons_zero, List.set_cons_succ])
      (refine Calm.run rfl (fun W hW => by exact a_concat rfl rfl rfl (by simp [leB_length])) ?_; simp only [Act.put, List.setIfInBounds_toArray, List.set_cons_zero, List.set_cons_succ])
      (refine Calm.pure rfl (h := ?_); simp only [Act.put, List.setIfInBounds_toArray, List.set_cons_zero, List.set_cons_succ])
      (refine Calm.read rfl (h := ?_); simp only [Act.put, List.setIfInBounds_toArray, List.set_cons_zero, List.set_cons_succ])
      (refine Calm.pure rfl (h := ?_); simp only [Act.put, List.setIfInBounds_toArray, List.set_cons_zero, List.set_cons_succ])
      (refine Calm.call2 (calm_makes E3.out) rfl (h := ?_); simp only [Act.put, List.setIfInBounds_toArray, List.set_cons_zero, List.set_cons_succ])
      (refine Calm.run rfl (fun W hW => by exact a_concat rfl rfl rfl (by simp [leB_length])) ?_; simp only [Act.put, List.setIfInBounds_toArray, List.set_cons_zero, List.set_cons_succ])
      (refine Calm.pure rfl (h := ?_); simp only [Act.put, List.setIfInBounds_toArray, List.set_cons_zero, List.set_cons_succ])
      (refine Calm.read rfl (h := ?_); simp only [Act.put, List.setIfInBounds_toArray, List.set_cons_zero, List.set_cons_succ])
      (refine Calm.pure rfl (h := ?_); simp only [Act.put, List.setIfInBounds_toArray, List.set_cons_zero, List.set_cons_succ])
      (refine Calm.call2 (calm_makes E4.out) rfl (h := ?_); simp only [Act.put, List.setIfInBounds_toArray, List.set_cons_zero, List.set_cons_succ])
      (refine Calm.run rfl (fun W hW => by exact a_concat rfl rfl rfl (by simp [leB_length])) ?_; simp only [Act.put, List.setIfInBounds_toArray, List.set_cons_zero, List.set_cons_succ])
      (refine Calm.pure rfl (h := ?_); simp only [Act.put, List.setIfInBounds_toArray, List.set_cons_zero, List.set_cons_succ])
      (refine Calm.nil ?_; clear hS; intro w8 hS)
      clear u1 u2 u3 u4
      obtain ⟨q4, hq4⟩ : ∃ q4, leB 8 ca.toNat ++ (leB 8 cb.toNat ++ (leB 8 cc.toNat ++ leB 8 cd.toNat)) = q4 := ⟨_, rfl⟩
      rw [hq4]
      have hfq : sFour ⟨ca, cb, cc, cd, ce⟩ = q4 := by rw [← hq4]; simp [sFour]
      have HL4 := sFour_length ⟨ca, cb, cc, cd, ce⟩
      rw [hfq] at HL4
      have HQ4 := Lib.hid hfq
      have hq4l : q4.length ≤ 32 := by omega
      have hal : (pre ++ q4).length ≤ 100000000 := by rw [List.length_append]; omega
      clear hfq hq4 HL4
      go_wp2_with (first | ((with_reducible refine g_append ?_); refine wl_of rfl ?_; refine k_appS (L := pre) (l := q4) hS rfl rfl rfl rfl rfl (h := ?_); clear hS; intro v2 w' hS) | (go_at_call 58; refine (rputT (hS.out (by (repeat (first | exact Out.here | apply Out.there)))) _ f5 hal).mono ?_; clear hS; rintro e w' ⟨v', rfl, hS⟩) | (first | refine au1 (n := ?_) | (refine au2 (n := ?_); clear hS; intro w' hS) | (refine au3 (n := ?_); clear hS; intro gb w1 hS) | (refine au4 (n := ?_); clear hS; intro v1 w' hS) | ((with_reducible refine wl_guard ?_); refine stop_mem rfl rfl ?_)))
      refine ⟨⟨j + 1, by omega, by go_num, ?_⟩, by simp [intOf]; omega⟩
      rw [HE.out, ← List.append_assoc, HPRE.out]
      unfold sBytes
      rw [HQ4.out, ← List.append_assoc]
      exact hS.pick
    · obtain rfl : j = T.length := by omega
      rw [List.take_length] at hS
      go_wp2_with (first | ((with_reducible refine g_conv ?_); refine wl_run rfl (a_toString2 (l := sPack T) rfl rfl rfl rfl rfl (by exact St.rdx hS (by (repeat (first | exact Ix.here | apply Ix.there))))) ?_) | (first | refine au1 (n := ?_) | (refine au2 (n := ?_); clear hS; intro w' hS) | (refine au3 (n := ?_); clear hS; intro gb w1 hS) | (refine au4 (n := ?_); clear hS; intro v1 w' hS) | ((with_reducible refine wl_guard ?_); refine stop_mem rfl rfl ?_)))
      go_ret
      exact ⟨rfl, hS.tail⟩
theorem rses_pack (hS : St S w0 w (rses g T :: M)) (hl : T.length ≤ 3) (hf : SFit T) :
    Calls Tryz.prog 59 #[.pointer (some ⟨g, 0, none⟩)] w fun e w' => e = .returned (.string ⟨(sPack T).toArray⟩) ∧ St S w0 w' (rses g T :: M) := by
  (have hU := St.unpack hS; clear hS; obtain ⟨vs, _, hS⟩ := hU; simp only [List.cons_append, List.nil_append] at hS)
  refine (rses_packO hS hl hf).mono ?_
  rintro e w' ⟨rfl, hS⟩
  exact ⟨rfl, (St.packs vs hS : St S w0 _ (rses g T :: M))⟩
end
end Go.Proofs.YtjjiibcnknljfaaGreat
