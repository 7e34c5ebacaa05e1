/-
  The statement on fuses: the walk.
-/
import Derived.Test.YthddaflpoklglaaTearsLaw
import Derived.Deep.LoopGhost
namespace Go.Cmp
open Go.RowKit
namespace Dsk
/-- A disk of one sector whose fuse was n. -/
structure Burns (n : Int) (D : Dsk) : Prop where
  ok : D.Ok
  len : D.lasts.length = 1
  cases : (D.off = false ∧ D.fuse = n - D.steps ∧ 1 ≤ D.fuse) ∨ (D.off = true ∧ D.steps = n)
  way : (D.way.length : Int) ≤ D.steps
theorem Burns.steps {n : Int} {D : Dsk} (h : Burns n D) : D.steps ≤ n := by rcases h.cases with ⟨_, h1, h2⟩ | ⟨_, h1⟩ <;> omega
theorem burns_step {n : Int} {D : Dsk} (h : Burns n D) (ho : D.off = false) : (D.step.1 = true ∧ D.step.2.off = false ∧ D.step.2.fuse = n - D.step.2.steps ∧ 1 ≤ D.step.2.fuse ∧ D.step.2.steps = D.steps + 1) ∨ (D.step.1 = false ∧ D.step.2.off = true ∧ D.step.2.steps = n ∧ D.step.2.steps = D.steps + 1) := by
  rcases h.cases with ⟨_, h1, h2⟩ | ⟨h1, _⟩
  · unfold step
    split
    · exact .inr ⟨rfl, rfl, by simp only; omega, rfl⟩
    · exact .inl ⟨rfl, ho, by simp only; omega, by simp only; omega, rfl⟩
  · rw [ho] at h1; cases h1
theorem burns_flush {n : Int} {D : Dsk} (h : Burns n D) (hn : n ≤ 1000) : Burns n D.flush.2 ∧ (D.flush.1 = 0 ∨ (D.flush.2.off = true ∧ D.flush.2.steps = n)) := by
  have hs := h.steps
  have hx := flush_next h.ok (by omega)
  have hl := hx.len
  have hok := hx.ok
  rcases h.cases with ⟨h0, h1, h2⟩ | ⟨h0, h1⟩
  · obtain ⟨s1, s2⟩ := step_next h.ok (by omega)
    rcases burns_step h h0 with ⟨b1, b2, b3, b4, b5⟩ | ⟨b1, b2, b3, b4⟩
    · obtain ⟨p1, p2, p3, p4⟩ := puts_ok (l := D.way) s1.ok (fun x hx => (h.ok.way x hx).2.2)
      have e : D.flush = (0, { D.step.2.puts D.way with way := [] }) := by unfold flush; rw [if_neg (by rw [h0]; simp), if_neg (by rw [b1]; simp)]
      have q : ∀ (l : List Wr) (E : Dsk), (E.puts l).off = E.off ∧ (E.puts l).fuse = E.fuse := by
        intro l
        induction l with
        | nil => intro E; exact ⟨rfl, rfl⟩
        | cons x l ih => intro E; exact ih (E.put x)
      rw [e] at hok hl ⊢
      refine ⟨⟨hok, by simp only at hl ⊢; rw [hl, h.len], .inl ⟨by simp only [(q _ _).1]; exact b2, by simp only [(q _ _).2, p4]; exact b3, by simp only [(q _ _).2]; exact b4⟩, ?_⟩, .inl rfl⟩
      simp only [List.length_nil, p4]
      have := h.ok.steps0
      omega
    · have e : D.flush = (6, D.step.2) := by unfold flush; rw [if_neg (by rw [h0]; simp), if_pos b1]
      rw [e] at hok hl ⊢
      exact ⟨⟨hok, by rw [hl, h.len], .inr ⟨b2, b3⟩, by simp only [s2]; have := h.way; omega⟩, .inr ⟨b2, b3⟩⟩
  · have e : D.flush = (6, D) := by unfold flush; rw [if_pos h0]
    rw [e]
    exact ⟨h, .inr ⟨h0, h1⟩⟩
theorem burns_write {n : Int} {D : Dsk} (h : Burns n D) (hn : n ≤ 1000) (t : List UInt8) (ht : t.length = 384) : Burns n (D.write 0 t).2 ∧ ((D.write 0 t).1 = 0 ∨ ((D.write 0 t).2.off = true ∧ (D.write 0 t).2.steps = n)) ∧
    ((D.write 0 t).2.way.length : Int) + D.steps ≤ D.way.length + (D.write 0 t).2.steps ∧ (D.off = false → (D.write 0 t).2.steps = D.steps + 1) := by
  have hs := h.steps
  have hw := h.way
  have hx := write_next h.ok 0 t (by omega) (by omega)
  have hl := hx.len
  have hok := hx.ok
  have hd : D.is 0 = true := by simp [is, h.len]
  have hc : ¬ (D.is 0 = false ∨ (t.length : Int) ≠ 384) := by rw [hd, ht]; simp
  rcases h.cases with ⟨h0, h1, h2⟩ | ⟨h0, h1⟩
  · obtain ⟨s1, s2⟩ := step_next h.ok (by omega)
    rcases burns_step h h0 with ⟨b1, b2, b3, b4, b5⟩ | ⟨b1, b2, b3, b4⟩
    · have e : D.write 0 t = (0, { D.step.2 with way := D.way ++ [⟨0, t⟩] }) := by unfold write; rw [if_neg hc, if_neg (by rw [h0]; simp), if_neg (by rw [b1]; simp)]
      rw [e] at hok hl ⊢
      refine ⟨⟨hok, by simp only at hl ⊢; rw [hl, h.len], .inl ⟨b2, b3, b4⟩, by simp; omega⟩, .inl rfl, by simp; omega, fun _ => b5⟩
    · have e : D.write 0 t = (6, D.step.2) := by unfold write; rw [if_neg hc, if_neg (by rw [h0]; simp), if_pos b1]
      rw [e] at hok hl ⊢
      exact ⟨⟨hok, by rw [hl, h.len], .inr ⟨b2, b3⟩, by simp only [s2]; omega⟩, .inr ⟨b2, b3⟩, by simp only [s2]; omega, fun _ => b4⟩
  · have e : D.write 0 t = (6, D) := by unfold write; rw [if_neg hc, if_pos h0]
    rw [e]
    exact ⟨h, .inr ⟨h0, h1⟩, by simp, fun hf => by rw [h0] at hf; cases hf⟩
end Dsk
end Go.Cmp
namespace Go.Proofs.Ythddaflpoklglaa
open Go.RowKit Go.Cmp

theorem and_small (x : Int) (m : Nat) (hm : m ≤ 1000) : 0 ≤ bits .and .i64 x (m : Int) ∧ bits .and .i64 x (m : Int) ≤ m := by
  have h : ((BitVec.ofInt 64 x &&& BitVec.ofInt 64 (m : Int)).toNat) ≤ m := by
    rw [BitVec.toNat_and]
    refine Nat.le_trans Nat.and_le_right ?_
    simp
    omega
  have e : bits .and .i64 x (m : Int) = IntKind.i64.wrap ((BitVec.ofInt 64 x &&& BitVec.ofInt 64 (m : Int)).toNat : Int) := rfl
  rw [e, IntWalk.i64_in _ (by omega)]
  omega

set_option maxRecDepth 100000 in
set_option maxHeartbeats 4000000 in
theorem law_fuses (n0 flushes : Int) (w : World) :
    Calls Try.prog 4 #[.int .i64 n0, .int .i64 flushes] w fun e w' => e = .returned (.bool true) ∧ St [] w w' [] := by
  have hS := St.init w
  have hr := and_small n0 31 (by omega)
  obtain ⟨r, er⟩ : ∃ r, bits .and .i64 n0 31 = r := ⟨_, rfl⟩
  have er2 : bits .and .i64 n0 ((31 : Nat) : Int) = r := er
  rw [er2] at hr
  obtain ⟨r0, r1⟩ := hr
  have r1 : r ≤ 31 := r1
  clear er2
  have ok0 := newDsk_ok 1 (by omega)
  have e0 : (newDsk 1).setFuse (1 + r) = (0, { newDsk 1 with fuse := 1 + r }) := by
    have : max 0 (1 + r) = 1 + r := by omega
    unfold Dsk.setFuse
    rw [if_neg (by simp [newDsk]), this]
  have n1 := Dsk.fuse_next ok0 (1 + r) (by omega)
  rw [e0] at n1
  have b0 : Dsk.Burns (1 + r) { newDsk 1 with fuse := 1 + r } := ⟨n1.ok, by simp [newDsk], .inl ⟨rfl, by simp [newDsk], by simp only; omega⟩, by simp [newDsk]⟩
  have E0 := Lib.hid e0
  have B0 := Lib.hid b0
  have OK0 := Lib.hid ok0
  clear e0 b0 ok0 n1
  obtain ⟨D0, hD0⟩ : ∃ D0 : Dsk, { newDsk 1 with fuse := 1 + r } = D0 := ⟨_, rfl⟩
  rw [hD0] at E0 B0
  clear hD0
  (go_enter Try.func4, Try.ntmps4)
  go_wp2_with (first | (go_at_call 9; refine (law_awake _).mono ?_; rintro e w' ⟨rfl, h⟩; replace hS := hS.call h; clear h) | fail)
  refine (disk_new 1 (by omega) (by omega) hS).mono ?_
  clear hS
  rintro e w1 ⟨g, rfl, hS⟩
  go_wp2_with (fail)
  have h := disk_fuse hS (1 + r) (by omega) (by omega)
  rw [E0.out] at h
  refine h.mono ?_
  clear h hS
  rintro e w2 ⟨rfl, hS⟩
  go_wp2_with (fail)
  go_loopw [7] (fun i wr => ∃ (j : Nat) (D : Dsk), 1 ≤ j ∧ (j : Int) ≤ 1 + r ∧ i = .int .i64 j ∧ Hid (Dsk.Burns (1 + r) D) ∧ St [] w wr (disk g D :: ([] ++ []))) (fun i _ => (40 - intOf i).toNat)
  case atStart => exact ⟨1, D0, by omega, by omega, rfl, B0, hS⟩
  case round =>
    clear hS
    obtain ⟨j, D, hj, hj2, rfl, HB, hS⟩ := hrel
    by_cases hlt : (j : Int) < 1 + r
    · obtain ⟨f1, f2⟩ := Dsk.burns_flush HB.out (by omega)
      obtain ⟨X, hX⟩ : ∃ X, D.flush = X := ⟨_, rfl⟩
      rw [hX] at f1 f2
      obtain ⟨ea, D1⟩ := X
      have HX := Lib.hid hX
      have HB1 := Lib.hid f1
      simp only at HB1 f2
      clear hX f1
      obtain ⟨c, hc⟩ := u8_of (m := (j : Int)) (by omega) (by omega)
      have HC : Hid (∀ W, Calls Try.prog 12 #[.int .u8 (j : Int)] W fun e w' => e = .returned (.string ⟨(sect c).toArray⟩) ∧ St [] W w' []) := Lib.hid (fun W => by rw [hc]; exact law_sector c W)
      clear hc
      have hq := and_small (j : Int) 31 (by omega)
      obtain ⟨q, eq⟩ : ∃ q, bits .and .i64 (j : Int) 31 = q := ⟨_, rfl⟩
      have eq2 : bits .and .i64 (j : Int) ((31 : Nat) : Int) = q := eq
      rw [eq2] at hq
      obtain ⟨q0, q1⟩ := hq
      have q1 : q ≤ 31 := q1
      clear eq2
      obtain ⟨v1, v2, _, _⟩ := Dsk.burns_write HB1.out (by omega) (sect c) (sect_len c)
      obtain ⟨Y, hY⟩ : ∃ Y, D1.write 0 (sect c) = Y := ⟨_, rfl⟩
      rw [hY] at v1 v2
      obtain ⟨eb, D2⟩ := Y
      have HY := Lib.hid hY
      have HB2 := Lib.hid v1
      have HV2 := Lib.hid v2
      have HF2 := Lib.hid f2
      clear hY v1 v2 f2
      simp only at HB2 HV2
      go_wp2_with (fail)
      have h := disk_flush hS HB.out.ok
      rw [HX.out] at h
      refine h.mono ?_
      clear h hS
      rintro e w3 ⟨rfl, hS⟩
      go_wp2_with (fail)
      · have h := HC.out w3
        refine h.mono ?_
        clear h
        rintro e w4 ⟨rfl, h⟩
        replace hS := hS.call h
        clear h
        go_wp2_with (fail)
        have h := disk_write hS HB1.out.ok 0 (sect c)
        rw [HY.out] at h
        refine h.mono ?_
        clear h hS
        rintro e w5 ⟨rfl, hS⟩
        go_wp2_with (fail)
        · exact ⟨⟨j + 1, D2, by omega, by omega, by go_num, HB2, hS⟩, by simp [intOf]; omega⟩
        · have hne : ¬ eb = 0 := by assumption
          obtain ⟨o1, s1⟩ := HV2.out.resolve_left hne
          go_wp2_with (first | (go_at_call 21; refine (disk_on hS).mono ?_; rintro e w' ⟨rfl, rfl⟩) | (go_at_call 22; refine (disk_steps hS).mono ?_; rintro e w' ⟨rfl, rfl⟩) | fail)
          go_ret
          exact ⟨rfl, hS.nil⟩
        · exact ⟨⟨j + 1, D2, by omega, by omega, by go_num, HB2, hS⟩, by simp [intOf]; omega⟩
      · exact ⟨⟨j + 1, D1, by omega, by omega, by go_num, HB1, hS⟩, by simp [intOf]; omega⟩
      · have hne : ¬ ea = 0 := by assumption
        obtain ⟨o1, s1⟩ := HF2.out.resolve_left hne
        go_wp2_with (first | (go_at_call 21; refine (disk_on hS).mono ?_; rintro e w' ⟨rfl, rfl⟩) | (go_at_call 22; refine (disk_steps hS).mono ?_; rintro e w' ⟨rfl, rfl⟩) | fail)
        go_ret
        exact ⟨rfl, hS.nil⟩
      · exact ⟨⟨j + 1, D1, by omega, by omega, by go_num, HB1, hS⟩, by simp [intOf]; omega⟩
    · go_wp2_with (first | (go_at_call 23; refine (disk_pending hS).mono ?_; rintro e w' ⟨rfl, rfl⟩) | fail)
      have hst := HB.out.steps
      have hst0 := HB.out.ok.steps0
      have hwl := HB.out.way
      rcases HB.out.cases with ⟨o1, o2, o3⟩ | ⟨o1, s1⟩
      · go_wp2_with (first | (go_at_call 21; refine (disk_on hS).mono ?_; rintro e w' ⟨rfl, rfl⟩) | fail)
        clear o1 o2 o3
        go_loopg [75] (40 - D.steps).toNat (fun k _ wr => ∃ D2 : Dsk, k = (40 - D2.steps).toNat ∧ Hid (Dsk.Burns (1 + r) D2) ∧ (D2.way.length : Int) + D.steps ≤ D.way.length + D2.steps ∧ St [] w wr (disk g D2 :: ([] ++ [])))
        case atStart => exact ⟨D, rfl, HB, by omega, hS⟩
        case round =>
          clear hS
          obtain ⟨D2, rfl, HB2, hw2, hS⟩ := hrel
          have hst2 := HB2.out.steps
          have hst3 := HB2.out.ok.steps0
          obtain ⟨v1, _, v3, v4⟩ := Dsk.burns_write HB2.out (by omega) (sect 1) (sect_len 1)
          obtain ⟨Y, hY⟩ : ∃ Y, D2.write 0 (sect 1) = Y := ⟨_, rfl⟩
          rw [hY] at v1 v3 v4
          obtain ⟨eb, D3⟩ := Y
          have HY := Lib.hid hY
          have HB3 := Lib.hid v1
          simp only at HB3 v3 v4
          clear hY v1
          rcases HB2.out.cases with ⟨o1, o2, o3⟩ | ⟨o1, s1⟩
          · have v5 := v4 o1
            have V5 := Lib.hid v5
            have V3 := Lib.hid v3
            clear v3 v4 v5 o2 o3
            go_wp2_with (first | (go_at_call 21; refine (disk_on hS).mono ?_; rintro e w' ⟨rfl, rfl⟩) | (go_at_call 22; refine (disk_steps hS).mono ?_; rintro e w' ⟨rfl, rfl⟩) | fail)
            refine (law_sector 1 _).mono ?_
            rintro e w4 ⟨rfl, h⟩
            replace hS := hS.call h
            clear h
            go_wp2_with (fail)
            have h := disk_write hS HB2.out.ok 0 (sect 1)
            rw [HY.out] at h
            refine h.mono ?_
            clear h hS
            rintro e w5 ⟨rfl, hS⟩
            go_wp2_with (fail)
            have := V5.out
            have := V3.out
            go_roundg (40 - D3.steps).toNat
            case measure => omega
            case rel => exact ⟨D3, rfl, HB3, by omega, hS⟩
          · clear v3 v4
            have hle : (D2.way.length : Int) ≤ D.way.length + (1 + r) := by omega
            go_wp2_with (first | (go_at_call 21; refine (disk_on hS).mono ?_; rintro e w' ⟨rfl, rfl⟩) | (go_at_call 22; refine (disk_steps hS).mono ?_; rintro e w' ⟨rfl, rfl⟩) | (go_at_call 23; refine (disk_pending hS).mono ?_; rintro e w' ⟨rfl, rfl⟩) | fail)
            all_goals (go_ret; exact ⟨rfl, hS.nil⟩)
      · go_wp2_with (first | (go_at_call 21; refine (disk_on hS).mono ?_; rintro e w' ⟨rfl, rfl⟩) | (go_at_call 22; refine (disk_steps hS).mono ?_; rintro e w' ⟨rfl, rfl⟩) | fail)
        go_ret
        exact ⟨rfl, hS.nil⟩
end Go.Proofs.Ythddaflpoklglaa
