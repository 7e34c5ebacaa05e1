/-
  Bytes are read as headers: what comes of it; the document's take.
-/
import Derived.Test.YtkcgacadkpbpoaaHead5
import Derived.Test.YtkcgacadkpbpoaaCodecU
set_option linter.unusedSimpArgs false
set_option linter.unusedVariables false
set_option linter.unusedSectionVars false
set_option maxRecDepth 100000
namespace Go.Cmp
open Go.RowKit
def num8 (s : List UInt8) (i : Nat) : Nat := leN ((s.drop i).take 8)
def int8 (s : List UInt8) (i : Nat) : Int := IntKind.i64.wrap (num8 s i : Nat)
def hdOf (s : List UInt8) : Hd := ⟨(nth s 8).toNat, (nth s 9).toNat, (nth s 10).toNat, int8 s 24, int8 s 32, int8 s 40, int8 s 48, int8 s 56, int8 s 64, int8 s 72, int8 s 80, num8 s 16⟩
def zeroHd : Hd := ⟨0, 0, 0, 0, 0, 0, 0, 0, 0, 0, 0, 0⟩
def unpH (s : List UInt8) : Hd × List UInt8 × Int := if s.length < 128 then (zeroHd, [], 4) else if packH (hdOf s) (s.drop 128) = (s, 0) then (hdOf s, s.drop 128, 0) else (zeroHd, [], 4)
theorem num8_lt (s : List UInt8) (i : Nat) : num8 s i < 18446744073709551616 := by
  unfold num8
  have h := leN_lt ((s.drop i).take 8)
  have h2 : ((s.drop i).take 8).length ≤ 8 := by rw [List.length_take]; omega
  have h3 : 256 ^ ((s.drop i).take 8).length ≤ 256 ^ 8 := Nat.pow_le_pow_right (by omega) h2
  omega
theorem packH_err (h : Hd) (b : List UInt8) : (packH h b).2 = 0 ∨ (packH h b).2 = 4 ∨ (packH h b).2 = 5 := by
  unfold packH
  split
  · exact .inr (.inl rfl)
  · split
    · exact .inr (.inr rfl)
    · exact .inl rfl
theorem takeN_8 {s : List UInt8} {i : Nat} (h : i + 8 ≤ s.length) : takeN s i 8 = (num8 s i, 0) := by
  unfold takeN num8
  rw [if_neg (by omega)]
end Go.Cmp
namespace Go.Proofs.Ytkcgacadkpbpoaa
open Go.RowKit Go.Cmp
set_option maxRecDepth 100000

section
variable {S : List Nat} {w0 w : World} {M : List Ent}
theorem r5_take (s : List UInt8) (i : Nat) (hl : s.length ≤ 1000000) (hi : i + 8 ≤ s.length) (w : World) :
    Calls Try.prog 79 #[.string ⟨s.toArray⟩, .int .i64 (i : Int), .int .i64 8] w fun e w' => e = .returned (.int .u64 (num8 s i : Nat)) ∧ St [] w w' [] := by
  have hS := St.init w
  have HT := Lib.hid (fun (v : Value) (W : World) (hR : Rd W 1 v s.length (s.flatMap byt)) => ref_take (w := W) i 8 (by omega) (by omega) (by omega) (by omega) hR)
  rw [takeN_8 hi] at HT
  (go_enter Try.func79, Try.ntmps79)
  go_wp2_with (first | ((with_reducible refine g_conv ?_); refine wl_of rfl ?_; refine a_toBytes hS rfl rfl rfl rfl rfl (show s.length ≤ maxLen by unfold maxLen; omega) ?_; clear hS; intro v1 w1 hS) | (go_at_call 63; refine (HT.out _ _ (hS.rdx (by (repeat (first | exact Ix.here | apply Ix.there))))).mono ?_; rintro e w' ⟨rfl, rfl⟩) | (first | refine au1 (n := ?_) | (refine au2 (n := ?_); clear hS; intro w' hS) | (refine au3 (n := ?_); clear hS; intro gb w1 hS) | (refine au4 (n := ?_); clear hS; intro v1 w' hS) | ((with_reducible refine wl_guard ?_); refine stop_mem rfl rfl ?_)))
  go_ret
  exact ⟨rfl, hS.nil⟩
theorem end_cell3 {P : Program} {a : Act} (hS : St S w0 w M) {fn : Func} {R : Ending → World → Prop} {p q r : Tmp} {ty : TypeId} (hr : fn.results = #[.cell p ty, .tmp q, .tmp r]) {g : Nat} (hp : a.tmps.getD p undef = .pointer (some ⟨g, 0, none⟩)) {i : Nat} {cs : List Value} {e : TypeId} {fr : Nat × Nat} {d : TypeDesc} {u v : Value} (hq : a.tmps.getD q undef = u) (hv : a.tmps.getD r undef = v) (hu : P.underlying ty = some d) (hd : (match d with | .struct _ | .array _ _ => true | _ => false) = true)
    (hdf : a.defers = []) (hM : Ix M i (.row g cs e fr) := by (repeat (first | exact Ix.here | apply Ix.there))) (hi : (P.info? ty).map (·.size) = some cs.length := by rfl) (h : R (.returned (.tuple #[.agg cs.toArray, u, v])) w) : bodyPost P fn R .ret a w := by
  refine bodyPost_ret (v := .tuple #[.agg cs.toArray, u, v]) ?_ hdf h
  have hp' : a.tmps[p]?.getD undef = .pointer (some ⟨g, 0, none⟩) := by simpa using hp
  have hq' : a.tmps[q]?.getD undef = u := by simpa using hq
  have hv' : a.tmps[r]?.getD undef = v := by simpa using hv
  have hl := run_loadVar_row (P := P) w g e ty cs.toArray fr d (hS.row hM.get) hu hd (by simpa using hi)
  simp [results, hr, hp', hq', hv', asAddr, hl]
set_option maxHeartbeats 8000000 in
theorem refUnpack_any (s : List UInt8) (hl : s.length ≤ 1000000) (w : World) :
    Calls Try.prog 62 #[.string ⟨s.toArray⟩] w fun e w' => e = .returned (.tuple #[.agg (unpH s).1.cells.toArray, .string ⟨(unpH s).2.1.toArray⟩, .int .i64 (unpH s).2.2]) ∧ St [] w w' [] := by
  have hS := St.init w
  by_cases h1 : s.length < 128
  · have e : unpH s = (zeroHd, [], 4) := by unfold unpH; rw [if_pos h1]
    rw [e]
    have h1' : (s.length : Int) < 128 := by omega
    (go_enter Try.func62, Try.ntmps62)
    go_wp2_with (first | refine au1 (n := ?_) | (refine au2 (n := ?_); clear hS; intro w' hS) | (refine au3 (n := ?_); clear hS; intro gb w1 hS) | (refine au4 (n := ?_); clear hS; intro v1 w' hS) | ((with_reducible refine wl_guard ?_); refine stop_mem rfl rfl ?_))
    exact end_cell3 hS rfl rfl rfl rfl rfl rfl rfl (h := ⟨rfl, hS.nil⟩)
  · have h1' : ¬ (s.length : Int) < 128 := by omega
    have h2' : 128 ≤ s.length := by omega
    obtain ⟨H, hH⟩ : ∃ H, hdOf s = H := ⟨_, rfl⟩
    have hpar : H.parent < 18446744073709551616 := by rw [← hH]; exact num8_lt s 16
    have hU : unpH s = if packH H (s.drop 128) = (s, 0) then (H, s.drop 128, 0) else (zeroHd, [], 4) := by unfold unpH; rw [if_neg h1, hH]
    have hc8 := (nth s 8).toNat_lt
    have hc9 := (nth s 9).toNat_lt
    have hc10 := (nth s 10).toNat_lt
    obtain ⟨c8, e8⟩ : ∃ c, (nth s 8).toNat = c := ⟨_, rfl⟩
    obtain ⟨c9, e9⟩ : ∃ c, (nth s 9).toNat = c := ⟨_, rfl⟩
    obtain ⟨c10, e10⟩ : ∃ c, (nth s 10).toNat = c := ⟨_, rfl⟩
    rw [e8] at hc8
    have hw8 : IntKind.i64.wrap (c8 : Int) = (c8 : Int) := by rw [IntKind.wrap_i64]; omega
    rw [e9] at hc9
    have hw9 : IntKind.i64.wrap (c9 : Int) = (c9 : Int) := by rw [IntKind.wrap_i64]; omega
    rw [e10] at hc10
    have hw10 : IntKind.i64.wrap (c10 : Int) = (c10 : Int) := by rw [IntKind.wrap_i64]; omega
    have ht16 : ∀ W, Calls Try.prog 79 #[.string ⟨s.toArray⟩, .int .i64 16, .int .i64 8] W fun e w' => e = .returned (.int .u64 (num8 s 16 : Nat)) ∧ St [] W w' [] := fun W => r5_take s 16 hl (by omega) W
    obtain ⟨q16, eq16⟩ : ∃ q, num8 s 16 = q := ⟨_, rfl⟩
    rw [eq16] at ht16
    have T16 := Lib.hid ht16
    clear ht16
    have ht24 : ∀ W, Calls Try.prog 79 #[.string ⟨s.toArray⟩, .int .i64 24, .int .i64 8] W fun e w' => e = .returned (.int .u64 (num8 s 24 : Nat)) ∧ St [] W w' [] := fun W => r5_take s 24 hl (by omega) W
    obtain ⟨q24, eq24⟩ : ∃ q, num8 s 24 = q := ⟨_, rfl⟩
    rw [eq24] at ht24
    obtain ⟨i24, ei24⟩ : ∃ q : Int, IntKind.i64.wrap (q24 : Int) = q := ⟨_, rfl⟩
    have W24 := Lib.hid ei24
    have T24 := Lib.hid ht24
    clear ht24
    have ht32 : ∀ W, Calls Try.prog 79 #[.string ⟨s.toArray⟩, .int .i64 32, .int .i64 8] W fun e w' => e = .returned (.int .u64 (num8 s 32 : Nat)) ∧ St [] W w' [] := fun W => r5_take s 32 hl (by omega) W
    obtain ⟨q32, eq32⟩ : ∃ q, num8 s 32 = q := ⟨_, rfl⟩
    rw [eq32] at ht32
    obtain ⟨i32, ei32⟩ : ∃ q : Int, IntKind.i64.wrap (q32 : Int) = q := ⟨_, rfl⟩
    have W32 := Lib.hid ei32
    have T32 := Lib.hid ht32
    clear ht32
    have ht40 : ∀ W, Calls Try.prog 79 #[.string ⟨s.toArray⟩, .int .i64 40, .int .i64 8] W fun e w' => e = .returned (.int .u64 (num8 s 40 : Nat)) ∧ St [] W w' [] := fun W => r5_take s 40 hl (by omega) W
    obtain ⟨q40, eq40⟩ : ∃ q, num8 s 40 = q := ⟨_, rfl⟩
    rw [eq40] at ht40
    obtain ⟨i40, ei40⟩ : ∃ q : Int, IntKind.i64.wrap (q40 : Int) = q := ⟨_, rfl⟩
    have W40 := Lib.hid ei40
    have T40 := Lib.hid ht40
    clear ht40
    have ht48 : ∀ W, Calls Try.prog 79 #[.string ⟨s.toArray⟩, .int .i64 48, .int .i64 8] W fun e w' => e = .returned (.int .u64 (num8 s 48 : Nat)) ∧ St [] W w' [] := fun W => r5_take s 48 hl (by omega) W
    obtain ⟨q48, eq48⟩ : ∃ q, num8 s 48 = q := ⟨_, rfl⟩
    rw [eq48] at ht48
    obtain ⟨i48, ei48⟩ : ∃ q : Int, IntKind.i64.wrap (q48 : Int) = q := ⟨_, rfl⟩
    have W48 := Lib.hid ei48
    have T48 := Lib.hid ht48
    clear ht48
    have ht56 : ∀ W, Calls Try.prog 79 #[.string ⟨s.toArray⟩, .int .i64 56, .int .i64 8] W fun e w' => e = .returned (.int .u64 (num8 s 56 : Nat)) ∧ St [] W w' [] := fun W => r5_take s 56 hl (by omega) W
    obtain ⟨q56, eq56⟩ : ∃ q, num8 s 56 = q := ⟨_, rfl⟩
    rw [eq56] at ht56
    obtain ⟨i56, ei56⟩ : ∃ q : Int, IntKind.i64.wrap (q56 : Int) = q := ⟨_, rfl⟩
    have W56 := Lib.hid ei56
    have T56 := Lib.hid ht56
    clear ht56
    have ht64 : ∀ W, Calls Try.prog 79 #[.string ⟨s.toArray⟩, .int .i64 64, .int .i64 8] W fun e w' => e = .returned (.int .u64 (num8 s 64 : Nat)) ∧ St [] W w' [] := fun W => r5_take s 64 hl (by omega) W
    obtain ⟨q64, eq64⟩ : ∃ q, num8 s 64 = q := ⟨_, rfl⟩
    rw [eq64] at ht64
    obtain ⟨i64, ei64⟩ : ∃ q : Int, IntKind.i64.wrap (q64 : Int) = q := ⟨_, rfl⟩
    have W64 := Lib.hid ei64
    have T64 := Lib.hid ht64
    clear ht64
    have ht72 : ∀ W, Calls Try.prog 79 #[.string ⟨s.toArray⟩, .int .i64 72, .int .i64 8] W fun e w' => e = .returned (.int .u64 (num8 s 72 : Nat)) ∧ St [] W w' [] := fun W => r5_take s 72 hl (by omega) W
    obtain ⟨q72, eq72⟩ : ∃ q, num8 s 72 = q := ⟨_, rfl⟩
    rw [eq72] at ht72
    obtain ⟨i72, ei72⟩ : ∃ q : Int, IntKind.i64.wrap (q72 : Int) = q := ⟨_, rfl⟩
    have W72 := Lib.hid ei72
    have T72 := Lib.hid ht72
    clear ht72
    have ht80 : ∀ W, Calls Try.prog 79 #[.string ⟨s.toArray⟩, .int .i64 80, .int .i64 8] W fun e w' => e = .returned (.int .u64 (num8 s 80 : Nat)) ∧ St [] W w' [] := fun W => r5_take s 80 hl (by omega) W
    obtain ⟨q80, eq80⟩ : ∃ q, num8 s 80 = q := ⟨_, rfl⟩
    rw [eq80] at ht80
    obtain ⟨i80, ei80⟩ : ∃ q : Int, IntKind.i64.wrap (q80 : Int) = q := ⟨_, rfl⟩
    have W80 := Lib.hid ei80
    have T80 := Lib.hid ht80
    clear ht80
    have hHc : H.cells = [.int .i64 c8, .int .i64 c9, .int .i64 c10, .int .i64 i24, .int .i64 i32, .int .i64 i40, .int .i64 i48, .int .i64 i56, .int .i64 i64, .int .i64 i72, .int .i64 i80, .int .u64 q16] := by rw [← hH]; simp only [Hd.cells, hdOf, int8, e8, e9, e10, eq16, eq24, ei24, eq32, ei32, eq40, ei40, eq48, ei48, eq56, ei56, eq64, ei64, eq72, ei72, eq80, ei80]
    have HC8 := Lib.hid e8
    have HC9 := Lib.hid e9
    have HC10 := Lib.hid e10
    have HHc := Lib.hid hHc
    have HP := Lib.hid (fun w => refPack_any H hpar (s.drop 128) (by rw [List.length_drop]; omega) w)
    rw [hHc] at HP
    obtain ⟨R, hR⟩ : ∃ R, unpH s = R := ⟨_, rfl⟩
    rw [hR] at hU ⊢
    have HU := Lib.hid hU
    clear hR
    have hpe := packH_err H (s.drop 128)
    have HSL : Hid (s.length ≤ 1000000) := Lib.hid hl
    obtain ⟨B, hB0⟩ : ∃ B, s.drop 128 = B := ⟨_, rfl⟩
    have HB0 := Lib.hid hB0
    rw [hB0] at HP HU hpe
    obtain ⟨PK, hPK⟩ : ∃ K, packH H B = K := ⟨_, rfl⟩
    rw [hPK] at HP HU hpe
    obtain ⟨pk, pe⟩ := PK
    simp only at hpe HP
    clear hPK hB0
    clear e8 e9 e10 hHc hU hpar hH eq16 eq24 eq32 eq40 eq48 eq56 eq64 eq72 eq80 ei24 ei32 ei40 ei48 ei56 ei64 ei72 ei80
    (go_enter Try.func62, Try.ntmps62)
    go_wp2_with (first | refine au1 (n := ?_) | (refine au2 (n := ?_); clear hS; intro w' hS) | (refine au3 (n := ?_); clear hS; intro gb w1 hS) | (refine au4 (n := ?_); clear hS; intro v1 w' hS) | ((with_reducible refine wl_guard ?_); refine stop_mem rfl rfl ?_))
    refine region_drift0 37 hS (by kernel_rfl) ?_
    clear hS
    intro wx hR hB hS
    (refine d_take 0 rfl rfl (by kernel_rfl) (by kernel_rfl) (by kernel_rfl) (fun _ _ _ h => h) (by kernel_rfl) rfl (fun W hW => (by (go_simp; try with_reducible rfl))) hS.base ?_; simp only [Act.put, List.setIfInBounds_toArray, List.set_cons_zero, List.set_cons_succ])
    (refine d_take (v := (.int .u8 (c8 : Int))) 1 rfl rfl (by kernel_rfl) (by kernel_rfl) (by kernel_rfl) (fun _ _ _ h => h) (by kernel_rfl) rfl (fun W hW => by (rw [← HC8.out]; exact a_strIndex (l := s) (j := 8) rfl rfl rfl rfl (by omega) (by omega))) hS.base ?_; simp only [Act.put, List.setIfInBounds_toArray, List.set_cons_zero, List.set_cons_succ])
    (refine d_take (v := (.int .i64 (c8 : Int))) 2 rfl rfl (by kernel_rfl) (by kernel_rfl) (by kernel_rfl) (fun _ _ _ h => h) (by kernel_rfl) rfl (fun W hW => by (go_simp; try simp [hw8])) hS.base ?_; simp only [Act.put, List.setIfInBounds_toArray, List.set_cons_zero, List.set_cons_succ])
    (refine d_take 3 rfl rfl (by kernel_rfl) (by kernel_rfl) (by kernel_rfl) (fun _ _ _ h => h) (by kernel_rfl) rfl (fun W hW => (by (go_simp; try with_reducible rfl))) hS.base ?_; simp only [Act.put, List.setIfInBounds_toArray, List.set_cons_zero, List.set_cons_succ])
    (refine d_take (v := (.int .u8 (c9 : Int))) 4 rfl rfl (by kernel_rfl) (by kernel_rfl) (by kernel_rfl) (fun _ _ _ h => h) (by kernel_rfl) rfl (fun W hW => by (rw [← HC9.out]; exact a_strIndex (l := s) (j := 9) rfl rfl rfl rfl (by omega) (by omega))) hS.base ?_; simp only [Act.put, List.setIfInBounds_toArray, List.set_cons_zero, List.set_cons_succ])
    (refine d_take (v := (.int .i64 (c9 : Int))) 5 rfl rfl (by kernel_rfl) (by kernel_rfl) (by kernel_rfl) (fun _ _ _ h => h) (by kernel_rfl) rfl (fun W hW => by (go_simp; try simp [hw9])) hS.base ?_; simp only [Act.put, List.setIfInBounds_toArray, List.set_cons_zero, List.set_cons_succ])
    (refine d_take 6 rfl rfl (by kernel_rfl) (by kernel_rfl) (by kernel_rfl) (fun _ _ _ h => h) (by kernel_rfl) rfl (fun W hW => (by (go_simp; try with_reducible rfl))) hS.base ?_; simp only [Act.put, List.setIfInBounds_toArray, List.set_cons_zero, List.set_cons_succ])
    (refine d_take (v := (.int .u8 (c10 : Int))) 7 rfl rfl (by kernel_rfl) (by kernel_rfl) (by kernel_rfl) (fun _ _ _ h => h) (by kernel_rfl) rfl (fun W hW => by (rw [← HC10.out]; exact a_strIndex (l := s) (j := 10) rfl rfl rfl rfl (by omega) (by omega))) hS.base ?_; simp only [Act.put, List.setIfInBounds_toArray, List.set_cons_zero, List.set_cons_succ])
    (refine d_take (v := (.int .i64 (c10 : Int))) 8 rfl rfl (by kernel_rfl) (by kernel_rfl) (by kernel_rfl) (fun _ _ _ h => h) (by kernel_rfl) rfl (fun W hW => by (go_simp; try simp [hw10])) hS.base ?_; simp only [Act.put, List.setIfInBounds_toArray, List.set_cons_zero, List.set_cons_succ])
    (refine d_take 9 rfl rfl (by kernel_rfl) (by kernel_rfl) (by kernel_rfl) (fun _ _ _ h => h) (by kernel_rfl) rfl (fun W hW => (by (go_simp; try with_reducible rfl))) hS.base ?_; simp only [Act.put, List.setIfInBounds_toArray, List.set_cons_zero, List.set_cons_succ])
    (refine d_call 10 rfl rfl (by kernel_rfl) (by kernel_rfl) (by kernel_rfl) (fun _ _ _ h => h) (by kernel_rfl) rfl (fun W => by go_simp) hS.base (fun W hW => T16.out W) ?_; simp only [Act.put, List.setIfInBounds_toArray, List.set_cons_zero, List.set_cons_succ])
    (refine d_take 11 rfl rfl (by kernel_rfl) (by kernel_rfl) (by kernel_rfl) (fun _ _ _ h => h) (by kernel_rfl) rfl (fun W hW => (by (go_simp; try with_reducible rfl))) hS.base ?_; simp only [Act.put, List.setIfInBounds_toArray, List.set_cons_zero, List.set_cons_succ])
    (refine d_call 12 rfl rfl (by kernel_rfl) (by kernel_rfl) (by kernel_rfl) (fun _ _ _ h => h) (by kernel_rfl) rfl (fun W => by go_simp) hS.base (fun W hW => T24.out W) ?_; simp only [Act.put, List.setIfInBounds_toArray, List.set_cons_zero, List.set_cons_succ])
    (refine d_take (v := (.int .i64 i24)) 13 rfl rfl (by kernel_rfl) (by kernel_rfl) (by kernel_rfl) (fun _ _ _ h => h) (by kernel_rfl) rfl (fun W hW => by (rw [← W24.out]; (go_simp; try with_reducible rfl))) hS.base ?_; simp only [Act.put, List.setIfInBounds_toArray, List.set_cons_zero, List.set_cons_succ])
    (refine d_take 14 rfl rfl (by kernel_rfl) (by kernel_rfl) (by kernel_rfl) (fun _ _ _ h => h) (by kernel_rfl) rfl (fun W hW => (by (go_simp; try with_reducible rfl))) hS.base ?_; simp only [Act.put, List.setIfInBounds_toArray, List.set_cons_zero, List.set_cons_succ])
    (refine d_call 15 rfl rfl (by kernel_rfl) (by kernel_rfl) (by kernel_rfl) (fun _ _ _ h => h) (by kernel_rfl) rfl (fun W => by go_simp) hS.base (fun W hW => T32.out W) ?_; simp only [Act.put, List.setIfInBounds_toArray, List.set_cons_zero, List.set_cons_succ])
    (refine d_take (v := (.int .i64 i32)) 16 rfl rfl (by kernel_rfl) (by kernel_rfl) (by kernel_rfl) (fun _ _ _ h => h) (by kernel_rfl) rfl (fun W hW => by (rw [← W32.out]; (go_simp; try with_reducible rfl))) hS.base ?_; simp only [Act.put, List.setIfInBounds_toArray, List.set_cons_zero, List.set_cons_succ])
    (refine d_take 17 rfl rfl (by kernel_rfl) (by kernel_rfl) (by kernel_rfl) (fun _ _ _ h => h) (by kernel_rfl) rfl (fun W hW => (by (go_simp; try with_reducible rfl))) hS.base ?_; simp only [Act.put, List.setIfInBounds_toArray, List.set_cons_zero, List.set_cons_succ])
    (refine d_call 18 rfl rfl (by kernel_rfl) (by kernel_rfl) (by kernel_rfl) (fun _ _ _ h => h) (by kernel_rfl) rfl (fun W => by go_simp) hS.base (fun W hW => T40.out W) ?_; simp only [Act.put, List.setIfInBounds_toArray, List.set_cons_zero, List.set_cons_succ])
    (refine d_take (v := (.int .i64 i40)) 19 rfl rfl (by kernel_rfl) (by kernel_rfl) (by kernel_rfl) (fun _ _ _ h => h) (by kernel_rfl) rfl (fun W hW => by (rw [← W40.out]; (go_simp; try with_reducible rfl))) hS.base ?_; simp only [Act.put, List.setIfInBounds_toArray, List.set_cons_zero, List.set_cons_succ])
    (refine d_take 20 rfl rfl (by kernel_rfl) (by kernel_rfl) (by kernel_rfl) (fun _ _ _ h => h) (by kernel_rfl) rfl (fun W hW => (by (go_simp; try with_reducible rfl))) hS.base ?_; simp only [Act.put, List.setIfInBounds_toArray, List.set_cons_zero, List.set_cons_succ])
    (refine d_call 21 rfl rfl (by kernel_rfl) (by kernel_rfl) (by kernel_rfl) (fun _ _ _ h => h) (by kernel_rfl) rfl (fun W => by go_simp) hS.base (fun W hW => T48.out W) ?_; simp only [Act.put, List.setIfInBounds_toArray, List.set_cons_zero, List.set_cons_succ])
    (refine d_take (v := (.int .i64 i48)) 22 rfl rfl (by kernel_rfl) (by kernel_rfl) (by kernel_rfl) (fun _ _ _ h => h) (by kernel_rfl) rfl (fun W hW => by (rw [← W48.out]; (go_simp; try with_reducible rfl))) hS.base ?_; simp only [Act.put, List.setIfInBounds_toArray, List.set_cons_zero, List.set_cons_succ])
    (refine d_take 23 rfl rfl (by kernel_rfl) (by kernel_rfl) (by kernel_rfl) (fun _ _ _ h => h) (by kernel_rfl) rfl (fun W hW => (by (go_simp; try with_reducible rfl))) hS.base ?_; simp only [Act.put, List.setIfInBounds_toArray, List.set_cons_zero, List.set_cons_succ])
    (refine d_call 24 rfl rfl (by kernel_rfl) (by kernel_rfl) (by kernel_rfl) (fun _ _ _ h => h) (by kernel_rfl) rfl (fun W => by go_simp) hS.base (fun W hW => T56.out W) ?_; simp only [Act.put, List.setIfInBounds_toArray, List.set_cons_zero, List.set_cons_succ])
    (refine d_take (v := (.int .i64 i56)) 25 rfl rfl (by kernel_rfl) (by kernel_rfl) (by kernel_rfl) (fun _ _ _ h => h) (by kernel_rfl) rfl (fun W hW => by (rw [← W56.out]; (go_simp; try with_reducible rfl))) hS.base ?_; simp only [Act.put, List.setIfInBounds_toArray, List.set_cons_zero, List.set_cons_succ])
    (refine d_take 26 rfl rfl (by kernel_rfl) (by kernel_rfl) (by kernel_rfl) (fun _ _ _ h => h) (by kernel_rfl) rfl (fun W hW => (by (go_simp; try with_reducible rfl))) hS.base ?_; simp only [Act.put, List.setIfInBounds_toArray, List.set_cons_zero, List.set_cons_succ])
    (refine d_call 27 rfl rfl (by kernel_rfl) (by kernel_rfl) (by kernel_rfl) (fun _ _ _ h => h) (by kernel_rfl) rfl (fun W => by go_simp) hS.base (fun W hW => T64.out W) ?_; simp only [Act.put, List.setIfInBounds_toArray, List.set_cons_zero, List.set_cons_succ])
    (refine d_take (v := (.int .i64 i64)) 28 rfl rfl (by kernel_rfl) (by kernel_rfl) (by kernel_rfl) (fun _ _ _ h => h) (by kernel_rfl) rfl (fun W hW => by (rw [← W64.out]; (go_simp; try with_reducible rfl))) hS.base ?_; simp only [Act.put, List.setIfInBounds_toArray, List.set_cons_zero, List.set_cons_succ])
    (refine d_take 29 rfl rfl (by kernel_rfl) (by kernel_rfl) (by kernel_rfl) (fun _ _ _ h => h) (by kernel_rfl) rfl (fun W hW => (by (go_simp; try with_reducible rfl))) hS.base ?_; simp only [Act.put, List.setIfInBounds_toArray, List.set_cons_zero, List.set_cons_succ])
    (refine d_call 30 rfl rfl (by kernel_rfl) (by kernel_rfl) (by kernel_rfl) (fun _ _ _ h => h) (by kernel_rfl) rfl (fun W => by go_simp) hS.base (fun W hW => T72.out W) ?_; simp only [Act.put, List.setIfInBounds_toArray, List.set_cons_zero, List.set_cons_succ])
    (refine d_take (v := (.int .i64 i72)) 31 rfl rfl (by kernel_rfl) (by kernel_rfl) (by kernel_rfl) (fun _ _ _ h => h) (by kernel_rfl) rfl (fun W hW => by (rw [← W72.out]; (go_simp; try with_reducible rfl))) hS.base ?_; simp only [Act.put, List.setIfInBounds_toArray, List.set_cons_zero, List.set_cons_succ])
    (refine d_take 32 rfl rfl (by kernel_rfl) (by kernel_rfl) (by kernel_rfl) (fun _ _ _ h => h) (by kernel_rfl) rfl (fun W hW => (by (go_simp; try with_reducible rfl))) hS.base ?_; simp only [Act.put, List.setIfInBounds_toArray, List.set_cons_zero, List.set_cons_succ])
    (refine d_call 33 rfl rfl (by kernel_rfl) (by kernel_rfl) (by kernel_rfl) (fun _ _ _ h => h) (by kernel_rfl) rfl (fun W => by go_simp) hS.base (fun W hW => T80.out W) ?_; simp only [Act.put, List.setIfInBounds_toArray, List.set_cons_zero, List.set_cons_succ])
    (refine d_take (v := (.int .i64 i80)) 34 rfl rfl (by kernel_rfl) (by kernel_rfl) (by kernel_rfl) (fun _ _ _ h => h) (by kernel_rfl) rfl (fun W hW => by (rw [← W80.out]; (go_simp; try with_reducible rfl))) hS.base ?_; simp only [Act.put, List.setIfInBounds_toArray, List.set_cons_zero, List.set_cons_succ])
    (refine d_take 35 rfl rfl (by kernel_rfl) (by kernel_rfl) (by kernel_rfl) (fun _ _ _ h => h) (by kernel_rfl) rfl (fun W hW => (by (go_simp; try with_reducible rfl))) hS.base ?_; simp only [Act.put, List.setIfInBounds_toArray, List.set_cons_zero, List.set_cons_succ])
    (refine d_all (rs := [36]) (by kernel_rfl) (by simp) ?_; intro wd hd; replace hS := hS.same hd; clear hd; intro i hi; have hi := List.mem_singleton.1 hi; subst hi)
    refine wod_of rfl rfl rfl (wp_alloc hS rfl rfl rfl rfl ?_)
    clear hS
    intro gb2 w3 hS
    (refine ⟨fun _ => hS.base, ?_⟩; simp only [Act.put, List.setIfInBounds_toArray, List.set_cons_zero, List.set_cons_succ])
    (refine d_all (rs := [37]) (by kernel_rfl) (by simp) ?_; intro wd hd; replace hS := hS.same hd; clear hd; intro i hi; have hi := List.mem_singleton.1 hi; subst hi)
    replace hS := hB _ _ hS
    simp only [List.cons_append, List.nil_append] at hS
    refine won_of rfl rfl rfl (a_storeA (vs := [.int .i64 c8, .int .i64 c9, .int .i64 c10, .int .i64 i24, .int .i64 i32, .int .i64 i40, .int .i64 i48, .int .i64 i56, .int .i64 i64, .int .i64 i72, .int .i64 i80, .int .u64 q16]) (cs' := [.int .i64 c8, .int .i64 c9, .int .i64 c10, .int .i64 i24, .int .i64 i32, .int .i64 i40, .int .i64 i48, .int .i64 i56, .int .i64 i64, .int .i64 i72, .int .i64 i80, .int .u64 q16]) hS rfl rfl rfl (by rfl) (by simp [Value.oneCell']) Sw.here (by simp) (by rfl) ?_)
    clear hS
    intro w6 hS
    (refine ⟨fun h => absurd rfl h, ?_⟩; refine d_done (by kernel_rfl) ?_ _; intro wd hd; replace hS := hS.same hd; clear hd)
    simp only [Act.put, List.setIfInBounds_toArray, List.set_cons_zero, List.set_cons_succ]
    go_wp2_with (fail)
    refine region_calm (by kernel_rfl) (by kernel_rfl) hS ?_
    clear hR hB
    (refine Calm.read rfl (h := ?_); simp only [Act.put, List.setIfInBounds_toArray, List.set_cons_zero, List.set_cons_succ])
    (refine Calm.run rfl (fun W hW => p_move rfl (by (conv => lhs; whnf))) ?_; simp only [Act.put, List.setIfInBounds_toArray, List.set_cons_zero, List.set_cons_succ])
    refine Calm.run (v := .string ⟨B.toArray⟩) rfl (fun W hW => by rw [← HB0.out]; exact a_strLo (l := s) (h := 128) rfl rfl rfl rfl (by omega) (by omega)) ?_
    simp only [Act.put, List.setIfInBounds_toArray, List.set_cons_zero, List.set_cons_succ]
    (refine Calm.call (calm_makes HP.out) rfl (h := ?_); simp only [Act.put, List.setIfInBounds_toArray, List.set_cons_zero, List.set_cons_succ])
    (repeat (first | ((with_reducible refine c_call ?_); first | fail) | refine calm1 (n := ?_)))
    (refine Calm.nil ?_; clear hS; intro w8 hS)
    by_cases hpe0 : pe = 0
    · subst hpe0
      by_cases hps : pk = s
      · subst hps
        have HR : Hid (R = (H, B, 0)) := Lib.hid (by rw [HU.out, if_pos rfl])
        go_wp2_with (first | refine au1 (n := ?_) | (refine au2 (n := ?_); clear hS; intro w' hS) | (refine au3 (n := ?_); clear hS; intro gb w1 hS) | (refine au4 (n := ?_); clear hS; intro v1 w' hS) | ((with_reducible refine wl_guard ?_); refine stop_mem rfl rfl ?_))
        refine region_drift 5 [.row gb [.int .i64 0, .int .i64 0, .int .i64 0, .int .i64 0, .int .i64 0, .int .i64 0, .int .i64 0, .int .i64 0, .int .i64 0, .int .i64 0, .int .i64 0, .int .u64 0] 82 (0, 0)] [.row gb2 [.int .i64 c8, .int .i64 c9, .int .i64 c10, .int .i64 i24, .int .i64 i32, .int .i64 i40, .int .i64 i48, .int .i64 i56, .int .i64 i64, .int .i64 i72, .int .i64 i80, .int .u64 q16] 82 (0, 0)] hS.pick (by kernel_rfl) ?_
        clear hS
        intro F wx hR hB hS
        (refine d_take 0 rfl rfl (by kernel_rfl) (by kernel_rfl) (by kernel_rfl) (fun _ _ _ h => h) (by kernel_rfl) rfl (fun W hW => rdR) hS.base ?_; simp only [Act.put, List.setIfInBounds_toArray, List.set_cons_zero, List.set_cons_succ])
        (refine d_take 1 rfl rfl (by kernel_rfl) (by kernel_rfl) (by kernel_rfl) (fun _ _ _ h => h) (by kernel_rfl) rfl (fun W hW => (by (go_simp; try with_reducible rfl))) hS.base ?_; simp only [Act.put, List.setIfInBounds_toArray, List.set_cons_zero, List.set_cons_succ])
        (refine d_take (v := (.string ⟨B.toArray⟩)) 2 rfl rfl (by kernel_rfl) (by kernel_rfl) (by kernel_rfl) (fun _ _ _ h => h) (by kernel_rfl) rfl (fun W hW => by (rw [← HB0.out]; exact a_strLo (l := pk) (h := 128) rfl rfl rfl rfl (by omega) (by omega))) hS.base ?_; simp only [Act.put, List.setIfInBounds_toArray, List.set_cons_zero, List.set_cons_succ])
        (refine d_all (rs := [3]) (by kernel_rfl) (by simp) ?_; intro wd hd; replace hS := hS.same hd; clear hd; intro i hi; have hi := List.mem_singleton.1 hi; subst hi)
        refine won_of rfl rfl rfl (a_storeA (vs := [.int .i64 c8, .int .i64 c9, .int .i64 c10, .int .i64 i24, .int .i64 i32, .int .i64 i40, .int .i64 i48, .int .i64 i56, .int .i64 i64, .int .i64 i72, .int .i64 i80, .int .u64 q16]) (cs' := [.int .i64 c8, .int .i64 c9, .int .i64 c10, .int .i64 i24, .int .i64 i32, .int .i64 i40, .int .i64 i48, .int .i64 i56, .int .i64 i64, .int .i64 i72, .int .i64 i80, .int .u64 q16]) hS rfl rfl rfl (by rfl) (by simp [Value.oneCell']) Sw.here (by simp) (by rfl) ?_)
        clear hS
        intro w3 hS
        (refine ⟨fun _ => hS.base, ?_⟩; simp only [Act.put, List.setIfInBounds_toArray, List.set_cons_zero, List.set_cons_succ])
        (refine d_take 4 rfl rfl (by kernel_rfl) (by kernel_rfl) (by kernel_rfl) (fun _ _ _ h => h) (by kernel_rfl) rfl (fun W hW => (by (go_simp; try with_reducible rfl))) hS.base ?_; simp only [Act.put, List.setIfInBounds_toArray, List.set_cons_zero, List.set_cons_succ])
        (refine d_all (rs := [5]) (by kernel_rfl) (by simp) ?_; intro wd hd; replace hS := hS.same hd; clear hd; intro i hi; have hi := List.mem_singleton.1 hi; subst hi)
        refine wod_of rfl rfl rfl (wp_run (by (go_simp; first | done | exact ⟨rfl, rfl⟩ | with_reducible rfl)) ?_)
        replace hS := hB _ _ hS
        (refine ⟨fun h => absurd rfl h, ?_⟩; refine d_done (by kernel_rfl) ?_ _; intro wd hd; replace hS := hS.same hd; clear hd)
        simp only [Act.put, List.setIfInBounds_toArray, List.set_cons_zero, List.set_cons_succ]
        go_wp2_with (first | refine au1 (n := ?_) | (refine au2 (n := ?_); clear hS; intro w' hS) | (refine au3 (n := ?_); clear hS; intro gb w1 hS) | (refine au4 (n := ?_); clear hS; intro v1 w' hS) | ((with_reducible refine wl_guard ?_); refine stop_mem rfl rfl ?_))
        exact end_cell3 hS rfl rfl rfl rfl rfl rfl rfl (h := ⟨by rw [HR.out, HHc.out]; rfl, hS.nil⟩)
      · have hb : (pk == s) = false := by rw [beq_eq_false_iff_ne]; exact hps
        have HR : Hid (R = (zeroHd, [], 4)) := Lib.hid (by rw [HU.out, if_neg (fun h => hps (congrArg Prod.fst h))])
        go_wp2_with (first | refine au1 (n := ?_) | (refine au2 (n := ?_); clear hS; intro w' hS) | (refine au3 (n := ?_); clear hS; intro gb w1 hS) | (refine au4 (n := ?_); clear hS; intro v1 w' hS) | ((with_reducible refine wl_guard ?_); refine stop_mem rfl rfl ?_))
        exact end_cell3 hS rfl rfl rfl rfl rfl rfl rfl (h := ⟨by rw [HR.out]; rfl, hS.nil⟩)
    · have hb : (pe == 0) = false := by rw [beq_eq_false_iff_ne]; exact hpe0
      have HR : Hid (R = (zeroHd, [], 4)) := Lib.hid (by rw [HU.out, if_neg (fun h => hpe0 (congrArg Prod.snd h))])
      rcases hpe with rfl | rfl | rfl
      · exact absurd rfl hpe0
      · clear hpe0 hb
        go_wp2_with (first | refine au1 (n := ?_) | (refine au2 (n := ?_); clear hS; intro w' hS) | (refine au3 (n := ?_); clear hS; intro gb w1 hS) | (refine au4 (n := ?_); clear hS; intro v1 w' hS) | ((with_reducible refine wl_guard ?_); refine stop_mem rfl rfl ?_))
        exact end_cell3 hS rfl rfl rfl rfl rfl rfl rfl (h := ⟨by rw [HR.out]; rfl, hS.nil⟩)
      · clear hpe0 hb
        go_wp2_with (first | refine au1 (n := ?_) | (refine au2 (n := ?_); clear hS; intro w' hS) | (refine au3 (n := ?_); clear hS; intro gb w1 hS) | (refine au4 (n := ?_); clear hS; intro v1 w' hS) | ((with_reducible refine wl_guard ?_); refine stop_mem rfl rfl ?_))
        exact end_cell3 hS rfl rfl rfl rfl rfl rfl rfl (h := ⟨by rw [HR.out]; rfl, hS.nil⟩)
end
end Go.Proofs.Ytkcgacadkpbpoaa
