/-
  Superblocks: compared; packed by the program.
-/
import Derived.Test.YtbfdnpahojoccaaSup1
import Derived.Test.YtbfdnpahojoccaaStrEq
import Derived.Test.YtbfdnpahojoccaaHead3
set_option linter.unusedSimpArgs false
set_option linter.unusedVariables false
set_option linter.unusedSectionVars false
set_option maxRecDepth 100000
namespace Go.Cmp
open Go.RowKit
def i64c (n : Int) : List Value := [.int .i64 n]
def u64d (n : Nat) : List Value := [.int .u64 (n : Int)]
def intsB (L : List Int) : List UInt8 := L.flatMap (fun n => leB 8 n.toNat)
def natsB (L : List Nat) : List UInt8 := L.flatMap (leB 8)
def Sup.ints (s : Sup) : List Int := [s.seq, s.who, s.count, s.view, s.log, s.cop, s.cview]
def Sup.sums (s : Sup) : List Nat := [s.s0, s.s1, s.s2, s.s3, s.s4, s.s5]
theorem intsB_len (L : List Int) : (intsB L).length = 8 * L.length := by
  induction L with
  | nil => rfl
  | cons x L ih => unfold intsB at *; simp only [List.flatMap_cons, List.length_append, leB_length, ih, List.length_cons]; omega
theorem intsB_snoc {L : List Int} {i : Nat} (h : i < L.length) : intsB (L.take (i + 1)) = intsB (L.take i) ++ leB 8 (nth L i).toNat := by
  unfold intsB
  rw [take_nth h, List.flatMap_append]; simp
theorem natsB_snoc {L : List Nat} {i : Nat} (h : i < L.length) : natsB (L.take (i + 1)) = natsB (L.take i) ++ leB 8 (nth L i) := by
  unfold natsB
  rw [take_nth h, List.flatMap_append]; simp
theorem u64_idS {x : Int} (h0 : 0 ≤ x) (h1 : x ≤ 72057594037927935) : IntKind.u64.wrap x = x := by
  simp only [IntKind.wrap, IntKind.bits, IntKind.signed]
  simp
  omega
theorem natsB_len (L : List Nat) : (natsB L).length = 8 * L.length := flat8_length L
theorem supB_parts (s : Sup) : supB s = intsB s.ints ++ leB 8 s.csum ++ leB 8 s.area.toNat ++ leB 8 s.size.toNat ++ natsB s.sums ++ leB 8 s.parent := by
  simp [supB, Sup.nums, intsB, natsB, Sup.ints, Sup.sums]
end Go.Cmp
namespace Go.Proofs.Ytbfdnpahojoccaa
open Go.RowKit Go.Cmp

section
variable {S : List Nat} {w0 w : World} {M : List Ent}
set_option maxHeartbeats 2000000 in
theorem eqSup (s t : Sup) : eqV Try.prog 4 28 (.agg s.cells.toArray) (.agg t.cells.toArray) = some (decide (s = t)) := by
  obtain ⟨a1, a2, a3, a4, a5, a6, a7, a8, a9, a10, a11, a12, a13, a14, a15, a16, a17⟩ := s
  obtain ⟨b1, b2, b3, b4, b5, b6, b7, b8, b9, b10, b11, b12, b13, b14, b15, b16, b17⟩ := t
  have e : eqV Try.prog 4 28 (.agg (Sup.cells ⟨a1, a2, a3, a4, a5, a6, a7, a8, a9, a10, a11, a12, a13, a14, a15, a16, a17⟩).toArray) (.agg (Sup.cells ⟨b1, b2, b3, b4, b5, b6, b7, b8, b9, b10, b11, b12, b13, b14, b15, b16, b17⟩).toArray) = some ((a1 == b1) && ((a2 == b2) && ((a3 == b3) && ((a4 == b4) && ((a5 == b5) && (((a6 == b6) && ((a7 == b7) && (((a8 : Int) == (b8 : Int)) && true))) && ((a9 == b9) && ((a10 == b10) && ((((a11 : Int) == (b11 : Int)) && (((a12 : Int) == (b12 : Int)) && (((a13 : Int) == (b13 : Int)) && (((a14 : Int) == (b14 : Int)) && (((a15 : Int) == (b15 : Int)) && (((a16 : Int) == (b16 : Int)) && true)))))) && (((a17 : Int) == (b17 : Int)) && true)))))))))) := by rfl
  rw [e]
  congr 1
  rw [Bool.eq_iff_iff]
  simp only [Bool.and_eq_true, beq_iff_eq, Int.ofNat_inj, decide_eq_true_eq, and_true, Sup.mk.injEq]
  constructor
  · rintro ⟨h1, h2, h3, h4, h5, ⟨h6, h7, h8⟩, h9, h10, ⟨h11, h12, h13, h14, h15, h16⟩, h17⟩
    exact ⟨h1, h2, h3, h4, h5, h6, h7, h8, h9, h10, h11, h12, h13, h14, h15, h16, h17⟩
  · rintro ⟨h1, h2, h3, h4, h5, h6, h7, h8, h9, h10, h11, h12, h13, h14, h15, h16, h17⟩
    exact ⟨h1, h2, h3, h4, h5, ⟨h6, h7, h8⟩, h9, h10, ⟨h11, h12, h13, h14, h15, h16⟩, h17⟩
set_option maxHeartbeats 8000000 in
theorem supPack_any (s : Sup) (hu : s.U64) (w : World) :
    Calls Try.prog 16 #[.agg s.cells.toArray] w fun e w' => e = .returned (.tuple #[.string ⟨(packU s).1.toArray⟩, .int .i64 (packU s).2]) ∧ St [] w w' [] := by
  have hS := St.init w
  have HR := Lib.hid (fun w => supRight_any s w)
  cases hr : s.right
  · have e : packU s = ([], 4) := by unfold packU; rw [if_pos hr]
    rw [e]
    rw [hr] at HR
    clear hr e hu
    obtain ⟨seq, who, count, view, log, cop, cview, csum, area, size, s0, s1, s2, s3, s4, s5, parent⟩ := s
    simp only [Sup.cells] at HR ⊢
    (go_enter Try.func16, Try.ntmps16)
    go_wp2_with (first | go_skip | ((with_reducible refine g_box ?_); refine wl_of rfl ?_; refine wp_box hS rfl rfl rfl ?_; clear hS; intro gs w1 hS) | (go_at_call 13; refine (HR.out _).mono ?_; rintro e w' ⟨rfl, h⟩; replace hS := hS.call h; clear h) | ((with_reducible refine g_load ?_); refine wl_run rfl (by first | exact a_load1 hS rfl rfl rfl rfl (by (repeat (first | exact Ix.here | apply Ix.there))) (by rfl) | exact a_loadR hS rfl rfl rfl rfl (by (repeat (first | exact Ix.here | apply Ix.there))) (by rfl) | fail) ?_))
    go_ret2
    exact ⟨rfl, hS.nil⟩
  · have e : packU s = (supB s, 0) := by unfold packU; rw [if_neg (by simp [hr])]
    have r := sup_right.1 hr
    rw [e]
    rw [hr] at HR
    clear hr e
    have hBB := supB_parts s
    have hl7 : s.ints.length = 7 := rfl
    have hl6 : s.sums.length = 6 := rfl
    have hi7 : ∀ i, i < 7 → 0 ≤ nth s.ints i ∧ nth s.ints i ≤ 72057594037927935 := by
      obtain ⟨q1, q2, q3, q4, q5, q6, q7, q8, q9⟩ := r
      intro i hi
      match i, hi with
      | 0, _ => show 0 ≤ s.seq ∧ s.seq ≤ _; omega
      | 1, _ => show 0 ≤ s.who ∧ s.who ≤ _; omega
      | 2, _ => show 0 ≤ s.count ∧ s.count ≤ _; omega
      | 3, _ => show 0 ≤ s.view ∧ s.view ≤ _; omega
      | 4, _ => show 0 ≤ s.log ∧ s.log ≤ _; omega
      | 5, _ => show 0 ≤ s.cop ∧ s.cop ≤ _; omega
      | 6, _ => show 0 ≤ s.cview ∧ s.cview ≤ _; omega
    have hn6 : ∀ i, i < 6 → nth s.sums i < 18446744073709551616 := by
      obtain ⟨q1, q2, q3, q4, q5, q6, q7, q8⟩ := hu
      intro i hi
      match i, hi with
      | 0, _ => exact q2
      | 1, _ => exact q3
      | 2, _ => exact q4
      | 3, _ => exact q5
      | 4, _ => exact q6
      | 5, _ => exact q7
    have hc := hu.csum
    have hpa := hu.parent
    obtain ⟨ha1, ha2⟩ := r.area
    obtain ⟨hz1, hz2⟩ := r.size
    clear r hu
    obtain ⟨B, hB⟩ : ∃ B, supB s = B := ⟨_, rfl⟩
    obtain ⟨L7, hL7⟩ : ∃ L, s.ints = L := ⟨_, rfl⟩
    obtain ⟨L6, hL6⟩ : ∃ L, s.sums = L := ⟨_, rfl⟩
    have hcs : s.cells = L7.flatMap i64c ++ [.int .u64 s.csum, .int .i64 s.area, .int .i64 s.size] ++ L6.flatMap u64d ++ [.int .u64 s.parent] := by rw [← hL7, ← hL6]; rfl
    rw [hB] at hBB ⊢
    rw [hL7] at hBB hl7 hi7
    rw [hL6] at hBB hl6 hn6
    have HV7 : Hid ([Value.int .i64 s.seq, .int .i64 s.who, .int .i64 s.count, .int .i64 s.view, .int .i64 s.log, .int .i64 s.cop, .int .i64 s.cview] = L7.flatMap i64c) := Lib.hid (by rw [← hL7]; rfl)
    have HV6 : Hid ([Value.int .u64 s.s0, .int .u64 s.s1, .int .u64 s.s2, .int .u64 s.s3, .int .u64 s.s4, .int .u64 s.s5] = L6.flatMap u64d) := Lib.hid (by rw [← hL6]; rfl)
    clear hL7 hL6 hcs hB
    obtain ⟨seq, who, count, view, log, cop, cview, csum, area, size, s0, s1, s2, s3, s4, s5, parent⟩ := s
    simp only at ha1 ha2 hz1 hz2 hc hpa hBB HV7 HV6
    have HB := Lib.hid hBB
    have HI := Lib.hid hi7
    have HN := Lib.hid hn6
    clear hBB hi7 hn6
    simp only [Sup.cells] at HR ⊢
    (go_enter Try.func16, Try.ntmps16)
    go_wp2_with (first | go_skip | ((with_reducible refine g_box ?_); refine wl_of rfl ?_; refine wp_box hS rfl rfl rfl ?_; clear hS; intro gs w1 hS) | (go_at_call 13; refine (HR.out _).mono ?_; rintro e w' ⟨rfl, h⟩; replace hS := hS.call h; clear h) | ((with_reducible refine g_load ?_); refine wl_run rfl (by first | exact a_load1 hS rfl rfl rfl rfl (by (repeat (first | exact Ix.here | apply Ix.there))) (by rfl) | exact a_loadR hS rfl rfl rfl rfl (by (repeat (first | exact Ix.here | apply Ix.there))) (by rfl) | fail) ?_) | ((with_reducible refine g_bs ?_); refine wl_of rfl ?_; refine wp_buildSlice1 (vs := [.int .i64 seq, .int .i64 who, .int .i64 count, .int .i64 view, .int .i64 log, .int .i64 cop, .int .i64 cview]) hS rfl rfl rfl rfl rfl rfl (by decide) ⟨rfl, by simp [Value.cells]⟩ ?_; clear hS; intro vu w4 hS) | ((with_reducible refine g_len ?_); refine wl_run rfl (v := .int .i64 7) (a_len rfl rfl rfl (hS.rdx (by (repeat (first | exact Ix.here | apply Ix.there))))) ?_))
    replace hS : St [] w w4 [.vec vu 3 1 L7.length (L7.flatMap i64c), .row gs [.int .i64 seq, .int .i64 who, .int .i64 count, .int .i64 view, .int .i64 log, .int .i64 cop, .int .i64 cview, .int .u64 csum, .int .i64 area, .int .i64 size, .int .u64 s0, .int .u64 s1, .int .u64 s2, .int .u64 s3, .int .u64 s4, .int .u64 s5, .int .u64 parent] 28 (0, 0)] := by rw [← HV7.out, hl7]; exact hS.pick
    go_loopw [4, 30] (fun b k wz => ∃ i : Nat, i ≤ 7 ∧ k = .int .i64 i ∧ St [] w wz [.vec b 5 1 (intsB (L7.take i)).length ((intsB (L7.take i)).flatMap byt), .vec vu 3 1 L7.length (L7.flatMap i64c), .row gs [.int .i64 seq, .int .i64 who, .int .i64 count, .int .i64 view, .int .i64 log, .int .i64 cop, .int .i64 cview, .int .u64 csum, .int .i64 area, .int .i64 size, .int .u64 s0, .int .u64 s1, .int .u64 s2, .int .u64 s3, .int .u64 s4, .int .u64 s5, .int .u64 parent] 28 (0, 0)]) (fun _ k _ => 7 - (intOf k).toNat)
    case atStart => exact ⟨0, by omega, rfl, by simpa [intsB] using hS.addNil 5 1⟩
    case round =>
      clear hS
      obtain ⟨i, hi, rfl, hS⟩ := hrel
      by_cases hi5 : i < 7
      · have hi51 : (i : Int) < 7 := by omega
        obtain ⟨x0, x1⟩ := HI.out i hi5
        have HSN := Lib.hid (intsB_snoc (L := L7) (i := i) (by omega))
        have hal : (intsB (L7.take i)).length ≤ 1000 := by rw [intsB_len, List.length_take]; omega
        have HX : Hid (L7[i]? = some (nth L7 i)) := Lib.hid (get_lt (by omega))
        generalize nth L7 i = x at HX HSN x0 x1
        have hw1 : IntKind.u64.wrap x = x := u64_idS x0 x1
        obtain ⟨A, hA⟩ : ∃ A, intsB (L7.take i) = A := ⟨_, rfl⟩
        rw [hA] at hS hal HSN
        clear hA
        have hx0 := HX.out
        go_wp2_with (first | go_skip | ((with_reducible refine g_load ?_); refine wl_run rfl (v := .int .i64 x) (a_loadE (L := L7) (f := i64c) rfl (hS.rdx (by (repeat (first | exact Ix.here | apply Ix.there)))) rfl rfl rfl (by intro _; rfl) hx0 (by rfl)) ?_) | ((with_reducible refine g_index ?_); refine wl_run rfl (by exact a_index rfl rfl rfl rfl (hS.rdx (by (repeat (first | exact Ix.here | apply Ix.there)))) (by rfl) (by omega) (by omega)) ?_))
        refine (put_on (l := A) hS x 8 (by omega) (by omega) (by omega) (by omega) (by omega)).mono ?_
        clear hS
        rintro e w' ⟨va1, rfl, hS⟩
        go_wp2_with (fail)
        refine ⟨⟨i + 1, by omega, by simp, ?_⟩, by simp [intOf]; omega⟩
        rw [HSN.out]
        exact hS
      · obtain rfl : i = 7 := by omega
        rw [List.take_of_length_le (by omega)] at hS
        have hal : (intsB L7).length ≤ 56 := by rw [intsB_len]; omega
        have HBQ := Lib.hid HB.out
        clear HB
        obtain ⟨A0, hA⟩ : ∃ A, intsB L7 = A := ⟨_, rfl⟩
        rw [hA] at hS hal HBQ
        clear hA
        have hwa : IntKind.u64.wrap area = area := u64_idS ha1 (by omega)
        have hwz : IntKind.u64.wrap size = size := u64_idS hz1 (by omega)
        go_wp2_with (first | go_skip | ((with_reducible refine g_load ?_); refine wl_run rfl (by first | exact a_load1 hS rfl rfl rfl rfl (by (repeat (first | exact Ix.here | apply Ix.there))) (by rfl) | exact a_loadR hS rfl rfl rfl rfl (by (repeat (first | exact Ix.here | apply Ix.there))) (by rfl) | fail) ?_))
        refine (put_on (l := A0) (hS.out (by (repeat (first | exact Out.here | apply Out.there)))) (csum : Int) 8 (by omega) (by omega) (by omega) (by omega) (by omega)).mono ?_
        clear hS
        rintro e w' ⟨va1, rfl, hS⟩
        obtain ⟨A1, hA1⟩ : ∃ Z, A0 ++ leB 8 ((csum : Int)).toNat = Z := ⟨_, rfl⟩
        have hal1 : A1.length ≤ 64 := by rw [← hA1, List.length_append, leB_length]; omega
        rw [hA1] at hS
        have HA1 := Lib.hid hA1
        clear hA1
        go_wp2_with (first | go_skip | ((with_reducible refine g_load ?_); refine wl_run rfl (by first | exact a_load1 hS rfl rfl rfl rfl (by (repeat (first | exact Ix.here | apply Ix.there))) (by rfl) | exact a_loadR hS rfl rfl rfl rfl (by (repeat (first | exact Ix.here | apply Ix.there))) (by rfl) | fail) ?_))
        refine (put_on (l := A1) (hS.out (by (repeat (first | exact Out.here | apply Out.there)))) area 8 (by omega) (by omega) (by omega) (by omega) (by omega)).mono ?_
        clear hS
        rintro e w' ⟨va2, rfl, hS⟩
        obtain ⟨A2, hA2⟩ : ∃ Z, A1 ++ leB 8 (area).toNat = Z := ⟨_, rfl⟩
        have hal2 : A2.length ≤ 72 := by rw [← hA2, List.length_append, leB_length]; omega
        rw [hA2] at hS
        have HA2 := Lib.hid hA2
        clear hA2
        go_wp2_with (first | go_skip | ((with_reducible refine g_load ?_); refine wl_run rfl (by first | exact a_load1 hS rfl rfl rfl rfl (by (repeat (first | exact Ix.here | apply Ix.there))) (by rfl) | exact a_loadR hS rfl rfl rfl rfl (by (repeat (first | exact Ix.here | apply Ix.there))) (by rfl) | fail) ?_))
        refine (put_on (l := A2) (hS.out (by (repeat (first | exact Out.here | apply Out.there)))) size 8 (by omega) (by omega) (by omega) (by omega) (by omega)).mono ?_
        clear hS
        rintro e w' ⟨va3, rfl, hS⟩
        obtain ⟨A3, hA3⟩ : ∃ Z, A2 ++ leB 8 (size).toNat = Z := ⟨_, rfl⟩
        have hal3 : A3.length ≤ 80 := by rw [← hA3, List.length_append, leB_length]; omega
        rw [hA3] at hS
        have HA3 := Lib.hid hA3
        clear hA3
        have HV6L := HV6
        go_wp2_with (first | go_skip | ((with_reducible refine g_load ?_); refine wl_run rfl (a_loadA (vs := [.int .u64 s0, .int .u64 s1, .int .u64 s2, .int .u64 s3, .int .u64 s4, .int .u64 s5]) hS rfl rfl rfl rfl (by (repeat (first | exact Ix.here | apply Ix.there))) 6 (by rfl) (by rfl) (by rfl)) ?_) | ((with_reducible refine g_load ?_); refine wl_run rfl (by first | exact a_load1 hS rfl rfl rfl rfl (by (repeat (first | exact Ix.here | apply Ix.there))) (by rfl) | exact a_loadR hS rfl rfl rfl rfl (by (repeat (first | exact Ix.here | apply Ix.there))) (by rfl) | fail) ?_))
        replace hS : St [] w w' [.vec va3 5 1 (A3).length ((A3).flatMap byt), .row gs [.int .i64 seq, .int .i64 who, .int .i64 count, .int .i64 view, .int .i64 log, .int .i64 cop, .int .i64 cview, .int .u64 csum, .int .i64 area, .int .i64 size, .int .u64 s0, .int .u64 s1, .int .u64 s2, .int .u64 s3, .int .u64 s4, .int .u64 s5, .int .u64 parent] 28 (0, 0)] := hS.pick
        go_loopw [4, 68] (fun b k wz => ∃ i : Nat, i ≤ 6 ∧ k = .int .i64 i ∧ St [] w wz [.vec b 5 1 (A3 ++ natsB (L6.take i)).length ((A3 ++ natsB (L6.take i)).flatMap byt), .row gs [.int .i64 seq, .int .i64 who, .int .i64 count, .int .i64 view, .int .i64 log, .int .i64 cop, .int .i64 cview, .int .u64 csum, .int .i64 area, .int .i64 size, .int .u64 s0, .int .u64 s1, .int .u64 s2, .int .u64 s3, .int .u64 s4, .int .u64 s5, .int .u64 parent] 28 (0, 0)]) (fun _ k _ => 6 - (intOf k).toNat)
        case atStart => exact ⟨0, by omega, rfl, by simpa [natsB] using hS⟩
        case round =>
          clear hS
          obtain ⟨i, hi, rfl, hS⟩ := hrel
          by_cases hi5 : i < 6
          · have hi51 : (i : Int) < 6 := by omega
            have x1 := HN.out i hi5
            have HSN := Lib.hid (natsB_snoc (L := L6) (i := i) (by omega))
            have hal : (A3 ++ natsB (L6.take i)).length ≤ 1000 := by rw [List.length_append, natsB_len, List.length_take]; omega
            have HX : Hid ([Value.int .u64 s0, .int .u64 s1, .int .u64 s2, .int .u64 s3, .int .u64 s4, .int .u64 s5][i]? = some (.int .u64 (nth L6 i : Nat))) := Lib.hid (by rw [HV6.out]; have := flat_get (f := u64d) (k := 1) (fun _ => rfl) L6 i (nth L6 i) (get_lt (by omega)) 0 (.int .u64 (nth L6 i : Nat)) rfl; simpa using this)
            generalize nth L6 i = x at HX HSN x1
            obtain ⟨A, hA⟩ : ∃ A, A3 ++ natsB (L6.take i) = A := ⟨_, rfl⟩
            rw [hA] at hS hal
            have HA := Lib.hid hA
            clear hA
            go_wp2_with (first | go_skip | ((with_reducible refine g_indexV ?_); refine wl_run rfl (x_indexA rfl rfl rfl rfl rfl rfl rfl rfl (by omega) (by omega) HX.out) ?_))
            refine (put_on (l := A) hS (x : Int) 8 (by omega) (by omega) (by omega) (by omega) (by omega)).mono ?_
            clear hS
            rintro e w' ⟨va1, rfl, hS⟩
            go_wp2_with (fail)
            refine ⟨⟨i + 1, by omega, by simp, ?_⟩, by simp [intOf]; omega⟩
            rw [HSN.out, ← List.append_assoc, HA.out]
            exact hS
          · obtain rfl : i = 6 := by omega
            rw [List.take_of_length_le (by omega)] at hS
            have hal : (A3 ++ natsB L6).length ≤ 1000 := by rw [List.length_append, natsB_len]; omega
            obtain ⟨A4, hA⟩ : ∃ A, A3 ++ natsB L6 = A := ⟨_, rfl⟩
            rw [hA] at hS hal
            have HA4 := Lib.hid hA
            clear hA
            go_wp2_with (first | go_skip | ((with_reducible refine g_load ?_); refine wl_run rfl (by first | exact a_load1 hS rfl rfl rfl rfl (by (repeat (first | exact Ix.here | apply Ix.there))) (by rfl) | exact a_loadR hS rfl rfl rfl rfl (by (repeat (first | exact Ix.here | apply Ix.there))) (by rfl) | fail) ?_))
            refine (put_on (l := A4) (hS.out (by (repeat (first | exact Out.here | apply Out.there)))) (parent : Int) 8 (by omega) (by omega) (by omega) (by omega) (by omega)).mono ?_
            clear hS
            rintro e w' ⟨va5, rfl, hS⟩
            obtain ⟨A5, hA5⟩ : ∃ Z, A4 ++ leB 8 (parent : Int).toNat = Z := ⟨_, rfl⟩
            have hal5 : A5.length ≤ 1008 := by rw [← hA5, List.length_append, leB_length]; omega
            have HE : Hid (A5 = B) := Lib.hid (by rw [HBQ.out, ← hA5, ← HA4.out, ← HA3.out, ← HA2.out, ← HA1.out]; simp)
            rw [hA5] at hS
            clear hA5
            go_wp2_with (first | go_skip | ((with_reducible refine g_conv ?_); refine wl_run rfl (by exact a_toString2 rfl rfl rfl rfl rfl (hS.rdx (by (repeat (first | exact Ix.here | apply Ix.there))))) ?_))
            go_ret2
            exact ⟨by rw [HE.out]; rfl, hS.nil⟩
end
end Go.Proofs.Ytbfdnpahojoccaa
