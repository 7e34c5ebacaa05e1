/-
  Superblocks: compared; packed by the program.
  Superblocks: the program's Unpack.
  Superblocks: the program's Next, and what a copy has.
-/
import Derived.Test.YtbfdnpahojoccaaSup1
import Derived.Test.YtbfdnpahojoccaaStrEq
import Derived.Test.YtbfdnpahojoccaaHead3
import Derived.Test.YtbfdnpahojoccaaHead7
import Derived.Test.YtbfdnpahojoccaaSupP
import Derived.Test.YtbfdnpahojoccaaDiskA
import Derived.Test.YtbfdnpahojoccaaSeal3
set_option linter.unusedSimpArgs false
set_option linter.unusedVariables false
set_option linter.unusedSectionVars false
set_option maxRecDepth 100000
namespace Go.Cmp
open Go.RowKit
def i64c (n : Int) : List Value := [.int .i64 n]
def u64d (n : Nat) : List Value := [.int .u64 (n : Int)]
def intsB (L : List Int) : List UInt8 := L.flatMap (fun n => leB 8 n.toNat)
def natsB (L : List Nat) : List UInt8 := L.flatMap (leB 8)
def Sup.ints (s : Sup) : List Int := [s.seq, s.who, s.count, s.view, s.log, s.cop, s.cview]
def Sup.sums (s : Sup) : List Nat := [s.s0, s.s1, s.s2, s.s3, s.s4, s.s5]
theorem intsB_len (L : List Int) : (intsB L).length = 8 * L.length := by
  induction L with
  | nil => rfl
  | cons x L ih => unfold intsB at *; simp only [List.flatMap_cons, List.length_append, leB_length, ih, List.length_cons]; omega
theorem intsB_snoc {L : List Int} {i : Nat} (h : i < L.length) : intsB (L.take (i + 1)) = intsB (L.take i) ++ leB 8 (nth L i).toNat := by
  unfold intsB
  rw [take_nth h, List.flatMap_append]; simp
theorem natsB_snoc {L : List Nat} {i : Nat} (h : i < L.length) : natsB (L.take (i + 1)) = natsB (L.take i) ++ leB 8 (nth L i) := by
  unfold natsB
  rw [take_nth h, List.flatMap_append]; simp
theorem u64_idS {x : Int} (h0 : 0 ≤ x) (h1 : x ≤ 72057594037927935) : IntKind.u64.wrap x = x := by
  simp only [IntKind.wrap, IntKind.bits, IntKind.signed]
  simp
  omega
theorem natsB_len (L : List Nat) : (natsB L).length = 8 * L.length := flat8_length L
theorem supB_parts (s : Sup) : supB s = intsB s.ints ++ leB 8 s.csum ++ leB 8 s.area.toNat ++ leB 8 s.size.toNat ++ natsB s.sums ++ leB 8 s.parent := by
  simp [supB, Sup.nums, intsB, natsB, Sup.ints, Sup.sums]
end Go.Cmp
namespace Go.Proofs.Ytbfdnpahojoccaa
open Go.RowKit Go.Cmp

section
variable {S : List Nat} {w0 w : World} {M : List Ent}
set_option maxHeartbeats 2000000 in
theorem eqSup (s t : Sup) : eqV Try.prog 4 28 (.agg s.cells.toArray) (.agg t.cells.toArray) = some (decide (s = t)) := by
  obtain ⟨a1, a2, a3, a4, a5, a6, a7, a8, a9, a10, a11, a12, a13, a14, a15, a16, a17⟩ := s
  obtain ⟨b1, b2, b3, b4, b5, b6, b7, b8, b9, b10, b11, b12, b13, b14, b15, b16, b17⟩ := t
  have e : eqV Try.prog 4 28 (.agg (Sup.cells ⟨a1, a2, a3, a4, a5, a6, a7, a8, a9, a10, a11, a12, a13, a14, a15, a16, a17⟩).toArray) (.agg (Sup.cells ⟨b1, b2, b3, b4, b5, b6, b7, b8, b9, b10, b11, b12, b13, b14, b15, b16, b17⟩).toArray) = some ((a1 == b1) && ((a2 == b2) && ((a3 == b3) && ((a4 == b4) && ((a5 == b5) && (((a6 == b6) && ((a7 == b7) && (((a8 : Int) == (b8 : Int)) && true))) && ((a9 == b9) && ((a10 == b10) && ((((a11 : Int) == (b11 : Int)) && (((a12 : Int) == (b12 : Int)) && (((a13 : Int) == (b13 : Int)) && (((a14 : Int) == (b14 : Int)) && (((a15 : Int) == (b15 : Int)) && (((a16 : Int) == (b16 : Int)) && true)))))) && (((a17 : Int) == (b17 : Int)) && true)))))))))) := by rfl
  rw [e]
  congr 1
  rw [Bool.eq_iff_iff]
  simp only [Bool.and_eq_true, beq_iff_eq, Int.ofNat_inj, decide_eq_true_eq, and_true, Sup.mk.injEq]
  constructor
  · rintro ⟨h1, h2, h3, h4, h5, ⟨h6, h7, h8⟩, h9, h10, ⟨h11, h12, h13, h14, h15, h16⟩, h17⟩
    exact ⟨h1, h2, h3, h4, h5, h6, h7, h8, h9, h10, h11, h12, h13, h14, h15, h16, h17⟩
  · rintro ⟨h1, h2, h3, h4, h5, h6, h7, h8, h9, h10, h11, h12, h13, h14, h15, h16, h17⟩
    exact ⟨h1, h2, h3, h4, h5, ⟨h6, h7, h8⟩, h9, h10, ⟨h11, h12, h13, h14, h15, h16⟩, h17⟩
set_option maxHeartbeats 8000000 in
theorem supPack_any (s : Sup) (hu : s.U64) (w : World) :
    Calls Try.prog 16 #[.agg s.cells.toArray] w fun e w' => e = .returned (.tuple #[.string ⟨(packU s).1.toArray⟩, .int .i64 (packU s).2]) ∧ St [] w w' [] := by
  have hS := St.init w
  have HR := Lib.hid (fun w => supRight_any s w)
  cases hr : s.right
  · have e : packU s = ([], 4) := by unfold packU; rw [if_pos hr]
    rw [e]
    rw [hr] at HR
    clear hr e hu
    obtain ⟨seq, who, count, view, log, cop, cview, csum, area, size, s0, s1, s2, s3, s4, s5, parent⟩ := s
    simp only [Sup.cells] at HR ⊢
    (go_enter Try.func16, Try.ntmps16)
    go_wp2_with (first | go_skip | ((with_reducible refine g_box ?_); refine wl_of rfl ?_; refine wp_box hS rfl rfl rfl ?_; clear hS; intro gs w1 hS) | (go_at_call 13; refine (HR.out _).mono ?_; rintro e w' ⟨rfl, h⟩; replace hS := hS.call h; clear h) | ((with_reducible refine g_load ?_); refine wl_run rfl (by first | exact a_load1 hS rfl rfl rfl rfl (by (repeat (first | exact Ix.here | apply Ix.there))) (by rfl) | exact a_loadR hS rfl rfl rfl rfl (by (repeat (first | exact Ix.here | apply Ix.there))) (by rfl) | fail) ?_))
    go_ret2
    exact ⟨rfl, hS.nil⟩
  · have e : packU s = (supB s, 0) := by unfold packU; rw [if_neg (by simp [hr])]
    have r := sup_right.1 hr
    rw [e]
    rw [hr] at HR
    clear hr e
    have hBB := supB_parts s
    have hl7 : s.ints.length = 7 := rfl
    have hl6 : s.sums.length = 6 := rfl
    have hi7 : ∀ i, i < 7 → 0 ≤ nth s.ints i ∧ nth s.ints i ≤ 72057594037927935 := by
      obtain ⟨q1, q2, q3, q4, q5, q6, q7, q8, q9⟩ := r
      intro i hi
      match i, hi with
      | 0, _ => show 0 ≤ s.seq ∧ s.seq ≤ _; omega
      | 1, _ => show 0 ≤ s.who ∧ s.who ≤ _; omega
      | 2, _ => show 0 ≤ s.count ∧ s.count ≤ _; omega
      | 3, _ => show 0 ≤ s.view ∧ s.view ≤ _; omega
      | 4, _ => show 0 ≤ s.log ∧ s.log ≤ _; omega
      | 5, _ => show 0 ≤ s.cop ∧ s.cop ≤ _; omega
      | 6, _ => show 0 ≤ s.cview ∧ s.cview ≤ _; omega
    have hn6 : ∀ i, i < 6 → nth s.sums i < 18446744073709551616 := by
      obtain ⟨q1, q2, q3, q4, q5, q6, q7, q8⟩ := hu
      intro i hi
      match i, hi with
      | 0, _ => exact q2
      | 1, _ => exact q3
      | 2, _ => exact q4
      | 3, _ => exact q5
      | 4, _ => exact q6
      | 5, _ => exact q7
    have hc := hu.csum
    have hpa := hu.parent
    obtain ⟨ha1, ha2⟩ := r.area
    obtain ⟨hz1, hz2⟩ := r.size
    clear r hu
    obtain ⟨B, hB⟩ : ∃ B, supB s = B := ⟨_, rfl⟩
    obtain ⟨L7, hL7⟩ : ∃ L, s.ints = L := ⟨_, rfl⟩
    obtain ⟨L6, hL6⟩ : ∃ L, s.sums = L := ⟨_, rfl⟩
    have hcs : s.cells = L7.flatMap i64c ++ [.int .u64 s.csum, .int .i64 s.area, .int .i64 s.size] ++ L6.flatMap u64d ++ [.int .u64 s.parent] := by rw [← hL7, ← hL6]; rfl
    rw [hB] at hBB ⊢
    rw [hL7] at hBB hl7 hi7
    rw [hL6] at hBB hl6 hn6
    have HV7 : Hid ([Value.int .i64 s.seq, .int .i64 s.who, .int .i64 s.count, .int .i64 s.view, .int .i64 s.log, .int .i64 s.cop, .int .i64 s.cview] = L7.flatMap i64c) := Lib.hid (by rw [← hL7]; rfl)
    have HV6 : Hid ([Value.int .u64 s.s0, .int .u64 s.s1, .int .u64 s.s2, .int .u64 s.s3, .int .u64 s.s4, .int .u64 s.s5] = L6.flatMap u64d) := Lib.hid (by rw [← hL6]; rfl)
    clear hL7 hL6 hcs hB
    obtain ⟨seq, who, count, view, log, cop, cview, csum, area, size, s0, s1, s2, s3, s4, s5, parent⟩ := s
    simp only at ha1 ha2 hz1 hz2 hc hpa hBB HV7 HV6
    have HB := Lib.hid hBB
    have HI := Lib.hid hi7
    have HN := Lib.hid hn6
    clear hBB hi7 hn6
    simp only [Sup.cells] at HR ⊢
    (go_enter Try.func16, Try.ntmps16)
    go_wp2_with (first | go_skip | ((with_reducible refine g_box ?_); refine wl_of rfl ?_; refine wp_box hS rfl rfl rfl ?_; clear hS; intro gs w1 hS) | (go_at_call 13; refine (HR.out _).mono ?_; rintro e w' ⟨rfl, h⟩; replace hS := hS.call h; clear h) | ((with_reducible refine g_load ?_); refine wl_run rfl (by first | exact a_load1 hS rfl rfl rfl rfl (by (repeat (first | exact Ix.here | apply Ix.there))) (by rfl) | exact a_loadR hS rfl rfl rfl rfl (by (repeat (first | exact Ix.here | apply Ix.there))) (by rfl) | fail) ?_) | ((with_reducible refine g_bs ?_); refine wl_of rfl ?_; refine wp_buildSlice1 (vs := [.int .i64 seq, .int .i64 who, .int .i64 count, .int .i64 view, .int .i64 log, .int .i64 cop, .int .i64 cview]) hS rfl rfl rfl rfl rfl rfl (by decide) ⟨rfl, by simp [Value.cells]⟩ ?_; clear hS; intro vu w4 hS) | ((with_reducible refine g_len ?_); refine wl_run rfl (v := .int .i64 7) (a_len rfl rfl rfl (hS.rdx (by (repeat (first | exact Ix.here | apply Ix.there))))) ?_))
    replace hS : St [] w w4 [.vec vu 3 1 L7.length (L7.flatMap i64c), .row gs [.int .i64 seq, .int .i64 who, .int .i64 count, .int .i64 view, .int .i64 log, .int .i64 cop, .int .i64 cview, .int .u64 csum, .int .i64 area, .int .i64 size, .int .u64 s0, .int .u64 s1, .int .u64 s2, .int .u64 s3, .int .u64 s4, .int .u64 s5, .int .u64 parent] 28 (0, 0)] := by rw [← HV7.out, hl7]; exact hS.pick
    go_loopw [4, 30] (fun b k wz => ∃ i : Nat, i ≤ 7 ∧ k = .int .i64 i ∧ St [] w wz [.vec b 5 1 (intsB (L7.take i)).length ((intsB (L7.take i)).flatMap byt), .vec vu 3 1 L7.length (L7.flatMap i64c), .row gs [.int .i64 seq, .int .i64 who, .int .i64 count, .int .i64 view, .int .i64 log, .int .i64 cop, .int .i64 cview, .int .u64 csum, .int .i64 area, .int .i64 size, .int .u64 s0, .int .u64 s1, .int .u64 s2, .int .u64 s3, .int .u64 s4, .int .u64 s5, .int .u64 parent] 28 (0, 0)]) (fun _ k _ => 7 - (intOf k).toNat)
    case atStart => exact ⟨0, by omega, rfl, by simpa [intsB] using hS.addNil 5 1⟩
    case round =>
      clear hS
      obtain ⟨i, hi, rfl, hS⟩ := hrel
      by_cases hi5 : i < 7
      · have hi51 : (i : Int) < 7 := by omega
        obtain ⟨x0, x1⟩ := HI.out i hi5
        have HSN := Lib.hid (intsB_snoc (L := L7) (i := i) (by omega))
        have hal : (intsB (L7.take i)).length ≤ 1000 := by rw [intsB_len, List.length_take]; omega
        have HX : Hid (L7[i]? = some (nth L7 i)) := Lib.hid (get_lt (by omega))
        generalize nth L7 i = x at HX HSN x0 x1
        have hw1 : IntKind.u64.wrap x = x := u64_idS x0 x1
        obtain ⟨A, hA⟩ : ∃ A, intsB (L7.take i) = A := ⟨_, rfl⟩
        rw [hA] at hS hal HSN
        clear hA
        have hx0 := HX.out
        go_wp2_with (first | go_skip | ((with_reducible refine g_load ?_); refine wl_run rfl (v := .int .i64 x) (a_loadE (L := L7) (f := i64c) rfl (hS.rdx (by (repeat (first | exact Ix.here | apply Ix.there)))) rfl rfl rfl (by intro _; rfl) hx0 (by rfl)) ?_) | ((with_reducible refine g_index ?_); refine wl_run rfl (by exact a_index rfl rfl rfl rfl (hS.rdx (by (repeat (first | exact Ix.here | apply Ix.there)))) (by rfl) (by omega) (by omega)) ?_))
        refine (put_on (l := A) hS x 8 (by omega) (by omega) (by omega) (by omega) (by omega)).mono ?_
        clear hS
        rintro e w' ⟨va1, rfl, hS⟩
        go_wp2_with (fail)
        refine ⟨⟨i + 1, by omega, by simp, ?_⟩, by simp [intOf]; omega⟩
        rw [HSN.out]
        exact hS
      · obtain rfl : i = 7 := by omega
        rw [List.take_of_length_le (by omega)] at hS
        have hal : (intsB L7).length ≤ 56 := by rw [intsB_len]; omega
        have HBQ := Lib.hid HB.out
        clear HB
        obtain ⟨A0, hA⟩ : ∃ A, intsB L7 = A := ⟨_, rfl⟩
        rw [hA] at hS hal HBQ
        clear hA
        have hwa : IntKind.u64.wrap area = area := u64_idS ha1 (by omega)
        have hwz : IntKind.u64.wrap size = size := u64_idS hz1 (by omega)
        go_wp2_with (first | go_skip | ((with_reducible refine g_load ?_); refine wl_run rfl (by first | exact a_load1 hS rfl rfl rfl rfl (by (repeat (first | exact Ix.here | apply Ix.there))) (by rfl) | exact a_loadR hS rfl rfl rfl rfl (by (repeat (first | exact Ix.here | apply Ix.there))) (by rfl) | fail) ?_))
        refine (put_on (l := A0) (hS.out (by (repeat (first | exact Out.here | apply Out.there)))) (csum : Int) 8 (by omega) (by omega) (by omega) (by omega) (by omega)).mono ?_
        clear hS
        rintro e w' ⟨va1, rfl, hS⟩
        obtain ⟨A1, hA1⟩ : ∃ Z, A0 ++ leB 8 ((csum : Int)).toNat = Z := ⟨_, rfl⟩
        have hal1 : A1.length ≤ 64 := by rw [← hA1, List.length_append, leB_length]; omega
        rw [hA1] at hS
        have HA1 := Lib.hid hA1
        clear hA1
        go_wp2_with (first | go_skip | ((with_reducible refine g_load ?_); refine wl_run rfl (by first | exact a_load1 hS rfl rfl rfl rfl (by (repeat (first | exact Ix.here | apply Ix.there))) (by rfl) | exact a_loadR hS rfl rfl rfl rfl (by (repeat (first | exact Ix.here | apply Ix.there))) (by rfl) | fail) ?_))
        refine (put_on (l := A1) (hS.out (by (repeat (first | exact Out.here | apply Out.there)))) area 8 (by omega) (by omega) (by omega) (by omega) (by omega)).mono ?_
        clear hS
        rintro e w' ⟨va2, rfl, hS⟩
        obtain ⟨A2, hA2⟩ : ∃ Z, A1 ++ leB 8 (area).toNat = Z := ⟨_, rfl⟩
        have hal2 : A2.length ≤ 72 := by rw [← hA2, List.length_append, leB_length]; omega
        rw [hA2] at hS
        have HA2 := Lib.hid hA2
        clear hA2
        go_wp2_with (first | go_skip | ((with_reducible refine g_load ?_); refine wl_run rfl (by first | exact a_load1 hS rfl rfl rfl rfl (by (repeat (first | exact Ix.here | apply Ix.there))) (by rfl) | exact a_loadR hS rfl rfl rfl rfl (by (repeat (first | exact Ix.here | apply Ix.there))) (by rfl) | fail) ?_))
        refine (put_on (l := A2) (hS.out (by (repeat (first | exact Out.here | apply Out.there)))) size 8 (by omega) (by omega) (by omega) (by omega) (by omega)).mono ?_
        clear hS
        rintro e w' ⟨va3, rfl, hS⟩
        obtain ⟨A3, hA3⟩ : ∃ Z, A2 ++ leB 8 (size).toNat = Z := ⟨_, rfl⟩
        have hal3 : A3.length ≤ 80 := by rw [← hA3, List.length_append, leB_length]; omega
        rw [hA3] at hS
        have HA3 := Lib.hid hA3
        clear hA3
        have HV6L := HV6
        go_wp2_with (first | go_skip | ((with_reducible refine g_load ?_); refine wl_run rfl (a_loadA (vs := [.int .u64 s0, .int .u64 s1, .int .u64 s2, .int .u64 s3, .int .u64 s4, .int .u64 s5]) hS rfl rfl rfl rfl (by (repeat (first | exact Ix.here | apply Ix.there))) 6 (by rfl) (by rfl) (by rfl)) ?_) | ((with_reducible refine g_load ?_); refine wl_run rfl (by first | exact a_load1 hS rfl rfl rfl rfl (by (repeat (first | exact Ix.here | apply Ix.there))) (by rfl) | exact a_loadR hS rfl rfl rfl rfl (by (repeat (first | exact Ix.here | apply Ix.there))) (by rfl) | fail) ?_))
        replace hS : St [] w w' [.vec va3 5 1 (A3).length ((A3).flatMap byt), .row gs [.int .i64 seq, .int .i64 who, .int .i64 count, .int .i64 view, .int .i64 log, .int .i64 cop, .int .i64 cview, .int .u64 csum, .int .i64 area, .int .i64 size, .int .u64 s0, .int .u64 s1, .int .u64 s2, .int .u64 s3, .int .u64 s4, .int .u64 s5, .int .u64 parent] 28 (0, 0)] := hS.pick
        go_loopw [4, 68] (fun b k wz => ∃ i : Nat, i ≤ 6 ∧ k = .int .i64 i ∧ St [] w wz [.vec b 5 1 (A3 ++ natsB (L6.take i)).length ((A3 ++ natsB (L6.take i)).flatMap byt), .row gs [.int .i64 seq, .int .i64 who, .int .i64 count, .int .i64 view, .int .i64 log, .int .i64 cop, .int .i64 cview, .int .u64 csum, .int .i64 area, .int .i64 size, .int .u64 s0, .int .u64 s1, .int .u64 s2, .int .u64 s3, .int .u64 s4, .int .u64 s5, .int .u64 parent] 28 (0, 0)]) (fun _ k _ => 6 - (intOf k).toNat)
        case atStart => exact ⟨0, by omega, rfl, by simpa [natsB] using hS⟩
        case round =>
          clear hS
          obtain ⟨i, hi, rfl, hS⟩ := hrel
          by_cases hi5 : i < 6
          · have hi51 : (i : Int) < 6 := by omega
            have x1 := HN.out i hi5
            have HSN := Lib.hid (natsB_snoc (L := L6) (i := i) (by omega))
            have hal : (A3 ++ natsB (L6.take i)).length ≤ 1000 := by rw [List.length_append, natsB_len, List.length_take]; omega
            have HX : Hid ([Value.int .u64 s0, .int .u64 s1, .int .u64 s2, .int .u64 s3, .int .u64 s4, .int .u64 s5][i]? = some (.int .u64 (nth L6 i : Nat))) := Lib.hid (by rw [HV6.out]; have := flat_get (f := u64d) (k := 1) (fun _ => rfl) L6 i (nth L6 i) (get_lt (by omega)) 0 (.int .u64 (nth L6 i : Nat)) rfl; simpa using this)
            generalize nth L6 i = x at HX HSN x1
            obtain ⟨A, hA⟩ : ∃ A, A3 ++ natsB (L6.take i) = A := ⟨_, rfl⟩
            rw [hA] at hS hal
            have HA := Lib.hid hA
            clear hA
            go_wp2_with (first | go_skip | ((with_reducible refine g_indexV ?_); refine wl_run rfl (x_indexA rfl rfl rfl rfl rfl rfl rfl rfl (by omega) (by omega) HX.out) ?_))
            refine (put_on (l := A) hS (x : Int) 8 (by omega) (by omega) (by omega) (by omega) (by omega)).mono ?_
            clear hS
            rintro e w' ⟨va1, rfl, hS⟩
            go_wp2_with (fail)
            refine ⟨⟨i + 1, by omega, by simp, ?_⟩, by simp [intOf]; omega⟩
            rw [HSN.out, ← List.append_assoc, HA.out]
            exact hS
          · obtain rfl : i = 6 := by omega
            rw [List.take_of_length_le (by omega)] at hS
            have hal : (A3 ++ natsB L6).length ≤ 1000 := by rw [List.length_append, natsB_len]; omega
            obtain ⟨A4, hA⟩ : ∃ A, A3 ++ natsB L6 = A := ⟨_, rfl⟩
            rw [hA] at hS hal
            have HA4 := Lib.hid hA
            clear hA
            go_wp2_with (first | go_skip | ((with_reducible refine g_load ?_); refine wl_run rfl (by first | exact a_load1 hS rfl rfl rfl rfl (by (repeat (first | exact Ix.here | apply Ix.there))) (by rfl) | exact a_loadR hS rfl rfl rfl rfl (by (repeat (first | exact Ix.here | apply Ix.there))) (by rfl) | fail) ?_))
            refine (put_on (l := A4) (hS.out (by (repeat (first | exact Out.here | apply Out.there)))) (parent : Int) 8 (by omega) (by omega) (by omega) (by omega) (by omega)).mono ?_
            clear hS
            rintro e w' ⟨va5, rfl, hS⟩
            obtain ⟨A5, hA5⟩ : ∃ Z, A4 ++ leB 8 (parent : Int).toNat = Z := ⟨_, rfl⟩
            have hal5 : A5.length ≤ 1008 := by rw [← hA5, List.length_append, leB_length]; omega
            have HE : Hid (A5 = B) := Lib.hid (by rw [HBQ.out, ← hA5, ← HA4.out, ← HA3.out, ← HA2.out, ← HA1.out]; simp)
            rw [hA5] at hS
            clear hA5
            go_wp2_with (first | go_skip | ((with_reducible refine g_conv ?_); refine wl_run rfl (by exact a_toString2 rfl rfl rfl rfl rfl (hS.rdx (by (repeat (first | exact Ix.here | apply Ix.there))))) ?_))
            go_ret2
            exact ⟨by rw [HE.out]; rfl, hS.nil⟩
end
end Go.Proofs.Ytbfdnpahojoccaa
namespace Go.Cmp
open Go.RowKit
def rawN (b : List UInt8) (j : Nat) : List Value := (List.range 17).map fun k => .int .u64 (if k < j then (num8 b (8 * k) : Int) else 0)
theorem rawN_len (b : List UInt8) (j : Nat) : (rawN b j).length = 17 := by simp [rawN]
theorem rawN_set (b : List UInt8) (j : Nat) (h : j < 17) : (rawN b j).set j (.int .u64 (num8 b (8 * j) : Int)) = rawN b (j + 1) := by
  apply List.ext_getElem?
  intro k
  unfold rawN
  rw [List.getElem?_set]
  by_cases hk : k < 17
  · by_cases hj : j = k
    · subst hj; simp [h]
    · simp [hj, hk]
      have : (k < j + 1) = (k < j) := by apply propext; omega
      simp only [this]
  · rw [if_neg (by omega), List.getElem?_eq_none (by simp; omega), List.getElem?_eq_none (by simp; omega)]
end Go.Cmp
namespace Go.Proofs.Ytbfdnpahojoccaa
open Go.RowKit Go.Cmp

section
variable {S : List Nat} {w0 w : World} {M : List Ent}
set_option maxHeartbeats 8000000 in
theorem supUnpack_any (b : List UInt8) (hl : b.length ≤ 1000000) (w : World) :
    Calls Try.prog 9 #[.string ⟨b.toArray⟩] w fun e w' => e = .returned (.tuple #[.agg (unpU b).1.cells.toArray, .int .i64 (unpU b).2]) ∧ St [] w w' [] := by
  have hS := St.init w
  by_cases h1 : b.length = 136
  · have hb : ((b.length : Int) != 136) = false := by rw [h1]; rfl
    obtain ⟨H, hH⟩ : ∃ H, supO b = H := ⟨_, rfl⟩
    have hU : unpU b = if H.right = false then (zeroU, 4) else (H, 0) := by unfold unpU; rw [if_neg (by simp [h1]), hH]
    have HR := Lib.hid (fun w => supRight_any H w)
    obtain ⟨R, hR⟩ : ∃ R, unpU b = R := ⟨_, rfl⟩
    rw [hR] at hU ⊢
    have HU := Lib.hid hU
    have HH := Lib.hid hH
    have HBL := Lib.hid h1
    clear hU hR hH
    (go_enter Try.func9, Try.ntmps9)
    go_wp2_with (first | go_skip | ((with_reducible refine g_alloc (e := 69) ?_); refine wl_of rfl ?_; refine wp_alloc (cs := List.replicate 17 (.int .u64 0)) hS rfl rfl rfl rfl ?_; clear hS; intro ga w1 hS) | ((with_reducible refine g_alloc ?_); refine wl_of rfl ?_; refine wp_alloc hS rfl rfl rfl rfl ?_; clear hS; intro gz w1 hS) | ((with_reducible refine g_load ?_); refine wl_run rfl (by first | exact a_load1 hS rfl rfl rfl rfl (by (repeat (first | exact Ix.here | apply Ix.there))) (by rfl) | exact a_loadR hS rfl rfl rfl rfl (by (repeat (first | exact Ix.here | apply Ix.there))) (by rfl) | fail) ?_))
    replace hS : St [] w w1 [.row ga (rawN b 0) 69 (0, 0), .row gz [.int .i64 0, .int .i64 0, .int .i64 0, .int .i64 0, .int .i64 0, .int .i64 0, .int .i64 0, .int .u64 0, .int .i64 0, .int .i64 0, .int .u64 0, .int .u64 0, .int .u64 0, .int .u64 0, .int .u64 0, .int .u64 0, .int .u64 0] 28 (0, 0)] := hS
    go_loopw [11] (fun k wz => ∃ i : Nat, i ≤ 17 ∧ k = .int .i64 i ∧ St [] w wz [.row ga (rawN b i) 69 (0, 0), .row gz [.int .i64 0, .int .i64 0, .int .i64 0, .int .i64 0, .int .i64 0, .int .i64 0, .int .i64 0, .int .u64 0, .int .i64 0, .int .i64 0, .int .u64 0, .int .u64 0, .int .u64 0, .int .u64 0, .int .u64 0, .int .u64 0, .int .u64 0] 28 (0, 0)]) (fun k _ => 17 - (intOf k).toNat)
    case atStart => exact ⟨0, by omega, rfl, hS⟩
    case round =>
      clear hS
      obtain ⟨i, hi, rfl, hS⟩ := hrel
      by_cases hi5 : i < 17
      · have hi51 : (i : Int) < 17 := by omega
        have HT := Lib.hid (fun (v : Value) (S : List Nat) (w0 W : World) (M : List Ent) (hS : St S w0 W M) (hR : Rd W 1 v b.length (b.flatMap byt)) => num_take (l := b) hS (8 * i) 8 (by omega) (by omega) (by omega) hR)
        rw [takeN_8 (by rw [HBL.out]; omega)] at HT
        have hset := rawN_set b i hi5
        have hlen := rawN_len b i
        have hml : b.length ≤ maxLen := by unfold maxLen; omega
        obtain ⟨x, hx⟩ : ∃ x, num8 b (8 * i) = x := ⟨_, rfl⟩
        rw [hx] at HT hset
        have HSET := Lib.hid hset
        clear hset hx
        have h8 : ((8 * i : Nat) : Int) = 8 * (i : Int) := by omega
        rw [h8] at HT
        go_wp2_with (first | go_skip | ((with_reducible refine g_conv ?_); refine wl_of rfl ?_; refine a_toBytes hS rfl rfl rfl rfl rfl hml ?_; clear hS; intro vb w1 hS))
        refine (HT.out _ _ _ _ _ hS (hS.rdx (by (repeat (first | exact Ix.here | apply Ix.there))))).mono ?_
        clear hS
        rintro e w' ⟨rfl, hS⟩
        go_wp2_with (first | go_skip | ((with_reducible refine g_index ?_); refine wl_run rfl (a_arr (n := 17) rfl rfl rfl rfl rfl (by omega) (by omega)) ?_) | ((with_reducible refine g_store ?_); refine wl_of rfl ?_; refine a_store1 (v := .int .u64 (x : Int)) (cs' := rawN b (i + 1)) hS rfl rfl rfl rfl rfl rfl (Sw.there Sw.here) (by simp; omega) (by simpa using HSET.out) ?_; clear hS; intro w' hS) | fail)
        refine ⟨⟨i + 1, by omega, by simp, hS.tail⟩, by simp [intOf]; omega⟩
      · obtain rfl : i = 17 := by omega
        have e17 : rawN b 17 = [.int .u64 (num8 b 0 : Nat), .int .u64 (num8 b 8 : Nat), .int .u64 (num8 b 16 : Nat), .int .u64 (num8 b 24 : Nat), .int .u64 (num8 b 32 : Nat), .int .u64 (num8 b 40 : Nat), .int .u64 (num8 b 48 : Nat), .int .u64 (num8 b 56 : Nat), .int .u64 (num8 b 64 : Nat), .int .u64 (num8 b 72 : Nat), .int .u64 (num8 b 80 : Nat), .int .u64 (num8 b 88 : Nat), .int .u64 (num8 b 96 : Nat), .int .u64 (num8 b 104 : Nat), .int .u64 (num8 b 112 : Nat), .int .u64 (num8 b 120 : Nat), .int .u64 (num8 b 128 : Nat)] := rfl
        rw [e17] at hS
        have hw : ∀ i, wrap64 (num8 b i : Nat) = int8 b i := fun i => by have := num8_lt b i; unfold int8; rw [IntKind.wrap_i64]; unfold wrap64; omega
        have hw' : ∀ i, IntKind.i64.wrap (num8 b i : Nat) = int8 b i := fun i => rfl
        have hHc : H.cells = [.int .i64 (int8 b 0), .int .i64 (int8 b 8), .int .i64 (int8 b 16), .int .i64 (int8 b 24), .int .i64 (int8 b 32), .int .i64 (int8 b 40), .int .i64 (int8 b 48), .int .u64 (num8 b 56 : Nat), .int .i64 (int8 b 64), .int .i64 (int8 b 72), .int .u64 (num8 b 80 : Nat), .int .u64 (num8 b 88 : Nat), .int .u64 (num8 b 96 : Nat), .int .u64 (num8 b 104 : Nat), .int .u64 (num8 b 112 : Nat), .int .u64 (num8 b 120 : Nat), .int .u64 (num8 b 128 : Nat)] := by rw [← HH.out]; rfl
        have W0 := hw 0; have W1 := hw 8; have W2 := hw 16; have W3 := hw 24; have W4 := hw 32; have W5 := hw 40; have W6 := hw 48; have W8 := hw 64; have W9 := hw 72
        clear hw hw' e17
        generalize int8 b 0 = i0 at hHc W0
        generalize int8 b 8 = i1 at hHc W1
        generalize int8 b 16 = i2 at hHc W2
        generalize int8 b 24 = i3 at hHc W3
        generalize int8 b 32 = i4 at hHc W4
        generalize int8 b 40 = i5 at hHc W5
        generalize int8 b 48 = i6 at hHc W6
        generalize int8 b 64 = i8 at hHc W8
        generalize int8 b 72 = i9 at hHc W9
        generalize num8 b 0 = n0 at *
        generalize num8 b 8 = n1 at *
        generalize num8 b 16 = n2 at *
        generalize num8 b 24 = n3 at *
        generalize num8 b 32 = n4 at *
        generalize num8 b 40 = n5 at *
        generalize num8 b 48 = n6 at *
        generalize num8 b 56 = n7 at *
        generalize num8 b 64 = n8 at *
        generalize num8 b 72 = n9 at *
        generalize num8 b 80 = n10 at *
        generalize num8 b 88 = n11 at *
        generalize num8 b 96 = n12 at *
        generalize num8 b 104 = n13 at *
        generalize num8 b 112 = n14 at *
        generalize num8 b 120 = n15 at *
        generalize num8 b 128 = n16 at *
        have HHC := Lib.hid hHc
        rw [hHc] at HR
        clear hHc
        go_wp2_with (first | go_skip | ((with_reducible refine g_index ?_); refine wl_run rfl (a_arr (n := 17) rfl rfl rfl rfl rfl (by decide) (by decide)) ?_) | ((with_reducible refine g_alloc ?_); refine wl_of rfl ?_; refine wp_alloc hS rfl rfl rfl rfl ?_; clear hS; intro gs w1 hS) | ((with_reducible refine g_load ?_); refine wl_run rfl (by first | exact a_load1 hS rfl rfl rfl rfl (by (repeat (first | exact Ix.here | apply Ix.there))) (by rfl) | exact a_loadR hS rfl rfl rfl rfl (by (repeat (first | exact Ix.here | apply Ix.there))) (by rfl) | fail) ?_) | (refine au5 (n := ?_); clear hS; intro w' hS) )
        (refine wp_region_tail 3 (by kernel_rfl) (by kernel_rfl) hS ?_; clear hS; intro w' hS; simp only [List.take_succ_cons, List.take_zero, List.drop_succ_cons, List.drop_zero]; ((repeat (first | ((with_reducible refine s_load ?_); refine z_read rfl (h := ?_); simp only [Act.put, List.setIfInBounds_toArray, List.set_cons_zero, List.set_cons_succ]) | ((with_reducible refine s_index ?_); refine z_idx rfl (h := ?_); simp only [Act.put, List.setIfInBounds_toArray, List.set_cons_zero, List.set_cons_succ]) | ((with_reducible refine s_field ?_); refine z_fld rfl (h := ?_); simp only [Act.put, List.setIfInBounds_toArray, List.set_cons_zero, List.set_cons_succ]) | ((with_reducible refine s_len ?_); refine z_len rfl (h := ?_); simp only [Act.put, List.setIfInBounds_toArray, List.set_cons_zero, List.set_cons_succ]) | ((with_reducible refine s_cut ?_); refine z_str rfl (h := ?_); simp only [Act.put, List.setIfInBounds_toArray, List.set_cons_zero, List.set_cons_succ]) | ((with_reducible refine s_indexV ?_); refine z_six rfl (h := ?_); simp only [Act.put, List.setIfInBounds_toArray, List.set_cons_zero, List.set_cons_succ]) | ((with_reducible refine s_bin ?_); refine z_cat rfl (h := ?_); simp only [Act.put, List.setIfInBounds_toArray, List.set_cons_zero, List.set_cons_succ]) | ((with_reducible refine s_conv ?_); refine z_tos rfl (h := ?_); simp only [Act.put, List.setIfInBounds_toArray, List.set_cons_zero, List.set_cons_succ]) | still_step)); refine wpStill_nil ?_))
        have hRn : Rd w' 1 (.slice (some ⟨ga, 10, none⟩) 6 7) 6 [.int .u64 (n10 : Nat), .int .u64 (n11 : Nat), .int .u64 (n12 : Nat), .int .u64 (n13 : Nat), .int .u64 (n14 : Nat), .int .u64 (n15 : Nat)] := Rd.ofRow (hS.row (i := 1) rfl) 1 10 6 7 _ rfl (by simp) (by omega) (by simp [maxLen])
        refine wl_of rfl (wp_copyRow hS rfl hRn 0 rfl rfl rfl rfl rfl rfl (by simp) (fun j _ => nf0 _) (by simp [Value.oneCell']) rfl ?_)
        clear hS hRn
        intro w5 hS
        replace hS : St [] w w5 (.row gs [.int .i64 i0, .int .i64 i1, .int .i64 i2, .int .i64 i3, .int .i64 i4, .int .i64 i5, .int .i64 i6, .int .u64 (n7 : Nat), .int .i64 i8, .int .i64 i9, .int .u64 (n10 : Nat), .int .u64 (n11 : Nat), .int .u64 (n12 : Nat), .int .u64 (n13 : Nat), .int .u64 (n14 : Nat), .int .u64 (n15 : Nat), .int .u64 (n16 : Nat)] 28 (0, 0) :: _ :: [.row gz [.int .i64 0, .int .i64 0, .int .i64 0, .int .i64 0, .int .i64 0, .int .i64 0, .int .i64 0, .int .u64 0, .int .i64 0, .int .i64 0, .int .u64 0, .int .u64 0, .int .u64 0, .int .u64 0, .int .u64 0, .int .u64 0, .int .u64 0] 28 (0, 0)]) := hS
        replace hS := (hS.pick : St [] w w5 [.row gs [.int .i64 i0, .int .i64 i1, .int .i64 i2, .int .i64 i3, .int .i64 i4, .int .i64 i5, .int .i64 i6, .int .u64 (n7 : Nat), .int .i64 i8, .int .i64 i9, .int .u64 (n10 : Nat), .int .u64 (n11 : Nat), .int .u64 (n12 : Nat), .int .u64 (n13 : Nat), .int .u64 (n14 : Nat), .int .u64 (n15 : Nat), .int .u64 (n16 : Nat)] 28 (0, 0), .row gz [.int .i64 0, .int .i64 0, .int .i64 0, .int .i64 0, .int .i64 0, .int .i64 0, .int .i64 0, .int .u64 0, .int .i64 0, .int .i64 0, .int .u64 0, .int .u64 0, .int .u64 0, .int .u64 0, .int .u64 0, .int .u64 0, .int .u64 0] 28 (0, 0)])
        cases hr : H.right
        · have hR : R = (zeroU, 4) := by rw [HU.out, if_pos hr]
          rw [hr] at HR
          subst hR
          clear hr HU
          go_wp2_with (first | go_skip | ((with_reducible refine g_load ?_); refine wl_run rfl (by first | exact a_load1 hS rfl rfl rfl rfl (by (repeat (first | exact Ix.here | apply Ix.there))) (by rfl) | exact a_loadR hS rfl rfl rfl rfl (by (repeat (first | exact Ix.here | apply Ix.there))) (by rfl) | fail) ?_) | (go_at_call 13; refine (HR.out _).mono ?_; rintro e w' ⟨rfl, h⟩; replace hS := hS.call h; clear h) | (refine au5 (n := ?_); clear hS; intro w' hS))
          exact end_cell2 hS rfl rfl rfl rfl rfl rfl (h := ⟨rfl, hS.nil⟩)
        · have hR : R = (H, 0) := by rw [HU.out, if_neg (by simp [hr])]
          rw [hr] at HR
          subst hR
          clear hr HU
          go_wp2_with (first | go_skip | ((with_reducible refine g_load ?_); refine wl_run rfl (by first | exact a_load1 hS rfl rfl rfl rfl (by (repeat (first | exact Ix.here | apply Ix.there))) (by rfl) | exact a_loadR hS rfl rfl rfl rfl (by (repeat (first | exact Ix.here | apply Ix.there))) (by rfl) | fail) ?_) | (go_at_call 13; refine (HR.out _).mono ?_; rintro e w' ⟨rfl, h⟩; replace hS := hS.call h; clear h) | (refine au5 (n := ?_); clear hS; intro w' hS))
          exact end_cell2 hS rfl rfl rfl rfl rfl rfl (h := ⟨(congrArg (fun c => Ending.returned (.tuple #[.agg (List.toArray c), .int .i64 0])) HHC.out).symm, hS.nil⟩)
  · have hb : ((b.length : Int) != 136) = true := by simp; omega
    have e : unpU b = (zeroU, 4) := by unfold unpU; rw [if_pos h1]
    rw [e]
    clear e h1 hl
    (go_enter Try.func9, Try.ntmps9)
    go_wp2_with (first | go_skip | ((with_reducible refine g_alloc ?_); refine wl_of rfl ?_; refine wp_alloc hS rfl rfl rfl rfl ?_; clear hS; intro gz w1 hS) | (refine au5 (n := ?_); clear hS; intro w' hS))
    exact end_cell2 hS rfl rfl rfl rfl rfl rfl (h := ⟨rfl, hS.nil⟩)
end
end Go.Proofs.Ytbfdnpahojoccaa
namespace Go.Cmp
open Go.RowKit
def nextU (s : Sup) : Sup := if s.right = false ∨ s.seq = 72057594037927935 then s else { s with seq := s.seq + 1, parent := chainOf 0 (supB s) }
theorem sup_one (s : Sup) : ∀ u ∈ s.cells, u.oneCell' = true := by
  intro u hu
  simp only [Sup.cells, List.mem_cons, List.not_mem_nil, or_false] at hu
  rcases hu with rfl | rfl | rfl | rfl | rfl | rfl | rfl | rfl | rfl | rfl | rfl | rfl | rfl | rfl | rfl | rfl | rfl <;> rfl
namespace Dsk
theorem under_len (i : Int) : ∀ {l : List Wr}, (∀ x ∈ l, x.text.length = 384) → ∀ s, under i l = some s → s.length = 384
  | [], _, s, h => by simp [under] at h
  | x :: l, hl, s, h => by
    unfold under at h
    split at h
    · rename_i t ht
      simp only [Option.some.injEq] at h
      subst h
      exact under_len i (fun y hy => hl y (by simp [hy])) _ ht
    · split at h
      · simp only [Option.some.injEq] at h
        subst h
        exact hl x (by simp)
      · cases h
theorem read_len {D : Dsk} (h : D.Ok) (i : Int) : (D.read i).1.length ≤ 384 := by
  unfold read
  split
  · exact Nat.zero_le _
  · rename_i hi
    split
    · exact Nat.zero_le _
    · have hi' : D.is i = true := by simpa using hi
      have hi2 := is_lt hi'
      cases hu : under i D.way with
      | none =>
        show (nth D.lasts i.toNat).length ≤ 384
        rw [h.size _ (nth_mem (by omega))]
        exact Nat.le_refl _
      | some s =>
        show s.length ≤ 384
        rw [under_len i (fun x hx => (h.way x hx).2.2) s hu]
        exact Nat.le_refl _
end Dsk
theorem unpU_U (b : List UInt8) : (unpU b).1.U64 := supO_zero_fields b
theorem hasU_U (b : List UInt8) : (hasU b).1.U64 := by
  unfold hasU
  split
  · exact ⟨by decide, by decide, by decide, by decide, by decide, by decide, by decide, by decide⟩
  · exact unpU_U _
theorem openS_lenU {p : List UInt8} (hl : p.length ≤ 384) : (openS p).1.length ≤ 1000000 := by
  unfold openS
  split
  · rename_i h
    obtain ⟨n, _, hn, _, e, _⟩ := takeT_facts h.2.2
    simp only [e, List.length_take]
    omega
  · exact Nat.zero_le _
end Go.Cmp
namespace Go.Proofs.Ytbfdnpahojoccaa
open Go.RowKit Go.Cmp

section
variable {S : List Nat} {w0 w : World} {M : List Ent} {g : Nat} {D : Dsk}
set_option maxHeartbeats 4000000 in
theorem supNext_any (s : Sup) (hu : s.U64) (w : World) :
    Calls Try.prog 19 #[.agg s.cells.toArray] w fun e w' => e = .returned (.agg (nextU s).cells.toArray) ∧ St [] w w' [] := by
  have hS := St.init w
  have HP := Lib.hid (fun w => supPack_any s hu w)
  have hbl := supB_len s
  have HC : Hid (∀ w, Calls Try.prog 47 #[.int .u64 0, .string ⟨(supB s).toArray⟩] w fun e w' => e = .returned (.int .u64 (chainOf 0 (supB s) : Nat)) ∧ w' = w) := Lib.hid (fun w => crcChain_any 0 (by decide) (supB s) (by omega) w)
  cases hr : s.right
  · have e : nextU s = s := by unfold nextU; rw [if_pos (.inl hr)]
    have ep : packU s = ([], 4) := by unfold packU; rw [if_pos hr]
    rw [e]
    rw [ep] at HP
    clear hr e ep hu hbl HC
    (go_enter Try.func19, Try.ntmps19)
    go_wp2_with (first | go_skip | ((with_reducible refine g_box ?_); refine wl_of rfl ?_; refine wp_box hS rfl rfl rfl ?_; clear hS; intro gs w1 hS) | ((with_reducible refine g_alloc ?_); refine wl_of rfl ?_; refine wp_alloc hS rfl rfl rfl rfl ?_; clear hS; intro gz w1 hS) | ((with_reducible refine g_load ?_); refine wl_run rfl (by first | exact a_load1 hS rfl rfl rfl rfl (by (repeat (first | exact Ix.here | apply Ix.there))) (by rfl) | exact a_loadR hS rfl rfl rfl rfl (by (repeat (first | exact Ix.here | apply Ix.there))) (by rfl) | fail) ?_) | (go_at_call 16; refine (HP.out _).mono ?_; rintro e w' ⟨rfl, h⟩; replace hS := hS.call h; clear h) | ((with_reducible refine g_store ?_); refine wl_of rfl ?_; refine a_storeA (vs := Sup.cells s) (cs' := Sup.cells s) hS rfl rfl rfl (by rfl) (sup_one _) (by (repeat (first | exact Sw.here | apply Sw.there))) (by exact Nat.le_refl 17) (by rfl) ?_; clear hS; intro w' hS) | fail)
    exact end_c1 hS rfl rfl rfl rfl rfl (h := ⟨rfl, hS.nil⟩)
  · have ep : packU s = (supB s, 0) := by unfold packU; rw [if_neg (by simp [hr])]
    rw [ep] at HP
    obtain ⟨q1, q2⟩ := (sup_right.1 hr).seq
    by_cases hm : s.seq = 72057594037927935
    · have e : nextU s = s := by unfold nextU; rw [if_pos (.inr hm)]
      rw [e]
      clear hr e ep hu hbl HC
      have hm' : (s.seq == 72057594037927935) = true := by rw [hm]; rfl
      (go_enter Try.func19, Try.ntmps19)
      go_wp2_with (first | go_skip | ((with_reducible refine g_box ?_); refine wl_of rfl ?_; refine wp_box hS rfl rfl rfl ?_; clear hS; intro gs w1 hS) | ((with_reducible refine g_alloc ?_); refine wl_of rfl ?_; refine wp_alloc hS rfl rfl rfl rfl ?_; clear hS; intro gz w1 hS) | ((with_reducible refine g_load ?_); refine wl_run rfl (by first | exact a_load1 hS rfl rfl rfl rfl (by (repeat (first | exact Ix.here | apply Ix.there))) (by rfl) | exact a_loadR hS rfl rfl rfl rfl (by (repeat (first | exact Ix.here | apply Ix.there))) (by rfl) | fail) ?_) | (go_at_call 16; refine (HP.out _).mono ?_; rintro e w' ⟨rfl, h⟩; replace hS := hS.call h; clear h) | ((with_reducible refine g_store ?_); refine wl_of rfl ?_; refine a_storeA (vs := Sup.cells s) (cs' := Sup.cells s) hS rfl rfl rfl (by rfl) (sup_one _) (by (repeat (first | exact Sw.here | apply Sw.there))) (by exact Nat.le_refl 17) (by rfl) ?_; clear hS; intro w' hS) | fail)
      exact end_c1 hS rfl rfl rfl rfl rfl (h := ⟨rfl, hS.nil⟩)
    · have hm' : (s.seq == 72057594037927935) = false := by rw [beq_eq_false_iff_ne]; exact hm
      obtain ⟨c, hc⟩ : ∃ c, chainOf 0 (supB s) = c := ⟨_, rfl⟩
      have e : nextU s = { s with seq := s.seq + 1, parent := c } := by unfold nextU; rw [if_neg (by simp [hr, hm]), hc]
      rw [e]
      rw [hc] at HC
      clear hc e ep hu hr
      have hq : s.seq + 1 ≤ 72057594037927935 := by omega
      generalize supB s = B at HP HC hbl
      obtain ⟨seq, who, count, view, log, cop, cview, csum, area, size, s0, s1, s2, s3, s4, s5, parent⟩ := s
      simp only [Sup.cells] at HP hm hm' hq q1 q2 ⊢
      (go_enter Try.func19, Try.ntmps19)
      go_wp2_with (first | go_skip | ((with_reducible refine g_box ?_); refine wl_of rfl ?_; refine wp_box hS rfl rfl rfl ?_; clear hS; intro gs w1 hS) | ((with_reducible refine g_alloc ?_); refine wl_of rfl ?_; refine wp_alloc hS rfl rfl rfl rfl ?_; clear hS; intro gz w1 hS) | ((with_reducible refine g_load ?_); refine wl_run rfl (by first | exact a_load1 hS rfl rfl rfl rfl (by (repeat (first | exact Ix.here | apply Ix.there))) (by rfl) | exact a_loadR hS rfl rfl rfl rfl (by (repeat (first | exact Ix.here | apply Ix.there))) (by rfl) | fail) ?_) | (go_at_call 16; refine (HP.out _).mono ?_; rintro e w' ⟨rfl, h⟩; replace hS := hS.call h; clear h) | (go_at_call 47; refine (HC.out _).mono ?_; rintro e w9 ⟨rfl, rfl⟩) | (refine au2 (n := ?_); clear hS; intro w' hS) | fail)
      exact end_c1 hS rfl rfl rfl rfl rfl (h := ⟨rfl, hS.nil⟩)
set_option maxHeartbeats 4000000 in
theorem supOne_any (hS : St S w0 w (disk g D :: M)) (hD : D.Ok) (i : Int) :
    Calls Try.prog 38 #[.pointer (some ⟨g, 0, none⟩), .int .i64 i] w fun e w' => e = .returned (.tuple #[.agg (oneU D i).1.cells.toArray, .string ⟨(oneU D i).2.1.toArray⟩, .bool (oneU D i).2.2.1, .int .i64 (oneU D i).2.2.2]) ∧ St S w0 w' (disk g D :: M) := by
  have HR := Lib.hid (fun (W : World) (M : List Ent) (hS : St S w0 W (disk g D :: M)) => disk_read hS hD i)
  have hrl := Dsk.read_len hD i
  by_cases he : (D.read i).2 = 0
  · have e : oneU D i = ((hasU (D.read i).1).1, (D.read i).1, (hasU (D.read i).1).2, 0) := by unfold oneU; rw [if_neg (by rw [he]; simp)]
    rw [e]
    rw [he] at HR
    clear e he hD
    obtain ⟨O, hO⟩ : ∃ O, (D.read i).1 = O := ⟨_, rfl⟩
    rw [hO] at HR hrl ⊢
    have HOP := Lib.hid (fun w => open_any O (by omega) w)
    have hol := openS_lenU hrl
    cases hk : (openS O).2
    · have e : hasU O = (zeroU, false) := by unfold hasU; rw [if_pos hk]
      rw [e]
      rw [hk] at HOP
      generalize (openS O).1 = B at HOP
      clear e hk hol hrl hO
      (go_enter Try.func38, Try.ntmps38)
      go_wp2_with (first | go_skip | ((with_reducible refine g_alloc ?_); refine wl_of rfl ?_; refine wp_alloc hS rfl rfl rfl rfl ?_; clear hS; intro gz w1 hS) | ((with_reducible refine g_load ?_); refine wl_run rfl (by first | exact a_load1 hS rfl rfl rfl rfl (by (repeat (first | exact Ix.here | apply Ix.there))) (by rfl) | exact a_loadR hS rfl rfl rfl rfl (by (repeat (first | exact Ix.here | apply Ix.there))) (by rfl) | fail) ?_) | (go_at_call 33; (refine (HR.out _ _ (hS.out (by (repeat (first | exact Out.here | apply Out.there))))).mono ?_; clear hS; rintro e w' ⟨rfl, hS⟩)) | (go_at_call 58; refine (HOP.out _).mono ?_; rintro e w' ⟨rfl, h⟩; replace hS := hS.call h; clear h) | (refine au5 (n := ?_); clear hS; intro w' hS) | fail)
      exact end_c4 hS rfl rfl rfl rfl rfl rfl rfl rfl (h := ⟨rfl, hS.pick⟩)
    · have e : hasU O = ((unpU (openS O).1).1, decide ((unpU (openS O).1).2 = 0)) := by unfold hasU; rw [if_neg (by simp [hk])]
      rw [e]
      rw [hk] at HOP
      have HUN := Lib.hid (fun w => supUnpack_any (openS O).1 hol w)
      generalize (openS O).1 = B at HOP HUN
      generalize unpU B = R at HUN
      obtain ⟨R, r⟩ := R
      clear e hk hol hrl hO
      (go_enter Try.func38, Try.ntmps38)
      go_wp2_with (first | go_skip | ((with_reducible refine g_alloc ?_); refine wl_of rfl ?_; refine wp_alloc hS rfl rfl rfl rfl ?_; clear hS; intro gz w1 hS) | ((with_reducible refine g_load ?_); refine wl_run rfl (by first | exact a_load1 hS rfl rfl rfl rfl (by (repeat (first | exact Ix.here | apply Ix.there))) (by rfl) | exact a_loadR hS rfl rfl rfl rfl (by (repeat (first | exact Ix.here | apply Ix.there))) (by rfl) | fail) ?_) | (go_at_call 33; (refine (HR.out _ _ (hS.out (by (repeat (first | exact Out.here | apply Out.there))))).mono ?_; clear hS; rintro e w' ⟨rfl, hS⟩)) | (go_at_call 58; refine (HOP.out _).mono ?_; rintro e w' ⟨rfl, h⟩; replace hS := hS.call h; clear h) | (go_at_call 9; refine (HUN.out _).mono ?_; rintro e w' ⟨rfl, h⟩; replace hS := hS.call h; clear h) | ((with_reducible refine g_store ?_); refine wl_of rfl ?_; refine a_storeA (vs := Sup.cells R) (cs' := Sup.cells R) hS rfl rfl rfl (by rfl) (sup_one _) (by (repeat (first | exact Sw.here | apply Sw.there))) (by exact Nat.le_refl 17) (by rfl) ?_; clear hS; intro w' hS) | fail)
      exact end_c4 hS rfl rfl rfl rfl rfl rfl rfl rfl (h := ⟨rfl, hS.pick⟩)
  · have e : oneU D i = (zeroU, [], false, (D.read i).2) := by unfold oneU; rw [if_pos (by simpa using he)]
    rw [e]
    have he1 : ((D.read i).2 != 0) = true := by simpa using he
    clear e he hD hrl
    generalize (D.read i).2 = er at HR he1 ⊢
    generalize (D.read i).1 = O at HR
    (go_enter Try.func38, Try.ntmps38)
    go_wp2_with (first | go_skip | ((with_reducible refine g_alloc ?_); refine wl_of rfl ?_; refine wp_alloc hS rfl rfl rfl rfl ?_; clear hS; intro gz w1 hS) | ((with_reducible refine g_load ?_); refine wl_run rfl (by first | exact a_load1 hS rfl rfl rfl rfl (by (repeat (first | exact Ix.here | apply Ix.there))) (by rfl) | exact a_loadR hS rfl rfl rfl rfl (by (repeat (first | exact Ix.here | apply Ix.there))) (by rfl) | fail) ?_) | (go_at_call 33; (refine (HR.out _ _ (hS.out (by (repeat (first | exact Out.here | apply Out.there))))).mono ?_; clear hS; rintro e w' ⟨rfl, hS⟩)) | (refine au5 (n := ?_); clear hS; intro w' hS) | fail)
    exact end_c4 hS rfl rfl rfl rfl rfl rfl rfl rfl (h := ⟨rfl, hS.pick⟩)
end
end Go.Proofs.Ytbfdnpahojoccaa
