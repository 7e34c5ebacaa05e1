/-
  Texts in blocks: the program's sums, one block laid, one block read.
-/
import Derived.Test.YtghnfocajnlfhaaGrid1
import Derived.Test.YtghnfocajnlfhaaDiskB
import Derived.Test.YtghnfocajnlfhaaDiskA
import Derived.Test.YtghnfocajnlfhaaSeal1
import Derived.Test.YtghnfocajnlfhaaSeal3
set_option linter.unusedSimpArgs false
set_option linter.unusedVariables false
set_option linter.unusedSectionVars false
set_option maxRecDepth 100000
namespace Go.Cmp
open Go.RowKit
def zero6 : List Value := [.int .u64 0, .int .u64 0, .int .u64 0, .int .u64 0, .int .u64 0, .int .u64 0]
def gSums (s : List UInt8) : List Value × Int := if 1920 < s.length then (zero6, 5) else (sumsV s, 0)
theorem sumsTo_zero (s : List UInt8) : sumsTo s 0 = zero6 := rfl
theorem sumsTo_set (s : List UInt8) (j : Nat) (h : j < 6) : (sumsTo s j).set j (.int .u64 (chainOf j (piece s j) : Int)) = sumsTo s (j + 1) := by
  match j, h with
  | 0, _ => rfl
  | 1, _ => rfl
  | 2, _ => rfl
  | 3, _ => rfl
  | 4, _ => rfl
  | 5, _ => rfl
theorem sumsTo_len (s : List UInt8) (j : Nat) : (sumsTo s j).length = 6 := by simp [sumsTo]
theorem sumsTo_all (s : List UInt8) : sumsTo s (cntG s.length) = sumsV s := by
  unfold sumsTo sumsV
  refine List.map_congr_left fun i _ => ?_
  unfold sumG
  split <;> rfl
theorem sums_one (s : List UInt8) : ∀ u ∈ sumsV s, u.oneCell' = true := by
  intro u hu
  unfold sumsV at hu
  obtain ⟨i, _, rfl⟩ := List.mem_map.1 hu
  rfl
theorem u64_nat {i : Nat} (h : i ≤ 1000000) : IntKind.u64.wrap (i : Int) = i := by
  simp only [IntKind.wrap, IntKind.bits, IntKind.signed]
  simp
  omega
namespace Dsk
theorem under_lenG (i : Int) : ∀ {l : List Wr}, (∀ x ∈ l, x.text.length = 384) → ∀ s, under i l = some s → s.length = 384
  | [], _, s, h => by simp [under] at h
  | x :: l, hl, s, h => by
    unfold under at h
    split at h
    · rename_i t ht
      simp only [Option.some.injEq] at h
      subst h
      exact under_lenG i (fun y hy => hl y (by simp [hy])) _ ht
    · split at h
      · simp only [Option.some.injEq] at h
        subst h
        exact hl x (by simp)
      · cases h
theorem read_lenG {D : Dsk} (h : D.Ok) (i : Int) : (D.read i).1.length ≤ 384 := by
  unfold read
  split
  · exact Nat.zero_le _
  · rename_i hi
    split
    · exact Nat.zero_le _
    · have hi' : D.is i = true := by simpa using hi
      have hi2 := is_lt hi'
      cases hu : under i D.way with
      | none =>
        show (nth D.lasts i.toNat).length ≤ 384
        rw [h.size _ (nth_mem (by omega))]
        exact Nat.le_refl _
      | some s =>
        show s.length ≤ 384
        rw [under_lenG i (fun x hx => (h.way x hx).2.2) s hu]
        exact Nat.le_refl _
end Dsk
theorem openS_lenG {p : List UInt8} : (openS p).1.length ≤ 376 := by
  unfold openS
  split
  · rename_i h
    obtain ⟨n, _, hn, _, e, _⟩ := takeT_facts h.2.2
    simp only [e, List.length_take]
    omega
  · exact Nat.zero_le _
theorem layG_next {D : Dsk} (h : D.Ok) (k : Int) (b : List UInt8) (hw : D.way.length < 1000000) (hs : D.steps < 1000000000) : Dsk.Next D (layG D k b).2 := by
  unfold layG
  split
  · exact .same h
  · split
    · exact .same h
    · exact Dsk.write_next h _ _ hw hs
end Go.Cmp
namespace Go.Proofs.Ytghnfocajnlfhaa
open Go.RowKit Go.Cmp

section
variable {S : List Nat} {w0 w : World} {M : List Ent} {g : Nat} {D : Dsk}
set_option maxHeartbeats 4000000 in
theorem gridSums_any (s : List UInt8) (hl : s.length ≤ 1000000) (w : World) :
    Calls Try.prog 8 #[.string ⟨s.toArray⟩] w fun e w' => e = .returned (.tuple #[.agg (gSums s).1.toArray, .int .i64 (gSums s).2]) ∧ St [] w w' [] := by
  have hS := St.init w
  by_cases hlong : 1920 < s.length
  · have e : gSums s = (zero6, 5) := by unfold gSums; rw [if_pos hlong]
    have h1 : (1920 : Int) < s.length := by omega
    rw [e]
    clear e hlong
    (go_enter Try.func8, Try.ntmps8)
    go_wp2_with (first | go_skip | (first | (have q9 := gz; clear q9; ((with_reducible refine g_alloc ?_); refine wl_of rfl ?_; refine wp_alloc hS rfl rfl rfl rfl ?_; clear hS; intro ga w1 hS)) | ((with_reducible refine g_alloc ?_); refine wl_of rfl ?_; refine wp_alloc hS rfl rfl rfl rfl ?_; clear hS; intro gz w1 hS)) | ((with_reducible refine g_load ?_); refine wl_run rfl (by first | exact a_load1 hS rfl rfl rfl rfl (by (repeat (first | exact Ix.here | apply Ix.there))) (by rfl) | exact a_loadR hS rfl rfl rfl rfl (by (repeat (first | exact Ix.here | apply Ix.there))) (by rfl) | fail) ?_) | (refine au5 (n := ?_); clear hS; intro w' hS) | fail)
    exact end_cell2 hS rfl rfl rfl rfl rfl rfl (h := ⟨rfl, hS.nil⟩)
  · have e : gSums s = (sumsV s, 0) := by unfold gSums; rw [if_neg hlong]
    have h1 : ¬ (1920 : Int) < s.length := by omega
    rw [e]
    have hPL : (piecesG s).length = cntG s.length := piecesTo_len s _
    have hc6 : (piecesG s).length ≤ 6 := by rw [hPL]; unfold cntG; omega
    have HB := Lib.hid (fun w => gridBlocks_any s hl w)
    have HPN : Hid (∀ i, i < (piecesG s).length → (piecesG s)[i]? = some (piece s i)) := Lib.hid (fun i hi => piecesTo_nth (by rw [hPL] at hi; exact hi))
    have HSA : Hid (sumsTo s (piecesG s).length = sumsV s) := Lib.hid (by rw [hPL]; exact sumsTo_all s)
    have hso := sums_one s
    have HPLN : Hid (∀ i, (piece s i).length ≤ 320) := Lib.hid (fun i => by rw [piece_len]; omega)
    clear hPL
    generalize piecesG s = L at HB hc6 HPN HSA
    generalize sumsV s = V at HSA hso ⊢
    clear e hlong
    (go_enter Try.func8, Try.ntmps8)
    go_wp2_with (first | go_skip | (first | (have q9 := gz; clear q9; ((with_reducible refine g_alloc ?_); refine wl_of rfl ?_; refine wp_alloc hS rfl rfl rfl rfl ?_; clear hS; intro ga w1 hS)) | ((with_reducible refine g_alloc ?_); refine wl_of rfl ?_; refine wp_alloc hS rfl rfl rfl rfl ?_; clear hS; intro gz w1 hS)) | ((with_reducible refine g_load ?_); refine wl_run rfl (by first | exact a_load1 hS rfl rfl rfl rfl (by (repeat (first | exact Ix.here | apply Ix.there))) (by rfl) | exact a_loadR hS rfl rfl rfl rfl (by (repeat (first | exact Ix.here | apply Ix.there))) (by rfl) | fail) ?_) | (go_at_call 23; refine (HB.out _).mono ?_; rintro e w' ⟨vb, rfl, h⟩; replace hS := hS.call h; clear h) | ((with_reducible refine g_len ?_); refine wl_run rfl (by exact a_len rfl rfl rfl (hS.rdx (by (repeat (first | exact Ix.here | apply Ix.there))))) ?_) | fail)
    replace hS : St [] w _ [.row ga (sumsTo s 0) 29 (0, 0), .row gz zero6 29 (0, 0), .vec vb 9 1 L.length (L.flatMap str)] := hS.pick
    go_loopw [14] (fun k wz => ∃ i : Nat, i ≤ L.length ∧ k = .int .i64 i ∧ St [] w wz [.row ga (sumsTo s i) 29 (0, 0), .row gz zero6 29 (0, 0), .vec vb 9 1 L.length (L.flatMap str)]) (fun k _ => L.length - (intOf k).toNat)
    case atStart => exact ⟨0, by omega, rfl, hS⟩
    case round =>
      clear hS
      obtain ⟨i, hi, rfl, hS⟩ := hrel
      by_cases hil : i < L.length
      · have hil1 : (i : Int) < L.length := by omega
        have hget := HPN.out i hil
        have hpl := HPLN.out i
        have HC := Lib.hid (fun w => crcChain_any i (by omega) (piece s i) (by omega) w)
        have HSET := Lib.hid (sumsTo_set s i (by omega))
        have hlen := sumsTo_len s i
        have hw1 : IntKind.u64.wrap (i : Int) = i := u64_nat (by omega)
        generalize chainOf i (piece s i) = c at HC HSET
        generalize piece s i = x at HC hget
        clear hpl
        go_wp2_with (first | go_skip | ((with_reducible refine g_index ?_); refine wl_run rfl (by exact a_index rfl rfl rfl rfl (hS.rdx (by (repeat (first | exact Ix.here | apply Ix.there)))) (by rfl) (by omega) (by omega)) ?_) | ((with_reducible refine g_load ?_); refine wl_run rfl (by exact a_loadE (L := L) (f := str) rfl (hS.rdx (by (repeat (first | exact Ix.here | apply Ix.there)))) rfl rfl rfl (by intro _; rfl) hget (by rfl)) ?_) | (go_at_call 24; refine (HC.out _).mono ?_; rintro e w' ⟨rfl, rfl⟩) | ((with_reducible refine g_index ?_); refine wl_run rfl (a_arr (n := 6) rfl rfl rfl rfl rfl (by omega) (by omega)) ?_) | ((with_reducible refine g_store ?_); refine wl_of rfl ?_; refine a_store1 (v := .int .u64 (c : Int)) (cs' := sumsTo s (i + 1)) hS rfl rfl rfl rfl rfl rfl (by (repeat (first | exact Sw.here | apply Sw.there))) (by simp; omega) (by simpa using HSET.out) ?_; clear hS; intro w' hS) | fail)
        exact ⟨⟨i + 1, by omega, by simp, hS.pick⟩, by simp [intOf]; omega⟩
      · obtain rfl : i = L.length := by omega
        rw [HSA.out] at hS
        have hV6 : V.length = 6 := by rw [← HSA.out]; exact sumsTo_len s _
        go_wp2_with (first | go_skip | ((with_reducible refine g_load ?_); refine wl_run rfl (by exact a_loadA (vs := V) hS rfl rfl rfl rfl (by (repeat (first | exact Ix.here | apply Ix.there))) 6 (by rfl) (by rw [List.drop_zero, ← hV6, List.take_length]) hV6) ?_) | ((with_reducible refine g_store ?_); refine wl_of rfl ?_; refine a_storeA (vs := V) (cs' := V) hS rfl rfl rfl (by rw [hV6]; rfl) hso (by (repeat (first | exact Sw.here | apply Sw.there))) (by rw [hV6]; exact Nat.le_refl 6) (by rw [hV6]; simp [zero6]) ?_; clear hS; intro w' hS) | fail)
        refine end_cell2 hS rfl rfl rfl rfl rfl rfl (hi := by rw [hV6]; rfl) (h := ⟨rfl, hS.nil⟩)
end
end Go.Proofs.Ytghnfocajnlfhaa
