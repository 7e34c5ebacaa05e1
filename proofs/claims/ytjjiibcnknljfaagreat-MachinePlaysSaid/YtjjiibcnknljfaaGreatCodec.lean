/-
  Numbers and texts behind bytes: what the program's num says, of bytes that are told by entries.
  Numbers and texts behind bytes: what the document's functions say, of bytes that are told by entries.
  What is taken from bytes in which it was laid.
  append(b, s...), b a slice of bytes of one's own, s a string. It holds for every program.
-/
import Derived.Test.YtjjiibcnknljfaaGreatNum
import Derived.Test.YtjjiibcnknljfaaGreatGen
import Derived.Lib.AppendStr
set_option linter.unusedSimpArgs false
set_option linter.unusedVariables false
set_option linter.unusedSectionVars false
set_option maxRecDepth 100000
namespace Go.Cmp
open Go.RowKit
/-- A text, its length ahead. -/
def txt (t : List UInt8) : List UInt8 := leB 2 t.length ++ t
theorem txt_length (t : List UInt8) : (txt t).length = t.length + 2 := by unfold txt; rw [List.length_append, leB_length]; omega
/-- A number from a place on. -/
def takeN (l : List UInt8) (i k : Nat) : Nat × Int := if l.length < i + k then (0, 3) else (leN ((l.drop i).take k), 0)
/-- A text from a place on, and the place behind it. -/
def takeT (l : List UInt8) (i : Nat) (most : Int) : List UInt8 × Int × Int :=
  if l.length < i + 2 then ([], 0, 3)
  else if most < leN ((l.drop i).take 2) then ([], 0, 5)
  else if l.length < i + 2 + leN ((l.drop i).take 2) then ([], 0, 3)
  else ((l.drop (i + 2)).take (leN ((l.drop i).take 2)), i + 2 + leN ((l.drop i).take 2), 0)
end Go.Cmp
namespace Go.Proofs.YtjjiibcnknljfaaGreat
open Go.RowKit Go.Cmp
set_option maxRecDepth 100000

theorem Rd_seg {α : Type} {f : α → List Value} {w : World} {k : Nat} {v : Value} {L : List α} (h : Rd w k v L.length (L.flatMap f)) (hf : ∀ x, (f x).length = k) (a b : Nat) (h1 : a ≤ b) (h2 : b ≤ L.length) :
    Rd w k (cutSl v k a b) ((L.drop a).take (b - a)).length (((L.drop a).take (b - a)).flatMap f) := by
  have h3 := h.cut a b h1 h2
  rw [flat_take hf, flat_drop hf, List.drop_take] at h3
  have e : ((L.drop a).take (b - a)).length = b - a := by simp; omega
  rw [e]
  exact h3

section
variable {S : List Nat} {w0 w : World} {M : List Ent}

theorem num_put (hS : St S w0 w M) {v : Value} {l : List UInt8} (x : Int) (k : Nat) (hk1 : 1 ≤ k) (hk : k ≤ 8) (h0 : 0 ≤ x) (hx : x < 256 ^ k) (hl : l.length + 8 ≤ 140737488355328) (hR : Rd w 1 v l.length (l.flatMap byt)) :
    Calls Tryz.prog 53 #[v, .int .u64 x, .int .i64 k] w fun e w' => ∃ v', e = .returned (.tuple #[v', .int .i64 0]) ∧ St S w0 w' (.vec v' 5 1 (l ++ leB k x.toNat).length ((l ++ leB k x.toNat).flatMap byt) :: M) := by
  obtain ⟨n, rfl⟩ := Int.eq_ofNat_of_zero_le h0
  rw [← B_flat] at hR
  refine (put_in l v n k w hk1 hk (by rw [← Int.ofNat_lt, Int.natCast_pow]; exact hx) hl hR).mono ?_
  rintro e w' ⟨v', rfl, h⟩
  have h2 := hS.call h
  refine ⟨v', rfl, ?_⟩
  rw [Int.toNat_natCast, ← B_flat, List.length_append, leB_length]
  exact h2

theorem len_bytes (n : Nat) (h : n ≤ 65535) : leB 2 n = [UInt8.ofNat (n % 256), UInt8.ofNat (n / 256)] := by
  show [UInt8.ofNat (n % 256), UInt8.ofNat (n / 256 % 256)] = _
  rw [show n / 256 % 256 = n / 256 by omega]

set_option maxHeartbeats 1000000 in
theorem num_putText (hS : St S w0 w M) {v : Value} {l : List UInt8} (t : List UInt8) (ht : t.length ≤ 65535) (hl : l.length ≤ 100000000000000) (hR : Reads S w0 M 1 v l.length (l.flatMap byt)) :
    Calls Tryz.prog 54 #[v, .string ⟨t.toArray⟩] w fun e w' => ∃ v', e = .returned (.tuple #[v', .int .i64 0]) ∧ St S w0 w' (.vec v' 5 1 (l ++ txt t).length ((l ++ txt t).flatMap byt) :: M) := by
  have ht1 : (t.length : Int) ≤ 65535 := by omega
  have htm : t.length ≤ maxLen := by unfold maxLen; omega
  (go_enter Tryz.func54, Tryz.ntmps54)
  have hb : ∀ u ∈ [Value.int .u8 ((t.length : Int) % 256), Value.int .u8 ((t.length : Int) / 256)], u.cells = #[u] := by
    intro u hu
    simp only [List.mem_cons, List.not_mem_nil, or_false] at hu
    rcases hu with rfl | rfl <;> rfl
  have hb2 : [Value.int .u8 ((t.length : Int) % 256), Value.int .u8 ((t.length : Int) / 256)] = (leB 2 t.length).flatMap byt := by
    rw [len_bytes _ ht]
    simp [byt]
    omega
  have HB2 := Lib.hid hb2
  clear hb2
  have hS0 := hS
  clear hS
  have hS := hS0
  clear hS0
  go_wp2_with (first
    | ((with_reducible refine g_bs ?_); refine wl_of rfl ?_; refine wp_buildSlice1 (vs := [Value.int .u8 ((t.length : Int) % 256), Value.int .u8 ((t.length : Int) / 256)]) hS rfl rfl rfl rfl rfl rfl (by decide) ⟨rfl, hb⟩ ?_; clear hS; intro vb w1 hS; rw [HB2.out] at hS)
    | ((with_reducible refine g_conv ?_); refine wl_of rfl ?_; refine a_toBytes hS rfl rfl rfl rfl rfl htm ?_; clear hS; intro vt w1 hS)
    | ((with_reducible refine g_bs ?_); refine wl_of rfl ?_; refine wp_buildSlice1 (vs := [v, vb, vt]) hS rfl rfl rfl rfl rfl rfl (by decide) ⟨rfl, ?_⟩ ?_; rotate_left; clear hS; intro vs w1 hS)
    | (first | refine au1 (n := ?_) | (refine au2 (n := ?_); clear hS; intro w' hS) | (refine au3 (n := ?_); clear hS; intro gb w1 hS) | (refine au4 (n := ?_); clear hS; intro v1 w' hS) | ((with_reducible refine wl_guard ?_); refine stop_mem rfl rfl ?_)))
  case refine_1 =>
    intro u hu
    simp only [List.mem_cons, List.not_mem_nil, or_false] at hu
    rcases hu with rfl | rfl | rfl
    · exact (hR.at hS (by (repeat (first | exact List.Sublist.refl _ | apply List.Sublist.cons)))).cells
    · exact (hS.rdx (by (repeat (first | exact Ix.here | apply Ix.there)))).cells
    · exact (hS.rdx (by (repeat (first | exact Ix.here | apply Ix.there)))).cells
  refine (join_any [l, leB 2 t.length, t] [v, vb, vt] vs 3 _ rfl (by omega) (by omega) (hS.rdx (by (repeat (first | exact Ix.here | apply Ix.there)))) (parts3 (by rw [B_flat]; exact hR.at hS (by (repeat (first | exact List.Sublist.refl _ | apply List.Sublist.cons)))) (by rw [B_flat]; exact hS.rdx (by (repeat (first | exact Ix.here | apply Ix.there)))) (by rw [B_flat]; exact hS.rdx (by (repeat (first | exact Ix.here | apply Ix.there))))) (by simp [leB_length]; omega)).mono ?_
  rintro e w' ⟨v', rfl, h⟩
  have h2 := hS.call h
  go_wp2
  go_ret2
  refine ⟨v', rfl, ?_⟩
  have e9 : [l, leB 2 t.length, t].flatten = l ++ txt t := by simp [txt]
  rw [e9, B_flat] at h2
  exact h2.pick

theorem num_take (hS : St S w0 w M) {v : Value} {l : List UInt8} (i k : Nat) (hk1 : 1 ≤ k) (hk : k ≤ 8) (hl : l.length ≤ 140737488355328) (hR : Rd w 1 v l.length (l.flatMap byt)) :
    Calls Tryz.prog 134 #[v, .int .i64 i, .int .i64 k] w fun e w' => e = .returned (.tuple #[.int .u64 ((takeN l i k).1 : Nat), .int .i64 (takeN l i k).2]) ∧ St S w0 w' M := by
  rw [← B_flat] at hR
  unfold takeN
  split
  · refine (take_short l v i k w hk1 hk (by assumption) hR).mono ?_
    rintro e w' ⟨rfl, h⟩
    exact ⟨rfl, hS.call h⟩
  · refine (take_in l v i k w hk1 hk (by omega) hl hR).mono ?_
    rintro e w' ⟨rfl, h⟩
    exact ⟨rfl, hS.call h⟩

end
end Go.Proofs.YtjjiibcnknljfaaGreat
namespace Go.Proofs.YtjjiibcnknljfaaGreat
open Go.RowKit Go.Cmp
set_option maxRecDepth 100000

section
variable {S : List Nat} {w0 w : World} {M : List Ent}

theorem ref_bytes (hS : St S w0 w M) {v : Value} {l : List UInt8} (hl : l.length ≤ 100000000000000) (hR : Reads S w0 M 1 v l.length (l.flatMap byt)) :
    Calls Tryz.prog 119 #[v] w fun e w' => ∃ v', e = .returned v' ∧ St S w0 w' (.vec v' 5 1 l.length (l.flatMap byt) :: M) := by
  have h0 : (0 : Int) ≤ (l.length : Int) := by omega
  have h2 : (l.length : Int) ≤ 140737488355328 := by omega
  have h1 : ((l.length : Int)).toNat * 1 ≤ 140737488355328 := by omega
  have h3 : (B l).take (min l.length (l.length : Int).toNat * 1) ++ (List.replicate (l.length : Int).toNat (Value.int .u8 0)).drop (min l.length (l.length : Int).toNat * 1) = B l := by
    rw [List.drop_eq_nil_of_le (by simp), List.append_nil, List.take_of_length_le (by simp [B_length])]
  have H3 := Lib.hid h3
  clear h3
  have HR : Hid (∀ W, St S w0 W M → Rd W 1 v l.length (B l)) := Lib.hid (fun W hW => by rw [B_flat]; exact hR W hW)
  clear hR
  (go_enter Tryz.func119, Tryz.ntmps119)
  go_wp2_with (first | ((with_reducible refine g_len ?_); refine wl_run rfl (a_len rfl rfl rfl (HR.out _ hS)) ?_) | ((with_reducible refine g_make ?_); refine wl_of rfl ?_; refine wp_make hS rfl rfl rfl rfl rfl rfl rfl rfl h0 h1 h2 ?_; clear hS; intro v1 w1 hS) | ((with_reducible refine g_copy ?_); refine wl_of rfl ?_; refine wp_copyVec hS rfl (HR.out _ hS.tail) 0 rfl rfl rfl rfl rfl rfl (B_one _) H3.out ?_; clear hS; intro w1 hS) | (first | refine au1 (n := ?_) | (refine au2 (n := ?_); clear hS; intro w' hS) | (refine au3 (n := ?_); clear hS; intro gb w1 hS) | (refine au4 (n := ?_); clear hS; intro v1 w' hS) | ((with_reducible refine wl_guard ?_); refine stop_mem rfl rfl ?_)))
  go_ret
  refine ⟨_, rfl, ?_⟩
  rw [← B_flat]
  simpa using hS

set_option maxRecDepth 100000 in
set_option maxHeartbeats 1000000 in
theorem ref_put (hS : St S w0 w M) {v : Value} {l : List UInt8} (x : Int) (k : Nat) (hk1 : 1 ≤ k) (hk : k ≤ 8) (h0 : 0 ≤ x) (hx : x < 256 ^ k) (hl : l.length ≤ 10000000000) (hR : Reads S w0 M 1 v l.length (l.flatMap byt)) :
    Calls Tryz.prog 88 #[v, .int .u64 x, .int .i64 k] w fun e w' => ∃ v', e = .returned (.tuple #[v', .int .i64 0]) ∧ St S w0 w' (.vec v' 5 1 (l ++ leB k x.toNat).length ((l ++ leB k x.toNat).flatMap byt) :: M) := by
  obtain ⟨n, rfl⟩ := Int.eq_ofNat_of_zero_le h0
  rw [Int.toNat_natCast]
  have hn : n < 256 ^ k := by rw [← Int.ofNat_lt, Int.natCast_pow]; exact hx
  have Hn := Lib.hid hn
  have d1 : decide ((k : Int) < 1) = false := by simp; omega
  have d2 : decide ((8 : Int) < k) = false := by simp; omega
  clear hn hx h0
  (go_enter Tryz.func88, Tryz.ntmps88)
  go_wp2_with (first | (go_at_call 119; refine (ref_bytes (v := v) (l := l) hS (by omega) hR).mono ?_; clear hS; rintro e w' ⟨v', rfl, hS⟩) | (first | refine au1 (n := ?_) | (refine au2 (n := ?_); clear hS; intro w' hS) | (refine au3 (n := ?_); clear hS; intro gb w1 hS) | (refine au4 (n := ?_); clear hS; intro v1 w' hS) | ((with_reducible refine wl_guard ?_); refine stop_mem rfl rfl ?_)))
  go_loopw [8, 1, 9] (fun b x i wr => ∃ (j q : Nat), j ≤ k ∧ Hid (n / 256 ^ j = q) ∧ i = .int .i64 j ∧ x = .int .u64 (q : Int) ∧ St S w0 wr (.vec b 5 1 (l ++ leB j n).length ((l ++ leB j n).flatMap byt) :: M)) (fun _ _ i _ => k - (intOf i).toNat)
  case atStart => exact ⟨0, n, by omega, Lib.hid (by simp), rfl, rfl, by simpa [leB] using hS⟩
  case round =>
    clear hS
    obtain ⟨j, q, hj, Hq, rfl, rfl, hS⟩ := hrel
    have hqn : q < 18446744073709551616 := by
      have := Hn.out
      have h2 := Hq.out
      have h3 := Nat.div_le_self n (256 ^ j)
      have h4 := pow256_le k hk
      omega
    by_cases hlt : j < k
    · have hlt1 : (j : Int) < k := by omega
      have hlen : (l ++ leB j n).length ≤ 137438953471 := by rw [List.length_append, leB_length]; omega
      have hb : [Value.int .u8 ((q : Int) % 256)] = byt (UInt8.ofNat (q % 256)) := by simp [byt]
      have HB := Lib.hid hb
      have hw : IntKind.u64.wrap ((q : Int) / 256) = ((q / 256 : Nat) : Int) := by
        simp only [IntKind.wrap, IntKind.signed, IntKind.bits]
        simp
        omega
      have HW := Lib.hid hw
      clear hb hw
      obtain ⟨A, hA⟩ : ∃ A, l ++ leB j n = A := ⟨_, rfl⟩
      rw [hA] at hS hlen
      have HA : Hid (l ++ leB (j + 1) n = A ++ [UInt8.ofNat (q % 256)]) := Lib.hid (by rw [leB_snoc, ← List.append_assoc, hA, Hq.out])
      clear hA
      go_wp2_with (first | ((with_reducible refine g_append ?_); refine wl_of rfl ?_; rw [HB.out] at hS; refine k_app (z := UInt8.ofNat (q % 256)) (f := byt) hS rfl rfl rfl rfl (h1 := by simp [byt, Value.oneCell']) (h := ?_); clear hS; intro v2 w' hS hv2) | (first | refine au1 (n := ?_) | (refine au2 (n := ?_); clear hS; intro w' hS) | (refine au3 (n := ?_); clear hS; intro gb w1 hS) | (refine au4 (n := ?_); clear hS; intro v1 w' hS) | ((with_reducible refine wl_guard ?_); refine stop_mem rfl rfl ?_)))
      refine ⟨⟨j + 1, q / 256, by omega, Lib.hid ?_, by go_num, by first | rw [HW.out] | simp, by rw [HA.out]; exact hS.pick⟩, by simp [intOf]; omega⟩
      rw [← Hq.out, Nat.div_div_eq_div_mul, ← Nat.pow_succ]
    · obtain rfl : j = k := by omega
      obtain rfl : q = 0 := by
        have := Hq.out
        rw [Nat.div_eq_of_lt Hn.out] at this
        exact this.symm
      go_wp2_with (first | refine au1 (n := ?_) | (refine au2 (n := ?_); clear hS; intro w' hS) | (refine au3 (n := ?_); clear hS; intro gb w1 hS) | (refine au4 (n := ?_); clear hS; intro v1 w' hS) | ((with_reducible refine wl_guard ?_); refine stop_mem rfl rfl ?_))
      go_ret2
      exact ⟨_, rfl, hS⟩

theorem ref_eight (x : Int) (h0 : 0 ≤ x) (hx : x < 18446744073709551616) (w : World) :
    Calls Tryz.prog 57 #[.int .u64 x] w fun e w' => e = .returned (.string ⟨(leB 8 x.toNat).toArray⟩) ∧ St [] w w' [] := by
  have hS := St.init w
  have HP : Hid (∀ (W : World) (v : Value) (M : List Ent), St [] w W (.vec v 5 1 0 [] :: M) → Calls Tryz.prog 88 #[v, .int .u64 x, .int .i64 8] W fun e w' => ∃ v', e = .returned (.tuple #[v', .int .i64 0]) ∧ St [] w w' [.vec v' 5 1 (leB 8 x.toNat).length ((leB 8 x.toNat).flatMap byt)]) := Lib.hid (fun W v M h => by
    have h2 := ref_put (v := v) (l := []) h x 8 (by omega) (by omega) h0 (by simpa using hx) (by simp) (fun W' h' => h'.rdx (by (repeat (first | exact Ix.here | apply Ix.there))))
    refine h2.mono ?_
    rintro e w' ⟨v', rfl, h3⟩
    exact ⟨v', rfl, h3.one⟩)
  clear h0 hx
  (go_enter Tryz.func57, Tryz.ntmps57)
  go_wp2_with (first | ((with_reducible refine g_bs ?_); refine wl_of rfl ?_; refine a_build0 (k := 1) hS rfl rfl (by rfl) ?_; clear hS; intro v1 w' hS) | (go_at_call 88; refine (HP.out _ _ _ (hS.out (by (repeat (first | exact Out.here | apply Out.there))))).mono ?_; clear hS; rintro e w' ⟨v', rfl, hS⟩) | (first | refine au1 (n := ?_) | (refine au2 (n := ?_); clear hS; intro w' hS) | (refine au3 (n := ?_); clear hS; intro gb w1 hS) | (refine au4 (n := ?_); clear hS; intro v1 w' hS) | ((with_reducible refine wl_guard ?_); refine stop_mem rfl rfl ?_)))
  go_ret
  exact ⟨rfl, hS.nil⟩

set_option maxRecDepth 100000 in
set_option maxHeartbeats 1000000 in
theorem ref_putText (hS : St S w0 w M) {v : Value} {l : List UInt8} (t : List UInt8) (ht : t.length ≤ 65535) (hl : l.length ≤ 10000000000) (hR : Reads S w0 M 1 v l.length (l.flatMap byt)) :
    Calls Tryz.prog 58 #[v, .string ⟨t.toArray⟩] w fun e w' => ∃ v', e = .returned (.tuple #[v', .int .i64 0]) ∧ St S w0 w' (.vec v' 5 1 (l ++ txt t).length ((l ++ txt t).flatMap byt) :: M) := by
  have ht1 : (t.length : Int) ≤ 65535 := by omega
  have HP := Lib.hid (fun (W : World) (h : St S w0 W M) => ref_put (v := v) (l := l) h (t.length : Int) 2 (by omega) (by omega) (by omega) (by omega) hl hR)
  clear hR
  (go_enter Tryz.func58, Tryz.ntmps58)
  go_wp2_with (first | (go_at_call 88; refine (HP.out _ hS).mono ?_; clear hS; rintro e w' ⟨v', rfl, hS⟩) | (first | refine au1 (n := ?_) | (refine au2 (n := ?_); clear hS; intro w' hS) | (refine au3 (n := ?_); clear hS; intro gb w1 hS) | (refine au4 (n := ?_); clear hS; intro v1 w' hS) | ((with_reducible refine wl_guard ?_); refine stop_mem rfl rfl ?_)))
  rw [Int.toNat_natCast] at hS
  obtain ⟨A, hA⟩ : ∃ A, l ++ leB 2 t.length = A := ⟨_, rfl⟩
  have hAl : A.length ≤ 10000000002 := by rw [← hA, List.length_append, leB_length]; omega
  have HA : Hid (l ++ txt t = A ++ t) := Lib.hid (by unfold txt; rw [← List.append_assoc, hA])
  rw [hA] at hS
  clear hA
  replace hS : St S w0 w' (.vec v' 5 1 (A ++ t.take 0).length ((A ++ t.take 0).flatMap byt) :: M) := by rw [List.take_zero, List.append_nil]; exact hS
  go_loopw [6, 8] (fun b i wr => ∃ j : Nat, j ≤ t.length ∧ i = .int .i64 j ∧ St S w0 wr (.vec b 5 1 (A ++ t.take j).length ((A ++ t.take j).flatMap byt) :: M)) (fun _ i _ => t.length - (intOf i).toNat)
  case atStart => exact ⟨0, by omega, rfl, hS⟩
  case round =>
    clear hS
    obtain ⟨j, hj, rfl, hS⟩ := hrel
    by_cases hlt : j < t.length
    · have hlt1 : (j : Int) < t.length := by omega
      have hlen : (A ++ t.take j).length ≤ 137438953471 := by rw [List.length_append, List.length_take]; omega
      obtain ⟨A2, hA2⟩ : ∃ A2, A ++ t.take j = A2 := ⟨_, rfl⟩
      rw [hA2] at hS hlen
      have HA2 : Hid (A ++ t.take (j + 1) = A2 ++ [nth t j]) := Lib.hid (by
        rw [List.take_succ_eq_append_getElem hlt, ← List.append_assoc, hA2, show t[j] = nth t j from (nth_eq (List.getElem?_eq_getElem hlt)).symm])
      clear hA2
      go_wp2_with (first | ((with_reducible refine g_append ?_); refine wl_of rfl ?_; refine k_app (z := nth t j) (f := byt) hS rfl rfl rfl rfl (h1 := by simp [byt, Value.oneCell']) (h := ?_); clear hS; intro v2 w' hS hv2) | (first | refine au1 (n := ?_) | (refine au2 (n := ?_); clear hS; intro w' hS) | (refine au3 (n := ?_); clear hS; intro gb w1 hS) | (refine au4 (n := ?_); clear hS; intro v1 w' hS) | ((with_reducible refine wl_guard ?_); refine stop_mem rfl rfl ?_)))
      exact ⟨⟨j + 1, by omega, by go_num, by rw [HA2.out]; exact hS.pick⟩, by simp [intOf]; omega⟩
    · obtain rfl : j = t.length := by omega
      rw [List.take_length] at hS
      go_wp2_with (first | refine au1 (n := ?_) | (refine au2 (n := ?_); clear hS; intro w' hS) | (refine au3 (n := ?_); clear hS; intro gb w1 hS) | (refine au4 (n := ?_); clear hS; intro v1 w' hS) | ((with_reducible refine wl_guard ?_); refine stop_mem rfl rfl ?_))
      go_ret2
      exact ⟨_, rfl, by rw [HA.out]; exact hS⟩
end
end Go.Proofs.YtjjiibcnknljfaaGreat
namespace Go.Cmp
open Go.RowKit
set_option maxRecDepth 100000
theorem takeN_at (pre post : List UInt8) (k n : Nat) (h : n < 256 ^ k) : takeN (pre ++ leB k n ++ post) pre.length k = (n, 0) := by
  unfold takeN
  rw [if_neg (by simp only [List.length_append, leB_length]; omega), List.append_assoc, List.drop_left, List.take_left' (leB_length k n), leN_leB, Nat.mod_eq_of_lt h]
theorem takeT_at (pre post t : List UInt8) (most : Int) (h : (t.length : Int) ≤ most) (h2 : t.length < 65536) : takeT (pre ++ txt t ++ post) pre.length most = (t, (pre.length : Int) + 2 + t.length, 0) := by
  have e : leN (((pre ++ txt t ++ post).drop pre.length).take 2) = t.length := by
    unfold txt
    rw [List.append_assoc, List.drop_left, List.append_assoc, List.take_left' (leB_length 2 _), leN_leB, Nat.mod_eq_of_lt (by omega)]
  have e2 : (pre ++ txt t ++ post).drop (pre.length + 2) = t ++ post := by
    unfold txt
    rw [← List.drop_drop, List.append_assoc, List.drop_left, List.append_assoc, List.drop_left' (leB_length 2 _)]
  unfold takeT
  rw [e, e2, if_neg (by simp only [List.length_append, txt_length]; omega), if_neg (by omega), if_neg (by simp only [List.length_append, txt_length]; omega), List.take_left]

/-- The end of a call whose first result is a cell of several words, and two more. -/
theorem end_cell3 {P : Program} {a : Act} {S : List Nat} {w0 w : World} {M : List Ent} (hS : St S w0 w M) {fn : Func} {R : Ending → World → Prop} {p q r : Tmp} {ty : TypeId} (hr : fn.results = #[.cell p ty, .tmp q, .tmp r]) {g : Nat} (hp : a.tmps.getD p undef = .pointer (some ⟨g, 0, none⟩)) {i : Nat} {cs : List Value} {e : TypeId} {fr : Nat × Nat} {d : TypeDesc} {u v : Value} (hq : a.tmps.getD q undef = u) (hv : a.tmps.getD r undef = v) (hu : P.underlying ty = some d) (hd : (match d with | .struct _ | .array _ _ => true | _ => false) = true)
    (hdf : a.defers = []) (hM : Ix M i (.row g cs e fr) := by (repeat (first | exact Ix.here | apply Ix.there))) (hi : (P.info? ty).map (·.size) = some cs.length := by rfl) (h : R (.returned (.tuple #[.agg cs.toArray, u, v])) w) : bodyPost P fn R .ret a w := by
  refine bodyPost_ret (v := .tuple #[.agg cs.toArray, u, v]) ?_ hdf h
  have hp' : a.tmps[p]?.getD undef = .pointer (some ⟨g, 0, none⟩) := by simpa using hp
  have hq' : a.tmps[q]?.getD undef = u := by simpa using hq
  have hv' : a.tmps[r]?.getD undef = v := by simpa using hv
  have hl := run_loadVar_row (P := P) w g e ty cs.toArray fr d (hS.row hM.get) hu hd (by simpa using hi)
  simp [results, hr, hp', hq', hv', asAddr, hl]
end Go.Cmp
namespace Go.Cmp
open Go.RowKit

section
variable {P : Program} {ops : Array Oper} {rest : List Oper} {o : Oper} {a : Act} {K : Act → World → Prop} {Q : Exit → Act → World → Prop} {w w0 : World} {S : List Nat} {M M' : List Ent}

theorem strCells_list (l : List UInt8) : Lib.strCells ⟨l.toArray⟩ = l.flatMap byt := by
  rw [← B_flat]
  simp [Lib.strCells, B]

theorem run_append_str {t s e : TypeId} (ty : TypeId) (ht : P.underlying t = some (.slice e)) (hu : P.underlying s = some .string) {i : TypeInfo} (hi : P.info? e = some i) (hz : i.zero = some (.int .u8 0)) (hs1 : i.size = 1) (hby : i.bytes = 1)
    {v : Value} {n : Nat} {xs : List Value} (hv : VecAt w v e 1 n xs) (l : List UInt8) (hb : n + l.length ≤ 140737488355328) :
    ∃ v' w', (Builtin.append_ #[t, s] ty #[v, .string ⟨l.toArray⟩]).run P w = .ok v' w' ∧ VecAt w' v' e 1 (n + l.length) (xs ++ l.flatMap byt) ∧ Mod v.ownBlock.toList w w' ∧ (∀ g ∈ v'.ownBlock.toList, g ∈ v.ownBlock.toList ∨ w.heap.size ≤ g) := by
  have hsz : (⟨l.toArray⟩ : ByteArray).size = l.length := by simp [ByteArray.size]
  have hml : 140737488355328 ≤ maxLen := by unfold maxLen; omega
  have hcl : (l.flatMap byt).length = l.length := by rw [flat_len (k := 1) (fun _ => rfl), Nat.mul_one]
  have hzc : (Value.int IntKind.u8 0).cells.size = 1 := rfl
  have hlen : (xs ++ l.flatMap byt).length = (n + l.length) * 1 := by rw [List.length_append, hv.1, hcl]; omega
  rcases hv.2 with ⟨rfl, rfl⟩ | ⟨g, cap, rest', fr, rfl, hh, e2, e3, e4, e5⟩
  · have hx : xs = [] := List.eq_nil_of_length_eq_zero (by simpa using hv.1)
    subst hx
    by_cases h0 : l = []
    · subst h0
      refine ⟨.slice none 0 0, w, ?_, by simpa using hv, Mod.refl _ _, fun g hg => .inl hg⟩
      simp [Builtin.append_, run_underlying ht, run_underlying hu, sizeOf, typeInfo, hi, Builtin.lenOf, Builtin.firstCells, ByteArray.size]
    · have hpos := List.length_pos_iff.2 h0
      have hr := run_append_nil_string (P := P) w t s ty e i _ ht hu hi hz ⟨l.toArray⟩ (by rw [hsz]; exact hpos) (by rw [hsz]; omega) (by rw [hsz, hby]; omega)
      rw [hsz] at hr
      refine ⟨_, _, hr, ?_, (Mod.refl _ _).drew.trans (mod_alloc w.drew _).nil, ?_⟩
      · simp only [Nat.zero_add, List.nil_append] at hlen ⊢
        have := VecAt.grown (w := w.drew) (e := e) (Value.int IntKind.u8 0).cells hzc (grownCap w l.length 0 e) (n := l.length) (xs := l.flatMap byt) hlen (grownCap_ge _ _ _ _) (grownCap_le_maxLen _ _ _ _ (by omega))
        have e9 : (ByteArray.data ⟨l.toArray⟩).map (fun b : UInt8 => Value.int IntKind.u8 (b.toNat : Int)) = (l.flatMap byt).toArray := by
          rw [← B_flat]; simp [B]
        rw [e9]
        exact this
      · intro y hy; simp [Value.ownBlock] at hy; exact .inr (by omega)
  · by_cases hroom : n + l.length ≤ cap
    · have hv1 := hv.1
      have hfit : n * 1 + (l.flatMap byt).length ≤ (xs ++ rest').length := by omega
      obtain ⟨w', r1, r2, r3⟩ := run_storeCells_nf (P := P) g (n * 1) e fr (l.flatMap byt) 0 (xs ++ rest') w hh (by simpa using hfit) (by intro j hj; exact e5 _ (by omega)) (by rw [← B_flat]; exact B_one l)
      have hcat : (xs ++ rest').take (n * 1 + 0) ++ l.flatMap byt ++ (xs ++ rest').drop (n * 1 + 0 + (l.flatMap byt).length) = (xs ++ l.flatMap byt) ++ rest'.drop (l.flatMap byt).length := by
        simp only [Nat.add_zero]
        rw [← hv.1, List.take_left, Nat.add_comm, List.drop_append, List.drop_eq_nil_of_le (by omega)]
        simp
      rw [hcat] at r2
      have hf := Lib.run_firstCells_string (P := P) w 1 ⟨l.toArray⟩
      rw [hsz, strCells_list] at hf
      refine ⟨.slice (some ⟨g, 0, none⟩) (n + l.length) cap, w', ?_, ⟨hlen, .inr ⟨g, cap, _, fr, rfl, r2, hroom, e3, ?_, e5⟩⟩, by simpa [Value.ownBlock] using r3, fun y hy => .inl hy⟩
      · simp only [Nat.mul_one, Nat.add_zero] at r1
        simp [Builtin.append_, run_underlying ht, run_underlying hu, sizeOf, typeInfo, hi, hs1, Builtin.lenOf, hsz, hroom, hf, add_lit, r1]
      · simp only [List.length_append, List.length_drop] at e4 hfit ⊢; omega
    · have holds : ∀ (j : Nat) u, xs[j]? = some u → w.cell? ((⟨g, 0, none⟩ : Addr).add j) = some u := fun j u hu => by
        rw [add_lit, Nat.zero_add, row_cell hh, List.getElem?_append_left (List.getElem?_eq_some_iff.1 hu).1]; exact hu
      have hr := Lib.run_append_grow_string (P := P) w t s ty e i _ ht hu hi hz ⟨g, 0, none⟩ n cap xs (by rw [hs1]; exact hv.1) holds ⟨l.toArray⟩ (by rw [hsz]; omega) (by rw [hsz]; omega) (by rw [hsz]; exact growslice_fits (by omega) (by rw [hby]; omega))
      rw [hsz, strCells_list] at hr
      refine ⟨_, _, hr, ?_, (Mod.refl _ _).drew.trans (mod_alloc w.drew _).nil, ?_⟩
      · have := VecAt.grown (w := w.drew) (e := e) (Value.int IntKind.u8 0).cells hzc (grownCap w (n + l.length) cap e) hlen (grownCap_ge _ _ _ _) (grownCap_le_maxLen _ _ _ _ (by omega))
        rw [← List.append_toArray] at this
        exact this
      · intro y hy; simp [Value.ownBlock] at hy; exact .inr (by omega)

/-- The step. -/
theorem k_appS (hS : St S w0 w M) {s x : Operand} {t u : TypeId} {v : Value} {e : TypeId} {L l : List UInt8} (ho : o.op = .call { callee := .builtin .append, args := #[s, x], argTypes := #[t, u] })
    (hs : a.eval s = v) (hx : a.eval x = .string ⟨l.toArray⟩) (ht : P.underlying t = some (.slice e)) (hu : P.underlying u = some .string) (hout : Out M (.vec v e 1 L.length (L.flatMap byt)) M' := by (repeat (first | exact Out.here | apply Out.there)))
    (hi : (P.info? e).map (fun i => (i.zero, i.size, i.bytes)) = some (some (.int .u8 0), 1, 1) := by rfl) (hbl : L.length + l.length ≤ 137438953472 := by omega)
    (h : ∀ v' w', St S w0 w' (.vec v' e 1 (L ++ l).length ((L ++ l).flatMap byt) :: M') → K (a.put o.dst v') w') : o.wp P a w K Q := by
  obtain ⟨ti, hti, hk⟩ := Option.map_eq_some_iff.1 hi
  simp only [Prod.mk.injEq] at hk
  have hS2 := hS.out hout
  obtain ⟨v', w', r1, r2, r3, r4⟩ := run_append_str (P := P) o.type ht hu hti hk.1 hk.2.1 hk.2.2 (hS2.vec (i := 0) rfl) l (by omega)
  refine wp_run ?_ (h v' w' ?_)
  · simp [execOp, ho, resolve, invoke, builtin, hs, hx, r1]
  · have := hS2.chgVec 0 rfl r3 r2 r4
    rw [List.length_append, List.flatMap_append]
    exact this
end
end Go.Cmp
