/-
  A number and a text are read: the document's.
-/
import Derived.Test.YtbfdnpahojoccaaCodec
set_option linter.unusedSimpArgs false
set_option linter.unusedVariables false
set_option linter.unusedSectionVars false
set_option maxRecDepth 100000
namespace Go.Cmp
open Go.RowKit
theorem leN_cons_drop (c : List UInt8) (j : Nat) (h : j < c.length) : leN (c.drop j) = leN (c.drop (j + 1)) * 256 + (nth c j).toNat := by
  rw [List.drop_eq_getElem_cons h]
  simp only [leN]
  have e : nth c j = c[j] := nth_eq (List.getElem?_eq_getElem h)
  rw [e]
  omega
theorem byt_get {l : List UInt8} {i : Nat} (h : i < l.length) : l[i]? = some (nth l i) := get_lt h
end Go.Cmp
namespace Go.Proofs.Ytbfdnpahojoccaa
open Go.RowKit Go.Cmp
set_option maxRecDepth 100000

section
variable {w : World}
set_option maxHeartbeats 2000000 in
theorem ref_take {v : Value} {l : List UInt8} (i k : Nat) (hk1 : 1 ≤ k) (hk : k ≤ 8) (hi : i ≤ 1000000000) (hl : l.length ≤ 1000000000) (hR : Rd w 1 v l.length (l.flatMap byt)) :
    Calls Try.prog 57 #[v, .int .i64 i, .int .i64 k] w fun e w' => e = .returned (.tuple #[.int .u64 ((takeN l i k).1 : Nat), .int .i64 (takeN l i k).2]) ∧ w' = w := by
  have hS := St.init w
  have d0 : decide ((k : Int) < 1) = false := decide_eq_false (by omega)
  have d2 : decide ((8 : Int) < k) = false := decide_eq_false (by omega)
  have d3 : decide ((i : Int) < 0) = false := decide_eq_false (by omega)
  by_cases h1 : l.length < i + k
  · have e : takeN l i k = (0, 3) := by unfold takeN; rw [if_pos h1]
    rw [e]
    have h1' : (l.length : Int) - k < i := by omega
    (go_enter Try.func57, Try.ntmps57)
    go_wp2_with (first | ((with_reducible refine g_len ?_); refine wl_run rfl (a_len rfl rfl rfl hR) ?_) | (first | refine au1 (n := ?_) | (refine au2 (n := ?_); clear hS; intro w' hS) | (refine au3 (n := ?_); clear hS; intro gb w1 hS) | (refine au4 (n := ?_); clear hS; intro v1 w' hS) | ((with_reducible refine wl_guard ?_); refine stop_mem rfl rfl ?_)))
    go_ret2
    exact ⟨rfl, rfl⟩
  · have e : takeN l i k = (leN ((l.drop i).take k), 0) := by unfold takeN; rw [if_neg h1]
    rw [e]
    have h1' : ¬ (l.length : Int) - k < i := by omega
    have HCG : Hid (∀ q, q < k → nth ((l.drop i).take k) q = nth l (i + q)) := Lib.hid (fun q hq => by
      unfold nth
      rw [List.getD_eq_getElem?_getD, List.getD_eq_getElem?_getD, List.getElem?_take_of_lt hq, List.getElem?_drop])
    have hcl : ((l.drop i).take k).length = k := by rw [List.length_take, List.length_drop]; omega
    obtain ⟨c, hc⟩ : ∃ c, (l.drop i).take k = c := ⟨_, rfl⟩
    rw [hc] at HCG hcl ⊢
    have HCL := Lib.hid hcl
    clear hc hcl e
    (go_enter Try.func57, Try.ntmps57)
    go_wp2_with (first | ((with_reducible refine g_len ?_); refine wl_run rfl (a_len rfl rfl rfl hR) ?_) | (first | refine au1 (n := ?_) | (refine au2 (n := ?_); clear hS; intro w' hS) | (refine au3 (n := ?_); clear hS; intro gb w1 hS) | (refine au4 (n := ?_); clear hS; intro v1 w' hS) | ((with_reducible refine wl_guard ?_); refine stop_mem rfl rfl ?_)))
    clear h1' d0 d2 d3
    go_loopw [8, 9] (fun x y wr => ∃ j : Nat, j ≤ k ∧ y = .int .i64 ((j : Int) - 1) ∧ x = .int .u64 (leN (c.drop j)) ∧ wr = w) (fun _ y _ => (intOf y + 1).toNat)
    case atStart => exact ⟨k, by omega, rfl, by rw [List.drop_eq_nil_of_le (by rw [HCL.out]; exact Nat.le_refl _)]; rfl, rfl⟩
    case round =>
      obtain ⟨j, hj, rfl, rfl, rfl⟩ := hrel
      by_cases hlt : 0 < j
      · obtain ⟨q, rfl⟩ : ∃ q, j = q + 1 := ⟨j - 1, by omega⟩
        have hq : q < c.length := by rw [HCL.out]; omega
        have e0 : ((q + 1 : Nat) : Int) - 1 = q := by omega
        have hbd := leN_lt (c.drop q)
        have hst := leN_cons_drop c q hq
        have hp := pow256_le (c.drop q).length (by rw [List.length_drop, HCL.out]; omega)
        have hcq := HCG.out q (by omega)
        have hil : i + q < l.length := by omega
        have hget := byt_get hil
        rw [← hcq] at hget
        rw [e0]
        obtain ⟨x, hx⟩ : ∃ x, leN (c.drop (q + 1)) = x := ⟨_, rfl⟩
        obtain ⟨b, hb⟩ : ∃ b, nth c q = b := ⟨_, rfl⟩
        rw [hx, hb] at hst
        rw [hb] at hget
        rw [hx]
        have hyb := b.toNat_lt
        have HG := Lib.hid hget
        obtain ⟨y, hy⟩ : ∃ y, b.toNat = y := ⟨_, rfl⟩
        rw [hy] at hst hyb
        have HY := Lib.hid hy
        have h64 : x * 256 + y < 18446744073709551616 := by omega
        have hiq : (i : Int) + q < l.length := by omega
        have Hst := Lib.hid hst
        clear hx hb hst hbd hp hcq e0 hget hy
        go_wp2_with (first | ((with_reducible refine g_index ?_); refine wl_run rfl (a_index (u := v) (j := (i : Int) + q) rfl rfl rfl rfl hR (by rfl) (by omega) (by omega)) ?_) | ((with_reducible refine g_load ?_); refine wl_run rfl (v := .int .u8 (y : Int)) (by have e : ((i : Int) + q).toNat = i + q := (by omega); rw [← HY.out]; exact a_loadE (f := byt) (k := 1) (L := l) (j := i + q) rfl hR (by rw [← e]; rfl) rfl rfl (by intro _; rfl) HG.out (by rfl)) ?_) | fail)
        exact ⟨⟨q, by omega, rfl, by rw [Hst.out, Int.natCast_add, Int.natCast_mul]; rfl, trivial⟩, by simp only [intOf]; omega⟩
      · obtain rfl : j = 0 := by omega
        go_wp2
        go_ret2
        exact ⟨rfl, rfl⟩

set_option maxHeartbeats 4000000 in
theorem ref_takeText {v : Value} {l : List UInt8} (i : Nat) (most : Int) (hl : l.length ≤ 1000000000) (hi : i ≤ 1000000000) (hR : Rd w 1 v l.length (l.flatMap byt)) :
    Calls Try.prog 72 #[v, .int .i64 i, .int .i64 most] w fun e w' => e = .returned (.tuple #[.string ⟨(takeT l i most).1.toArray⟩, .int .i64 (takeT l i most).2.1, .int .i64 (takeT l i most).2.2]) ∧ St [] w w' [] := by
  have hS := St.init w
  have HT := Lib.hid (ref_take (w := w) i 2 (by omega) (by omega) hi hl hR)
  by_cases h1 : l.length < i + 2
  · have e : takeT l i most = ([], 0, 3) := by unfold takeT; rw [if_pos h1]
    have e2 : takeN l i 2 = (0, 3) := by unfold takeN; rw [if_pos h1]
    rw [e]
    rw [e2] at HT
    clear e e2
    (go_enter Try.func72, Try.ntmps72)
    go_wp2_with (fail)
    refine HT.out.mono ?_
    rintro e w9 ⟨rfl, rfl⟩
    go_wp2_with (first | refine au1 (n := ?_) | (refine au2 (n := ?_); clear hS; intro w' hS) | (refine au3 (n := ?_); clear hS; intro gb w1 hS) | (refine au4 (n := ?_); clear hS; intro v1 w' hS) | ((with_reducible refine wl_guard ?_); refine stop_mem rfl rfl ?_))
    go_ret3
    exact ⟨rfl, hS⟩
  obtain ⟨n, hn⟩ : ∃ n, leN ((l.drop i).take 2) = n := ⟨_, rfl⟩
  have e2 : takeN l i 2 = (n, 0) := by unfold takeN; rw [if_neg h1, hn]
  rw [e2] at HT
  clear e2
  have hn2 : n < 65536 := by
    have := leN_lt ((l.drop i).take 2)
    rw [List.length_take, List.length_drop, Nat.min_eq_left (by omega), hn] at this
    exact this
  by_cases h2 : most < n
  · have e : takeT l i most = ([], 0, 5) := by unfold takeT; rw [if_neg h1, hn, if_pos h2]
    rw [e]
    clear e
    (go_enter Try.func72, Try.ntmps72)
    go_wp2_with (fail)
    refine HT.out.mono ?_
    rintro e w9 ⟨rfl, rfl⟩
    go_wp2_with (first | refine au1 (n := ?_) | (refine au2 (n := ?_); clear hS; intro w' hS) | (refine au3 (n := ?_); clear hS; intro gb w1 hS) | (refine au4 (n := ?_); clear hS; intro v1 w' hS) | ((with_reducible refine wl_guard ?_); refine stop_mem rfl rfl ?_))
    go_ret3
    exact ⟨rfl, hS⟩
  have hres : takeT l i most = if l.length < i + 2 + n then ([], 0, 3) else ((l.drop (i + 2)).take n, (i : Int) + 2 + (n : Int), 0) := by unfold takeT; rw [if_neg h1, hn, if_neg h2]
  have HRES := Lib.hid hres
  obtain ⟨res, hr2⟩ : ∃ r, takeT l i most = r := ⟨_, rfl⟩
  rw [hr2] at HRES ⊢
  clear hres hr2 hn
  obtain ⟨r1, r2, r3⟩ := res
  (go_enter Try.func72, Try.ntmps72)
  go_wp2_with (fail)
  refine HT.out.mono ?_
  rintro e w9 ⟨rfl, rfl⟩
  go_wp2_with (first | ((with_reducible refine g_bs ?_); refine wl_of rfl ?_; refine a_build0 (k := 1) hS rfl rfl (by rfl) ?_; clear hS; intro v1 w' hS) | (first | refine au1 (n := ?_) | (refine au2 (n := ?_); clear hS; intro w' hS) | (refine au3 (n := ?_); clear hS; intro gb w1 hS) | (refine au4 (n := ?_); clear hS; intro v1 w' hS) | ((with_reducible refine wl_guard ?_); refine stop_mem rfl rfl ?_)))
  clear HT
  replace hS : St [] w9 _ [.vec v1 5 1 ([] : List UInt8).length (([] : List UInt8).flatMap byt)] := hS
  go_loopw [11, 12] (fun s k wr => ∃ j : Nat, j ≤ n ∧ j ≤ l.length - (i + 2) ∧ k = .int .i64 j ∧ St [] w9 wr [.vec s 5 1 ((l.drop (i + 2)).take j).length (((l.drop (i + 2)).take j).flatMap byt)]) (fun _ k _ => n - (intOf k).toNat)
  case atStart => exact ⟨0, by omega, by omega, rfl, by simpa using hS⟩
  case round =>
    clear hS
    obtain ⟨j, hj, hjl, rfl, hS⟩ := hrel
    by_cases hlt : j < n
    · have hlt1 : (j : Int) < n := by omega
      by_cases hend : l.length ≤ i + 2 + j
      · have hge : (l.length : Int) ≤ (i : Int) + 2 + j := by omega
        have HE : Hid ((r1, r2, r3) = (([] : List UInt8), (0 : Int), (3 : Int))) := Lib.hid (by rw [HRES.out, if_pos (by omega)])
        clear HRES
        go_wp2_with (first | ((with_reducible refine g_len ?_); refine wl_run rfl (a_len rfl rfl rfl (hS.old0 hR)) ?_) | (first | refine au1 (n := ?_) | (refine au2 (n := ?_); clear hS; intro w' hS) | (refine au3 (n := ?_); clear hS; intro gb w1 hS) | (refine au4 (n := ?_); clear hS; intro v1 w' hS) | ((with_reducible refine wl_guard ?_); refine stop_mem rfl rfl ?_)))
        go_ret3
        obtain ⟨rfl, rfl, rfl⟩ : r1 = [] ∧ r2 = 0 ∧ r3 = 3 := by simpa using HE.out
        exact ⟨rfl, hS.nil⟩
      · have hge : ¬ (l.length : Int) ≤ (i : Int) + 2 + j := by omega
        have hgl : i + 2 + j < l.length := by omega
        have hget := byt_get hgl
        have htk : (l.drop (i + 2)).take (j + 1) = (l.drop (i + 2)).take j ++ [nth l (i + 2 + j)] := by
          rw [take_nth (by rw [List.length_drop]; omega)]
          congr 2
          unfold nth
          rw [List.getD_eq_getElem?_getD, List.getD_eq_getElem?_getD, List.getElem?_drop]
        obtain ⟨b, hb⟩ : ∃ b, nth l (i + 2 + j) = b := ⟨_, rfl⟩
        rw [hb] at hget htk
        obtain ⟨t, ht⟩ : ∃ t, (l.drop (i + 2)).take j = t := ⟨_, rfl⟩
        have htl : t.length ≤ 65536 := by rw [← ht, List.length_take]; omega
        rw [ht] at htk hS
        have HG := Lib.hid hget
        have HTK := Lib.hid htk
        clear hget htk ht hb
        go_wp2_with (first | ((with_reducible refine g_len ?_); refine wl_run rfl (a_len (u := v) rfl rfl rfl (hS.old0 hR)) ?_) | ((with_reducible refine g_index ?_); refine wl_run rfl (a_index (u := v) (j := (i : Int) + 2 + j) rfl rfl rfl rfl (hS.old0 hR) (by rfl) (by omega) (by omega)) ?_) | ((with_reducible refine g_load ?_); refine wl_run rfl (v := .int .u8 (b.toNat : Int)) (by have e : ((i : Int) + 2 + j).toNat = i + 2 + j := (by omega); exact a_loadE (f := byt) (k := 1) (L := l) (j := i + 2 + j) rfl (hS.old0 hR) (by rw [← e]; rfl) rfl rfl (by intro _; rfl) HG.out (by rfl)) ?_) | ((with_reducible refine g_append ?_); refine wl_of rfl ?_; refine k_app (z := b) hS rfl rfl rfl rfl (h1 := by simp [byt, Value.oneCell']) (h := ?_); clear hS; intro v2 w' hS hv2) | (first | refine au1 (n := ?_) | (refine au2 (n := ?_); clear hS; intro w' hS) | (refine au3 (n := ?_); clear hS; intro gb w1 hS) | (refine au4 (n := ?_); clear hS; intro v1 w' hS) | ((with_reducible refine wl_guard ?_); refine stop_mem rfl rfl ?_)))
        exact ⟨⟨j + 1, by omega, by omega, by simp, by rw [HTK.out]; exact hS.one⟩, by simp [intOf]; omega⟩
    · obtain rfl : j = n := by omega
      have HE : Hid ((r1, r2, r3) = ((l.drop (i + 2)).take j, ((i : Int) + 2 + j), (0 : Int))) := Lib.hid (by rw [HRES.out, if_neg (by omega)])
      clear HRES
      obtain ⟨t, ht⟩ : ∃ t, (l.drop (i + 2)).take j = t := ⟨_, rfl⟩
      rw [ht] at HE hS
      clear ht
      go_wp2_with (first | refine au1 (n := ?_) | (refine au2 (n := ?_); clear hS; intro w' hS) | (refine au3 (n := ?_); clear hS; intro gb w1 hS) | (refine au4 (n := ?_); clear hS; intro v1 w' hS) | ((with_reducible refine wl_guard ?_); refine stop_mem rfl rfl ?_))
      go_ret3
      obtain ⟨rfl, rfl, rfl⟩ : r1 = t ∧ r2 = (i : Int) + 2 + j ∧ r3 = 0 := by simpa using HE.out
      exact ⟨rfl, hS.nil⟩
end
end Go.Proofs.Ytbfdnpahojoccaa
