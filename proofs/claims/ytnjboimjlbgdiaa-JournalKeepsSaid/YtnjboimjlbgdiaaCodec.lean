/-
  Numbers and texts behind bytes: what the program's num says, of bytes that are told by entries.
  Numbers and texts behind bytes: what the document's functions say, of bytes that are told by entries.
  What is taken from bytes in which it was laid.
  append(b, s...), b a slice of bytes of one's own, s a string. It holds for every program.
-/
import Derived.Test.YtnjboimjlbgdiaaNum
import Derived.Test.YtnjboimjlbgdiaaGen
import Derived.Lib.AppendStr
set_option linter.unusedSimpArgs false
set_option linter.unusedVariables false
set_option linter.unusedSectionVars false
set_option maxRecDepth 100000
namespace Go.Cmp
open Go.RowKit
/-- A text, its length ahead. -/
def txt (t : List UInt8) : List UInt8 := leB 2 t.length ++ t
theorem txt_length (t : List UInt8) : (txt t).length = t.length + 2 := by unfold txt; rw [List.length_append, leB_length]; omega
/-- A number from a place on. -/
def takeN (l : List UInt8) (i k : Nat) : Nat × Int := if l.length < i + k then (0, 3) else (leN ((l.drop i).take k), 0)
/-- A text from a place on, and the place behind it. -/
def takeT (l : List UInt8) (i : Nat) (most : Int) : List UInt8 × Int × Int :=
  if l.length < i + 2 then ([], 0, 3)
  else if most < leN ((l.drop i).take 2) then ([], 0, 5)
  else if l.length < i + 2 + leN ((l.drop i).take 2) then ([], 0, 3)
  else ((l.drop (i + 2)).take (leN ((l.drop i).take 2)), i + 2 + leN ((l.drop i).take 2), 0)
end Go.Cmp
namespace Go.Proofs.Ytnjboimjlbgdiaa
open Go.RowKit Go.Cmp
set_option maxRecDepth 100000

theorem Rd_seg {α : Type} {f : α → List Value} {w : World} {k : Nat} {v : Value} {L : List α} (h : Rd w k v L.length (L.flatMap f)) (hf : ∀ x, (f x).length = k) (a b : Nat) (h1 : a ≤ b) (h2 : b ≤ L.length) :
    Rd w k (cutSl v k a b) ((L.drop a).take (b - a)).length (((L.drop a).take (b - a)).flatMap f) := by
  have h3 := h.cut a b h1 h2
  rw [flat_take hf, flat_drop hf, List.drop_take] at h3
  have e : ((L.drop a).take (b - a)).length = b - a := by simp; omega
  rw [e]
  exact h3

section
variable {S : List Nat} {w0 w : World} {M : List Ent}

theorem num_put (hS : St S w0 w M) {v : Value} {l : List UInt8} (x : Int) (k : Nat) (hk1 : 1 ≤ k) (hk : k ≤ 8) (h0 : 0 ≤ x) (hx : x < 256 ^ k) (hl : l.length + 8 ≤ 140737488355328) (hR : Rd w 1 v l.length (l.flatMap byt)) :
    Calls Try.prog 71 #[v, .int .u64 x, .int .i64 k] w fun e w' => ∃ v', e = .returned (.tuple #[v', .int .i64 0]) ∧ St S w0 w' (.vec v' 5 1 (l ++ leB k x.toNat).length ((l ++ leB k x.toNat).flatMap byt) :: M) := by
  obtain ⟨n, rfl⟩ := Int.eq_ofNat_of_zero_le h0
  rw [← B_flat] at hR
  refine (put_in l v n k w hk1 hk (by rw [← Int.ofNat_lt, Int.natCast_pow]; exact hx) hl hR).mono ?_
  rintro e w' ⟨v', rfl, h⟩
  have h2 := hS.call h
  refine ⟨v', rfl, ?_⟩
  rw [Int.toNat_natCast, ← B_flat, List.length_append, leB_length]
  exact h2

theorem len_bytes (n : Nat) (h : n ≤ 65535) : leB 2 n = [UInt8.ofNat (n % 256), UInt8.ofNat (n / 256)] := by
  show [UInt8.ofNat (n % 256), UInt8.ofNat (n / 256 % 256)] = _
  rw [show n / 256 % 256 = n / 256 by omega]

set_option maxHeartbeats 1000000 in
theorem num_putText (hS : St S w0 w M) {v : Value} {l : List UInt8} (t : List UInt8) (ht : t.length ≤ 65535) (hl : l.length ≤ 100000000000000) (hR : Reads S w0 M 1 v l.length (l.flatMap byt)) :
    Calls Try.prog 70 #[v, .string ⟨t.toArray⟩] w fun e w' => ∃ v', e = .returned (.tuple #[v', .int .i64 0]) ∧ St S w0 w' (.vec v' 5 1 (l ++ txt t).length ((l ++ txt t).flatMap byt) :: M) := by
  have ht1 : (t.length : Int) ≤ 65535 := by omega
  have htm : t.length ≤ maxLen := by unfold maxLen; omega
  (go_enter Try.func70, Try.ntmps70)
  have hb : ∀ u ∈ [Value.int .u8 ((t.length : Int) % 256), Value.int .u8 ((t.length : Int) / 256)], u.cells = #[u] := by
    intro u hu
    simp only [List.mem_cons, List.not_mem_nil, or_false] at hu
    rcases hu with rfl | rfl <;> rfl
  have hb2 : [Value.int .u8 ((t.length : Int) % 256), Value.int .u8 ((t.length : Int) / 256)] = (leB 2 t.length).flatMap byt := by
    rw [len_bytes _ ht]
    simp [byt]
    omega
  have HB2 := Lib.hid hb2
  clear hb2
  have hS0 := hS
  clear hS
  have hS := hS0
  clear hS0
  go_wp2_with (first
    | ((with_reducible refine g_bs ?_); refine wl_of rfl ?_; refine wp_buildSlice1 (vs := [Value.int .u8 ((t.length : Int) % 256), Value.int .u8 ((t.length : Int) / 256)]) hS rfl rfl rfl rfl rfl rfl (by decide) ⟨rfl, hb⟩ ?_; clear hS; intro vb w1 hS; rw [HB2.out] at hS)
    | ((with_reducible refine g_conv ?_); refine wl_of rfl ?_; refine a_toBytes hS rfl rfl rfl rfl rfl htm ?_; clear hS; intro vt w1 hS)
    | ((with_reducible refine g_bs ?_); refine wl_of rfl ?_; refine wp_buildSlice1 (vs := [v, vb, vt]) hS rfl rfl rfl rfl rfl rfl (by decide) ⟨rfl, ?_⟩ ?_; rotate_left; clear hS; intro vs w1 hS)
    | (first | refine au1 (n := ?_) | (refine au2 (n := ?_); clear hS; intro w' hS) | (refine au3 (n := ?_); clear hS; intro gb w1 hS) | (refine au4 (n := ?_); clear hS; intro v1 w' hS) | ((with_reducible refine wl_guard ?_); refine stop_mem rfl rfl ?_)))
  case refine_1 =>
    intro u hu
    simp only [List.mem_cons, List.not_mem_nil, or_false] at hu
    rcases hu with rfl | rfl | rfl
    · exact (hR.at hS (by (repeat (first | exact List.Sublist.refl _ | apply List.Sublist.cons)))).cells
    · exact (hS.rdx (by (repeat (first | exact Ix.here | apply Ix.there)))).cells
    · exact (hS.rdx (by (repeat (first | exact Ix.here | apply Ix.there)))).cells
  refine (join_any [l, leB 2 t.length, t] [v, vb, vt] vs 3 _ rfl (by omega) (by omega) (hS.rdx (by (repeat (first | exact Ix.here | apply Ix.there)))) (parts3 (by rw [B_flat]; exact hR.at hS (by (repeat (first | exact List.Sublist.refl _ | apply List.Sublist.cons)))) (by rw [B_flat]; exact hS.rdx (by (repeat (first | exact Ix.here | apply Ix.there)))) (by rw [B_flat]; exact hS.rdx (by (repeat (first | exact Ix.here | apply Ix.there))))) (by simp [leB_length]; omega)).mono ?_
  rintro e w' ⟨v', rfl, h⟩
  have h2 := hS.call h
  go_wp2
  go_ret2
  refine ⟨v', rfl, ?_⟩
  have e9 : [l, leB 2 t.length, t].flatten = l ++ txt t := by simp [txt]
  rw [e9, B_flat] at h2
  exact h2.pick

theorem num_take (hS : St S w0 w M) {v : Value} {l : List UInt8} (i k : Nat) (hk1 : 1 ≤ k) (hk : k ≤ 8) (hl : l.length ≤ 140737488355328) (hR : Rd w 1 v l.length (l.flatMap byt)) :
    Calls Try.prog 59 #[v, .int .i64 i, .int .i64 k] w fun e w' => e = .returned (.tuple #[.int .u64 ((takeN l i k).1 : Nat), .int .i64 (takeN l i k).2]) ∧ St S w0 w' M := by
  rw [← B_flat] at hR
  unfold takeN
  split
  · refine (take_short l v i k w hk1 hk (by assumption) hR).mono ?_
    rintro e w' ⟨rfl, h⟩
    exact ⟨rfl, hS.call h⟩
  · refine (take_in l v i k w hk1 hk (by omega) hl hR).mono ?_
    rintro e w' ⟨rfl, h⟩
    exact ⟨rfl, hS.call h⟩

set_option maxRecDepth 100000 in
set_option maxHeartbeats 1000000 in
theorem num_takeText (hS : St S w0 w M) {v : Value} {l : List UInt8} (i : Nat) (most : Int) (hl : l.length ≤ 140737488355328) (hi : i ≤ 140737488355328) (hR : Reads S w0 M 1 v l.length (l.flatMap byt)) :
    Calls Try.prog 67 #[v, .int .i64 i, .int .i64 most] w fun e w' => e = .returned (.tuple #[.string ⟨(takeT l i most).1.toArray⟩, .int .i64 (takeT l i most).2.1, .int .i64 (takeT l i most).2.2]) ∧ St S w0 w' M := by
  have HT := Lib.hid (fun (w : World) (hS : St S w0 w M) => num_take hS i 2 (by omega) (by omega) hl (hR w hS))
  by_cases h1 : l.length < i + 2
  · have e1 : takeN l i 2 = (0, 3) := by unfold takeN; rw [if_pos h1]
    have e2 : takeT l i most = ([], 0, 3) := by unfold takeT; rw [if_pos h1]
    rw [e1] at HT
    rw [e2]
    clear e1 e2
    (go_enter Try.func67, Try.ntmps67)
    go_wp2_with (first | (go_at_call 59; refine (HT.out _ hS).mono ?_; clear hS; rintro e w' ⟨rfl, hS⟩) | (first | refine au1 (n := ?_) | (refine au2 (n := ?_); clear hS; intro w' hS) | (refine au3 (n := ?_); clear hS; intro gb w1 hS) | (refine au4 (n := ?_); clear hS; intro v1 w' hS) | ((with_reducible refine wl_guard ?_); refine stop_mem rfl rfl ?_)))
    go_ret3
    exact ⟨rfl, hS⟩
  have e1 : takeN l i 2 = (leN ((l.drop i).take 2), 0) := by unfold takeN; rw [if_neg h1]
  rw [e1] at HT
  obtain ⟨n, hn⟩ : ∃ n, leN ((l.drop i).take 2) = n := ⟨_, rfl⟩
  have hn2 : n < 65536 := by
    have := leN_lt ((l.drop i).take 2)
    have h3 : ((l.drop i).take 2).length = 2 := by simp; omega
    rw [h3, hn] at this
    omega
  have eT : takeT l i most = if most < (n : Int) then ([], 0, 5) else if l.length < i + 2 + n then ([], 0, 3) else ((l.drop (i + 2)).take n, (i : Int) + 2 + n, 0) := by unfold takeT; rw [if_neg h1, hn]
  rw [hn] at HT
  rw [eT]
  clear eT e1 hn
  have hn3 : (n : Int) < 65536 := by omega
  by_cases h2 : most < (n : Int)
  · rw [if_pos h2]
    (go_enter Try.func67, Try.ntmps67)
    go_wp2_with (first | (go_at_call 59; refine (HT.out _ hS).mono ?_; clear hS; rintro e w' ⟨rfl, hS⟩) | ((with_reducible refine g_len ?_); refine wl_run rfl (a_len rfl rfl rfl (hR _ hS)) ?_) | (first | refine au1 (n := ?_) | (refine au2 (n := ?_); clear hS; intro w' hS) | (refine au3 (n := ?_); clear hS; intro gb w1 hS) | (refine au4 (n := ?_); clear hS; intro v1 w' hS) | ((with_reducible refine wl_guard ?_); refine stop_mem rfl rfl ?_)))
    go_ret3
    exact ⟨rfl, hS⟩
  rw [if_neg h2]
  by_cases h3 : l.length < i + 2 + n
  · rw [if_pos h3]
    have h4 : decide ((l.length : Int) - i - 2 < n) = true := decide_eq_true (by omega)
    have h5 : decide (most < (n : Int)) = false := decide_eq_false h2
    have s1 : IntKind.i64.wrap ((l.length : Int) - i) = l.length - i := IntWalk.i64_in _ (by omega)
    have s2 : IntKind.i64.wrap ((l.length : Int) - i - 2) = l.length - i - 2 := IntWalk.i64_in _ (by omega)
    clear h1 h2 h3
    (go_enter Try.func67, Try.ntmps67)
    go_wp2_with (first | (go_at_call 59; refine (HT.out _ hS).mono ?_; clear hS; rintro e w' ⟨rfl, hS⟩) | ((with_reducible refine g_len ?_); refine wl_run rfl (a_len rfl rfl rfl (hR _ hS)) ?_) | (first | refine au1 (n := ?_) | (refine au2 (n := ?_); clear hS; intro w' hS) | (refine au3 (n := ?_); clear hS; intro gb w1 hS) | (refine au4 (n := ?_); clear hS; intro v1 w' hS) | ((with_reducible refine wl_guard ?_); refine stop_mem rfl rfl ?_)))
    go_ret3
    exact ⟨rfl, hS⟩
  · rw [if_neg h3]
    have h4 : decide ((l.length : Int) - i - 2 < n) = false := decide_eq_false (by omega)
    have h5 : decide (most < (n : Int)) = false := decide_eq_false h2
    have s1 : IntKind.i64.wrap ((l.length : Int) - i) = l.length - i := IntWalk.i64_in _ (by omega)
    have s2 : IntKind.i64.wrap ((l.length : Int) - i - 2) = l.length - i - 2 := IntWalk.i64_in _ (by omega)
    have c1 : (0 : Int) ≤ (i : Int) + 2 := by omega
    have c2 : (i : Int) + 2 ≤ (i : Int) + 2 + n := by omega
    have c3 : (i : Int) + 2 + n ≤ (l.length : Int) := by omega
    have HC : Hid (∀ W, St S w0 W M → Rd W 1 (cutSl v 1 (i + 2) (i + 2 + n)) ((l.drop (i + 2)).take n).length (((l.drop (i + 2)).take n).flatMap byt)) := Lib.hid (fun W hW => by
      have := Rd_seg (hR W hW) (fun _ => rfl) (i + 2) (i + 2 + n) (by omega) (by omega)
      rw [show i + 2 + n - (i + 2) = n by omega] at this
      exact this)
    clear h1 h2 h3
    (go_enter Try.func67, Try.ntmps67)
    go_wp2_with (first | (go_at_call 59; refine (HT.out _ hS).mono ?_; clear hS; rintro e w' ⟨rfl, hS⟩) | ((with_reducible refine g_len ?_); refine wl_run rfl (a_len rfl rfl rfl (hR _ hS)) ?_) | ((with_reducible refine g_cut ?_); refine wl_run rfl (x_cut rfl (hR _ hS) rfl rfl rfl rfl rfl rfl c1 c2 c3) ?_) | ((with_reducible refine g_conv ?_); refine wl_run rfl (a_toString2 rfl rfl rfl rfl rfl (HC.out _ hS)) ?_) | (first | refine au1 (n := ?_) | (refine au2 (n := ?_); clear hS; intro w' hS) | (refine au3 (n := ?_); clear hS; intro gb w1 hS) | (refine au4 (n := ?_); clear hS; intro v1 w' hS) | ((with_reducible refine wl_guard ?_); refine stop_mem rfl rfl ?_)))
    go_ret3
    exact ⟨rfl, hS⟩
end
end Go.Proofs.Ytnjboimjlbgdiaa
namespace Go.Proofs.Ytnjboimjlbgdiaa
open Go.RowKit Go.Cmp
set_option maxRecDepth 100000

section
variable {S : List Nat} {w0 w : World} {M : List Ent}

end
end Go.Proofs.Ytnjboimjlbgdiaa
namespace Go.Cmp
open Go.RowKit
set_option maxRecDepth 100000
theorem takeN_at (pre post : List UInt8) (k n : Nat) (h : n < 256 ^ k) : takeN (pre ++ leB k n ++ post) pre.length k = (n, 0) := by
  unfold takeN
  rw [if_neg (by simp only [List.length_append, leB_length]; omega), List.append_assoc, List.drop_left, List.take_left' (leB_length k n), leN_leB, Nat.mod_eq_of_lt h]
theorem takeT_at (pre post t : List UInt8) (most : Int) (h : (t.length : Int) ≤ most) (h2 : t.length < 65536) : takeT (pre ++ txt t ++ post) pre.length most = (t, (pre.length : Int) + 2 + t.length, 0) := by
  have e : leN (((pre ++ txt t ++ post).drop pre.length).take 2) = t.length := by
    unfold txt
    rw [List.append_assoc, List.drop_left, List.append_assoc, List.take_left' (leB_length 2 _), leN_leB, Nat.mod_eq_of_lt (by omega)]
  have e2 : (pre ++ txt t ++ post).drop (pre.length + 2) = t ++ post := by
    unfold txt
    rw [← List.drop_drop, List.append_assoc, List.drop_left, List.append_assoc, List.drop_left' (leB_length 2 _)]
  unfold takeT
  rw [e, e2, if_neg (by simp only [List.length_append, txt_length]; omega), if_neg (by omega), if_neg (by simp only [List.length_append, txt_length]; omega), List.take_left]

/-- The end of a call whose first result is a cell of several words, and two more. -/
theorem end_cell3 {P : Program} {a : Act} {S : List Nat} {w0 w : World} {M : List Ent} (hS : St S w0 w M) {fn : Func} {R : Ending → World → Prop} {p q r : Tmp} {ty : TypeId} (hr : fn.results = #[.cell p ty, .tmp q, .tmp r]) {g : Nat} (hp : a.tmps.getD p undef = .pointer (some ⟨g, 0, none⟩)) {i : Nat} {cs : List Value} {e : TypeId} {fr : Nat × Nat} {d : TypeDesc} {u v : Value} (hq : a.tmps.getD q undef = u) (hv : a.tmps.getD r undef = v) (hu : P.underlying ty = some d) (hd : (match d with | .struct _ | .array _ _ => true | _ => false) = true)
    (hdf : a.defers = []) (hM : Ix M i (.row g cs e fr) := by (repeat (first | exact Ix.here | apply Ix.there))) (hi : (P.info? ty).map (·.size) = some cs.length := by rfl) (h : R (.returned (.tuple #[.agg cs.toArray, u, v])) w) : bodyPost P fn R .ret a w := by
  refine bodyPost_ret (v := .tuple #[.agg cs.toArray, u, v]) ?_ hdf h
  have hp' : a.tmps[p]?.getD undef = .pointer (some ⟨g, 0, none⟩) := by simpa using hp
  have hq' : a.tmps[q]?.getD undef = u := by simpa using hq
  have hv' : a.tmps[r]?.getD undef = v := by simpa using hv
  have hl := run_loadVar_row (P := P) w g e ty cs.toArray fr d (hS.row hM.get) hu hd (by simpa using hi)
  simp [results, hr, hp', hq', hv', asAddr, hl]
end Go.Cmp
namespace Go.Cmp
open Go.RowKit

section
variable {P : Program} {ops : Array Oper} {rest : List Oper} {o : Oper} {a : Act} {K : Act → World → Prop} {Q : Exit → Act → World → Prop} {w w0 : World} {S : List Nat} {M M' : List Ent}

theorem strCells_list (l : List UInt8) : Lib.strCells ⟨l.toArray⟩ = l.flatMap byt := by
  rw [← B_flat]
  simp [Lib.strCells, B]

theorem run_append_str {t s e : TypeId} (ty : TypeId) (ht : P.underlying t = some (.slice e)) (hu : P.underlying s = some .string) {i : TypeInfo} (hi : P.info? e = some i) (hz : i.zero = some (.int .u8 0)) (hs1 : i.size = 1) (hby : i.bytes = 1)
    {v : Value} {n : Nat} {xs : List Value} (hv : VecAt w v e 1 n xs) (l : List UInt8) (hb : n + l.length ≤ 140737488355328) :
    ∃ v' w', (Builtin.append_ #[t, s] ty #[v, .string ⟨l.toArray⟩]).run P w = .ok v' w' ∧ VecAt w' v' e 1 (n + l.length) (xs ++ l.flatMap byt) ∧ Mod v.ownBlock.toList w w' ∧ (∀ g ∈ v'.ownBlock.toList, g ∈ v.ownBlock.toList ∨ w.heap.size ≤ g) := by
  have hsz : (⟨l.toArray⟩ : ByteArray).size = l.length := by simp [ByteArray.size]
  have hml : 140737488355328 ≤ maxLen := by unfold maxLen; omega
  have hcl : (l.flatMap byt).length = l.length := by rw [flat_len (k := 1) (fun _ => rfl), Nat.mul_one]
  have hzc : (Value.int IntKind.u8 0).cells.size = 1 := rfl
  have hlen : (xs ++ l.flatMap byt).length = (n + l.length) * 1 := by rw [List.length_append, hv.1, hcl]; omega
  rcases hv.2 with ⟨rfl, rfl⟩ | ⟨g, cap, rest', fr, rfl, hh, e2, e3, e4, e5⟩
  · have hx : xs = [] := List.eq_nil_of_length_eq_zero (by simpa using hv.1)
    subst hx
    by_cases h0 : l = []
    · subst h0
      refine ⟨.slice none 0 0, w, ?_, by simpa using hv, Mod.refl _ _, fun g hg => .inl hg⟩
      simp [Builtin.append_, run_underlying ht, run_underlying hu, sizeOf, typeInfo, hi, Builtin.lenOf, Builtin.firstCells, ByteArray.size]
    · have hpos := List.length_pos_iff.2 h0
      have hr := run_append_nil_string (P := P) w t s ty e i _ ht hu hi hz ⟨l.toArray⟩ (by rw [hsz]; exact hpos) (by rw [hsz]; omega) (by rw [hsz, hby]; omega)
      rw [hsz] at hr
      refine ⟨_, _, hr, ?_, (Mod.refl _ _).drew.trans (mod_alloc w.drew _).nil, ?_⟩
      · simp only [Nat.zero_add, List.nil_append] at hlen ⊢
        have := VecAt.grown (w := w.drew) (e := e) (Value.int IntKind.u8 0).cells hzc (grownCap w l.length 0 e) (n := l.length) (xs := l.flatMap byt) hlen (grownCap_ge _ _ _ _) (grownCap_le_maxLen _ _ _ _ (by omega))
        have e9 : (ByteArray.data ⟨l.toArray⟩).map (fun b : UInt8 => Value.int IntKind.u8 (b.toNat : Int)) = (l.flatMap byt).toArray := by
          rw [← B_flat]; simp [B]
        rw [e9]
        exact this
      · intro y hy; simp [Value.ownBlock] at hy; exact .inr (by omega)
  · by_cases hroom : n + l.length ≤ cap
    · have hv1 := hv.1
      have hfit : n * 1 + (l.flatMap byt).length ≤ (xs ++ rest').length := by omega
      obtain ⟨w', r1, r2, r3⟩ := run_storeCells_nf (P := P) g (n * 1) e fr (l.flatMap byt) 0 (xs ++ rest') w hh (by simpa using hfit) (by intro j hj; exact e5 _ (by omega)) (by rw [← B_flat]; exact B_one l)
      have hcat : (xs ++ rest').take (n * 1 + 0) ++ l.flatMap byt ++ (xs ++ rest').drop (n * 1 + 0 + (l.flatMap byt).length) = (xs ++ l.flatMap byt) ++ rest'.drop (l.flatMap byt).length := by
        simp only [Nat.add_zero]
        rw [← hv.1, List.take_left, Nat.add_comm, List.drop_append, List.drop_eq_nil_of_le (by omega)]
        simp
      rw [hcat] at r2
      have hf := Lib.run_firstCells_string (P := P) w 1 ⟨l.toArray⟩
      rw [hsz, strCells_list] at hf
      refine ⟨.slice (some ⟨g, 0, none⟩) (n + l.length) cap, w', ?_, ⟨hlen, .inr ⟨g, cap, _, fr, rfl, r2, hroom, e3, ?_, e5⟩⟩, by simpa [Value.ownBlock] using r3, fun y hy => .inl hy⟩
      · simp only [Nat.mul_one, Nat.add_zero] at r1
        simp [Builtin.append_, run_underlying ht, run_underlying hu, sizeOf, typeInfo, hi, hs1, Builtin.lenOf, hsz, hroom, hf, add_lit, r1]
      · simp only [List.length_append, List.length_drop] at e4 hfit ⊢; omega
    · have holds : ∀ (j : Nat) u, xs[j]? = some u → w.cell? ((⟨g, 0, none⟩ : Addr).add j) = some u := fun j u hu => by
        rw [add_lit, Nat.zero_add, row_cell hh, List.getElem?_append_left (List.getElem?_eq_some_iff.1 hu).1]; exact hu
      have hr := Lib.run_append_grow_string (P := P) w t s ty e i _ ht hu hi hz ⟨g, 0, none⟩ n cap xs (by rw [hs1]; exact hv.1) holds ⟨l.toArray⟩ (by rw [hsz]; omega) (by rw [hsz]; omega) (by rw [hsz]; exact growslice_fits (by omega) (by rw [hby]; omega))
      rw [hsz, strCells_list] at hr
      refine ⟨_, _, hr, ?_, (Mod.refl _ _).drew.trans (mod_alloc w.drew _).nil, ?_⟩
      · have := VecAt.grown (w := w.drew) (e := e) (Value.int IntKind.u8 0).cells hzc (grownCap w (n + l.length) cap e) hlen (grownCap_ge _ _ _ _) (grownCap_le_maxLen _ _ _ _ (by omega))
        rw [← List.append_toArray] at this
        exact this
      · intro y hy; simp [Value.ownBlock] at hy; exact .inr (by omega)

/-- The step. -/
theorem k_appS (hS : St S w0 w M) {s x : Operand} {t u : TypeId} {v : Value} {e : TypeId} {L l : List UInt8} (ho : o.op = .call { callee := .builtin .append, args := #[s, x], argTypes := #[t, u] })
    (hs : a.eval s = v) (hx : a.eval x = .string ⟨l.toArray⟩) (ht : P.underlying t = some (.slice e)) (hu : P.underlying u = some .string) (hout : Out M (.vec v e 1 L.length (L.flatMap byt)) M' := by (repeat (first | exact Out.here | apply Out.there)))
    (hi : (P.info? e).map (fun i => (i.zero, i.size, i.bytes)) = some (some (.int .u8 0), 1, 1) := by rfl) (hbl : L.length + l.length ≤ 137438953472 := by omega)
    (h : ∀ v' w', St S w0 w' (.vec v' e 1 (L ++ l).length ((L ++ l).flatMap byt) :: M') → K (a.put o.dst v') w') : o.wp P a w K Q := by
  obtain ⟨ti, hti, hk⟩ := Option.map_eq_some_iff.1 hi
  simp only [Prod.mk.injEq] at hk
  have hS2 := hS.out hout
  obtain ⟨v', w', r1, r2, r3, r4⟩ := run_append_str (P := P) o.type ht hu hti hk.1 hk.2.1 hk.2.2 (hS2.vec (i := 0) rfl) l (by omega)
  refine wp_run ?_ (h v' w' ?_)
  · simp [execOp, ho, resolve, invoke, builtin, hs, hx, r1]
  · have := hS2.chgVec 0 rfl r3 r2 r4
    rw [List.length_append, List.flatMap_append]
    exact this
end
end Go.Cmp
