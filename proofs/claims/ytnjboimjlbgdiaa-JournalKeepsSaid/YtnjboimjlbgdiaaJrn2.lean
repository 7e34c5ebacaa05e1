/-
  A journal: its cells; places, items, its head.
-/
import Derived.Test.YtnjboimjlbgdiaaJrn1
import Derived.Test.YtnjboimjlbgdiaaGen
import Derived.Test.YtnjboimjlbgdiaaStrEq
set_option linter.unusedSimpArgs false
set_option linter.unusedVariables false
set_option linter.unusedSectionVars false
set_option maxRecDepth 100000
namespace Go.Cmp
open Go.RowKit
def jcells (gd : Nat) (J : Jrn) : List Value := .pointer (some ⟨gd, 0, none⟩) :: .int .i64 (J.check : Int) :: J.items.flatMap It.cells
theorem It.cells_len (x : It) : x.cells.length = 15 := rfl
theorem jc_len {gd : Nat} {J : Jrn} (h : J.items.length = 8) : (jcells gd J).length = 122 := by
  unfold jcells
  rw [List.length_cons, List.length_cons, flat_len It.cells_len, h]
theorem jc_drop (gd : Nat) (J : Jrn) (n : Nat) : (jcells gd J).drop (2 + n) = (J.items.flatMap It.cells).drop n := by
  unfold jcells
  rw [show 2 + n = n + 1 + 1 from by omega, List.drop_succ_cons, List.drop_succ_cons]
theorem jc_take (gd : Nat) (J : Jrn) (n : Nat) : (jcells gd J).take (2 + n) = .pointer (some ⟨gd, 0, none⟩) :: .int .i64 (J.check : Int) :: (J.items.flatMap It.cells).take n := by
  unfold jcells
  rw [show 2 + n = n + 1 + 1 from by omega, List.take_succ_cons, List.take_succ_cons]
theorem jc_seg {gd : Nat} {J : Jrn} (h : J.items.length = 8) {s : Nat} (hs : s < 8) (c n : Nat) (hc : c + n ≤ 15) : ((jcells gd J).drop (2 + s * 15 + c)).take n = ((nth J.items s).cells.drop c).take n := by
  rw [Nat.add_assoc, jc_drop, ← List.drop_drop, flat_drop It.cells_len]
  have hget : J.items[s]? = some (nth J.items s) := get_lt (by omega)
  obtain ⟨hl, hg⟩ := List.getElem?_eq_some_iff.1 hget
  rw [List.drop_eq_getElem_cons hl, hg, List.flatMap_cons, List.drop_append_of_le_length (by rw [It.cells_len]; omega), List.take_append_of_le_length (by rw [List.length_drop, It.cells_len]; omega)]
theorem jc_get {gd : Nat} {J : Jrn} (h : J.items.length = 8) {s : Nat} (hs : s < 8) (c : Nat) (hc : c < 15) : (jcells gd J)[2 + s * 15 + c]? = (nth J.items s).cells[c]? := by
  have e := jc_seg (gd := gd) h hs c 1 (by omega)
  have := congrArg (fun l => l[0]?) e
  simpa [List.getElem?_take, List.getElem?_drop] using this
theorem jc_set {gd : Nat} {J : Jrn} (h : J.items.length = 8) {s : Nat} (hs : s < 8) (x : It) : (jcells gd J).take (2 + s * 15) ++ x.cells ++ (jcells gd J).drop (2 + s * 15 + x.cells.length) = jcells gd { J with items := J.items.set s x } := by
  rw [jc_take, It.cells_len, Nat.add_assoc, jc_drop]
  have := flat_set It.cells_len J.items s x (by omega)
  simp only [List.cons_append, List.append_assoc] at this ⊢
  rw [this]
  rfl
theorem a_arrK {P : Program} {o : Oper} {a : Act} {w : World} {t : TypeId} {x i : Operand} (ho : o.op = .indexAddr t x i) {g off : Nat} (hx : a.eval x = .pointer (some ⟨g, off, none⟩)) {j : Int} {ik : IntKind} (hi : a.eval i = .int ik j) {n k : Nat} {e : TypeId}
    (ht : P.underlying t = some (.array n e)) (hk : (P.info? e).map (·.size) = some k) (h0 : 0 ≤ j) (hj : j < n) : (execOp a.eval o).run P w = .ok (.value (.pointer (some ⟨g, off + j.toNat * k, none⟩))) w := by
  obtain ⟨ti, he, hk⟩ := Option.map_eq_some_iff.1 hk
  have hb : (0 ≤ j ∧ j < (n : Int)) := ⟨h0, hj⟩
  simp [execOp, ho, hx, hi, Instr.indexAt, Instr.sureAddr, asIntOf, run_underlying ht, sizeOf, typeInfo, he, hk, hb, add_lit]
theorem Jrn.item_at (J : Jrn) {n s : Nat} (h : n % 8 = s) : J.item (n : Int) = nth J.items s := by
  unfold Jrn.item
  congr 1
end Go.Cmp
namespace Go.Proofs.Ytnjboimjlbgdiaa
open Go.RowKit Go.Cmp

section
variable {S : List Nat} {w0 w : World} {M : List Ent} {g gj : Nat} {D : Dsk} {J : Jrn}
set_option maxHeartbeats 4000000 in
theorem jrnOp_any (hS : St S w0 w (.row gj (jcells g J) 68 (0, 0) :: M)) (hJ : J.check ≤ 72057594037927935) (s : Nat) (hs : s < 8) :
    Calls Try.prog 38 #[.pointer (some ⟨gj, 0, none⟩), .int .i64 s] w fun e w' => e = .returned (.int .i64 (J.opAt s : Nat)) ∧ St S w0 w' (.row gj (jcells g J) 68 (0, 0) :: M) := by
  have e1 : Int.tmod ((J.check : Int) + 1) 8 = ((J.check : Int) + 1) % 8 := Int.tmod_eq_emod_of_nonneg (by omega)
  have e2 : Int.tmod ((s : Int) + 8 - Int.tmod ((J.check : Int) + 1) 8) 8 = ((s : Int) + 8 - Int.tmod ((J.check : Int) + 1) 8) % 8 := Int.tmod_eq_emod_of_nonneg (by omega)
  obtain ⟨x, hx⟩ : ∃ x, Int.tmod ((J.check : Int) + 1) 8 = x := ⟨_, rfl⟩
  rw [hx] at e1 e2
  obtain ⟨y, hy⟩ : ∃ y, Int.tmod ((s : Int) + 8 - x) 8 = y := ⟨_, rfl⟩
  rw [hy] at e2
  have ho : ((J.opAt s : Nat) : Int) = (J.check : Int) + 1 + y := by unfold Jrn.opAt; omega
  rw [ho]
  have hxb : 0 ≤ x ∧ x < 8 := by omega
  have hyb : 0 ≤ y ∧ y < 8 := by omega
  have HX := Lib.hid hx
  have HY := Lib.hid hy
  clear e1 e2 ho hx hy
  (go_enter Try.func38, Try.ntmps38)
  go_wp2_with (fail)
  refine region_calm (by kernel_rfl) (by kernel_rfl) hS ?_
  have w1 : IntKind.i64.wrap ((J.check : Int) + 1) = (J.check : Int) + 1 := IntWalk.i64_in _ (by omega)
  have w2 : IntKind.i64.wrap ((s : Int) + 8) = (s : Int) + 8 := IntWalk.i64_in _ (by omega)
  have w3 : IntKind.i64.wrap ((s : Int) + 8 - x) = (s : Int) + 8 - x := IntWalk.i64_in _ (by omega)
  have w4 : IntKind.i64.wrap ((J.check : Int) + 1 + y) = (J.check : Int) + 1 + y := IntWalk.i64_in _ (by omega)
  iterate 3 (refine Calm.pure rfl (h := ?_); simp only [Act.put, List.setIfInBounds_toArray, List.set_cons_zero, List.set_cons_succ])
  (refine Calm.run rfl (fun W hW => by first | exact a_load1 hW rfl rfl rfl rfl (by (repeat (first | exact Ix.here | apply Ix.there))) (by rfl) | exact a_loadR hW rfl rfl rfl rfl (by (repeat (first | exact Ix.here | apply Ix.there))) (by rfl)) ?_; simp only [Act.put, List.setIfInBounds_toArray, List.set_cons_zero, List.set_cons_succ])
  iterate 6 (refine Calm.pure rfl (h := ?_); simp only [Act.put, List.setIfInBounds_toArray, List.set_cons_zero, List.set_cons_succ])
  (refine Calm.run rfl (fun W hW => by first | exact a_load1 hW rfl rfl rfl rfl (by (repeat (first | exact Ix.here | apply Ix.there))) (by rfl) | exact a_loadR hW rfl rfl rfl rfl (by (repeat (first | exact Ix.here | apply Ix.there))) (by rfl)) ?_; simp only [Act.put, List.setIfInBounds_toArray, List.set_cons_zero, List.set_cons_succ])
  (refine Calm.pure rfl (h := ?_); simp only [Act.put, List.setIfInBounds_toArray, List.set_cons_zero, List.set_cons_succ])
  try simp only [w1, w2]
  (refine Calm.pure rfl (h := ?_); simp only [Act.put, List.setIfInBounds_toArray, List.set_cons_zero, List.set_cons_succ])
  try simp only [HX.out]
  (refine Calm.pure rfl (h := ?_); simp only [Act.put, List.setIfInBounds_toArray, List.set_cons_zero, List.set_cons_succ])
  try simp only [w3]
  (refine Calm.pure rfl (h := ?_); simp only [Act.put, List.setIfInBounds_toArray, List.set_cons_zero, List.set_cons_succ])
  try simp only [HY.out]
  (refine Calm.pure rfl (h := ?_); simp only [Act.put, List.setIfInBounds_toArray, List.set_cons_zero, List.set_cons_succ])
  try simp only [w4]
  (refine Calm.pure rfl (h := ?_); simp only [Act.put, List.setIfInBounds_toArray, List.set_cons_zero, List.set_cons_succ])
  (refine Calm.nil ?_; clear hS; intro w8 hS)
  go_wp2_with (fail)
  go_ret
  exact ⟨rfl, hS⟩

set_option maxHeartbeats 4000000 in
theorem jrnIn_any (hS : St S w0 w (.row gj (jcells g J) 68 (0, 0) :: M)) (n : Int) (hn : n ≤ 9223372036854775807) :
    Calls Try.prog 28 #[.pointer (some ⟨gj, 0, none⟩), .int .i64 n] w fun e w' => e = .returned (.bool (J.has n)) ∧ w' = w := by
  by_cases h1 : (J.check : Int) < n
  · by_cases h2 : n - 8 ≤ (J.check : Int)
    · have e : J.has n = true := by unfold Jrn.has; simp [h1, h2]
      have hd : decide (n - 8 ≤ (J.check : Int)) = true := decide_eq_true h2
      rw [e]
      (go_enter Try.func28, Try.ntmps28)
      go_wp2_with (first | go_skip | ((with_reducible refine g_load ?_); refine wl_run rfl (by first | exact a_load1 hS rfl rfl rfl rfl (by (repeat (first | exact Ix.here | apply Ix.there))) (by rfl) | exact a_loadR hS rfl rfl rfl rfl (by (repeat (first | exact Ix.here | apply Ix.there))) (by rfl) | fail) ?_) | fail)
      go_ret
      exact ⟨rfl, rfl⟩
    · have e : J.has n = false := by unfold Jrn.has; simp [h1]; omega
      rw [e]
      (go_enter Try.func28, Try.ntmps28)
      go_wp2_with (first | go_skip | ((with_reducible refine g_load ?_); refine wl_run rfl (by first | exact a_load1 hS rfl rfl rfl rfl (by (repeat (first | exact Ix.here | apply Ix.there))) (by rfl) | exact a_loadR hS rfl rfl rfl rfl (by (repeat (first | exact Ix.here | apply Ix.there))) (by rfl) | fail) ?_) | fail)
      go_ret
      exact ⟨rfl, rfl⟩
  · have e : J.has n = false := by unfold Jrn.has; simp; omega
    rw [e]
    (go_enter Try.func28, Try.ntmps28)
    go_wp2_with (first | go_skip | ((with_reducible refine g_load ?_); refine wl_run rfl (by first | exact a_load1 hS rfl rfl rfl rfl (by (repeat (first | exact Ix.here | apply Ix.there))) (by rfl) | exact a_loadR hS rfl rfl rfl rfl (by (repeat (first | exact Ix.here | apply Ix.there))) (by rfl) | fail) ?_) | fail)
    go_ret
    exact ⟨rfl, rfl⟩
set_option maxHeartbeats 4000000 in
theorem jrnItemP_any (hS : St S w0 w (.row gj (jcells g J) 68 (0, 0) :: M)) (n s : Nat) (hn : n % 8 = s) :
    Calls Try.prog 29 #[.pointer (some ⟨gj, 0, none⟩), .int .i64 n] w fun e w' => e = .returned (.pointer (some ⟨gj, 2 + s * 15, none⟩)) ∧ w' = w := by
  have ht : Int.tmod (n : Int) 8 = (s : Int) := by rw [Int.tmod_eq_emod_of_nonneg (by omega)]; omega
  have hs : s < 8 := by omega
  have hs1 : (s : Int) < 8 := by omega
  subst hn
  (go_enter Try.func29, Try.ntmps29)
  go_wp2_with (fail)
  go_ret
  exact ⟨rfl, rfl⟩
theorem it_one (x : It) : ∀ u ∈ x.cells, u.oneCell' = true := by
  intro u hu
  simp only [It.cells, Stb.cells, En.cells, List.cons_append, List.nil_append, List.mem_cons, List.not_mem_nil, or_false] at hu
  rcases hu with rfl | rfl | rfl | rfl | rfl | rfl | rfl | rfl | rfl | rfl | rfl | rfl | rfl | rfl | rfl <;> rfl
theorem jc_item {gd : Nat} {J : Jrn} (h : J.items.length = 8) {s : Nat} (hs : s < 8) : ((jcells gd J).drop (2 + s * 15)).take 15 = (nth J.items s).cells := jc_seg h hs 0 15 (by omega)
set_option maxHeartbeats 4000000 in
theorem jrnItem_any (hS : St S w0 w (.row gj (jcells g J) 68 (0, 0) :: M)) (hJ : J.items.length = 8) (n : Int) (hn : n ≤ 9223372036854775807) :
    Calls Try.prog 15 #[.pointer (some ⟨gj, 0, none⟩), .int .i64 n] w fun e w' => e = .returned (.agg (J.item0 n).cells.toArray) ∧ St S w0 w' (.row gj (jcells g J) 68 (0, 0) :: M) := by
  have HI := Lib.hid (fun (W : World) (M : List Ent) (hS : St S w0 W (.row gj (jcells g J) 68 (0, 0) :: M)) => jrnIn_any hS n hn)
  cases hh : J.has n
  · have e : J.item0 n = zeroI := by unfold Jrn.item0; rw [hh]; simp
    rw [e]
    rw [hh] at HI
    clear e hh
    (go_enter Try.func15, Try.ntmps15)
    go_wp2_with (first | go_skip | ((with_reducible refine g_alloc ?_); refine wl_of rfl ?_; refine wp_alloc hS rfl rfl rfl rfl ?_; clear hS; intro ga w1 hS) | (go_at_call 28; refine (HI.out _ _ (hS.out (by first | ((repeat (first | exact Out.here | apply Out.there)); done) | fail))).mono ?_; rintro e w' ⟨rfl, rfl⟩) | ((with_reducible refine g_store ?_); refine wl_of rfl ?_; refine a_storeA (vs := zeroI.cells) (cs' := zeroI.cells) hS rfl rfl rfl (by rfl) (it_one _) (by (repeat (first | exact Sw.here | apply Sw.there))) (by exact Nat.le_refl 15) (by rfl) ?_; clear hS; intro w' hS) | fail)
    exact end_c1 hS rfl rfl rfl rfl rfl (h := ⟨rfl, hS.pick⟩)
  · have e : J.item0 n = J.item n := by unfold Jrn.item0; rw [hh]; simp
    rw [e]
    rw [hh] at HI
    obtain ⟨h0, hs, _⟩ := J.opAt_of hh
    obtain ⟨m, rfl⟩ := Int.eq_ofNat_of_zero_le (Int.le_of_lt h0)
    obtain ⟨s, hms⟩ : ∃ s, m % 8 = s := ⟨_, rfl⟩
    have hs : s < 8 := by omega
    have HP := Lib.hid (fun (W : World) (M : List Ent) (hS : St S w0 W (.row gj (jcells g J) 68 (0, 0) :: M)) => jrnItemP_any hS m s hms)
    have HC := Lib.hid (jc_item (gd := g) hJ hs)
    have hx := J.item_at hms
    rw [hx]
    generalize nth J.items s = x at HC
    clear e hh hJ hms h0 hx
    (go_enter Try.func15, Try.ntmps15)
    go_wp2_with (first | go_skip | ((with_reducible refine g_alloc ?_); refine wl_of rfl ?_; refine wp_alloc hS rfl rfl rfl rfl ?_; clear hS; intro ga w1 hS) | (go_at_call 28; refine (HI.out _ _ (hS.out (by first | ((repeat (first | exact Out.here | apply Out.there)); done) | fail))).mono ?_; rintro e w' ⟨rfl, rfl⟩) | (go_at_call 29; refine (HP.out _ _ (hS.out (by first | ((repeat (first | exact Out.here | apply Out.there)); done) | fail))).mono ?_; rintro e w' ⟨rfl, rfl⟩) | ((with_reducible refine g_load ?_); refine wl_run rfl (by exact a_loadA (vs := x.cells) hS rfl rfl rfl rfl (by (repeat (first | exact Ix.here | apply Ix.there))) 15 (by rfl) HC.out (by rfl)) ?_) | ((with_reducible refine g_store ?_); refine wl_of rfl ?_; refine a_storeA (vs := x.cells) (cs' := x.cells) hS rfl rfl rfl (by rfl) (it_one _) (by (repeat (first | exact Sw.here | apply Sw.there))) (by exact Nat.le_refl 15) (by rfl) ?_; clear hS; intro w' hS) | fail)
    exact end_c1 hS rfl rfl rfl rfl rfl (h := ⟨rfl, hS.pick⟩)
set_option maxHeartbeats 4000000 in
theorem jrnCheck_any (hS : St S w0 w (.row gj (jcells g J) 68 (0, 0) :: M)) : Calls Try.prog 13 #[.pointer (some ⟨gj, 0, none⟩)] w fun e w' => e = .returned (.int .i64 (J.check : Int)) ∧ w' = w := by
  (go_enter Try.func13, Try.ntmps13)
  go_wp2_with (first | go_skip | ((with_reducible refine g_load ?_); refine wl_run rfl (by first | exact a_load1 hS rfl rfl rfl rfl (by (repeat (first | exact Ix.here | apply Ix.there))) (by rfl) | exact a_loadR hS rfl rfl rfl rfl (by (repeat (first | exact Ix.here | apply Ix.there))) (by rfl) | fail) ?_) | fail)
  go_ret
  exact ⟨rfl, rfl⟩
end
end Go.Proofs.Ytnjboimjlbgdiaa
