/-
  The disk's starts.
-/
import Derived.Test.YtkcgacadkpbpoaaDisk4
set_option linter.unusedSimpArgs false
set_option linter.unusedVariables false
set_option linter.unusedSectionVars false
set_option maxRecDepth 100000
namespace Go.Proofs.Ytkcgacadkpbpoaa
open Go.RowKit Go.Cmp

section
variable {S : List Nat} {w0 w : World} {M : List Ent} {g : Nat} {D : Dsk}

theorem settle_same (D : Dsk) (x : Wr) (pick : Int) : (D.settle x pick).way = D.way ∧ (D.settle x pick).lasts.length = D.lasts.length ∧ (D.settle x pick).mark.length = D.mark.length ∧ (D.settle x pick).off = D.off ∧ (D.settle x pick).fuse = D.fuse ∧ (D.settle x pick).steps = D.steps := by
  unfold Dsk.settle; split <;> simp
theorem set_mem {α : Type} {L : List α} {i : Nat} {x y : α} (h : y ∈ L.set i x) : y ∈ L ∨ y = x := List.mem_or_eq_of_mem_set h
theorem settle_ok {D : Dsk} (hD : D.Ok) {x : Wr} (h3 : x.text.length = 384) (h1 : 0 ≤ x.sector) (h2 : x.sector < D.lasts.length) (pick : Int) : (D.settle x pick).Ok := by
  obtain ⟨e1, e2, e3, e4, e5, e6⟩ := settle_same D x pick
  refine ⟨by rw [e2, e3]; exact hD.len, by rw [e2]; exact hD.few, ?_, by rw [e1, e2]; exact hD.way, by rw [e1]; exact hD.ways, by rw [e5]; exact hD.fuse0, by rw [e5]; exact hD.fuse1, by rw [e6]; exact hD.steps0, by rw [e6]; exact hD.steps1⟩
  intro s hs
  unfold Dsk.settle at hs
  split at hs
  · exact hD.size s hs
  · rcases set_mem hs with h | h
    · exact hD.size s h
    · have hy := hD.size _ (nth_mem (L := D.lasts) (j := x.sector.toNat) (by omega))
      have := kept_le pick
      rw [h]
      simp [h3, hy]
      omega
def sets (D : Dsk) (picks : List Int) (j : Nat) : Dsk := D.settles picks 0 (D.way.take j)
theorem settles_snoc (picks : List Int) : ∀ (l : List Wr) (D : Dsk) (k : Nat) (x : Wr), D.settles picks k (l ++ [x]) = (D.settles picks k l).settle x (Dsk.pickAt picks (k + l.length))
  | [], D, k, x => rfl
  | y :: l, D, k, x => by
    rw [List.cons_append, Dsk.settles, settles_snoc, Dsk.settles, List.length_cons, show k + 1 + l.length = k + (l.length + 1) by omega]
theorem sets_succ {D : Dsk} {picks : List Int} {j : Nat} (h : j < D.way.length) : sets D picks (j + 1) = (sets D picks j).settle (nth D.way j) (Dsk.pickAt picks j) := by
  unfold sets
  have : nth D.way j = D.way[j] := nth_eq (List.getElem?_eq_getElem h)
  rw [List.take_succ_eq_append_getElem h, settles_snoc, this, List.length_take, Nat.zero_add, Nat.min_eq_left (by omega)]
theorem sets_ok {D : Dsk} (hD : D.Ok) (picks : List Int) : ∀ j, j ≤ D.way.length → (sets D picks j).Ok ∧ (sets D picks j).way = D.way ∧ (sets D picks j).lasts.length = D.lasts.length ∧ (sets D picks j).off = D.off ∧ (sets D picks j).fuse = D.fuse ∧ (sets D picks j).steps = D.steps
  | 0, _ => ⟨hD, rfl, rfl, rfl, rfl, rfl⟩
  | j + 1, h => by
    obtain ⟨h1, h2, h3, h4, h5, h6⟩ := sets_ok hD picks j (by omega)
    obtain ⟨k1, k2, k3⟩ := hD.way _ (nth_mem (L := D.way) (j := j) (by omega))
    rw [sets_succ (by omega)]
    obtain ⟨e1, e2, e3, e4, e5, e6⟩ := settle_same (sets D picks j) (nth D.way j) (Dsk.pickAt picks j)
    exact ⟨settle_ok h1 k3 k1 (by rw [h3]; exact k2) _, by rw [e1, h2], by rw [e2, h3], by rw [e4, h4], by rw [e5, h5], by rw [e6, h6]⟩

set_option maxHeartbeats 1000000 in
theorem disk_start (hS : St S w0 w (disk g D :: M)) (hD : D.Ok) (vp : Value) (picks : List Int) (hP : Reads S w0 M 1 vp picks.length (picks.flatMap num)) (hpk : ∀ p ∈ picks, p ≤ 9223372036854775807) :
    Calls Try.prog 33 #[.pointer (some ⟨g, 0, none⟩), vp] w fun e w' => e = .returned (.int .i64 (D.start picks).1) ∧ St S w0 w' (disk g (D.start picks).2 :: M) := by
  have h0 := hS
  have HD := Lib.hid hD
  have HPK := Lib.hid hpk
  have hwl := hD.ways
  clear hD hpk
  by_cases hoff : D.off = false
  · (have hU := St.unpack hS; clear hS; obtain ⟨⟨vl, vm, vw⟩, _, hS⟩ := hU; simp only [List.cons_append, List.nil_append] at hS)
    (go_enter Try.func33, Try.ntmps33)
    go_wp2_with (first | refine au1 (n := ?_) | (refine au2 (n := ?_); clear hS; intro w' hS) | (refine au3 (n := ?_); clear hS; intro gb w1 hS) | (refine au4 (n := ?_); clear hS; intro v1 w' hS) | ((with_reducible refine wl_guard ?_); refine stop_mem rfl rfl ?_))
    go_ret
    exact ⟨by simp_all [Dsk.start], St.cast h0 (by simp_all [Dsk.start])⟩
  · have hoff : D.off = true := by simpa using hoff
    have e : D.start picks = (0, { sets D picks D.way.length with way := [], off := false }) := by simp [Dsk.start, sets, hoff]
    have E := Lib.hid e
    clear e
    (have hU := St.unpack hS; clear hS; obtain ⟨⟨vl, vm, vw⟩, _, hS⟩ := hU; simp only [List.cons_append, List.nil_append] at hS)
    rw [hoff] at hS
    clear h0
    (go_enter Try.func33, Try.ntmps33)
    go_wp2_with (first | refine au1 (n := ?_) | (refine au2 (n := ?_); clear hS; intro w' hS) | (refine au3 (n := ?_); clear hS; intro gb w1 hS) | (refine au4 (n := ?_); clear hS; intro v1 w' hS) | ((with_reducible refine wl_guard ?_); refine stop_mem rfl rfl ?_))
    rw [← hoff] at hS
    have HO := Lib.hid hoff
    clear hoff
    go_loopw [22] (fun i wr => ∃ j : Nat, j ≤ D.way.length ∧ i = .int .i64 j ∧ St S w0 wr (dparts g vl vm vw (sets D picks j) ++ M)) (fun i _ => D.way.length - (intOf i).toNat)
    case atStart => exact ⟨0, Nat.zero_le _, rfl, hS⟩
    case round =>
      clear hS
      obtain ⟨j, hj, rfl, hS⟩ := hrel
      obtain ⟨f1, f2, f3, f4, f5, f6⟩ := sets_ok HD.out picks j hj
      by_cases hlt : j < D.way.length
      · obtain ⟨k1, k2, k3⟩ := HD.out.way _ (nth_mem hlt)
        have hsu := Lib.hid (sets_succ (picks := picks) hlt)
        obtain ⟨F, hF⟩ : ∃ F, sets D picks j = F := ⟨_, rfl⟩
        rw [hF] at hS f1 f2 f3 f4 f5 f6 hsu
        have hxx : D.way[j]? = some (nth D.way j) := get_lt hlt
        obtain ⟨x, hx⟩ : ∃ x, nth D.way j = x := ⟨_, rfl⟩
        rw [hx] at k1 k2 k3 hsu hxx
        rw [← f2] at hxx
        rw [← f3] at k2
        have hlt2 : j < F.way.length := by rw [f2]; exact hlt
        have Hxx := Lib.hid hxx
        have F1 := Lib.hid f1
        have F2 := Lib.hid f2
        have K3 := Lib.hid k3
        clear hxx f1 f2 f3 f4 f5 f6 hF hx k3
        simp only [dparts, List.cons_append, List.nil_append] at hS
        by_cases hp : picks.length = 0
        · have Hpk : Hid (Dsk.pickAt picks j = 0) := Lib.hid (by unfold Dsk.pickAt; rw [if_pos hp])
          have hp0 : ((picks.length : Int)) = 0 := by omega
          go_wp2_with (first | ((with_reducible refine g_load ?_); have hy9 := Hxx.out; refine k_readx hy9 rfl (h := ?_); clear hy9) | (first | refine au1 (n := ?_) | (refine au2 (n := ?_); clear hS; intro w' hS) | (refine au3 (n := ?_); clear hS; intro gb w1 hS) | (refine au4 (n := ?_); clear hS; intro v1 w' hS) | ((with_reducible refine wl_guard ?_); refine stop_mem rfl rfl ?_)))
          refine (disk_settle (hS.sel (N := dparts g vl vm vw F ++ M) (by (repeat (first | exact Sel.refl | exact Sel.nil | refine Sel.cons (by (repeat (first | exact Out.here | apply Out.there))) ?_ | refine Sel.drop ?_)))) F1.out x k1 k2 K3.out 0 (by omega)).mono ?_
          rintro e w' ⟨rfl, hS⟩
          go_wp2
          go_round
          case rel => exact ⟨j + 1, by omega, by go_num, by rw [hsu.out, Hpk.out]; exact hS⟩
          case measure => simp [intOf]; omega
        · have hml : j % picks.length < picks.length := Nat.mod_lt _ (by omega)
          have hmod : (j : Int) % (picks.length : Int) = ((j % picks.length : Nat) : Int) := by push_cast; rfl
          obtain ⟨m, hm⟩ : ∃ m, j % picks.length = m := ⟨_, rfl⟩
          have Hpk : Hid (Dsk.pickAt picks j = nth picks m) := Lib.hid (by unfold Dsk.pickAt; rw [if_neg hp, hm])
          rw [hm] at hml hmod
          clear hm
          have hp0 : (0 : Int) < ((picks.length : Int)) := by omega
          have hb := HPK.out _ (nth_mem hml)
          have hpb : ¬ picks = [] := fun h => hp (by rw [h]; rfl)
          clear hp
          have hpl := Reads.len hP hS
          go_wp2_with (first | ((with_reducible refine g_load ?_); have hy9 := Hxx.out; refine k_readx hy9 rfl (h := ?_); clear hy9) | (first | refine au1 (n := ?_) | (refine au2 (n := ?_); clear hS; intro w' hS) | (refine au3 (n := ?_); clear hS; intro gb w1 hS) | (refine au4 (n := ?_); clear hS; intro v1 w' hS) | ((with_reducible refine wl_guard ?_); refine stop_mem rfl rfl ?_)))
          refine (disk_settle (hS.sel (N := dparts g vl vm vw F ++ M) (by (repeat (first | exact Sel.refl | exact Sel.nil | refine Sel.cons (by (repeat (first | exact Out.here | apply Out.there))) ?_ | refine Sel.drop ?_)))) F1.out x k1 k2 K3.out (nth picks m) hb).mono ?_
          rintro e w' ⟨rfl, hS⟩
          go_wp2
          go_round
          case rel => exact ⟨j + 1, by omega, by go_num, by rw [hsu.out, Hpk.out]; exact hS⟩
          case measure => simp [intOf]; omega
      · obtain rfl : j = D.way.length := by omega
        simp only [dparts, List.cons_append, List.nil_append] at hS
        go_wp2_with (first | refine au1 (n := ?_) | (refine au2 (n := ?_); clear hS; intro w' hS) | (refine au3 (n := ?_); clear hS; intro gb w1 hS) | (refine au4 (n := ?_); clear hS; intro v1 w' hS) | ((with_reducible refine wl_guard ?_); refine stop_mem rfl rfl ?_))
        go_ret
        rw [E.out]
        have hS := hS.addNil 91 2
        refine ⟨rfl, ?_⟩
        exact St.packs (vl, vm, .slice none 0 0) hS
end
end Go.Proofs.Ytkcgacadkpbpoaa
