/-
  The function values that event's put and take are handed.
-/
import Derived.Test.YtggngdjncokanaaTakes
import Derived.Test.YtggngdjncokanaaHeld
set_option linter.unusedSimpArgs false
set_option linter.unusedVariables false
set_option linter.unusedSectionVars false
namespace Go.Proofs.Ytggngdjncokanaa
open Go.RowKit Go.Cmp
set_option maxRecDepth 100000

theorem eachID (n : Nat) (h : n < 256 ^ 8) : EachOK Try.prog 44 5 (fun n : Nat => hd [.int .u64 (n : Int)]) byID n := by
  intro lb v w hb hR
  refine (putID_any lb n v w h (by omega) hR).mono ?_
  rintro e w' ⟨v', r, rfl, hr, hS⟩
  refine ⟨v', rfl, ?_, hS.nil⟩
  intro s hs
  simp only [byID, Option.some.injEq] at hs
  subst hs
  exact ⟨r, hr, hS⟩

theorem eachAcc (a : Acc) (h : a.Ok) : EachOK Try.prog 27 5 (fun a : Acc => ag a.cells) byAcc a := by
  intro lb v w hb hR
  refine (asked_ok a h lb v w hb hR).mono ?_
  rintro e w' ⟨v', r, rfl, hr, hS⟩
  refine ⟨v', rfl, ?_, hS.nil⟩
  intro s hs
  unfold byAcc at hs
  split at hs
  · simp only [Option.some.injEq] at hs
    subst hs
    exact ⟨r, hr, hS⟩
  · cases hs

set_option maxHeartbeats 400000 in
theorem eachTra (a : Tra) (h : a.Ok) : EachOK Try.prog 29 5 (fun a : Tra => ag a.cells) byTra a := by
  intro lb v w hb hR
  obtain ⟨id, deb, cred, amt⟩ := a
  obtain ⟨h1, h2, h3, h4⟩ := h
  simp only [Tra.cells] at *
  go_enter Try.func29, Try.ntmps29
  refine St.startAt w fun w1 hS => ?_
  go_wp2_with (first | ((with_reducible refine g_box ?_); refine wl_of rfl ?_; refine wp_box hS rfl rfl rfl ?_; clear hS; intro gb w1 hS) | ((with_reducible refine g_load ?_); refine wl_run rfl (x_load1 hS rfl rfl rfl rfl 0 rfl rfl) ?_) | ((with_reducible refine g_bs ?_); refine wl_of rfl ?_; refine wp_buildSlice1 (vs := [.int .u64 (id : Int), .int .u64 (deb : Int), .int .u64 (cred : Int), .int .u64 (amt : Int)]) hS rfl rfl rfl rfl rfl rfl (by decide) ⟨rfl, by simp [Value.cells]⟩ ?_; clear hS; intro v1 w1 hS) | fail)
  refine (numbers_any lb [id, deb, cred, amt] v _ 4 _ rfl (by omega) ?_ (by omega) (hS.old0 hR) (hS.rdv (i := 0) rfl)).mono ?_
  · intro x hx
    simp only [List.mem_cons, List.not_mem_nil, or_false] at hx
    rcases hx with rfl | rfl | rfl | rfl <;> assumption
  rintro e w2 ⟨v', r, rfl, hr, hS2⟩
  go_wp2
  go_ret2
  refine ⟨v', rfl, ?_, (hS.call hS2).nil⟩
  intro s hs
  simp only [byTra, Option.some.injEq] at hs
  subst hs
  exact ⟨r, by rw [hr]; simp, (hS.call hS2).one⟩

def gID (c : List UInt8) : Nat := leN (c.take 8)
def gAcc (c : List UInt8) : Acc := ⟨leN (c.take 8), ((c.getD 8 0).toNat : Int), 0, 0⟩
def gTra (c : List UInt8) : Tra := ⟨leN (c.take 8), leN ((c.drop 8).take 8), leN ((c.drop 16).take 8), leN ((c.drop 24).take 8)⟩

theorem ids1 (c : List UInt8) (h : c.length = 8) (w : World) : Calls Try.prog 80 #[.string ⟨c.toArray⟩] w fun e w' => e = .returned (hd [.int .u64 (gID c : Int)]) ∧ St [] w w' [] := by
  go_enter Try.func80, Try.ntmps80
  refine St.startAt w fun w1 hS => ?_
  go_wp2_with (fail)
  refine (at_in c 0 _ (by omega) (by omega)).mono ?_
  rintro e w2 ⟨rfl, hS2⟩
  go_wp2
  go_ret
  exact ⟨by simp [hd, gID], (hS.call hS2).nil⟩

set_option maxHeartbeats 400000 in
theorem transfers1 (c : List UInt8) (h : c.length = 32) (w : World) : Calls Try.prog 64 #[.string ⟨c.toArray⟩] w fun e w' => e = .returned (ag (gTra c).cells) ∧ St [] w w' [] := by
  have H := Lib.hid h
  clear h
  go_enter Try.func64, Try.ntmps64
  refine St.startAt w fun w1 hS => ?_
  go_wp2_with (first | ((with_reducible refine g_alloc ?_); refine wl_of rfl ?_; refine wp_alloc hS rfl rfl rfl rfl ?_; clear hS; intro gb w1 hS) | fail)
  refine (at_in c 0 _ (by rw [H.out]; omega) (by rw [H.out]; omega)).mono ?_
  rintro e w2 ⟨rfl, hS2⟩
  replace hS := hS.call hS2
  clear hS2
  go_wp2_with (fail)
  refine (at_in c 8 _ (by rw [H.out]; omega) (by rw [H.out]; omega)).mono ?_
  rintro e w3 ⟨rfl, hS2⟩
  replace hS := hS.call hS2
  clear hS2
  go_wp2_with (fail)
  refine (at_in c 16 _ (by rw [H.out]; omega) (by rw [H.out]; omega)).mono ?_
  rintro e w4 ⟨rfl, hS2⟩
  replace hS := hS.call hS2
  clear hS2
  go_wp2_with (fail)
  refine (at_in c 24 _ (by rw [H.out]; omega) (by rw [H.out]; omega)).mono ?_
  rintro e w5 ⟨rfl, hS2⟩
  replace hS := hS.call hS2
  clear hS2
  go_wp2_with (first | ((with_reducible refine g_store ?_); refine wl_of rfl ?_; refine wp_store1 (v := .agg _) hS rfl rfl rfl rfl rfl 0 rfl (by simp [Value.cells]) (fun j _ => nf0 _) (by simp [Value.cells, Value.oneCell']) rfl ?_; clear hS; intro w2 hS; simp only [Value.cells] at hS) | fail)
  refine end_cell hS rfl rfl 0 rfl rfl rfl rfl rfl ⟨?_, hS.nil⟩
  simp [gTra, Tra.cells, ag]

set_option maxHeartbeats 400000 in
theorem accounts1 (c : List UInt8) (h : c.length = 9) (w : World) : Calls Try.prog 61 #[.string ⟨c.toArray⟩] w fun e w' => e = .returned (ag (gAcc c).cells) ∧ St [] w w' [] := by
  have H := Lib.hid h
  clear h
  go_enter Try.func61, Try.ntmps61
  refine St.startAt w fun w1 hS => ?_
  go_wp2_with (first | ((with_reducible refine g_alloc ?_); refine wl_of rfl ?_; refine wp_alloc hS rfl rfl rfl rfl ?_; clear hS; intro gb w1 hS) | fail)
  refine region_end0 6 hS (by kernel_rfl) ?_
  clear hS
  intro wx hR hB hS
  (refine we_take 0 rfl rfl (by kernel_rfl) (by kernel_rfl) (by kernel_rfl) (fun _ _ _ h => h) (by kernel_rfl) rfl (fun W hW => (by (go_simp; try with_reducible rfl))) hS.base ?_; simp only [Act.put, List.setIfInBounds_toArray, List.set_cons_zero, List.set_cons_succ])
  (refine we_take 2 rfl rfl (by kernel_rfl) (by kernel_rfl) (by kernel_rfl) (fun _ _ _ h => h) (by kernel_rfl) rfl (fun W hW => (by (go_simp; try with_reducible rfl))) hS.base ?_; simp only [Act.put, List.setIfInBounds_toArray, List.set_cons_zero, List.set_cons_succ])
  (refine we_take 3 rfl rfl (by kernel_rfl) (by kernel_rfl) (by kernel_rfl) (fun _ _ _ h => h) (by kernel_rfl) rfl (fun W hW => (x_strIndex rfl rfl rfl rfl (by omega) (by rw [H.out]; omega))) hS.base ?_; simp only [Act.put, List.setIfInBounds_toArray, List.set_cons_zero, List.set_cons_succ])
  (refine we_take 4 rfl rfl (by kernel_rfl) (by kernel_rfl) (by kernel_rfl) (fun _ _ _ h => h) (by kernel_rfl) rfl (fun W hW => (by (go_simp; try with_reducible rfl))) hS.base ?_; simp only [Act.put, List.setIfInBounds_toArray, List.set_cons_zero, List.set_cons_succ])
  (refine we_all (rs := [1]) (by kernel_rfl) (by simp) ?_; intro i hi; have hi := List.mem_singleton.1 hi; subst hi)
  refine wod_of rfl rfl rfl (wp_call (by go_simp) (at_in c 0 _ (by rw [H.out]; omega) (by rw [H.out]; omega)) ?_)
  rintro e w3 ⟨rfl, hS2⟩
  replace hS := hS.call hS2
  clear hS2
  refine ⟨_, rfl, ?_⟩
  (refine ⟨fun _ => hS.base, ?_⟩; simp only [Act.put, List.setIfInBounds_toArray, List.set_cons_zero, List.set_cons_succ])
  (refine we_take 5 rfl rfl (by kernel_rfl) (by kernel_rfl) (by kernel_rfl) (fun _ _ _ h => h) (by kernel_rfl) rfl (fun W hW => (by (go_simp; try with_reducible rfl))) hS.base ?_; simp only [Act.put, List.setIfInBounds_toArray, List.set_cons_zero, List.set_cons_succ])
  (refine we_all (rs := [6]) (by kernel_rfl) (by simp) ?_; intro i hi; have hi := List.mem_singleton.1 hi; subst hi)
  replace hS := hB _ _ hS
  simp only [List.nil_append] at hS
  refine won_of rfl rfl rfl (k_sta hS rfl rfl rfl (h := ?_))
  clear hS
  intro w4 hS
  simp only [List.take, List.drop, List.cons_append, List.nil_append, List.length_cons, List.length_nil] at hS
  (refine ⟨fun h => absurd rfl h, ?_⟩; refine we_done (by kernel_rfl) ?_ _)
  go_wp2
  refine end_cell hS rfl rfl 0 rfl rfl rfl rfl rfl ⟨?_, hS.nil⟩
  have hwb : ∀ x : UInt8, IntKind.i64.wrap (x.toNat : Int) = (x.toNat : Int) := fun x => IntWalk.i64_in _ (by have := x.toNat_lt; omega)
  simp [gAcc, Acc.cells, ag, hwb]
end Go.Proofs.Ytggngdjncokanaa
