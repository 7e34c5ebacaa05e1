/-
  The functions that event.put is handed.
-/
import Derived.Test.YtggngdjncokanaaPuts
import Derived.Test.YtggngdjncokanaaMore
set_option linter.unusedSimpArgs false
set_option linter.unusedVariables false
set_option linter.unusedSectionVars false
namespace Go.Proofs.Ytggngdjncokanaa
open Go.RowKit Go.Cmp
set_option maxRecDepth 100000

structure Acc where
  id : Nat
  flags : Int
  deb : Nat
  cred : Nat
structure Tra where
  id : Nat
  deb : Nat
  cred : Nat
  amt : Nat
def Acc.cells (a : Acc) : List Value := [.int .u64 a.id, .int .i64 a.flags, .int .u64 a.deb, .int .u64 a.cred]
def Tra.cells (a : Tra) : List Value := [.int .u64 a.id, .int .u64 a.deb, .int .u64 a.cred, .int .u64 a.amt]
def Acc.Ok (a : Acc) : Prop := a.id < 256 ^ 8 ∧ a.deb < 256 ^ 8 ∧ a.cred < 256 ^ 8 ∧ -9223372036854775808 ≤ a.flags ∧ a.flags ≤ 9223372036854775807
def Tra.Ok (a : Tra) : Prop := a.id < 256 ^ 8 ∧ a.deb < 256 ^ 8 ∧ a.cred < 256 ^ 8 ∧ a.amt < 256 ^ 8
/-- A number as a byte. -/
def fb (n : Int) : UInt8 := UInt8.ofNat (n % 256).toNat
theorem fb_wrap (n : Int) : IntKind.u8.wrap n = ((fb n).toNat : Int) := by
  unfold fb
  simp only [IntKind.wrap, IntKind.bits, IntKind.signed, UInt8.toNat_ofNat']
  simp
  omega
def byAcc (a : Acc) : Option (List UInt8) := if 0 ≤ a.flags ∧ a.flags ≤ 255 then some (leB 8 a.id ++ [fb a.flags]) else none
def byTra (a : Tra) : Option (List UInt8) := some (leB 8 a.id ++ leB 8 a.deb ++ leB 8 a.cred ++ leB 8 a.amt)
def byID (n : Nat) : Option (List UInt8) := some (leB 8 n)

set_option maxHeartbeats 2000000 in
theorem asked_ok (a : Acc) (h : a.Ok) (lb : List UInt8) (v : Value) (w : World) (hb : lb.length + 64 ≤ 140737488355328) (hR : Rd w 1 v lb.length (B lb)) :
    Calls Try.prog 27 #[v, ag a.cells] w fun e w' => ∃ v' r, e = .returned (.tuple #[v', .bool (byAcc a).isSome]) ∧ r = lb ++ (leB 8 a.id ++ [fb a.flags]) ∧ St [] w w' [.vec v' 5 1 r.length (B r)] := by
  obtain ⟨h1, _, _, h4, h5⟩ := h
  have hw := fb_wrap a.flags
  have hc : (0 ≤ a.flags ∧ a.flags ≤ 255 ∧ (byAcc a).isSome = true) ∨ (a.flags < 0 ∧ (byAcc a).isSome = false) ∨ (0 ≤ a.flags ∧ 255 < a.flags ∧ (byAcc a).isSome = false) := by
    unfold byAcc
    split
    · rename_i hh; exact .inl ⟨hh.1, hh.2, rfl⟩
    · have : a.flags < 0 ∨ (0 ≤ a.flags ∧ 255 < a.flags) := by omega
      rcases this with h | h
      · exact .inr (.inl ⟨h, rfl⟩)
      · exact .inr (.inr ⟨h.1, h.2, rfl⟩)
  generalize (byAcc a).isSome = bo at hc ⊢
  obtain ⟨id, flags, deb, cred⟩ := a
  simp only [Acc.cells] at *
  have hgo : ∀ (t1 t2 : Bool), decide (0 ≤ flags) = t1 → (t1 = true → decide (flags ≤ 255) = t2) → bo = (t1 && t2) → Calls Try.prog 27 #[v, ag [.int .u64 id, .int .i64 flags, .int .u64 deb, .int .u64 cred]] w fun e w' => ∃ v' r, e = .returned (.tuple #[v', .bool bo]) ∧ r = lb ++ (leB 8 id ++ [fb flags]) ∧ St [] w w' [.vec v' 5 1 r.length (B r)] := by
    intro t1 t2 ht1 ht2 hbo
    have Hbo := Lib.hid hbo
    clear hbo hc
    go_enter Try.func27, Try.ntmps27
    refine St.startAt w fun w1 hS => ?_
    go_wp2_with (first | ((with_reducible refine g_box ?_); refine wl_of rfl ?_; refine wp_box hS rfl rfl rfl ?_; clear hS; intro gb w1 hS) | fail)
    have hS0 := hS
    have hRw := hS.old0 hR
    have c0 : w1.cell? ⟨gb, 0, none⟩ = some (.int .u64 (id : Int)) := (row_cell (hS.row (i := 0) rfl) 0).trans rfl
    have c1 : w1.cell? ⟨gb, 1, none⟩ = some (.int .i64 flags) := (row_cell (hS.row (i := 0) rfl) 1).trans rfl
    clear hS
    have hS : St [] w1 w1.drew [] := (St.init w1).drew
    refine wp_region_held (S := fun W => Mod [] w1 W) (by kernel_rfl) ?_
    change wpAnyH _ _ _ _ _ _ _ _ w1.drew
    generalize w1.drew = w2 at hS ⊢
    (refine whd_take 0 rfl rfl (by kernel_rfl) (by kernel_rfl) (by kernel_rfl) (fun _ _ _ h => h) rfl (fun W hW => by (go_simp; try with_reducible rfl)) hS.base ?_; simp only [Act.put, List.setIfInBounds_toArray, List.set_cons_zero, List.set_cons_succ])
    (refine whd_take 1 rfl rfl (by kernel_rfl) (by kernel_rfl) (by kernel_rfl) (fun _ _ _ h => h) rfl (fun W hW => by (go_simp; try with_reducible rfl)) hS.base ?_; simp only [Act.put, List.setIfInBounds_toArray, List.set_cons_zero, List.set_cons_succ])
    (refine whd_take 2 rfl rfl (by kernel_rfl) (by kernel_rfl) (by kernel_rfl) (fun _ _ _ h => h) rfl (fun W hW => (x_loadC rfl rfl rfl rfl (hW.cellOf c0))) hS.base ?_; simp only [Act.put, List.setIfInBounds_toArray, List.set_cons_zero, List.set_cons_succ])
    (refine whd_take 5 rfl rfl (by kernel_rfl) (by kernel_rfl) (by kernel_rfl) (fun _ _ _ h => h) rfl (fun W hW => by (go_simp; try with_reducible rfl)) hS.base ?_; simp only [Act.put, List.setIfInBounds_toArray, List.set_cons_zero, List.set_cons_succ])
    (refine whd_take 6 rfl rfl (by kernel_rfl) (by kernel_rfl) (by kernel_rfl) (fun _ _ _ h => h) rfl (fun W hW => (x_loadC rfl rfl rfl rfl (hW.cellOf c1))) hS.base ?_; simp only [Act.put, List.setIfInBounds_toArray, List.set_cons_zero, List.set_cons_succ])
    (refine whd_take 7 rfl rfl (by kernel_rfl) (by kernel_rfl) (by kernel_rfl) (fun _ _ _ h => h) rfl (fun W hW => by (go_simp; try with_reducible rfl)) hS.base ?_; simp only [Act.put, List.setIfInBounds_toArray, List.set_cons_zero, List.set_cons_succ])
    (refine whd_take 10 rfl rfl (by kernel_rfl) (by kernel_rfl) (by kernel_rfl) (fun _ _ _ h => h) rfl (fun W hW => by (go_simp; try with_reducible rfl)) hS.base ?_; simp only [Act.put, List.setIfInBounds_toArray, List.set_cons_zero, List.set_cons_succ])
    (refine whd_take 11 rfl rfl (by kernel_rfl) (by kernel_rfl) (by kernel_rfl) (fun _ _ _ h => h) rfl (fun W hW => (x_loadC rfl rfl rfl rfl (hW.cellOf c1))) hS.base ?_; simp only [Act.put, List.setIfInBounds_toArray, List.set_cons_zero, List.set_cons_succ])
    (refine whd_take 12 rfl rfl (by kernel_rfl) (by kernel_rfl) (by kernel_rfl) (fun _ _ _ h => h) rfl (fun W hW => by (go_simp; try with_reducible rfl)) hS.base ?_; simp only [Act.put, List.setIfInBounds_toArray, List.set_cons_zero, List.set_cons_succ])
    (refine wpAnyH_all (rs := [3, 8]) (by kernel_rfl) (by simp) ?_; intro i hi; simp only [List.mem_cons, List.not_mem_nil, or_false] at hi)
    have ht2' := ht2
    clear ht2
    cases t1
    all_goals
      (first | (have ht2 : decide (flags ≤ 255) = t2 := ht2' rfl; clear ht2') | clear ht2')
      rcases hi with rfl | rfl
      · (refine wod_of rfl rfl rfl (wp_buildSlice1 (vs := [.int .u64 (id : Int)]) hS rfl rfl rfl rfl rfl rfl (by decide) ⟨rfl, by simp [Value.cells]⟩ ?_); clear hS; intro v9 w3 hS; refine ⟨hS.base, ?_⟩; simp only [Act.put, List.setIfInBounds_toArray, List.set_cons_zero, List.set_cons_succ])
        (refine wpAnyH_all (rs := [4, 8]) (by kernel_rfl) (by simp) ?_; intro i hi; simp only [List.mem_cons, List.not_mem_nil, or_false] at hi)
        rcases hi with rfl | rfl
        · (refine wod_of rfl rfl rfl (wp_call (by go_simp) (numbers_any lb [id] v _ 1 _ rfl (by omega) (by simpa using h1) (by omega) (hS.old0 hRw) (hS.rdv (i := 0) rfl)) ?_); rintro e w4 ⟨v10, r, rfl, hr, hS2⟩; have Hr := Lib.hid hr; clear hr; replace hS := hS.call hS2; clear hS2; refine ⟨v10, rfl, hS.base, ?_⟩; simp only [Act.put, List.setIfInBounds_toArray, List.set_cons_zero, List.set_cons_succ])
          (refine wpAnyH_all (rs := [8]) (by kernel_rfl) (by simp) ?_; intro i hi; simp only [List.mem_cons, List.not_mem_nil, or_false] at hi)
          subst hi
          (refine wod_of rfl rfl rfl (wp_buildSlice1 (vs := B [fb flags]) hS rfl rfl rfl rfl rfl rfl (by decide) ⟨rfl, by simp [B, Value.cells]⟩ ?_); clear hS; intro v14 w3 hS; refine ⟨hS.base, ?_⟩; simp only [Act.put, List.setIfInBounds_toArray, List.set_cons_zero, List.set_cons_succ])
          ((refine wpAnyH_all (rs := [9]) (by kernel_rfl) (by simp) ?_; intro i hi; simp only [List.mem_cons, List.not_mem_nil, or_false] at hi); subst hi; have hbl : (r.length + 1) * 1 ≤ 140737488355328 := (by rw [Hr.out, List.length_append, flatMap_leB_length, List.length_singleton]; omega); refine wod_of rfl rfl rfl (wp_append hS rfl 1 rfl (hS.rdv (i := 0) rfl) rfl rfl rfl rfl rfl rfl (by decide) rfl (B_one _) hbl ?_); clear hS; intro v15 w5 hS _; refine ⟨hS.base, ?_⟩; simp only [Act.put, List.setIfInBounds_toArray, List.set_cons_zero, List.set_cons_succ])
          ((refine whd_take 13 rfl rfl (by kernel_rfl) (by kernel_rfl) (by kernel_rfl) (fun _ _ _ h => h) rfl (fun W hW => by (go_simp; try with_reducible rfl)) hS.base ?_; simp only [Act.put, List.setIfInBounds_toArray, List.set_cons_zero, List.set_cons_succ]); first | ((refine whd_take 14 rfl rfl (by kernel_rfl) (by kernel_rfl) (by kernel_rfl) (fun _ _ _ h => h) rfl (fun W hW => by (go_simp; try with_reducible rfl)) hS.base ?_; simp only [Act.put, List.setIfInBounds_toArray, List.set_cons_zero, List.set_cons_succ]); (refine whd_take 15 rfl rfl (by kernel_rfl) (by kernel_rfl) (by kernel_rfl) (fun _ _ _ h => h) rfl (fun W hW => (x_loadC rfl rfl rfl rfl (hW.cellOf c1))) hS.base ?_; simp only [Act.put, List.setIfInBounds_toArray, List.set_cons_zero, List.set_cons_succ]); (refine whd_take 16 rfl rfl (by kernel_rfl) (by kernel_rfl) (by kernel_rfl) (fun _ _ _ h => h) rfl (fun W hW => by (go_simp; try with_reducible rfl)) hS.base ?_; simp only [Act.put, List.setIfInBounds_toArray, List.set_cons_zero, List.set_cons_succ])) | ((refine whd_skip 14 rfl rfl (by kernel_rfl) (by kernel_rfl) (by kernel_rfl) (fun _ _ _ h => h) rfl hS.base ?_; simp only [Act.put, List.setIfInBounds_toArray, List.set_cons_zero, List.set_cons_succ]); (refine whd_skip 15 rfl rfl (by kernel_rfl) (by kernel_rfl) (by kernel_rfl) (fun _ _ _ h => h) rfl hS.base ?_; simp only [Act.put, List.setIfInBounds_toArray, List.set_cons_zero, List.set_cons_succ]); (refine whd_skip 16 rfl rfl (by kernel_rfl) (by kernel_rfl) (by kernel_rfl) (fun _ _ _ h => h) rfl hS.base ?_; simp only [Act.put, List.setIfInBounds_toArray, List.set_cons_zero, List.set_cons_succ])))
          ((refine whd_take 17 rfl rfl (by kernel_rfl) (by kernel_rfl) (by kernel_rfl) (fun _ _ _ h => h) rfl (fun W hW => by (go_simp; try with_reducible rfl)) hS.base ?_; simp only [Act.put, List.setIfInBounds_toArray, List.set_cons_zero, List.set_cons_succ]); (refine whd_take 18 rfl rfl (by kernel_rfl) (by kernel_rfl) (by kernel_rfl) (fun _ _ _ h => h) rfl (fun W hW => by (go_simp; try with_reducible rfl)) hS.base ?_; simp only [Act.put, List.setIfInBounds_toArray, List.set_cons_zero, List.set_cons_succ]); (refine whd_take 19 rfl rfl (by kernel_rfl) (by kernel_rfl) (by kernel_rfl) (fun _ _ _ h => h) rfl (fun W hW => by (go_simp; try with_reducible rfl)) hS.base ?_; simp only [Act.put, List.setIfInBounds_toArray, List.set_cons_zero, List.set_cons_succ]); (refine wpAnyH_done (by kernel_rfl) ?_ _); go_wp2; go_ret2; refine ⟨v15, r ++ [fb flags], by rw [Hbo.out]; simp, by rw [Hr.out]; simp, ?_⟩; have hf := hS0.call ((hS.front 1 rfl).one); simpa [B_append, List.length_append] using hf.one)
        · (refine wod_of rfl rfl rfl (wp_buildSlice1 (vs := B [fb flags]) hS rfl rfl rfl rfl rfl rfl (by decide) ⟨rfl, by simp [B, Value.cells]⟩ ?_); clear hS; intro v14 w3 hS; refine ⟨hS.base, ?_⟩; simp only [Act.put, List.setIfInBounds_toArray, List.set_cons_zero, List.set_cons_succ])
          (refine wpAnyH_all (rs := [4]) (by kernel_rfl) (by simp) ?_; intro i hi; simp only [List.mem_cons, List.not_mem_nil, or_false] at hi)
          subst hi
          (refine wod_of rfl rfl rfl (wp_call (by go_simp) (numbers_any lb [id] v _ 1 _ rfl (by omega) (by simpa using h1) (by omega) (hS.old0 hRw) (hS.rdv (i := 1) rfl)) ?_); rintro e w4 ⟨v10, r, rfl, hr, hS2⟩; have Hr := Lib.hid hr; clear hr; replace hS := hS.call hS2; clear hS2; refine ⟨v10, rfl, hS.base, ?_⟩; simp only [Act.put, List.setIfInBounds_toArray, List.set_cons_zero, List.set_cons_succ])
          ((refine wpAnyH_all (rs := [9]) (by kernel_rfl) (by simp) ?_; intro i hi; simp only [List.mem_cons, List.not_mem_nil, or_false] at hi); subst hi; have hbl : (r.length + 1) * 1 ≤ 140737488355328 := (by rw [Hr.out, List.length_append, flatMap_leB_length, List.length_singleton]; omega); refine wod_of rfl rfl rfl (wp_append hS rfl 0 rfl (hS.rdv (i := 1) rfl) rfl rfl rfl rfl rfl rfl (by decide) rfl (B_one _) hbl ?_); clear hS; intro v15 w5 hS _; refine ⟨hS.base, ?_⟩; simp only [Act.put, List.setIfInBounds_toArray, List.set_cons_zero, List.set_cons_succ])
          ((refine whd_take 13 rfl rfl (by kernel_rfl) (by kernel_rfl) (by kernel_rfl) (fun _ _ _ h => h) rfl (fun W hW => by (go_simp; try with_reducible rfl)) hS.base ?_; simp only [Act.put, List.setIfInBounds_toArray, List.set_cons_zero, List.set_cons_succ]); first | ((refine whd_take 14 rfl rfl (by kernel_rfl) (by kernel_rfl) (by kernel_rfl) (fun _ _ _ h => h) rfl (fun W hW => by (go_simp; try with_reducible rfl)) hS.base ?_; simp only [Act.put, List.setIfInBounds_toArray, List.set_cons_zero, List.set_cons_succ]); (refine whd_take 15 rfl rfl (by kernel_rfl) (by kernel_rfl) (by kernel_rfl) (fun _ _ _ h => h) rfl (fun W hW => (x_loadC rfl rfl rfl rfl (hW.cellOf c1))) hS.base ?_; simp only [Act.put, List.setIfInBounds_toArray, List.set_cons_zero, List.set_cons_succ]); (refine whd_take 16 rfl rfl (by kernel_rfl) (by kernel_rfl) (by kernel_rfl) (fun _ _ _ h => h) rfl (fun W hW => by (go_simp; try with_reducible rfl)) hS.base ?_; simp only [Act.put, List.setIfInBounds_toArray, List.set_cons_zero, List.set_cons_succ])) | ((refine whd_skip 14 rfl rfl (by kernel_rfl) (by kernel_rfl) (by kernel_rfl) (fun _ _ _ h => h) rfl hS.base ?_; simp only [Act.put, List.setIfInBounds_toArray, List.set_cons_zero, List.set_cons_succ]); (refine whd_skip 15 rfl rfl (by kernel_rfl) (by kernel_rfl) (by kernel_rfl) (fun _ _ _ h => h) rfl hS.base ?_; simp only [Act.put, List.setIfInBounds_toArray, List.set_cons_zero, List.set_cons_succ]); (refine whd_skip 16 rfl rfl (by kernel_rfl) (by kernel_rfl) (by kernel_rfl) (fun _ _ _ h => h) rfl hS.base ?_; simp only [Act.put, List.setIfInBounds_toArray, List.set_cons_zero, List.set_cons_succ])))
          ((refine whd_take 17 rfl rfl (by kernel_rfl) (by kernel_rfl) (by kernel_rfl) (fun _ _ _ h => h) rfl (fun W hW => by (go_simp; try with_reducible rfl)) hS.base ?_; simp only [Act.put, List.setIfInBounds_toArray, List.set_cons_zero, List.set_cons_succ]); (refine whd_take 18 rfl rfl (by kernel_rfl) (by kernel_rfl) (by kernel_rfl) (fun _ _ _ h => h) rfl (fun W hW => by (go_simp; try with_reducible rfl)) hS.base ?_; simp only [Act.put, List.setIfInBounds_toArray, List.set_cons_zero, List.set_cons_succ]); (refine whd_take 19 rfl rfl (by kernel_rfl) (by kernel_rfl) (by kernel_rfl) (fun _ _ _ h => h) rfl (fun W hW => by (go_simp; try with_reducible rfl)) hS.base ?_; simp only [Act.put, List.setIfInBounds_toArray, List.set_cons_zero, List.set_cons_succ]); (refine wpAnyH_done (by kernel_rfl) ?_ _); go_wp2; go_ret2; refine ⟨v15, r ++ [fb flags], by rw [Hbo.out]; simp, by rw [Hr.out]; simp, ?_⟩; have hf := hS0.call ((hS.front 0 rfl).one); simpa [B_append, List.length_append] using hf.one)
      · (refine wod_of rfl rfl rfl (wp_buildSlice1 (vs := B [fb flags]) hS rfl rfl rfl rfl rfl rfl (by decide) ⟨rfl, by simp [B, Value.cells]⟩ ?_); clear hS; intro v14 w3 hS; refine ⟨hS.base, ?_⟩; simp only [Act.put, List.setIfInBounds_toArray, List.set_cons_zero, List.set_cons_succ])
        (refine wpAnyH_all (rs := [3]) (by kernel_rfl) (by simp) ?_; intro i hi; simp only [List.mem_cons, List.not_mem_nil, or_false] at hi)
        subst hi
        (refine wod_of rfl rfl rfl (wp_buildSlice1 (vs := [.int .u64 (id : Int)]) hS rfl rfl rfl rfl rfl rfl (by decide) ⟨rfl, by simp [Value.cells]⟩ ?_); clear hS; intro v9 w3 hS; refine ⟨hS.base, ?_⟩; simp only [Act.put, List.setIfInBounds_toArray, List.set_cons_zero, List.set_cons_succ])
        (refine wpAnyH_all (rs := [4]) (by kernel_rfl) (by simp) ?_; intro i hi; simp only [List.mem_cons, List.not_mem_nil, or_false] at hi)
        subst hi
        (refine wod_of rfl rfl rfl (wp_call (by go_simp) (numbers_any lb [id] v _ 1 _ rfl (by omega) (by simpa using h1) (by omega) (hS.old0 hRw) (hS.rdv (i := 0) rfl)) ?_); rintro e w4 ⟨v10, r, rfl, hr, hS2⟩; have Hr := Lib.hid hr; clear hr; replace hS := hS.call hS2; clear hS2; refine ⟨v10, rfl, hS.base, ?_⟩; simp only [Act.put, List.setIfInBounds_toArray, List.set_cons_zero, List.set_cons_succ])
        ((refine wpAnyH_all (rs := [9]) (by kernel_rfl) (by simp) ?_; intro i hi; simp only [List.mem_cons, List.not_mem_nil, or_false] at hi); subst hi; have hbl : (r.length + 1) * 1 ≤ 140737488355328 := (by rw [Hr.out, List.length_append, flatMap_leB_length, List.length_singleton]; omega); refine wod_of rfl rfl rfl (wp_append hS rfl 0 rfl (hS.rdv (i := 2) rfl) rfl rfl rfl rfl rfl rfl (by decide) rfl (B_one _) hbl ?_); clear hS; intro v15 w5 hS _; refine ⟨hS.base, ?_⟩; simp only [Act.put, List.setIfInBounds_toArray, List.set_cons_zero, List.set_cons_succ])
        ((refine whd_take 13 rfl rfl (by kernel_rfl) (by kernel_rfl) (by kernel_rfl) (fun _ _ _ h => h) rfl (fun W hW => by (go_simp; try with_reducible rfl)) hS.base ?_; simp only [Act.put, List.setIfInBounds_toArray, List.set_cons_zero, List.set_cons_succ]); first | ((refine whd_take 14 rfl rfl (by kernel_rfl) (by kernel_rfl) (by kernel_rfl) (fun _ _ _ h => h) rfl (fun W hW => by (go_simp; try with_reducible rfl)) hS.base ?_; simp only [Act.put, List.setIfInBounds_toArray, List.set_cons_zero, List.set_cons_succ]); (refine whd_take 15 rfl rfl (by kernel_rfl) (by kernel_rfl) (by kernel_rfl) (fun _ _ _ h => h) rfl (fun W hW => (x_loadC rfl rfl rfl rfl (hW.cellOf c1))) hS.base ?_; simp only [Act.put, List.setIfInBounds_toArray, List.set_cons_zero, List.set_cons_succ]); (refine whd_take 16 rfl rfl (by kernel_rfl) (by kernel_rfl) (by kernel_rfl) (fun _ _ _ h => h) rfl (fun W hW => by (go_simp; try with_reducible rfl)) hS.base ?_; simp only [Act.put, List.setIfInBounds_toArray, List.set_cons_zero, List.set_cons_succ])) | ((refine whd_skip 14 rfl rfl (by kernel_rfl) (by kernel_rfl) (by kernel_rfl) (fun _ _ _ h => h) rfl hS.base ?_; simp only [Act.put, List.setIfInBounds_toArray, List.set_cons_zero, List.set_cons_succ]); (refine whd_skip 15 rfl rfl (by kernel_rfl) (by kernel_rfl) (by kernel_rfl) (fun _ _ _ h => h) rfl hS.base ?_; simp only [Act.put, List.setIfInBounds_toArray, List.set_cons_zero, List.set_cons_succ]); (refine whd_skip 16 rfl rfl (by kernel_rfl) (by kernel_rfl) (by kernel_rfl) (fun _ _ _ h => h) rfl hS.base ?_; simp only [Act.put, List.setIfInBounds_toArray, List.set_cons_zero, List.set_cons_succ])))
        ((refine whd_take 17 rfl rfl (by kernel_rfl) (by kernel_rfl) (by kernel_rfl) (fun _ _ _ h => h) rfl (fun W hW => by (go_simp; try with_reducible rfl)) hS.base ?_; simp only [Act.put, List.setIfInBounds_toArray, List.set_cons_zero, List.set_cons_succ]); (refine whd_take 18 rfl rfl (by kernel_rfl) (by kernel_rfl) (by kernel_rfl) (fun _ _ _ h => h) rfl (fun W hW => by (go_simp; try with_reducible rfl)) hS.base ?_; simp only [Act.put, List.setIfInBounds_toArray, List.set_cons_zero, List.set_cons_succ]); (refine whd_take 19 rfl rfl (by kernel_rfl) (by kernel_rfl) (by kernel_rfl) (fun _ _ _ h => h) rfl (fun W hW => by (go_simp; try with_reducible rfl)) hS.base ?_; simp only [Act.put, List.setIfInBounds_toArray, List.set_cons_zero, List.set_cons_succ]); (refine wpAnyH_done (by kernel_rfl) ?_ _); go_wp2; go_ret2; refine ⟨v15, r ++ [fb flags], by rw [Hbo.out]; simp, by rw [Hr.out]; simp, ?_⟩; have hf := hS0.call ((hS.front 0 rfl).one); simpa [B_append, List.length_append] using hf.one)
  rcases hc with ⟨k1, k2, k3⟩ | ⟨k1, k3⟩ | ⟨k1, k2, k3⟩
  · exact hgo true true (by simpa using k1) (fun _ => by simpa using k2) (by simpa using k3)
  · exact hgo false false (by simpa using k1) (fun h => by cases h) (by simpa using k3)
  · exact hgo true false (by simpa using k1) (fun _ => by simpa using k2) (by simpa using k3)
end Go.Proofs.Ytggngdjncokanaa
