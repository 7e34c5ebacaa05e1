/-
  The chapter's example.
-/
import Derived.Test.YthddaflpoklglaaDiskAw
import Derived.Test.YthddaflpoklglaaDiskOk
namespace Go.Proofs.Ythddaflpoklglaa
open Go.RowKit Go.Cmp

section
variable {S : List Nat} {w0 w : World} {M : List Ent} {g : Nat} {D : Dsk}

theorem step_idle (h : D.fuse = 0) : D.step = (true, { D with steps := D.steps + 1 }) := by
  unfold Dsk.step
  rw [if_neg (by omega), h]
  cases D
  simp only at h
  subst h
  rfl
theorem write_on {i : Int} {t : List UInt8} (hi : 0 ≤ i) (hi2 : i < D.lasts.length) (ht : t.length = 384) (ho : D.off = false) (hf : D.fuse = 0) :
    D.write i t = (0, { D with way := D.way ++ [⟨i, t⟩], steps := D.steps + 1 }) := by
  have hd : D.is i = true := by simp [Dsk.is, hi, hi2]
  unfold Dsk.write
  rw [if_neg (by rw [hd, ht]; simp), if_neg (by rw [ho]; simp), step_idle hf]
  rfl
theorem flush_on (ho : D.off = false) (hf : D.fuse = 0) : D.flush = (0, { ({ D with steps := D.steps + 1 } : Dsk).puts D.way with way := [] }) := by
  unfold Dsk.flush
  rw [if_neg (by rw [ho]; simp), step_idle hf]
  rfl
theorem cut_on (ho : D.off = false) : D.cut = (0, { D with off := true, fuse := 0 }) := by unfold Dsk.cut; rw [if_neg (by rw [ho]; simp)]
theorem start_off (ho : D.off = true) (picks : List Int) : D.start picks = (0, { D.settles picks 0 D.way with way := [], off := false }) := by unfold Dsk.start; rw [if_neg (by rw [ho]; simp)]
theorem read_on {i : Int} (hi : 0 ≤ i) (hi2 : i < D.lasts.length) (ho : D.off = false) : D.read i = ((Dsk.under i D.way).getD (nth D.lasts i.toNat), 0) := by
  have hd : D.is i = true := by simp [Dsk.is, hi, hi2]
  unfold Dsk.read
  rw [if_neg (by rw [hd]; simp), if_neg (by rw [ho]; simp)]

set_option maxRecDepth 100000 in
set_option maxHeartbeats 2000000 in
theorem law_awake (w : World) : Calls Try.prog 9 #[] w fun e w' => e = .returned (.bool true) ∧ St [] w w' [] := by
  have hS := St.init w
  have ok0 := newDsk_ok 2 (by omega)
  obtain ⟨D0, h0⟩ : ∃ D0, newDsk 2 = D0 := ⟨_, rfl⟩
  have l0 : D0.lasts.length = 2 := by rw [← h0]; rfl
  have e1 := write_on (D := D0) (i := 0) (t := sect 7) (by omega) (by omega) (sect_len 7) (by rw [← h0]; rfl) (by rw [← h0]; rfl)
  rw [h0] at ok0
  have ok1 := (Dsk.write_next ok0 0 (sect 7) (by rw [← h0]; decide) (by rw [← h0]; decide)).ok
  have ok2 := (Dsk.cut_next ok1).ok
  rw [e1] at ok1 ok2
  obtain ⟨D1, h1⟩ : ∃ D1, ({ D0 with way := D0.way ++ [⟨0, sect 7⟩], steps := D0.steps + 1 } : Dsk) = D1 := ⟨_, rfl⟩
  rw [h1] at e1
  simp only [h1] at ok1 ok2
  have e2 := cut_on (D := D1) (by rw [← h1, ← h0]; rfl)
  have ok3 := (Dsk.start_next ok2 [32]).ok
  rw [e2] at ok2 ok3
  obtain ⟨D2, h2⟩ : ∃ D2, ({ D1 with off := true, fuse := 0 } : Dsk) = D2 := ⟨_, rfl⟩
  rw [h2] at e2
  simp only [h2] at ok2 ok3
  have e3 := start_off (D := D2) (by rw [← h2]) [32]
  have e4 : D2.settles [32] 0 D2.way = { D0 with lasts := D0.lasts.set 0 (mixB (sect 7) (sect 0) 10), mark := D0.mark.set 0 true, way := [⟨0, sect 7⟩], off := true, steps := 1 } := by
    rw [← h2, ← h1, ← h0]; rfl
  rw [e4] at e3
  simp only at e3
  rw [e3] at ok3
  obtain ⟨D3, h3⟩ : ∃ D3, (⟨D0.lasts.set 0 (mixB (sect 7) (sect 0) 10), D0.mark.set 0 true, [], false, D0.fuse, 1⟩ : Dsk) = D3 := ⟨_, rfl⟩
  rw [h3] at e3
  simp only [h3] at ok3
  have e5 : D3.read 0 = (mixB (sect 7) (sect 0) 10, 0) := by
    rw [read_on (by omega) (by rw [← h3]; simp [l0]) (by rw [← h3]), ← h3, ← h0]; rfl
  have e6 : (D3.is 0 && nth D3.mark 0) = true := by rw [← h3, ← h0]; rfl
  have OK0 := Lib.hid ok0
  have OK1 := Lib.hid ok1
  have OK2 := Lib.hid ok2
  have OK3 := Lib.hid ok3
  have E1 := Lib.hid e1
  have E2 := Lib.hid e2
  have E3 := Lib.hid e3
  have E5 := Lib.hid e5
  have E6 := Lib.hid e6
  have H0 := Lib.hid h0
  clear e1 e2 e3 e4 e5 e6 ok0 ok1 ok2 ok3 h0 h1 h2 h3 l0
  (go_enter Try.func9, Try.ntmps9)
  go_wp2_with (fail)
  refine (disk_new 2 (by omega) (by omega) hS).mono ?_
  rintro e w1 ⟨g, rfl, hS⟩
  rw [H0.out] at hS
  go_wp2_with (fail)
  refine (law_sector 7 _).mono ?_
  rintro e w2 ⟨rfl, h⟩
  replace hS := hS.call h
  clear h
  go_wp2_with (fail)
  have h := disk_write hS OK0.out 0 (sect 7)
  rw [E1.out] at h
  refine h.mono ?_
  clear h hS
  rintro e w3 ⟨rfl, hS⟩
  go_wp2_with (fail)
  have h := disk_cut hS
  rw [E2.out] at h
  refine h.mono ?_
  clear h hS
  rintro e w4 ⟨rfl, hS⟩
  go_wp2_with (first | ((with_reducible refine g_load ?_); refine k_read rfl (h := ?_)) | ((with_reducible refine g_len ?_); refine k_len rfl (h := ?_)) | ((with_reducible refine g_index ?_); refine k_idx rfl (h := ?_)) | ((with_reducible refine g_field ?_); refine k_fld rfl (h := ?_)) | ((with_reducible refine g_store ?_); refine wl_of rfl ?_; first | (first | (refine k_ste (v := .int _ _) hS rfl rfl rfl (h := ?_); clear hS; intro w' hS) | (refine k_ste (v := .bool _) hS rfl rfl rfl (h := ?_); clear hS; intro w' hS) | (refine k_ste (v := .string _) hS rfl rfl rfl (h := ?_); clear hS; intro w' hS)) | (refine k_sta hS rfl rfl rfl (h := ?_); clear hS; intro w' hS; simp only [List.take, List.drop, List.cons_append, List.nil_append, List.length_cons, List.length_nil] at hS) | (first | ((first | (refine k_st1 (v := .int _ _) hS rfl rfl rfl (h := ?_)) | (refine k_st1 (v := .bool _) hS rfl rfl rfl (h := ?_)) | (refine k_st1 (v := .string _) hS rfl rfl rfl (h := ?_)) | (refine k_st1 (v := .slice none 0 0) hS rfl rfl rfl (h := ?_))); clear hS; intro w' hS; simp only [List.set_cons_zero, List.set_cons_succ] at hS) | ((refine k_st1  hS rfl rfl rfl (h := ?_)); clear hS; intro w' hS; simp only [List.set_cons_zero, List.set_cons_succ] at hS; simp only [Act.eval, Array.getD_eq_getD_getElem?, List.getElem?_toArray, List.getElem?_cons_succ, List.getElem?_cons_zero, Option.getD_some] at hS))) | ((with_reducible refine g_alloc ?_); refine wl_of rfl ?_; refine wp_alloc hS rfl rfl rfl rfl ?_; clear hS; intro gb w1 hS) | ((with_reducible refine g_box ?_); refine wl_of rfl ?_; refine wp_box hS rfl rfl rfl ?_; clear hS; intro gb w1 hS) | ((with_reducible refine g_bs ?_); refine wl_of rfl ?_; (first | refine a_build1 (v := .int _ _) hS rfl rfl rfl rfl (by rfl) (by simp) ?_ | refine a_build1 (v := .string _) hS rfl rfl rfl rfl (by rfl) (by simp) ?_ | refine a_build1 (v := .bool _) hS rfl rfl rfl rfl (by rfl) (by simp) ?_ | refine a_build1 (v := .agg _) hS rfl rfl rfl rfl (by rfl) (by simp) ?_ | refine a_build1  hS rfl rfl rfl rfl (by rfl) (by simp) ?_); clear hS; intro v1 w' hS; simp only [List.length_cons, List.length_nil, Nat.zero_add] at hS; try simp only [Nat.reduceAdd] at hS) | ((with_reducible refine g_cut ?_); refine k_str rfl (h := ?_)) | ((with_reducible refine g_indexV ?_); refine k_six rfl (h := ?_)) | ((with_reducible refine g_bin ?_); refine k_cat rfl (h := ?_)) | ((with_reducible refine g_conv ?_); refine k_tos rfl (h := ?_)) | ((with_reducible refine wl_guard ?_); refine stop_mem rfl rfl ?_))
  have h := disk_start (hS.sel (N := disk g D2 :: [.vec v1 3 1 1 [.int .i64 32]]) (by (repeat (first | exact Sel.refl | exact Sel.nil | refine Sel.cons (by (repeat (first | exact Out.here | apply Out.there))) ?_ | refine Sel.drop ?_)))) OK2.out v1 [32] (fun _ h => h.rdx .here) (by decide)
  rw [E3.out] at h
  refine h.mono ?_
  clear h hS
  rintro e w5 ⟨rfl, hS⟩
  go_wp2_with (fail)
  have h := disk_read hS OK3.out 0
  rw [E5.out] at h
  refine h.mono ?_
  clear h hS
  rintro e w6 ⟨rfl, hS⟩
  go_wp2_with (fail)
  refine (law_sector 7 _).mono ?_
  rintro e w7 ⟨rfl, h⟩
  replace hS := hS.call h
  clear h
  go_wp2_with (fail)
  refine (law_sector 0 _).mono ?_
  rintro e w8 ⟨rfl, h⟩
  replace hS := hS.call h
  clear h
  go_wp2_with (fail)
  refine (ref_mix (sect 7) (sect 0) 10 _ (sect_len _) (sect_len _) (by decide)).mono ?_
  rintro e w9 ⟨rfl, h⟩
  replace hS := hS.call h
  clear h
  go_wp2_with (fail)
  have h := disk_marked hS OK3.out 0
  rw [show ((0 : Int).toNat) = 0 from rfl, E6.out] at h
  refine h.mono ?_
  clear h
  rintro e w10 ⟨rfl, rfl⟩
  go_wp2_with (fail)
  go_ret
  exact ⟨rfl, hS.nil⟩
end
end Go.Proofs.Ythddaflpoklglaa
