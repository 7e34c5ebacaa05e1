/-
  Entries: the program's MarkOf.
-/
import Derived.Test.YtnjboimjlbgdiaaEnt1
import Derived.Test.YtnjboimjlbgdiaaEntA
import Derived.Test.YtnjboimjlbgdiaaCrc
set_option linter.unusedSimpArgs false
set_option linter.unusedVariables false
set_option linter.unusedSectionVars false
set_option maxRecDepth 100000
namespace Go.Proofs.Ytnjboimjlbgdiaa
open Go.RowKit Go.Cmp
set_option maxRecDepth 100000

section
variable {S : List Nat} {w0 w : World} {M : List Ent}
set_option maxHeartbeats 8000000 in
theorem entMark_any (e : En) (hp : e.parent < 18446744073709551616) (hb : e.body.length ≤ 1000000) (w : World) :
    Calls Try.prog 48 #[.agg e.cells.toArray] w fun x w' => x = .returned (.agg (markE e).cells.toArray) ∧ St [] w w' [] := by
  have hS := St.init w
  have HP := Lib.hid (fun w => entPack_any e hp hb w)
  have herr := packE_err e
  have hlen := packE_len e
  have HC := Lib.hid (fun w => crcChain_any e.parent hp (packE e).1 (by omega) w)
  have hm : markE e = if (packE e).2 = 0 then ⟨e.op, e.view, markSum e⟩ else ⟨0, 0, 0⟩ := rfl
  unfold markSum at hm
  obtain ⟨m, hmm⟩ : ∃ m, markE e = m := ⟨_, rfl⟩
  rw [hmm] at hm ⊢
  obtain ⟨PK, hPK⟩ : ∃ K, packE e = K := ⟨_, rfl⟩
  rw [hPK] at HP HC herr hlen hm
  obtain ⟨pk, f⟩ := PK
  simp only at herr hlen HC hm HP
  clear hmm hPK
  obtain ⟨vw, po, un, par, cl, se, rq, opr, body⟩ := e
  simp only [En.cells] at HP HC hm ⊢
  obtain ⟨q, hq⟩ : ∃ q, chainOf par pk = q := ⟨_, rfl⟩
  rw [hq] at HC hm
  clear hq
  rcases herr with rfl | rfl
  · have HM : Hid (m = ⟨po, vw, q⟩) := Lib.hid (by rw [hm, if_pos rfl])
    clear hm
    (go_enter Try.func48, Try.ntmps48)
    go_wp2_with (first | ((with_reducible refine g_box ?_); refine wl_of rfl ?_; refine wp_box hS rfl rfl rfl ?_; clear hS; intro gb0 w1 hS) | (go_at_call 64; refine (HP.out _).mono ?_; rintro e w' ⟨rfl, h⟩; replace hS := hS.call h; clear h) | (first | refine au1 (n := ?_) | (refine au2 (n := ?_); clear hS; intro w' hS) | (refine au3 (n := ?_); clear hS; intro gb w1 hS) | (refine au4 (n := ?_); clear hS; intro v1 w' hS) | ((with_reducible refine wl_guard ?_); refine stop_mem rfl rfl ?_)))
    refine region_drift 9 [.row gb [.int .i64 0, .int .i64 0, .int .u64 0] 88 (0, 0)] [.row gb0 [.int .i64 vw, .int .i64 po, .int .i64 un, .int .u64 par, .int .i64 cl, .int .i64 se, .int .i64 rq, .int .i64 opr, .string ⟨body.toArray⟩] 24 (0, 0)] hS.pick (by kernel_rfl) ?_
    clear hS
    intro F wx hR hB hS
    (refine d_take 0 rfl rfl (by kernel_rfl) (by kernel_rfl) (by kernel_rfl) (fun _ _ _ h => h) (by kernel_rfl) rfl (fun W hW => (by (go_simp; try with_reducible rfl))) hS.base ?_; simp only [Act.put, List.setIfInBounds_toArray, List.set_cons_zero, List.set_cons_succ])
    (refine d_take 1 rfl rfl (by kernel_rfl) (by kernel_rfl) (by kernel_rfl) (fun _ _ _ h => h) (by kernel_rfl) rfl (fun W hW => rdR) hS.base ?_; simp only [Act.put, List.setIfInBounds_toArray, List.set_cons_zero, List.set_cons_succ])
    (refine d_take 2 rfl rfl (by kernel_rfl) (by kernel_rfl) (by kernel_rfl) (fun _ _ _ h => h) (by kernel_rfl) rfl (fun W hW => (by (go_simp; try with_reducible rfl))) hS.base ?_; simp only [Act.put, List.setIfInBounds_toArray, List.set_cons_zero, List.set_cons_succ])
    (refine d_take 3 rfl rfl (by kernel_rfl) (by kernel_rfl) (by kernel_rfl) (fun _ _ _ h => h) (by kernel_rfl) rfl (fun W hW => rdR) hS.base ?_; simp only [Act.put, List.setIfInBounds_toArray, List.set_cons_zero, List.set_cons_succ])
    (refine d_take 4 rfl rfl (by kernel_rfl) (by kernel_rfl) (by kernel_rfl) (fun _ _ _ h => h) (by kernel_rfl) rfl (fun W hW => (by (go_simp; try with_reducible rfl))) hS.base ?_; simp only [Act.put, List.setIfInBounds_toArray, List.set_cons_zero, List.set_cons_succ])
    (refine d_take 5 rfl rfl (by kernel_rfl) (by kernel_rfl) (by kernel_rfl) (fun _ _ _ h => h) (by kernel_rfl) rfl (fun W hW => rdR) hS.base ?_; simp only [Act.put, List.setIfInBounds_toArray, List.set_cons_zero, List.set_cons_succ])
    (refine d_take 6 rfl rfl (by kernel_rfl) (by kernel_rfl) (by kernel_rfl) (fun _ _ _ h => h) (by kernel_rfl) rfl (fun W hW => (by (go_simp; try with_reducible rfl))) hS.base ?_; simp only [Act.put, List.setIfInBounds_toArray, List.set_cons_zero, List.set_cons_succ])
    (refine d_call 7 rfl rfl (by kernel_rfl) (by kernel_rfl) (by kernel_rfl) (fun _ _ _ h => h) (by kernel_rfl) rfl (fun W => by go_simp) hS.base (fun W hW => (HC.out W).mono (fun _ _ k => ⟨k.1, k.2 ▸ St.init W⟩)) ?_; simp only [Act.put, List.setIfInBounds_toArray, List.set_cons_zero, List.set_cons_succ])
    (refine d_take 8 rfl rfl (by kernel_rfl) (by kernel_rfl) (by kernel_rfl) (fun _ _ _ h => h) (by kernel_rfl) rfl (fun W hW => (by (go_simp; try with_reducible rfl))) hS.base ?_; simp only [Act.put, List.setIfInBounds_toArray, List.set_cons_zero, List.set_cons_succ])
    (refine d_all (rs := [9]) (by kernel_rfl) (by simp) ?_; intro wd hd; replace hS := hS.same hd; clear hd; intro i hi; have hi := List.mem_singleton.1 hi; subst hi)
    refine won_of rfl rfl rfl (a_storeA (vs := [.int .i64 po, .int .i64 vw, .int .u64 q]) (cs' := [.int .i64 po, .int .i64 vw, .int .u64 q]) hS rfl rfl rfl (by rfl) (by simp [Value.oneCell']) Sw.here (by simp) (by rfl) ?_)
    clear hS
    intro w3 hS
    replace hS := hB _ _ hS
    (refine ⟨fun h => absurd rfl h, ?_⟩; refine d_done (by kernel_rfl) ?_ _; intro wd hd; replace hS := hS.same hd; clear hd)
    simp only [Act.put, List.setIfInBounds_toArray, List.set_cons_zero, List.set_cons_succ]
    go_wp2_with (fail)
    exact end_cell hS rfl rfl 0 rfl rfl rfl rfl rfl ⟨by rw [HM.out]; rfl, hS.nil⟩
  · have HM : Hid (m = ⟨0, 0, 0⟩) := Lib.hid (by rw [hm, if_neg (by decide)])
    clear hm
    (go_enter Try.func48, Try.ntmps48)
    go_wp2_with (first | ((with_reducible refine g_box ?_); refine wl_of rfl ?_; refine wp_box hS rfl rfl rfl ?_; clear hS; intro gb0 w1 hS) | (go_at_call 64; refine (HP.out _).mono ?_; rintro e w' ⟨rfl, h⟩; replace hS := hS.call h; clear h) | (first | refine au1 (n := ?_) | (refine au2 (n := ?_); clear hS; intro w' hS) | (refine au3 (n := ?_); clear hS; intro gb w1 hS) | (refine au4 (n := ?_); clear hS; intro v1 w' hS) | ((with_reducible refine wl_guard ?_); refine stop_mem rfl rfl ?_)))
    exact end_cell hS rfl rfl 0 rfl rfl rfl rfl rfl ⟨by rw [HM.out]; rfl, hS.nil⟩
end
end Go.Proofs.Ytnjboimjlbgdiaa
