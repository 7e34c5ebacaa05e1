/-
  The statement on questions: the walk.
-/
import Derived.Test.YtggngdjncokanaaLedUnp4
import Derived.Test.YtggngdjncokanaaBackLaw
set_option linter.unusedSimpArgs false
set_option linter.unusedVariables false
set_option linter.unusedSectionVars false
namespace Go.Proofs.Ytggngdjncokanaa
open Go.RowKit Go.Cmp

theorem cat_byID : ∀ ys : List Nat, ∃ s, cat byID ys = some s
  | [] => ⟨[], rfl⟩
  | x :: r => by
    obtain ⟨s, hs⟩ := cat_byID r
    exact ⟨leB 8 x ++ s, by simp only [cat, byID, hs]⟩
theorem ask_same (D : Led) (op : Int) (h : op = 4 ∨ op = 5) (s : List UInt8) : (D.doIt op s).2 = D := by
  unfold Led.doIt
  rcases h with rfl | rfl
  · rw [if_neg (by omega), if_neg (by omega), if_pos rfl]; split <;> rfl
  · rw [if_neg (by omega), if_neg (by omega), if_neg (by omega), if_pos rfl]; split <;> rfl
theorem cut_front7 {α : Type} {f : α → List Value} {k : Nat} (hf : ∀ x, (f x).length = k) {xs : List α} {w : World} {v : Value} (hX : Rd w k v xs.length (xs.flatMap f)) {m : Nat} (hm : m ≤ xs.length) : Rd w k (cutSl v k 0 m) (xs.take m).length ((xs.take m).flatMap f) := by
  have := hX.cut 0 m (by omega) hm
  rw [Nat.sub_zero, Nat.zero_mul, List.drop_zero, flatMap_take f k hf] at this
  rw [List.length_take, Nat.min_eq_left hm]
  exact this
theorem g_min {P : Program} {ops : Array Oper} {rest : List Oper} {a : Act} {Q : Exit → Act → World → Prop} {w : World} {d : Option Tmp} {ty : TypeId} {pos : String} {af : Array Edge} {gd : Option (Nat × Bool)} {as' : Array Operand} {ts : Array TypeId} (H : wpList P ops Q (⟨d, .call ⟨.builtin .min, as', ts⟩, ty, pos, af, gd⟩ :: rest) a w) : wpList P ops Q (⟨d, .call ⟨.builtin .min, as', ts⟩, ty, pos, af, gd⟩ :: rest) a w := H
theorem x_min {P : Program} {o : Oper} {a : Act} {w : World} {x y : Operand} {ts : Array TypeId} (ho : o.op = .call { callee := .builtin .min, args := #[x, y], argTypes := ts }) {k k2 : IntKind} {i j m : Int} (hx : a.eval x = .int k i) (hy : a.eval y = .int k2 j) (hm : (if j < i then j else i) = m) : (execOp a.eval o).run P w = .ok (.value (.int k m)) w := by
  subst hm
  simp [execOp, ho, resolve, invoke, builtin, hx, hy, Builtin.min_, Builtin.min2]

set_option maxRecDepth 100000 in
set_option maxHeartbeats 16000000 in
theorem law_reads7 (vl vi : Value) (L : List Act7) (ids : List Nat) (w : World) (hL : Rd w 2 vl L.length (L.flatMap Act7.cells)) (hI : Rd w 1 vi ids.length (U ids)) (hok : ∀ x ∈ ids, x < 256 ^ 8) :
    Calls Try.prog 4 #[vl, vi] w fun e w' => e = .returned (.bool true) ∧ St [] w w' [] := by
  have hS := St.init w
  have hD := playedS_gd L
  have HPL := Lib.hid (fun (W : World) (M : List Ent) (hS : St [] w W M) => played7 hS (L := L) (vl := vl) (fun W hW => hW.old0 hL))
  obtain ⟨D, hDe⟩ : ∃ D, playedS L = D := ⟨_, rfl⟩
  rw [hDe] at hD HPL
  clear hDe
  obtain ⟨m, hm⟩ : ∃ m, min ids.length 4 = m := ⟨_, rfl⟩
  have hmI : (if (4 : Int) < (ids.length : Int) then (4 : Int) else (ids.length : Int)) = (m : Int) := by split <;> omega
  have hml : m ≤ ids.length := by omega
  have hM : Rd w 1 (cutSl vi 1 0 m) (ids.take m).length (U (ids.take m)) := by
    rw [U_flatMap] at hI ⊢
    exact cut_front7 (f := fun x : Nat => [.int .u64 (x : Int)]) (fun _ => rfl) hI hml
  have hl4 : (ids.take m).length ≤ 4 := by rw [List.length_take]; omega
  have hok2 : ∀ x ∈ ids.take m, x < 256 ^ 8 := fun x h => hok x (List.mem_of_mem_take h)
  have hmt : (ids.take m).length = m := by rw [List.length_take]; omega
  obtain ⟨ys, hys⟩ : ∃ ys, ids.take m = ys := ⟨_, rfl⟩
  rw [hys] at hM hl4 hok2 hmt
  have hP := fun (w' : World) (h : Rd w' 1 (cutSl vi 1 0 m) ys.length (U ys)) => putIDs_any ys (cutSl vi 1 0 m) _ w' rfl hok2 h
  have HM := Lib.hid hM
  have HMI := Lib.hid hmI
  clear hys hM hm hmI
  rcases putS_cases byID ys with ⟨s, e1, e2, e3, e4⟩ | e1
  · rw [e1] at hP
    have HP := Lib.hid hP
    have hsl : s.length ≤ 1000 := by have := cat_len byID byID_len _ _ e2; omega
    clear e1 e2 e3 e4 hP
    have hpl := lPack_len hD.ok
    have hr := fun w => refUnp_any (lPack D) (by omega) w
    simp only [unp_pack hD.ok (good_flags hD), UnpAt] at hr
    have HR := Lib.hid hr
    have HPK := Lib.hid (fun (W : World) (g : Nat) (M : List Ent) (hS : St [] w W (ledg g D :: M)) => ledg_pack hS hD.ok)
    have HD := Lib.hid (fun (W : World) (g : Nat) (op : Int) (h : op = 4 ∨ op = 5) (M : List Ent) (hS : St [] w W (ledg g D :: M)) => show Calls Try.prog 14 #[.pointer (some ⟨g, 0, none⟩), .int .i64 op, .string ⟨s.toArray⟩] W (fun e w' => e = .returned (.string ⟨(D.doIt op s).1.toArray⟩) ∧ St [] w w' (ledg g D :: M)) by have := ledg_do hS hD.ok op s hsl; rwa [ask_same D op h s] at this)
    have HE := Lib.hid (fun (W : World) (g : Nat) (op : Int) (h : op = 4 ∨ op = 5) (M : List Ent) (hS : St [] w W (rledg g D :: M)) => show Calls Try.prog 18 #[.pointer (some ⟨g, 0, none⟩), .int .i64 op, .string ⟨s.toArray⟩] W (fun e w' => e = .returned (.string ⟨(D.doIt op s).1.toArray⟩) ∧ St [] w w' (rledg g D :: M)) by have := rledg_do hS hD.ok op s hsl; rwa [ask_same D op h s] at this)
    clear hr hD
    generalize lPack D = pk at HR HPK
    (go_enter Try.func4, Try.ntmps4)
    go_wp2_with (first | (go_at_call 10; refine (awake7 _).mono ?_; rintro e w' ⟨rfl, h⟩; replace hS := hS.call h; clear h) | fail)
    refine (HPL.out _ _ hS).mono ?_
    clear hS
    rintro e w' ⟨gx, rfl, hS⟩
    go_wp2_with (first | ((with_reducible refine g_min ?_); refine wl_run rfl (x_min (m := (m : Int)) rfl rfl rfl HMI.out) ?_) | ((with_reducible refine g_cut ?_); refine wl_run rfl (x_cutHi (ti := Try.t43) rfl (hS.old0 hI) rfl rfl rfl rfl rfl (by omega) (by omega)) ?_) | (go_at_call 16; refine (HP.out _ (hS.old0 HM.out)).mono ?_; rintro e w' ⟨rfl, h⟩; replace hS := hS.call h; clear h; simp only [List.nil_append] at hS) | (go_at_call 15; refine (HPK.out _ _ _ (hS.out (by (repeat (first | exact Out.here | apply Out.there))))).mono ?_; clear hS; rintro e w' ⟨rfl, hS⟩) | (go_at_call 14; refine (HD.out _ _ _ (by omega) _ (hS.out (by (repeat (first | exact Out.here | apply Out.there))))).mono ?_; clear hS; rintro e w' ⟨rfl, hS⟩) | (go_at_call 17; refine (HR.out _).mono ?_; rintro e w' ⟨gr, rfl, h⟩; replace hS := hS.call h; clear h; simp only [List.cons_append, List.nil_append] at hS) | (go_at_call 18; refine (HE.out _ _ _ (by omega) _ (hS.out (by (repeat (first | exact Out.here | apply Out.there))))).mono ?_; clear hS; rintro e w' ⟨rfl, hS⟩) | (first | ((with_reducible refine g_load ?_); refine k_read rfl (h := ?_)) | ((with_reducible refine g_len ?_); refine k_len rfl (h := ?_)) | ((with_reducible refine g_index ?_); refine k_idx rfl (h := ?_)) | ((with_reducible refine g_field ?_); refine k_fld rfl (h := ?_)) | ((with_reducible refine g_store ?_); refine wl_of rfl ?_; first | (refine k_sta hS rfl rfl rfl (h := ?_); clear hS; intro w' hS; simp only [List.take, List.drop, List.cons_append, List.nil_append, List.length_cons, List.length_nil] at hS) | (first | ((first | (refine k_st1 (v := .int _ _) hS rfl rfl rfl (h := ?_)) | (refine k_st1 (v := .bool _) hS rfl rfl rfl (h := ?_)) | (refine k_st1 (v := .string _) hS rfl rfl rfl (h := ?_)) | (refine k_st1 (v := .slice none 0 0) hS rfl rfl rfl (h := ?_))); clear hS; intro w' hS; simp only [List.set_cons_zero, List.set_cons_succ] at hS) | ((refine k_st1  hS rfl rfl rfl (h := ?_)); clear hS; intro w' hS; simp only [List.set_cons_zero, List.set_cons_succ] at hS; simp only [Act.eval, Array.getD_eq_getD_getElem?, List.getElem?_toArray, List.getElem?_cons_succ, List.getElem?_cons_zero, Option.getD_some] at hS)) | (first | (refine k_ste (v := .int _ _) hS rfl rfl rfl (h := ?_); clear hS; intro w' hS) | (refine k_ste (v := .bool _) hS rfl rfl rfl (h := ?_); clear hS; intro w' hS) | (refine k_ste (v := .string _) hS rfl rfl rfl (h := ?_); clear hS; intro w' hS))) | ((with_reducible refine g_alloc ?_); refine wl_of rfl ?_; refine wp_alloc hS rfl rfl rfl rfl ?_; clear hS; intro gb w1 hS) | ((with_reducible refine g_box ?_); refine wl_of rfl ?_; refine wp_box hS rfl rfl rfl ?_; clear hS; intro gb w1 hS) | ((with_reducible refine g_bs ?_); refine wl_of rfl ?_; (first | refine a_build1 (v := .int _ _) hS rfl rfl rfl rfl (by rfl) (by simp) ?_ | refine a_build1 (v := .string _) hS rfl rfl rfl rfl (by rfl) (by simp) ?_ | refine a_build1 (v := .bool _) hS rfl rfl rfl rfl (by rfl) (by simp) ?_ | refine a_build1 (v := .agg _) hS rfl rfl rfl rfl (by rfl) (by simp) ?_ | refine a_build1  hS rfl rfl rfl rfl (by rfl) (by simp) ?_); clear hS; intro v1 w' hS; simp only [List.length_cons, List.length_nil, Nat.zero_add] at hS; try simp only [Nat.reduceAdd] at hS) | ((with_reducible refine g_cut ?_); refine k_str rfl (h := ?_)) | ((with_reducible refine g_indexV ?_); refine k_six rfl (h := ?_)) | ((with_reducible refine g_bin ?_); refine k_cat rfl (h := ?_)) | ((with_reducible refine g_conv ?_); refine k_tos rfl (h := ?_)) | ((with_reducible refine wl_guard ?_); refine stop_mem rfl rfl ?_)))
    go_ret
    exact ⟨by first | rfl | (simp; done) | (simp; omega), hS.nil⟩
  · have hz : (ys.length : Int) = 0 := by
      obtain ⟨s, hs⟩ := cat_byID ys
      unfold putS at e1
      split at e1
      · omega
      · rw [hs] at e1
        simp at e1
    rw [e1] at hP
    have HP := Lib.hid hP
    clear hP e1 hD
    (go_enter Try.func4, Try.ntmps4)
    go_wp2_with (first | (go_at_call 10; refine (awake7 _).mono ?_; rintro e w' ⟨rfl, h⟩; replace hS := hS.call h; clear h) | fail)
    refine (HPL.out _ _ hS).mono ?_
    clear hS
    rintro e w' ⟨gx, rfl, hS⟩
    go_wp2_with (first | ((with_reducible refine g_min ?_); refine wl_run rfl (x_min (m := (m : Int)) rfl rfl rfl HMI.out) ?_) | ((with_reducible refine g_cut ?_); refine wl_run rfl (x_cutHi (ti := Try.t43) rfl (hS.old0 hI) rfl rfl rfl rfl rfl (by omega) (by omega)) ?_) | (go_at_call 16; refine (HP.out _ (hS.old0 HM.out)).mono ?_; rintro e w' ⟨rfl, h⟩; replace hS := hS.call h; clear h; simp only [List.nil_append] at hS) | ((with_reducible refine g_len ?_); first | refine wl_run rfl (a_len (u := cutSl vi 1 0 m) rfl rfl rfl (hS.old0 HM.out)) ?_ | refine wl_run rfl (a_len rfl rfl rfl (hS.old0 hI)) ?_) | (first | ((with_reducible refine g_load ?_); refine k_read rfl (h := ?_)) | ((with_reducible refine g_len ?_); refine k_len rfl (h := ?_)) | ((with_reducible refine g_index ?_); refine k_idx rfl (h := ?_)) | ((with_reducible refine g_field ?_); refine k_fld rfl (h := ?_)) | ((with_reducible refine g_store ?_); refine wl_of rfl ?_; first | (refine k_sta hS rfl rfl rfl (h := ?_); clear hS; intro w' hS; simp only [List.take, List.drop, List.cons_append, List.nil_append, List.length_cons, List.length_nil] at hS) | (first | ((first | (refine k_st1 (v := .int _ _) hS rfl rfl rfl (h := ?_)) | (refine k_st1 (v := .bool _) hS rfl rfl rfl (h := ?_)) | (refine k_st1 (v := .string _) hS rfl rfl rfl (h := ?_)) | (refine k_st1 (v := .slice none 0 0) hS rfl rfl rfl (h := ?_))); clear hS; intro w' hS; simp only [List.set_cons_zero, List.set_cons_succ] at hS) | ((refine k_st1  hS rfl rfl rfl (h := ?_)); clear hS; intro w' hS; simp only [List.set_cons_zero, List.set_cons_succ] at hS; simp only [Act.eval, Array.getD_eq_getD_getElem?, List.getElem?_toArray, List.getElem?_cons_succ, List.getElem?_cons_zero, Option.getD_some] at hS)) | (first | (refine k_ste (v := .int _ _) hS rfl rfl rfl (h := ?_); clear hS; intro w' hS) | (refine k_ste (v := .bool _) hS rfl rfl rfl (h := ?_); clear hS; intro w' hS) | (refine k_ste (v := .string _) hS rfl rfl rfl (h := ?_); clear hS; intro w' hS))) | ((with_reducible refine g_alloc ?_); refine wl_of rfl ?_; refine wp_alloc hS rfl rfl rfl rfl ?_; clear hS; intro gb w1 hS) | ((with_reducible refine g_box ?_); refine wl_of rfl ?_; refine wp_box hS rfl rfl rfl ?_; clear hS; intro gb w1 hS) | ((with_reducible refine g_bs ?_); refine wl_of rfl ?_; (first | refine a_build1 (v := .int _ _) hS rfl rfl rfl rfl (by rfl) (by simp) ?_ | refine a_build1 (v := .string _) hS rfl rfl rfl rfl (by rfl) (by simp) ?_ | refine a_build1 (v := .bool _) hS rfl rfl rfl rfl (by rfl) (by simp) ?_ | refine a_build1 (v := .agg _) hS rfl rfl rfl rfl (by rfl) (by simp) ?_ | refine a_build1  hS rfl rfl rfl rfl (by rfl) (by simp) ?_); clear hS; intro v1 w' hS; simp only [List.length_cons, List.length_nil, Nat.zero_add] at hS; try simp only [Nat.reduceAdd] at hS) | ((with_reducible refine g_cut ?_); refine k_str rfl (h := ?_)) | ((with_reducible refine g_indexV ?_); refine k_six rfl (h := ?_)) | ((with_reducible refine g_bin ?_); refine k_cat rfl (h := ?_)) | ((with_reducible refine g_conv ?_); refine k_tos rfl (h := ?_)) | ((with_reducible refine wl_guard ?_); refine stop_mem rfl rfl ?_)))
    go_ret
    exact ⟨by first | rfl | (simp; done) | (simp; omega), hS.nil⟩
end Go.Proofs.Ytggngdjncokanaa
