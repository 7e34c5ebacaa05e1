/-
  A journal: the chapter's example, by the program.
  A formatted disk with its journal, by the program.
  A disk, maybe with a journal on it: what is done, by the program, over all cases.
  A disk with a journal on it: what is done, by the program, where the slots are known; an act that is far.
-/
import Derived.Test.YtnjboimjlbgdiaaJrnQ
import Derived.Test.YtnjboimjlbgdiaaJrn6
import Derived.Test.YtnjboimjlbgdiaaJrnB
import Derived.Test.YtnjboimjlbgdiaaFieldV
import Derived.Test.YtnjboimjlbgdiaaWldA
import Derived.Test.YtnjboimjlbgdiaaJrn10
set_option linter.unusedSimpArgs false
set_option linter.unusedVariables false
set_option linter.unusedSectionVars false
set_option maxRecDepth 100000
namespace Go.Proofs.Ytnjboimjlbgdiaa
open Go.RowKit Go.Cmp

section
set_option maxHeartbeats 16000000 in
theorem awake13_any (w : World) : Calls Try.prog 7 #[] w fun e w' => e = .returned (.bool true) ∧ St [] w w' [] := by
  have hS := St.init w
  obtain ⟨D0, h0⟩ : ∃ D0, newDsk 32 = D0 := ⟨_, rfl⟩
  have hf0 : FmtI D0 0 := by rw [← h0]; exact newDsk_fmt
  have HNW := Lib.hid (fun (w0 w : World) (M : List Ent) (hS : St [] w0 w M) => disk_new 32 (by omega) (by omega) hS)
  rw [h0] at HNW
  obtain ⟨hf1, hv⟩ := fmt_void hf0
  obtain ⟨D1, h1⟩ : ∃ D1, (fmtJ D0).2 = D1 := ⟨_, rfl⟩
  rw [h1] at hv
  have HFM : Hid (∀ (w0 w : World) (M : List Ent) (g : Nat), St [] w0 w (disk g D0 :: M) → Calls Try.prog 25 #[.pointer (some ⟨g, 0, none⟩)] w fun x w' => x = .returned (.int .i64 0) ∧ St [] w0 w' (disk g D1 :: M)) := Lib.hid (fun w0 w M g hS => by
    refine (jrnFormat_any hS hf0).mono ?_
    rintro e w' ⟨a, _, b⟩
    rw [h1] at b
    exact ⟨a, b⟩)
  obtain ⟨o1, o2, o3⟩ := fresh_open hv
  have hst := hv.steps
  have HOP := Lib.hid (fun (w0 w : World) (M : List Ent) (g : Nat) (hS : St [] w0 w (disk g D1 :: M)) => jrnOpen_any hS 0 (by omega) (OpnI 0 D1.steps) ⟨hv.on, by simp, by simp, rfl⟩ (fun s D J h hs => opnI_step (by omega) h hs))
  obtain ⟨R, hR⟩ : ∃ R, openJ D1 0 = R := ⟨_, rfl⟩
  rw [hR] at HOP o1 o2 o3
  obtain ⟨er, J1, D1'⟩ := R
  simp only at o1 o2 o3
  subst o1
  subst o2
  have hhd := fresh_head o3
  have HH1 := Lib.hid (fun (w0 w : World) (M : List Ent) (g gj : Nat) (hS : St [] w0 w (.row gj (jcells g J1) 68 (0, 0) :: M)) => jrnHead_any hS o3.len (by rw [o3.check]; omega))
  rw [hhd] at HH1
  obtain ⟨J2, D2, p1, p2, p3, p4, p5, p6, p7⟩ := fresh_put hv o3
  have HPU := Lib.hid (fun (w0 w : World) (M : List Ent) (g gj : Nat) (hS : St [] w0 w (disk g D1' :: .row gj (jcells g J1) 68 (0, 0) :: M)) => jrnPut_any hS hv.on.ok (by rw [hv.on.way]; decide) (by omega) o3.len (by rw [o3.check]; omega) awE (by decide) (by decide) (by decide))
  rw [p1] at HPU
  have HH2 := Lib.hid (fun (w0 w : World) (M : List Ent) (g gj : Nat) (hS : St [] w0 w (.row gj (jcells g J2) 68 (0, 0) :: M)) => jrnHead_any hS p4 (by rw [p5]; omega))
  rw [p6] at HH2
  have hr5 : D2.read 5 = (nth D2.lasts 5, 0) := p2.read (i := 5) (by omega)
  have hr13 : D2.read 13 = (nth D2.lasts 13, 0) := p2.read (i := 13) (by omega)
  have HR5 := Lib.hid (fun (w0 w : World) (M : List Ent) (g : Nat) (hS : St [] w0 w (disk g D2 :: M)) => disk_read hS p2.ok 5)
  have HR13 := Lib.hid (fun (w0 w : World) (M : List Ent) (g : Nat) (hS : St [] w0 w (disk g D2 :: M)) => disk_read hS p2.ok 13)
  rw [hr5] at HR5
  rw [hr13] at HR13
  have HJU := Lib.hid (fun w => slotJudge_any (nth D2.lasts 5) (nth D2.lasts 13) 1 (by rw [p2.text (by omega)]; omega) (by rw [p2.text (by omega)]; omega) w)
  generalize nth D2.lasts 5 = t5 at HR5 HJU p7
  generalize nth D2.lasts 13 = t13 at HR13 HJU p7
  generalize judgeS t5 t13 1 = x at HJU p7
  obtain ⟨kd, sb, en⟩ := x
  simp only at p7
  subst p7
  clear h0 hf0 hf1 hv h1 hst o3 hhd p1 p2 p3 p4 p5 p6 hR hr5 hr13
  (go_enter Try.func7, Try.ntmps7)
  go_wp2_with (first | go_skip | (go_at_call 24; refine (HNW.out _ _ _ hS).mono ?_; clear hS; rintro e w' ⟨gd, rfl, hS⟩) | (go_at_call 25; (refine (HFM.out _ _ _ _ (hS.out (by first | ((repeat (first | exact Out.here | apply Out.there)); done) | fail))).mono ?_; clear hS; rintro e w' ⟨rfl, hS⟩)) | fail)
  refine (HOP.out _ _ _ _ hS).mono ?_
  clear hS
  rintro e w' h
  rcases h with ⟨h, _⟩ | ⟨_, gj, rfl, hS⟩
  · exact absurd rfl h
  replace hS : St [] w _ [disk gd D1', .row gj (jcells gd J1) 68 (0, 0)] := hS
  go_wp2_with (first | go_skip | (go_at_call 14; (refine (HH1.out _ _ [disk gd D1'] _ _ hS.pick).mono ?_; clear hS; rintro e w' ⟨rfl, hS⟩)) | fail)
  refine (HPU.out _ _ [] _ _ hS.pick).mono ?_
  clear hS
  rintro e w' ⟨rfl, hS⟩
  go_wp2_with (fail)
  refine (HR5.out _ _ _ _ hS).mono ?_
  clear hS
  rintro e w' ⟨rfl, hS⟩
  go_wp2_with (fail)
  refine (HR13.out _ _ _ _ hS).mono ?_
  clear hS
  rintro e w' ⟨rfl, hS⟩
  go_wp2_with (first | go_skip | (go_at_call 14; (refine (HH2.out _ _ [disk gd D2] _ _ hS.pick).mono ?_; clear hS; rintro e w' ⟨rfl, hS⟩)) | (go_at_call 27; refine (HJU.out _).mono ?_; rintro e w' ⟨rfl, h⟩; replace hS := hS.call h; clear h) | (refine wl_run rfl (v := .int .i64 1) (a_fieldV rfl rfl rfl rfl rfl rfl rfl) ?_) | fail)
  go_ret
  exact ⟨rfl, hS.nil⟩
end
end Go.Proofs.Ytnjboimjlbgdiaa
namespace Go.Proofs.Ytnjboimjlbgdiaa
open Go.RowKit Go.Cmp

section
variable {gw gd gj : Nat}
set_option maxHeartbeats 16000000 in
theorem begin13_any : ∃ D J, VoidD D ∧ FreshJ J ∧ ∀ (w : World), Calls Try.prog 16 #[] w fun e w' => ∃ gw gd gj, e = .returned (.pointer (some ⟨gw, 0, none⟩)) ∧ St [] w w' (wents gw gd gj ⟨D, some J, 0⟩) := by
  obtain ⟨D0, h0⟩ : ∃ D0, newDsk 32 = D0 := ⟨_, rfl⟩
  have hf0 : FmtI D0 0 := by rw [← h0]; exact newDsk_fmt
  have HNW := Lib.hid (fun (w0 w : World) (M : List Ent) (hS : St [] w0 w M) => disk_new 32 (by omega) (by omega) hS)
  rw [h0] at HNW
  obtain ⟨hf1, hv⟩ := fmt_void hf0
  obtain ⟨D1, h1⟩ : ∃ D1, (fmtJ D0).2 = D1 := ⟨_, rfl⟩
  rw [h1] at hv
  have HFM : Hid (∀ (w0 w : World) (M : List Ent) (g : Nat), St [] w0 w (disk g D0 :: M) → Calls Try.prog 25 #[.pointer (some ⟨g, 0, none⟩)] w fun x w' => x = .returned (.int .i64 0) ∧ St [] w0 w' (disk g D1 :: M)) := Lib.hid (fun w0 w M g hS => by
    refine (jrnFormat_any hS hf0).mono ?_
    rintro e w' ⟨a, _, b⟩
    rw [h1] at b
    exact ⟨a, b⟩)
  obtain ⟨o1, o2, o3⟩ := fresh_open hv
  have hst := hv.steps
  have HOP := Lib.hid (fun (w0 w : World) (M : List Ent) (g : Nat) (hS : St [] w0 w (disk g D1 :: M)) => jrnOpen_any hS 0 (by omega) (OpnI 0 D1.steps) ⟨hv.on, by simp, by simp, rfl⟩ (fun s D J h hs => opnI_step (by omega) h hs))
  obtain ⟨R, hR⟩ : ∃ R, openJ D1 0 = R := ⟨_, rfl⟩
  rw [hR] at HOP o1 o2 o3
  obtain ⟨er, J1, D1'⟩ := R
  simp only at o1 o2 o3
  subst o1
  subst o2
  refine ⟨D1', J1, hv, o3, fun w => ?_⟩
  have hS := St.init w
  clear h0 hf0 hf1 hv h1 hst o3 hR
  (go_enter Try.func16, Try.ntmps16)
  go_wp2_with (first | go_skip | (go_at_call 24; refine (HNW.out _ _ _ hS).mono ?_; clear hS; rintro e w' ⟨gd, rfl, hS⟩) | (go_at_call 25; (refine (HFM.out _ _ _ _ (hS.out (by first | ((repeat (first | exact Out.here | apply Out.there)); done) | fail))).mono ?_; clear hS; rintro e w' ⟨rfl, hS⟩)) | fail)
  refine (HOP.out _ _ _ _ hS).mono ?_
  clear hS
  rintro e w' h
  rcases h with ⟨h, _⟩ | ⟨_, gj, rfl, hS⟩
  · exact absurd rfl h
  replace hS : St [] w _ [disk gd D1', .row gj (jcells gd J1) 68 (0, 0)] := hS
  go_wp2_with (first | go_skip | ((with_reducible refine g_box ?_); refine wl_of rfl ?_; refine wp_box hS rfl rfl rfl ?_; clear hS; intro gw w1 hS) | fail)
  go_ret
  exact ⟨gw, gd, gj, rfl, hS⟩
end
end Go.Proofs.Ytnjboimjlbgdiaa
namespace Go.Cmp
open Go.RowKit
/-- What a walk of Scrub needs. -/
structure ScrI (c : Nat) (B : Int) (s : Nat) (D : Dsk) (J : Jrn) : Prop where
  on : OnJ D
  steps : D.steps ≤ B + 4 * s
  len : J.items.length = 8
  check : J.check = c
  fit : ∀ i, i < 8 → ItFit (nth J.items i)
  kinds : ∀ i, i < 8 → (nth J.items i).kind ≠ 0 → (nth J.items i).kind ≠ 3 → (nth J.items i).stub.Fit
theorem scrubX_fit {x : Sl} {t : It} (h : ItFit t) (hk : t.kind ≠ 0 → t.kind ≠ 3 → t.stub.Fit) : ItFit (scrubX x t) ∧ ((scrubX x t).kind ≠ 0 → (scrubX x t).kind ≠ 3 → (scrubX x t).stub.Fit) := by
  unfold scrubX
  split
  · rename_i hc
    have hf := h.1 (.inl hc.1)
    exact ⟨⟨fun _ => hf, hf.parent, hf.sum⟩, fun _ _ => hf⟩
  · exact ⟨h, hk⟩
theorem scrI_step {c : Nat} {B : Int} (hB : B + 100 ≤ 1000000000) {s : Nat} {D : Dsk} {J : Jrn} (h : ScrI c B s D J) (hs : s < 8) :
    J.items.length = 8 ∧ OnJ D ∧ D.steps + 8 < 1000000000 ∧ ((scrubDo D J s).1 = 0 → ScrI c B (s + 1) (scrubDo D J s).2 { J with items := J.items.set s (scrubAt D J s) }) := by
  have hst := h.steps
  have hx := scrubX_fit (x := slAt D s) (h.fit s hs) (h.kinds s hs)
  refine ⟨h.len, h.on, by omega, fun h0 => ?_⟩
  obtain ⟨a, _, _, d, _⟩ := (scrub_acts h.on (by omega) J hs hx.2).on h0
  have := scrubA_len (slAt D s) (nth J.items s) (J.opAt s)
  refine ⟨a, by omega, by simpa using h.len, h.check, fun i hi => ?_, fun i hi => ?_⟩
  · show ItFit (nth (J.items.set s _) i)
    rw [nth_setN (by rw [h.len]; exact hs), scrubAt_X h.on J hs]
    split
    · exact hx.1
    · exact h.fit i hi
  · show (nth (J.items.set s _) i).kind ≠ 0 → (nth (J.items.set s _) i).kind ≠ 3 → (nth (J.items.set s _) i).stub.Fit
    rw [nth_setN (by rw [h.len]; exact hs), scrubAt_X h.on J hs]
    split
    · exact hx.2
    · exact h.kinds i hi
end Go.Cmp
namespace Go.Proofs.Ytnjboimjlbgdiaa
open Go.RowKit Go.Cmp

section
variable {S : List Nat} {w0 w : World} {M : List Ent} {gj : Nat}
theorem scrub13 {g : Nat} {D : Dsk} {J : Jrn} (hon : OnJ D) (hst : D.steps + 200 ≤ 1000000000) (hJl : J.items.length = 8) (hJc : J.check ≤ 72057594037927927) (hfit : ∀ i, i < 8 → ItFit (nth J.items i)) (hk : ∀ i, i < 8 → (nth J.items i).kind ≠ 0 → (nth J.items i).kind ≠ 3 → (nth J.items i).stub.Fit)
    (hS : St S w0 w (disk g D :: .row gj (jcells g J) 68 (0, 0) :: M)) :
    Calls Try.prog 12 #[.pointer (some ⟨gj, 0, none⟩)] w fun x w' => x = .returned (.int .i64 (scrubJ D J).1) ∧ St S w0 w' (disk g (scrubJ D J).2.2 :: .row gj (jcells g (scrubJ D J).2.1) 68 (0, 0) :: M) :=
  jrnScrub_any hS hJl (by omega) (ScrI J.check D.steps) ⟨hon, by simp, hJl, rfl, hfit, hk⟩ (fun s D J h hs => scrI_step (by omega) h hs) (fun s D J h hs => by
    have hx := scrubX_fit (x := slAt D s) (h.fit s hs) (h.kinds s hs)
    rw [scrubAt_X h.on J hs]
    exact hx.1.2)
end
end Go.Proofs.Ytnjboimjlbgdiaa
namespace Go.Cmp
open Go.RowKit
theorem a_fieldA {P : Program} {o : Oper} {a : Act} {w : World} {t : TypeId} {x : Operand} {f : Nat} (ho : o.op = .field t x f) {cs : List Value} (hx : a.eval x = .agg cs.toArray)
    {fields : Array Field} (hd : P.underlying t = some (.struct fields)) {fl : Field} (hf : fields[f]? = some fl) {fs2 : Array Field} (hu : P.underlying fl.type = some (.struct fs2)) {k : Nat} (hk : (P.info? fl.type).map (·.size) = some k) {vs : List Value} (hv : (cs.drop fl.offset).take k = vs) :
    (execOp a.eval o).run P w = .ok (.value (.agg vs.toArray)) w := by
  obtain ⟨ti, he, hk⟩ := Option.map_eq_some_iff.1 hk
  have hag : (isAgg fl.type).run P w = .ok true w := by
    unfold isAgg
    simp [run_underlying hu]
  have hx2 : cs.toArray.extract fl.offset (fl.offset + k) = vs.toArray := by
    rw [List.extract_toArray, ← hv]
    simp [List.extract_eq_take_drop]
  simp [execOp, ho, hx, Instr.field, asAgg, run_underlying hd, hf, part, hag, sizeOf, typeInfo, he, hk, hv]
theorem act_one (x : JAct) {v : Value} (hv : v.oneCell' = true) : ∀ u ∈ x.cells v, u.oneCell' = true := by
  intro u hu
  simp only [JAct.cells, En.cells, List.cons_append, List.nil_append, List.mem_cons, List.not_mem_nil, or_false] at hu
  rcases hu with rfl | rfl | rfl | rfl | rfl | rfl | rfl | rfl | rfl | rfl | rfl | rfl | rfl | rfl | rfl <;> first | rfl | exact hv
theorem St.back {S : List Nat} {w0 w : World} {A B : List Ent} (h : St S w0 w (A ++ (B ++ []))) : St S w0 w (B ++ A) := h.perm (by rw [List.append_nil]; exact List.perm_append_comm)
theorem St.ahead {S : List Nat} {w0 w : World} {A B : List Ent} (h : St S w0 w (B ++ A)) : St S w0 w (A ++ (B ++ [])) := h.perm (by rw [List.append_nil]; exact List.perm_append_comm)
/-- A formatted disk. -/
theorem wi_start {PS : Nat → Nat → Sl → It → Prop} {FS : Nat → Nat → Sl → Prop} {D : Dsk} {J : Jrn} (hv : VoidD D) (hJ : FreshJ J) (h0 : ∀ s n, s < 8 → 0 < n → PS s n voidSl zeroI) : WI PS FS 1017 ⟨D, some J, 0⟩ := by
  have hc := hJ.check
  have e : (⟨D, some J, 0⟩ : Wd) = ⟨D, some J, J.check⟩ := by rw [hc]
  rw [e]
  refine .on D J ⟨hv.on, hJ.len, by rw [hc]; omega, hv.steps, fun s hs => ?_, fun s hs => ?_⟩
  · rw [hv.sl s hs]
    exact ⟨fun h => absurd h (by simp [voidSl]), fun _ => rfl, fun h => absurd h (by simp [voidSl]), fun _ => rfl⟩
  · rw [hv.sl s hs, hJ.zero s hs]
    have := (J.opAt_mod hs).2.1
    exact h0 _ _ hs (by omega)
/-- A put that is well, by an act. -/
theorem deed_put {PS : Nat → Nat → Sl → It → Prop} {FS : Nat → Nat → Sl → Prop} {B : Int} {W : Wd} (h : WI PS FS B W) (hB : B + 300 ≤ 1000000000) (hs : ∀ s n x t, PS s n x t → t.kind = 1 → t.stub = stubE t.ent) {x : JAct} (hp : x.e.parent < 18446744073709551616) (hx : x.kind = 1) (hW : W.J.isSome = true) (hd : (deedW W x).1 = 0) :
    ∃ D1 J1, (deedW W x).2 = ⟨D1, some J1, J1.check⟩ ∧ x.e.right = true ∧ J1.has x.e.op = true ∧ nth J1.items (x.e.op % 8).toNat = ⟨1, stubE x.e, x.e⟩ ∧ J1.check = W.c := by
  cases h with
  | off D c hc hs h => simp at hW
  | on D J h =>
    have e : deedW ⟨D, some J, J.check⟩ x = ((putJ D J x.e).1, endW ⟨(putJ D J x.e).2.2, some (putJ D J x.e).2.1, J.check⟩) := by
      unfold deedW
      rw [if_pos (by rw [hx]; decide)]
      simp only
      unfold callJ
      rw [if_pos hx]
    rw [e] at hd ⊢
    simp only at hd ⊢
    have hst := h.steps
    have hoff := putJ_on h.on (by omega) hp hd
    have hc := putJ_check D J x.e
    obtain ⟨a, b, c⟩ := putJ_told h.len (fun s hs2 => hs _ _ _ _ (h.ps s hs2)) hd
    refine ⟨(putJ D J x.e).2.2, (putJ D J x.e).2.1, ?_, a, ?_, c, hc⟩
    · unfold endW
      rw [if_neg (by rw [hoff]; simp)]
    · unfold Jrn.has at b ⊢
      rw [hc]
      exact b
end Go.Cmp
namespace Go.Proofs.Ytnjboimjlbgdiaa
open Go.RowKit Go.Cmp

section
variable {S : List Nat} {w0 w : World} {M : List Ent} {gw gd gj : Nat}
theorem does13_any {PS : Nat → Nat → Sl → It → Prop} {FS : Nat → Nat → Sl → Prop} (K : Keeps PS FS) {B : Int} {W : Wd} (h : WI PS FS B W) (hB : B + 400 ≤ 1000000000) {v0 : World} (X : JAct × Value) (hX : JActOk v0 X) (hxb : X.1.e.body.length ≤ 1000) (hP : Reads S w0 M 1 X.2 X.1.picks.length (X.1.picks.flatMap num))
    (hS : St S w0 w (wents gw gd gj W ++ M)) :
    Calls Try.prog 19 #[.pointer (some ⟨gw, 0, none⟩), .agg (X.1.cells X.2).toArray] w (DoesPost S w0 gw gd M (deedW W X.1)) := by
  cases h with
  | on D J h =>
    have hst := h.steps
    exact does13_some D J J.check hS h.on h.len h.check (by omega) X.1 X.2 hX.par (by omega) hX.op hX.n1 hX.n2 hP hX.picks
      (Lib.hid fun S w0 w M hS => scrub13 h.on (by omega) h.len h.check (fun i hi => (K.fit _ _ _ _ (h.ps i hi)).1) (fun i hi => (K.fit _ _ _ _ (h.ps i hi)).2) hS)
  | off D c hc hs h =>
    exact does13_none D c hS h.ok hc X.1 X.2 hX.n1 hX.n2 hP hX.picks (WI.start_open K (.off D c hc hs h) (by omega) X.1.picks)
set_option maxHeartbeats 4000000 in
theorem far13_any (x : JAct) (vp : Value) (w : World) :
    Calls Try.prog 17 #[.agg (x.cells vp).toArray] w fun e w' => e = .returned (.bool (decide (1000 < (x.e.body.length : Int)))) ∧ St [] w w' [] := by
  have hS := St.init w
  (go_enter Try.func17, Try.ntmps17)
  go_wp2_with (first | go_skip | ((with_reducible refine g_box ?_); refine wl_of rfl ?_; refine wp_box hS rfl rfl rfl ?_; clear hS; intro ga w1 hS) | ((with_reducible refine g_load ?_); refine wl_run rfl (by exact a_load1 hS (off := 9) rfl rfl rfl rfl (by (repeat (first | exact Ix.here | apply Ix.there))) (by rfl)) ?_) | fail)
  go_ret
  exact ⟨by simp, hS.nil⟩
end
end Go.Proofs.Ytnjboimjlbgdiaa
