/-
  The document's machine: its bytes, its parts told apart.
-/
import Derived.Test.YtjjiibcnknljfaaGreatMacRef1
import Derived.Test.YtjjiibcnknljfaaGreatSesP
import Derived.Test.YtjjiibcnknljfaaGreatLedE
import Derived.Test.YtjjiibcnknljfaaGreatMac5
set_option linter.unusedSimpArgs false
set_option linter.unusedVariables false
set_option linter.unusedSectionVars false
set_option maxRecDepth 100000
namespace Go.Proofs.YtjjiibcnknljfaaGreat
open Go.RowKit Go.Cmp

section
variable {S : List Nat} {w0 w : World} {M : List Ent} {g : Nat} {m : Mac}

set_option maxHeartbeats 8000000 in
theorem rmach_packO {gs gl ms : Nat} {mo mv : Int} {T : List Ses} {A : List Acc} {X : List Tra} {vt xa xt : Value} (hS : St S w0 w (.row g [.int .i64 mo, .int .i64 mv, .int .u64 ms, .pointer (some ⟨gs, 0, none⟩), .pointer (some ⟨gl, 0, none⟩)] 62 (0, 0) :: .row gs [vt] 65 (0, 0) :: .vec vt 41 5 T.length (T.flatMap Ses.cells) :: .row gl [xa, xt] 50 (0, 0) :: .vec xa 86 4 A.length (A.flatMap Acc.cells) :: .vec xt 91 4 X.length (X.flatMap Tra.cells) :: M)) (hm : Mac.Ok ⟨⟨mo, mv, ms⟩, T, ⟨A, X⟩⟩) :
    Calls Tryz.prog 26 #[.pointer (some ⟨g, 0, none⟩)] w fun e w' => e = .returned (.string ⟨(mPack ⟨⟨mo, mv, ms⟩, T, ⟨A, X⟩⟩).toArray⟩) ∧ St S w0 w' (.row g [.int .i64 mo, .int .i64 mv, .int .u64 ms, .pointer (some ⟨gs, 0, none⟩), .pointer (some ⟨gl, 0, none⟩)] 62 (0, 0) :: .row gs [vt] 65 (0, 0) :: .vec vt 41 5 T.length (T.flatMap Ses.cells) :: .row gl [xa, xt] 50 (0, 0) :: .vec xa 86 4 A.length (A.flatMap Acc.cells) :: .vec xt 91 4 X.length (X.flatMap Tra.cells) :: M) := by
  obtain ⟨o1, o2⟩ := hm.op
  obtain ⟨v1, v2⟩ := hm.view
  have s2 := hm.sum
  simp only at o1 o2 v1 v2 s2
  have HPS := Lib.hid (fun (S : List Nat) (w0 w : World) (M : List Ent) (hS : St S w0 w (.row gs [vt] 65 (0, 0) :: .vec vt 41 5 T.length (T.flatMap Ses.cells) :: M)) => rses_packO hS hm.good.ok.len hm.fit)
  have HPL := Lib.hid (fun (S : List Nat) (w0 w : World) (M : List Ent) (hS : St S w0 w (.row gl [xa, xt] 50 (0, 0) :: .vec xa 86 4 A.length (A.flatMap Acc.cells) :: .vec xt 91 4 X.length (X.flatMap Tra.cells) :: M)) => rledg_packO hS hm.led)
  have hps := sPack_le hm.good.ok.len hm.fit
  have hpl := lPack_le hm.led
  clear hm
  simp only at hps hpl
  unfold mPack
  simp only
  generalize sPack T = ps at HPS hps ⊢
  generalize lPack ⟨A, X⟩ = pl at HPL hpl ⊢
  have E1 := Lib.hid (fun w => ref_eight mo o1 (by omega) w)
  have E2 := Lib.hid (fun w => ref_eight mv v1 (by omega) w)
  have E3 := Lib.hid (fun w => ref_eight (ms : Int) (by omega) (by omega) w)
  have hw1 : IntKind.u64.wrap mo = mo := u64_id o1 o2
  have hw2 : IntKind.u64.wrap mv = mv := u64_id v1 v2
  rw [Int.toNat_natCast] at E3
  have k1 : (leB 8 mo.toNat).length = 8 := leB_length _ _
  have k2 : (leB 8 mv.toNat).length = 8 := leB_length _ _
  have k3 : (leB 8 ms).length = 8 := leB_length _ _
  generalize leB 8 mo.toNat = B1 at E1 k1 ⊢
  generalize leB 8 mv.toNat = B2 at E2 k2 ⊢
  generalize leB 8 ms = B3 at E3 k3 ⊢
  obtain ⟨A3, hA3⟩ : ∃ A, B1 ++ B2 ++ B3 = A := ⟨_, rfl⟩
  obtain ⟨A4, hA4⟩ : ∃ A, A3 ++ txt ps = A := ⟨_, rfl⟩
  obtain ⟨A5, hA5⟩ : ∃ A, A4 ++ txt pl = A := ⟨_, rfl⟩
  have l3 : A3.length = 24 := by rw [← hA3, List.length_append, List.length_append]; omega
  have l4 : A4.length ≤ 2000 := by rw [← hA4, List.length_append, txt_length]; omega
  rw [hA3, hA4, hA5]
  have P4 := Lib.hid (fun (S : List Nat) (w0 w : World) (M : List Ent) (v : Value) (hS : St S w0 w (.vec v 5 1 A3.length (A3.flatMap byt) :: M)) => ref_putText (v := v) (l := A3) hS ps (by omega) (by omega) (fun W hW => hW.rdx Ix.here))
  have P5 := Lib.hid (fun (S : List Nat) (w0 w : World) (M : List Ent) (v : Value) (hS : St S w0 w (.vec v 5 1 A4.length (A4.flatMap byt) :: M)) => ref_putText (v := v) (l := A4) hS pl (by omega) (by omega) (fun W hW => hW.rdx Ix.here))
  simp only [hA4, hA5] at P4 P5
  have HA3 := Lib.hid hA3
  have hml : (B1 ++ B2 ++ B3).length ≤ maxLen := by rw [hA3, l3]; unfold maxLen; omega
  clear hA3 hA4 hA5 hps hpl
  (go_enter Tryz.func26, Tryz.ntmps26)
  go_wp2_with (fail)
  refine region_drift0 23 hS (by kernel_rfl) ?_
  clear hS
  intro wx hR hB hS
  (refine d_take 0 rfl rfl (by kernel_rfl) (by kernel_rfl) (by kernel_rfl) (fun _ _ _ h => h) (by kernel_rfl) rfl (fun W hW => (by (go_simp; try with_reducible rfl))) hS.base ?_; simp only [Act.put, List.setIfInBounds_toArray, List.set_cons_zero, List.set_cons_succ])
  (refine d_take 1 rfl rfl (by kernel_rfl) (by kernel_rfl) (by kernel_rfl) (fun _ _ _ h => h) (by kernel_rfl) rfl (fun W hW => (by (go_simp; try with_reducible rfl))) hS.base ?_; simp only [Act.put, List.setIfInBounds_toArray, List.set_cons_zero, List.set_cons_succ])
  (refine d_take 2 rfl rfl (by kernel_rfl) (by kernel_rfl) (by kernel_rfl) (fun _ _ _ h => h) (by kernel_rfl) rfl (fun W hW => (by (go_simp; try with_reducible rfl))) hS.base ?_; simp only [Act.put, List.setIfInBounds_toArray, List.set_cons_zero, List.set_cons_succ])
  (refine d_take 3 rfl rfl (by kernel_rfl) (by kernel_rfl) (by kernel_rfl) (fun _ _ _ h => h) (by kernel_rfl) rfl (fun W hW => (by (go_simp; try with_reducible rfl))) hS.base ?_; simp only [Act.put, List.setIfInBounds_toArray, List.set_cons_zero, List.set_cons_succ])
  (refine d_take 4 rfl rfl (by kernel_rfl) (by kernel_rfl) (by kernel_rfl) (fun _ _ _ h => h) (by kernel_rfl) rfl (fun W hW => rdR) hS.base ?_; simp only [Act.put, List.setIfInBounds_toArray, List.set_cons_zero, List.set_cons_succ])
  (refine d_take (v := .int .u64 mo) 5 rfl rfl (by kernel_rfl) (by kernel_rfl) (by kernel_rfl) (fun _ _ _ h => h) (by kernel_rfl) rfl (fun W hW => by (go_simp; try simp [hw1])) hS.base ?_; simp only [Act.put, List.setIfInBounds_toArray, List.set_cons_zero, List.set_cons_succ])
  (refine d_call 6 rfl rfl (by kernel_rfl) (by kernel_rfl) (by kernel_rfl) (fun _ _ _ h => h) (by kernel_rfl) rfl (fun W => by go_simp) hS.base (fun W hW => E1.out W) ?_; simp only [Act.put, List.setIfInBounds_toArray, List.set_cons_zero, List.set_cons_succ])
  (refine d_take 7 rfl rfl (by kernel_rfl) (by kernel_rfl) (by kernel_rfl) (fun _ _ _ h => h) (by kernel_rfl) rfl (fun W hW => (by (go_simp; try with_reducible rfl))) hS.base ?_; simp only [Act.put, List.setIfInBounds_toArray, List.set_cons_zero, List.set_cons_succ])
  (refine d_take 8 rfl rfl (by kernel_rfl) (by kernel_rfl) (by kernel_rfl) (fun _ _ _ h => h) (by kernel_rfl) rfl (fun W hW => (by (go_simp; try with_reducible rfl))) hS.base ?_; simp only [Act.put, List.setIfInBounds_toArray, List.set_cons_zero, List.set_cons_succ])
  (refine d_take 9 rfl rfl (by kernel_rfl) (by kernel_rfl) (by kernel_rfl) (fun _ _ _ h => h) (by kernel_rfl) rfl (fun W hW => (by (go_simp; try with_reducible rfl))) hS.base ?_; simp only [Act.put, List.setIfInBounds_toArray, List.set_cons_zero, List.set_cons_succ])
  (refine d_take 10 rfl rfl (by kernel_rfl) (by kernel_rfl) (by kernel_rfl) (fun _ _ _ h => h) (by kernel_rfl) rfl (fun W hW => (by (go_simp; try with_reducible rfl))) hS.base ?_; simp only [Act.put, List.setIfInBounds_toArray, List.set_cons_zero, List.set_cons_succ])
  (refine d_take 11 rfl rfl (by kernel_rfl) (by kernel_rfl) (by kernel_rfl) (fun _ _ _ h => h) (by kernel_rfl) rfl (fun W hW => rdR) hS.base ?_; simp only [Act.put, List.setIfInBounds_toArray, List.set_cons_zero, List.set_cons_succ])
  (refine d_take (v := .int .u64 mv) 12 rfl rfl (by kernel_rfl) (by kernel_rfl) (by kernel_rfl) (fun _ _ _ h => h) (by kernel_rfl) rfl (fun W hW => by (go_simp; try simp [hw2])) hS.base ?_; simp only [Act.put, List.setIfInBounds_toArray, List.set_cons_zero, List.set_cons_succ])
  (refine d_call 13 rfl rfl (by kernel_rfl) (by kernel_rfl) (by kernel_rfl) (fun _ _ _ h => h) (by kernel_rfl) rfl (fun W => by go_simp) hS.base (fun W hW => E2.out W) ?_; simp only [Act.put, List.setIfInBounds_toArray, List.set_cons_zero, List.set_cons_succ])
  (refine d_take 14 rfl rfl (by kernel_rfl) (by kernel_rfl) (by kernel_rfl) (fun _ _ _ h => h) (by kernel_rfl) rfl (fun W hW => (by exact a_concat rfl rfl rfl (by first | omega | (simp; omega)))) hS.base ?_; simp only [Act.put, List.setIfInBounds_toArray, List.set_cons_zero, List.set_cons_succ])
  (refine d_take 15 rfl rfl (by kernel_rfl) (by kernel_rfl) (by kernel_rfl) (fun _ _ _ h => h) (by kernel_rfl) rfl (fun W hW => (by (go_simp; try with_reducible rfl))) hS.base ?_; simp only [Act.put, List.setIfInBounds_toArray, List.set_cons_zero, List.set_cons_succ])
  (refine d_take 16 rfl rfl (by kernel_rfl) (by kernel_rfl) (by kernel_rfl) (fun _ _ _ h => h) (by kernel_rfl) rfl (fun W hW => (by (go_simp; try with_reducible rfl))) hS.base ?_; simp only [Act.put, List.setIfInBounds_toArray, List.set_cons_zero, List.set_cons_succ])
  (refine d_take 17 rfl rfl (by kernel_rfl) (by kernel_rfl) (by kernel_rfl) (fun _ _ _ h => h) (by kernel_rfl) rfl (fun W hW => (by (go_simp; try with_reducible rfl))) hS.base ?_; simp only [Act.put, List.setIfInBounds_toArray, List.set_cons_zero, List.set_cons_succ])
  (refine d_take 18 rfl rfl (by kernel_rfl) (by kernel_rfl) (by kernel_rfl) (fun _ _ _ h => h) (by kernel_rfl) rfl (fun W hW => (by (go_simp; try with_reducible rfl))) hS.base ?_; simp only [Act.put, List.setIfInBounds_toArray, List.set_cons_zero, List.set_cons_succ])
  (refine d_take 19 rfl rfl (by kernel_rfl) (by kernel_rfl) (by kernel_rfl) (fun _ _ _ h => h) (by kernel_rfl) rfl (fun W hW => rdR) hS.base ?_; simp only [Act.put, List.setIfInBounds_toArray, List.set_cons_zero, List.set_cons_succ])
  (refine d_call 20 rfl rfl (by kernel_rfl) (by kernel_rfl) (by kernel_rfl) (fun _ _ _ h => h) (by kernel_rfl) rfl (fun W => by go_simp) hS.base (fun W hW => E3.out W) ?_; simp only [Act.put, List.setIfInBounds_toArray, List.set_cons_zero, List.set_cons_succ])
  (refine d_take 21 rfl rfl (by kernel_rfl) (by kernel_rfl) (by kernel_rfl) (fun _ _ _ h => h) (by kernel_rfl) rfl (fun W hW => (by exact a_concat rfl rfl rfl (by first | omega | (simp; omega)))) hS.base ?_; simp only [Act.put, List.setIfInBounds_toArray, List.set_cons_zero, List.set_cons_succ])
  (refine d_all (rs := [22]) (by kernel_rfl) (by simp) ?_; intro wd hd; replace hS := hS.same hd; clear hd; intro i hi; have hi := List.mem_singleton.1 hi; subst hi)
  refine wod_of rfl rfl rfl (a_toBytes hS rfl rfl rfl rfl rfl hml ?_)
  clear hS
  intro b3 w3 hS
  (refine ⟨fun _ => hS.base, ?_⟩; simp only [Act.put, List.setIfInBounds_toArray, List.set_cons_zero, List.set_cons_succ])
  (refine d_all (rs := [23]) (by kernel_rfl) (by simp) ?_; intro wd hd; replace hS := hS.same hd; clear hd; intro i hi; have hi := List.mem_singleton.1 hi; subst hi)
  refine wod_of rfl rfl rfl (wp_run (by (go_simp; first | done | exact ⟨rfl, rfl⟩ | with_reducible rfl)) ?_)
  replace hS := hB _ _ hS
  simp only [List.cons_append, List.nil_append] at hS
  rw [HA3.out] at hS
  (refine ⟨fun h => absurd rfl h, ?_⟩; refine d_done (by kernel_rfl) ?_ _; intro wd hd; replace hS := hS.same hd; clear hd)
  simp only [Act.put, List.setIfInBounds_toArray, List.set_cons_zero, List.set_cons_succ]
  go_wp2_with (first | refine au1 (n := ?_) | (refine au2 (n := ?_); clear hS; intro w' hS) | (refine au3 (n := ?_); clear hS; intro gb w1 hS) | (refine au4 (n := ?_); clear hS; intro v1 w' hS) | ((with_reducible refine wl_guard ?_); refine stop_mem rfl rfl ?_))
  replace hS := (hS.out (m := .vec vt _ _ _ _) (by (repeat (first | exact Out.here | apply Out.there)))).out (m := .row gs _ _ _) (by (repeat (first | exact Out.here | apply Out.there)))
  refine (HPS.out _ _ _ _ hS).mono ?_
  clear hS
  rintro e w5 ⟨rfl, hS⟩
  go_wp2_with (first | refine au1 (n := ?_) | (refine au2 (n := ?_); clear hS; intro w' hS) | (refine au3 (n := ?_); clear hS; intro gb w1 hS) | (refine au4 (n := ?_); clear hS; intro v1 w' hS) | ((with_reducible refine wl_guard ?_); refine stop_mem rfl rfl ?_))
  refine (P4.out _ _ _ _ b3 (hS.out (by (repeat (first | exact Out.here | apply Out.there))))).mono ?_
  clear hS
  rintro e w5 ⟨b4, rfl, hS⟩
  go_wp2_with (first | refine au1 (n := ?_) | (refine au2 (n := ?_); clear hS; intro w' hS) | (refine au3 (n := ?_); clear hS; intro gb w1 hS) | (refine au4 (n := ?_); clear hS; intro v1 w' hS) | ((with_reducible refine wl_guard ?_); refine stop_mem rfl rfl ?_))
  replace hS := ((hS.out (m := .vec xt _ _ _ _) (by (repeat (first | exact Out.here | apply Out.there)))).out (m := .vec xa _ _ _ _) (by (repeat (first | exact Out.here | apply Out.there)))).out (m := .row gl _ _ _) (by (repeat (first | exact Out.here | apply Out.there)))
  refine (HPL.out _ _ _ _ hS).mono ?_
  clear hS
  rintro e w5 ⟨rfl, hS⟩
  go_wp2_with (first | refine au1 (n := ?_) | (refine au2 (n := ?_); clear hS; intro w' hS) | (refine au3 (n := ?_); clear hS; intro gb w1 hS) | (refine au4 (n := ?_); clear hS; intro v1 w' hS) | ((with_reducible refine wl_guard ?_); refine stop_mem rfl rfl ?_))
  refine (P5.out _ _ _ _ b4 (hS.out (by (repeat (first | exact Out.here | apply Out.there))))).mono ?_
  clear hS
  rintro e w5 ⟨b5, rfl, hS⟩
  go_wp2_with (first | refine au1 (n := ?_) | (refine au2 (n := ?_); clear hS; intro w' hS) | (refine au3 (n := ?_); clear hS; intro gb w1 hS) | (refine au4 (n := ?_); clear hS; intro v1 w' hS) | ((with_reducible refine wl_guard ?_); refine stop_mem rfl rfl ?_))
  go_ret
  exact ⟨rfl, hS.pick⟩
end
end Go.Proofs.YtjjiibcnknljfaaGreat
