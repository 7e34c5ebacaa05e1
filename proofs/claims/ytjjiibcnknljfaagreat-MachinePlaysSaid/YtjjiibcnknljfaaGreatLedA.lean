/-
  The ledger in plain lists.
  The ledger in plain lists: what is kept by an operation.
  The program's ledger: a new one; where an account, a transfer stands.
  The program's ledger: an account is made.
-/
import Derived.Test.YtjjiibcnknljfaaGreatEvRef
import Derived.Test.YtjjiibcnknljfaaGreatGen
set_option linter.unusedSimpArgs false
set_option linter.unusedVariables false
set_option linter.unusedSectionVars false
set_option maxRecDepth 100000
namespace Go.Proofs.YtjjiibcnknljfaaGreat
open Go.RowKit Go.Cmp

instance : Inhabited Acc := ⟨⟨0, 0, 0, 0⟩⟩
instance : Inhabited Tra := ⟨⟨0, 0, 0, 0⟩⟩
theorem Acc.ones (x : Acc) : ∀ u ∈ x.cells, u.oneCell' = true := by
  intro u hu
  simp only [Acc.cells, List.mem_cons, List.not_mem_nil, or_false] at hu
  rcases hu with rfl | rfl | rfl | rfl <;> rfl
theorem Tra.ones (x : Tra) : ∀ u ∈ x.cells, u.oneCell' = true := by
  intro u hu
  simp only [Tra.cells, List.mem_cons, List.not_mem_nil, or_false] at hu
  rcases hu with rfl | rfl | rfl | rfl <;> rfl
/-- Accounts and transfers, in the order in which they were made. -/
structure Led where
  A : List Acc
  T : List Tra
def accAt (id : Nat) (A : List Acc) : Int := idx (fun a => decide (a.id = id)) A
def traAt (id : Nat) (T : List Tra) : Int := idx (fun a => decide (a.id = id)) T
/-- An account is made. -/
def Led.open (D : Led) (a : Acc) : UInt8 × Led :=
  if a.id = 0 then (1, D) else if 0 ≤ accAt a.id D.A then (2, D) else if 1 < a.flags then (3, D) else if 8 ≤ D.A.length then (10, D)
  else (0, ⟨D.A ++ [⟨a.id, a.flags, 0, 0⟩], D.T⟩)
/-- Two accounts as a transfer leaves them. -/
def moved (A : List Acc) (p q : Nat) (n : Nat) : List Acc :=
  (A.set p ⟨(nth A p).id, (nth A p).flags, (nth A p).deb + n, (nth A p).cred⟩).set q ⟨(nth A q).id, (nth A q).flags, (nth A q).deb, (nth A q).cred + n⟩
/-- A transfer is made. -/
def Led.move (D : Led) (t : Tra) : UInt8 × Led :=
  if t.id = 0 then (1, D) else if 0 ≤ traAt t.id D.T then (2, D) else if t.deb = t.cred then (4, D)
  else if accAt t.deb D.A < 0 then (5, D) else if accAt t.cred D.A < 0 then (6, D) else if t.amt = 0 then (7, D)
  else if 18446744073709551616 ≤ (nth D.A (accAt t.deb D.A).toNat).deb + t.amt ∨ 18446744073709551616 ≤ (nth D.A (accAt t.cred D.A).toNat).cred + t.amt then (8, D)
  else if (nth D.A (accAt t.deb D.A).toNat).flags = 1 ∧ (nth D.A (accAt t.deb D.A).toNat).cred < (nth D.A (accAt t.deb D.A).toNat).deb + t.amt then (9, D)
  else if 16 ≤ D.T.length then (10, D)
  else (0, ⟨moved D.A (accAt t.deb D.A).toNat (accAt t.cred D.A).toNat t.amt, D.T ++ [t]⟩)
/-- A list of them. -/
def Led.opens (D : Led) : List Acc → List UInt8 × Led
  | [] => ([], D)
  | a :: l => let x := (D.open a).2.opens l; ((D.open a).1 :: x.1, x.2)
def Led.moves (D : Led) : List Tra → List UInt8 × Led
  | [] => ([], D)
  | a :: l => let x := (D.move a).2.moves l; ((D.move a).1 :: x.1, x.2)
def traB (t : Tra) : List UInt8 := leB 8 t.id ++ leB 8 t.deb ++ leB 8 t.cred ++ leB 8 t.amt
def Led.find4 (D : Led) (id : Nat) : List UInt8 := if accAt id D.A < 0 then [0] else [1] ++ (putW (nth D.A (accAt id D.A).toNat)).1
def Led.find5 (D : Led) (id : Nat) : List UInt8 := if traAt id D.T < 0 then [0] else [1] ++ traB (nth D.T (traAt id D.T).toNat)
/-- An operation. -/
def Led.doIt (D : Led) (op : Int) (body : List UInt8) : List UInt8 × Led :=
  if op = 2 then (if (takeS gAcc 9 body).2 = false then ([1], D) else ([0] ++ (D.opens (takeS gAcc 9 body).1).1, (D.opens (takeS gAcc 9 body).1).2))
  else if op = 3 then (if (takeS gTra 32 body).2 = false then ([1], D) else ([0] ++ (D.moves (takeS gTra 32 body).1).1, (D.moves (takeS gTra 32 body).1).2))
  else if op = 4 then (if (takeS gID 8 body).2 = false then ([1], D) else ([0] ++ (takeS gID 8 body).1.flatMap D.find4, D))
  else if op = 5 then (if (takeS gID 8 body).2 = false then ([1], D) else ([0] ++ (takeS gID 8 body).1.flatMap D.find5, D))
  else ([1], D)
def lPack (D : Led) : List UInt8 := [UInt8.ofNat D.A.length] ++ D.A.flatMap (fun a => (putW a).1) ++ [UInt8.ofNat D.T.length] ++ D.T.flatMap traB
structure Led.Ok (D : Led) : Prop where
  acc : ∀ a ∈ D.A, a.Ok
  tra : ∀ t ∈ D.T, t.Ok
  la : D.A.length ≤ 8
  lt : D.T.length ≤ 16
end Go.Proofs.YtjjiibcnknljfaaGreat
namespace Go.Proofs.YtjjiibcnknljfaaGreat
open Go.RowKit Go.Cmp

theorem accAt_hit {c : Nat} {A : List Acc} (h : 0 ≤ accAt c A) : (nth A (accAt c A).toNat).id = c := by
  have := idx_hit (p := fun a : Acc => decide (a.id = c)) (l := A) h
  simpa [accAt] using this
theorem traAt_hit {c : Nat} {A : List Tra} (h : 0 ≤ traAt c A) : (nth A (traAt c A).toNat).id = c := by
  have := idx_hit (p := fun a : Tra => decide (a.id = c)) (l := A) h
  simpa [traAt] using this
theorem accAt_range (c : Nat) (A : List Acc) : -1 ≤ accAt c A ∧ accAt c A < A.length := idx_range A
theorem traAt_range (c : Nat) (A : List Tra) : -1 ≤ traAt c A ∧ traAt c A < A.length := idx_range A
theorem open_ok {D : Led} (hD : D.Ok) {a : Acc} (ha : a.Ok) : (D.open a).2.Ok := by
  unfold Led.open
  split
  · exact hD
  split
  · exact hD
  split
  · exact hD
  split
  · exact hD
  rename_i h
  refine ⟨fun x hx => ?_, hD.tra, by simp only [List.length_append, List.length_singleton]; omega, hD.lt⟩
  rcases List.mem_append.1 hx with hx | hx
  · exact hD.acc x hx
  · simp only [List.mem_singleton] at hx
    subst hx
    exact ⟨ha.1, Nat.pow_pos (by omega), Nat.pow_pos (by omega), ha.2.2.2.1, ha.2.2.2.2⟩
theorem moved_ok {A : List Acc} (h : ∀ a ∈ A, a.Ok) {p q n : Nat} (hp : p < A.length) (hq : q < A.length) (h1 : (nth A p).deb + n < 256 ^ 8) (h2 : (nth A q).cred + n < 256 ^ 8) : ∀ a ∈ moved A p q n, a.Ok := by
  intro a ha
  unfold moved at ha
  rcases List.mem_or_eq_of_mem_set ha with ha | rfl
  · rcases List.mem_or_eq_of_mem_set ha with ha | rfl
    · exact h a ha
    · have := h _ (nth_mem hp)
      exact ⟨this.1, h1, this.2.2.1, this.2.2.2.1, this.2.2.2.2⟩
  · have := h _ (nth_mem hq)
    exact ⟨this.1, this.2.1, h2, this.2.2.2.1, this.2.2.2.2⟩
theorem moved_len (A : List Acc) (p q n : Nat) : (moved A p q n).length = A.length := by unfold moved; rw [List.length_set, List.length_set]
theorem move_ok {D : Led} (hD : D.Ok) {t : Tra} (ht : t.Ok) : (D.move t).2.Ok := by
  unfold Led.move
  split
  · exact hD
  split
  · exact hD
  split
  · exact hD
  split
  · exact hD
  split
  · exact hD
  split
  · exact hD
  split
  · exact hD
  split
  · exact hD
  split
  · exact hD
  rename_i h4 h5 _ h7 _ h9
  have r1 := accAt_range t.deb D.A
  have r2 := accAt_range t.cred D.A
  have e8 : (256 : Nat) ^ 8 = 18446744073709551616 := rfl
  refine ⟨moved_ok hD.acc (by omega) (by omega) (by omega) (by omega), fun x hx => ?_, by rw [moved_len]; exact hD.la, by simp only [List.length_append, List.length_singleton]; omega⟩
  rcases List.mem_append.1 hx with hx | hx
  · exact hD.tra x hx
  · simp only [List.mem_singleton] at hx
    subst hx
    exact ht
theorem opens_snoc (l : List Acc) (a : Acc) : ∀ D : Led, D.opens (l ++ [a]) = ((D.opens l).1 ++ [((D.opens l).2.open a).1], ((D.opens l).2.open a).2) := by
  induction l with
  | nil => intro D; rfl
  | cons b l ih => intro D; simp only [List.cons_append, Led.opens, ih]
theorem moves_snoc (l : List Tra) (a : Tra) : ∀ D : Led, D.moves (l ++ [a]) = ((D.moves l).1 ++ [((D.moves l).2.move a).1], ((D.moves l).2.move a).2) := by
  induction l with
  | nil => intro D; rfl
  | cons b l ih => intro D; simp only [List.cons_append, Led.moves, ih]
theorem opens_ok : ∀ (l : List Acc) {D : Led}, D.Ok → (∀ a ∈ l, a.Ok) → (D.opens l).2.Ok
  | [], _, h, _ => h
  | a :: l, _, h, hl => opens_ok l (open_ok h (hl a (by simp))) (fun x hx => hl x (by simp [hx]))
theorem moves_ok : ∀ (l : List Tra) {D : Led}, D.Ok → (∀ a ∈ l, a.Ok) → (D.moves l).2.Ok
  | [], _, h, _ => h
  | a :: l, _, h, hl => moves_ok l (move_ok h (hl a (by simp))) (fun x hx => hl x (by simp [hx]))
theorem opens_len : ∀ (l : List Acc) (D : Led), (D.opens l).1.length = l.length
  | [], _ => rfl
  | a :: l, D => by simp only [Led.opens, List.length_cons, opens_len l]
theorem moves_len : ∀ (l : List Tra) (D : Led), (D.moves l).1.length = l.length
  | [], _ => rfl
  | a :: l, D => by simp only [Led.moves, List.length_cons, moves_len l]
theorem leN_8 (c : List UInt8) : leN (c.take 8) < 256 ^ 8 := by
  have h := leN_lt (c.take 8)
  have h2 : (c.take 8).length ≤ 8 := by rw [List.length_take]; omega
  exact Nat.lt_of_lt_of_le h (Nat.pow_le_pow_right (by omega) h2)
theorem gAcc_ok (c : List UInt8) : (gAcc c).Ok := by
  refine ⟨leN_8 c, Nat.pow_pos (by omega), Nat.pow_pos (by omega), ?_, ?_⟩
  · show -9223372036854775808 ≤ (((c.getD 8 0).toNat : Int)); omega
  · show (((c.getD 8 0).toNat : Int)) ≤ 9223372036854775807; have := (c.getD 8 0).toNat_lt; omega
theorem gTra_ok (c : List UInt8) : (gTra c).Ok := ⟨leN_8 c, leN_8 _, leN_8 _, leN_8 _⟩
theorem gID_ok (c : List UInt8) : gID c < 256 ^ 8 := leN_8 c
theorem takeS_all {α : Type} {g : List UInt8 → α} {P : α → Prop} (h : ∀ c, P (g c)) (n : Nat) (l : List UInt8) : ∀ x ∈ (takeS g n l).1, P x := by
  intro x hx
  unfold takeS at hx
  split at hx
  · cases hx
  · obtain ⟨i, _, rfl⟩ := List.mem_map.1 hx
    exact h _
theorem takeS_len {α : Type} (g : List UInt8 → α) (n : Nat) (l : List UInt8) : (takeS g n l).1.length ≤ 4 := by
  unfold takeS
  split
  · simp
  · simp only [List.length_map, List.length_range]; omega
theorem putW_len (a : Acc) : (putW a).1.length ≤ 25 := by
  unfold putW
  split
  · simp [wholeB, leB_length]
  · simp
theorem traB_len (t : Tra) : (traB t).length = 32 := by simp [traB, leB_length]
theorem find4_len (D : Led) (id : Nat) : (D.find4 id).length ≤ 26 := by
  unfold Led.find4
  split
  · simp
  · have := putW_len (nth D.A (accAt id D.A).toNat); simp only [List.length_append, List.length_singleton]; omega
theorem find5_len (D : Led) (id : Nat) : (D.find5 id).length ≤ 33 := by
  unfold Led.find5
  split
  · simp
  · have := traB_len (nth D.T (traAt id D.T).toNat); simp only [List.length_append, List.length_singleton]; omega
theorem doIt_ok {D : Led} (hD : D.Ok) (op : Int) (body : List UInt8) : (D.doIt op body).2.Ok := by
  unfold Led.doIt
  split
  · split
    · exact hD
    · exact opens_ok _ hD (takeS_all gAcc_ok 9 body)
  split
  · split
    · exact hD
    · exact moves_ok _ hD (takeS_all gTra_ok 32 body)
  split
  · split <;> exact hD
  split
  · split <;> exact hD
  · exact hD
theorem newLed_ok : Led.Ok ⟨[], []⟩ := ⟨by simp, by simp, by simp, by simp⟩
end Go.Proofs.YtjjiibcnknljfaaGreat
namespace Go.Proofs.YtjjiibcnknljfaaGreat
open Go.RowKit Go.Cmp
set_option maxRecDepth 100000

/-- The program's ledger. -/
def ledg (g : Nat) (D : Led) : Ent := pack (fun _ : Value × Value => True) fun x =>
  [.row g [x.1, x.2] 110 (0, 0), .vec x.1 86 4 D.A.length (D.A.flatMap Acc.cells), .vec x.2 91 4 D.T.length (D.T.flatMap Tra.cells)]

section
variable {S : List Nat} {w0 w : World} {M : List Ent} {g : Nat} {D : Led}

theorem ledg_new (hS : St S w0 w M) : Calls Tryz.prog 29 #[] w fun e w' => ∃ g, e = .returned (.pointer (some ⟨g, 0, none⟩)) ∧ St S w0 w' (ledg g ⟨[], []⟩ :: M) := by
  (go_enter Tryz.func29, Tryz.ntmps29)
  go_wp2_with (first | refine au1 (n := ?_) | (refine au2 (n := ?_); clear hS; intro w' hS) | (refine au3 (n := ?_); clear hS; intro gb w1 hS) | (refine au4 (n := ?_); clear hS; intro v1 w' hS) | ((with_reducible refine wl_guard ?_); refine stop_mem rfl rfl ?_))
  go_ret
  have hS := (hS.addNil 86 4).addNil 91 4
  exact ⟨gb, rfl, St.packs (Value.slice none 0 0, Value.slice none 0 0) hS⟩

theorem clos_acc {i : Nat} (s : Acc) (c : Nat) (gb : Nat) (hS : St S w0 w M) (hM : Ix M i (.row gb [.int .u64 c] 32 (0, 0))) : Calls Tryz.prog 129 #[.agg s.cells.toArray, .pointer (some ⟨gb, 0, none⟩)] w fun e w' => e = .returned (.bool (decide (s.id = c))) ∧ St S w0 w' M := by
  obtain ⟨a1, a2, a3, a4⟩ := s
  have h0 := hM.get
  simp only [Acc.cells]
  (go_enter Tryz.func129, Tryz.ntmps129)
  go_wp2_with (first | ((with_reducible refine g_load ?_); refine wl_run rfl (a_load1 hS rfl rfl rfl rfl (Ix.there hM) rfl) ?_) | (first | refine au1 (n := ?_) | (refine au2 (n := ?_); clear hS; intro w' hS) | (refine au3 (n := ?_); clear hS; intro gb w1 hS) | (refine au4 (n := ?_); clear hS; intro v1 w' hS) | ((with_reducible refine wl_guard ?_); refine stop_mem rfl rfl ?_)))
  go_ret
  refine ⟨?_, hS.tail⟩
  by_cases h : a1 = c
  · simp [h]
  · have h' : ¬ (a1 : Int) = c := by omega
    simp [h, h']

set_option maxHeartbeats 1000000 in
theorem index_acc {i : Nat} (v : Value) (T : List Acc) (c : Nat) (gb : Nat) (hS : St S w0 w M) (hM : Ix M i (.row gb [.int .u64 c] 32 (0, 0))) (hV : Reads S w0 M 4 v T.length (T.flatMap Acc.cells)) (hl : T.length ≤ 1000000) :
    Calls Tryz.prog 128 #[v, .func (.func 129) #[] #[.pointer (some ⟨gb, 0, none⟩)]] w fun e w' => e = .returned (.int .i64 (accAt c T)) ∧ St S w0 w' M := by
  (go_enter Tryz.func128, Tryz.ntmps128)
  go_wp2_with (first | refine au1 (n := ?_) | (refine au2 (n := ?_); clear hS; intro w' hS) | (refine au3 (n := ?_); clear hS; intro gb w1 hS) | (refine au4 (n := ?_); clear hS; intro v1 w' hS) | ((with_reducible refine wl_guard ?_); refine stop_mem rfl rfl ?_))
  go_loopw [8] (fun k wr => ∃ j : Nat, j ≤ T.length ∧ k = .int .i64 j ∧ Hid (∀ i, i < j → (decide ((nth T i).id = c)) = false) ∧ St S w0 wr M) (fun k _ => T.length - (intOf k).toNat)
  case atStart => exact ⟨0, by omega, rfl, Lib.hid (fun i hi => by omega), hS⟩
  case round =>
    clear hS
    obtain ⟨j, hj, rfl, HJ, hS⟩ := hrel
    by_cases hlt : j < T.length
    · have hlt1 : (j : Int) < T.length := by omega
      by_cases hx : (nth T j).id = c
      · have hd : decide ((nth T j).id = c) = true := by simpa using hx
        have hp : accAt c T = j := idx_first hlt hd HJ.out
        have H := Lib.hid (fun (W : World) (hS : St S w0 W M) => clos_acc (nth T j) c gb hS hM)
        rw [hd] at H
        have HP := Lib.hid hp
        clear hp hd hx
        go_wp2_with (first | (go_at_call 129; refine (H.out _ hS).mono ?_; clear hS; rintro e w' ⟨rfl, hS⟩) | (first | refine au1 (n := ?_) | (refine au2 (n := ?_); clear hS; intro w' hS) | (refine au3 (n := ?_); clear hS; intro gb w1 hS) | (refine au4 (n := ?_); clear hS; intro v1 w' hS) | ((with_reducible refine wl_guard ?_); refine stop_mem rfl rfl ?_)))
        go_ret
        rw [HP.out]
        exact ⟨rfl, hS⟩
      · have hd : decide ((nth T j).id = c) = false := by simpa using hx
        have H := Lib.hid (fun (W : World) (hS : St S w0 W M) => clos_acc (nth T j) c gb hS hM)
        rw [hd] at H
        have HJ2 : Hid (∀ i, i < j + 1 → (decide ((nth T i).id = c)) = false) := Lib.hid (fun i hi => by
          by_cases h : i = j
          · rw [h]; exact hd
          · exact HJ.out i (by omega))
        clear hd hx
        go_wp2_with (first | (go_at_call 129; refine (H.out _ hS).mono ?_; clear hS; rintro e w' ⟨rfl, hS⟩) | (first | refine au1 (n := ?_) | (refine au2 (n := ?_); clear hS; intro w' hS) | (refine au3 (n := ?_); clear hS; intro gb w1 hS) | (refine au4 (n := ?_); clear hS; intro v1 w' hS) | ((with_reducible refine wl_guard ?_); refine stop_mem rfl rfl ?_)))
        refine ⟨⟨j + 1, by omega, by go_num, HJ2, hS⟩, by simp [intOf]; omega⟩
    · obtain rfl : j = T.length := by omega
      have hp : accAt c T = -1 := idx_none (fun x hx => by obtain ⟨i, h1, h2⟩ := mem_nth' hx; have := HJ.out i h1; rw [h2] at this; exact this)
      have HP := Lib.hid hp
      clear hp
      go_wp2_with (first | refine au1 (n := ?_) | (refine au2 (n := ?_); clear hS; intro w' hS) | (refine au3 (n := ?_); clear hS; intro gb w1 hS) | (refine au4 (n := ?_); clear hS; intro v1 w' hS) | ((with_reducible refine wl_guard ?_); refine stop_mem rfl rfl ?_))
      go_ret
      rw [HP.out]
      exact ⟨rfl, hS⟩

theorem clos_tra {i : Nat} (s : Tra) (c : Nat) (gb : Nat) (hS : St S w0 w M) (hM : Ix M i (.row gb [.int .u64 c] 32 (0, 0))) : Calls Tryz.prog 131 #[.agg s.cells.toArray, .pointer (some ⟨gb, 0, none⟩)] w fun e w' => e = .returned (.bool (decide (s.id = c))) ∧ St S w0 w' M := by
  obtain ⟨a1, a2, a3, a4⟩ := s
  have h0 := hM.get
  simp only [Tra.cells]
  (go_enter Tryz.func131, Tryz.ntmps131)
  go_wp2_with (first | ((with_reducible refine g_load ?_); refine wl_run rfl (a_load1 hS rfl rfl rfl rfl (Ix.there hM) rfl) ?_) | (first | refine au1 (n := ?_) | (refine au2 (n := ?_); clear hS; intro w' hS) | (refine au3 (n := ?_); clear hS; intro gb w1 hS) | (refine au4 (n := ?_); clear hS; intro v1 w' hS) | ((with_reducible refine wl_guard ?_); refine stop_mem rfl rfl ?_)))
  go_ret
  refine ⟨?_, hS.tail⟩
  by_cases h : a1 = c
  · simp [h]
  · have h' : ¬ (a1 : Int) = c := by omega
    simp [h, h']

set_option maxHeartbeats 1000000 in
theorem index_tra {i : Nat} (v : Value) (T : List Tra) (c : Nat) (gb : Nat) (hS : St S w0 w M) (hM : Ix M i (.row gb [.int .u64 c] 32 (0, 0))) (hV : Reads S w0 M 4 v T.length (T.flatMap Tra.cells)) (hl : T.length ≤ 1000000) :
    Calls Tryz.prog 130 #[v, .func (.func 131) #[] #[.pointer (some ⟨gb, 0, none⟩)]] w fun e w' => e = .returned (.int .i64 (traAt c T)) ∧ St S w0 w' M := by
  (go_enter Tryz.func130, Tryz.ntmps130)
  go_wp2_with (first | refine au1 (n := ?_) | (refine au2 (n := ?_); clear hS; intro w' hS) | (refine au3 (n := ?_); clear hS; intro gb w1 hS) | (refine au4 (n := ?_); clear hS; intro v1 w' hS) | ((with_reducible refine wl_guard ?_); refine stop_mem rfl rfl ?_))
  go_loopw [8] (fun k wr => ∃ j : Nat, j ≤ T.length ∧ k = .int .i64 j ∧ Hid (∀ i, i < j → (decide ((nth T i).id = c)) = false) ∧ St S w0 wr M) (fun k _ => T.length - (intOf k).toNat)
  case atStart => exact ⟨0, by omega, rfl, Lib.hid (fun i hi => by omega), hS⟩
  case round =>
    clear hS
    obtain ⟨j, hj, rfl, HJ, hS⟩ := hrel
    by_cases hlt : j < T.length
    · have hlt1 : (j : Int) < T.length := by omega
      by_cases hx : (nth T j).id = c
      · have hd : decide ((nth T j).id = c) = true := by simpa using hx
        have hp : traAt c T = j := idx_first hlt hd HJ.out
        have H := Lib.hid (fun (W : World) (hS : St S w0 W M) => clos_tra (nth T j) c gb hS hM)
        rw [hd] at H
        have HP := Lib.hid hp
        clear hp hd hx
        go_wp2_with (first | (go_at_call 131; refine (H.out _ hS).mono ?_; clear hS; rintro e w' ⟨rfl, hS⟩) | (first | refine au1 (n := ?_) | (refine au2 (n := ?_); clear hS; intro w' hS) | (refine au3 (n := ?_); clear hS; intro gb w1 hS) | (refine au4 (n := ?_); clear hS; intro v1 w' hS) | ((with_reducible refine wl_guard ?_); refine stop_mem rfl rfl ?_)))
        go_ret
        rw [HP.out]
        exact ⟨rfl, hS⟩
      · have hd : decide ((nth T j).id = c) = false := by simpa using hx
        have H := Lib.hid (fun (W : World) (hS : St S w0 W M) => clos_tra (nth T j) c gb hS hM)
        rw [hd] at H
        have HJ2 : Hid (∀ i, i < j + 1 → (decide ((nth T i).id = c)) = false) := Lib.hid (fun i hi => by
          by_cases h : i = j
          · rw [h]; exact hd
          · exact HJ.out i (by omega))
        clear hd hx
        go_wp2_with (first | (go_at_call 131; refine (H.out _ hS).mono ?_; clear hS; rintro e w' ⟨rfl, hS⟩) | (first | refine au1 (n := ?_) | (refine au2 (n := ?_); clear hS; intro w' hS) | (refine au3 (n := ?_); clear hS; intro gb w1 hS) | (refine au4 (n := ?_); clear hS; intro v1 w' hS) | ((with_reducible refine wl_guard ?_); refine stop_mem rfl rfl ?_)))
        refine ⟨⟨j + 1, by omega, by go_num, HJ2, hS⟩, by simp [intOf]; omega⟩
    · obtain rfl : j = T.length := by omega
      have hp : traAt c T = -1 := idx_none (fun x hx => by obtain ⟨i, h1, h2⟩ := mem_nth' hx; have := HJ.out i h1; rw [h2] at this; exact this)
      have HP := Lib.hid hp
      clear hp
      go_wp2_with (first | refine au1 (n := ?_) | (refine au2 (n := ?_); clear hS; intro w' hS) | (refine au3 (n := ?_); clear hS; intro gb w1 hS) | (refine au4 (n := ?_); clear hS; intro v1 w' hS) | ((with_reducible refine wl_guard ?_); refine stop_mem rfl rfl ?_))
      go_ret
      rw [HP.out]
      exact ⟨rfl, hS⟩

theorem ledg_account (hS : St S w0 w (ledg g D :: M)) (hl : D.A.length ≤ 1000000) (c : Nat) : Calls Tryz.prog 104 #[.pointer (some ⟨g, 0, none⟩), .int .u64 c] w fun e w' => e = .returned (.int .i64 (accAt c D.A)) ∧ St S w0 w' (ledg g D :: M) := by
  (have hU := St.unpack hS; clear hS; obtain ⟨⟨va, vt⟩, _, hS⟩ := hU; simp only [List.cons_append, List.nil_append] at hS)
  (go_enter Tryz.func104, Tryz.ntmps104)
  go_wp2_with (first | (go_at_call 128; refine (index_acc va D.A c gb hS (by (repeat (first | exact Ix.here | apply Ix.there))) (fun W hW => hW.rdx (by (repeat (first | exact Ix.here | apply Ix.there)))) hl).mono ?_; clear hS; rintro e w' ⟨rfl, hS⟩) | (first | refine au1 (n := ?_) | (refine au2 (n := ?_); clear hS; intro w' hS) | (refine au3 (n := ?_); clear hS; intro gb w1 hS) | (refine au4 (n := ?_); clear hS; intro v1 w' hS) | ((with_reducible refine wl_guard ?_); refine stop_mem rfl rfl ?_)))
  go_ret
  exact ⟨rfl, St.packs (va, vt) hS⟩
theorem ledg_transfer (hS : St S w0 w (ledg g D :: M)) (hl : D.T.length ≤ 1000000) (c : Nat) : Calls Tryz.prog 106 #[.pointer (some ⟨g, 0, none⟩), .int .u64 c] w fun e w' => e = .returned (.int .i64 (traAt c D.T)) ∧ St S w0 w' (ledg g D :: M) := by
  (have hU := St.unpack hS; clear hS; obtain ⟨⟨va, vt⟩, _, hS⟩ := hU; simp only [List.cons_append, List.nil_append] at hS)
  (go_enter Tryz.func106, Tryz.ntmps106)
  go_wp2_with (first | (go_at_call 130; refine (index_tra vt D.T c gb hS (by (repeat (first | exact Ix.here | apply Ix.there))) (fun W hW => hW.rdx (by (repeat (first | exact Ix.here | apply Ix.there)))) hl).mono ?_; clear hS; rintro e w' ⟨rfl, hS⟩) | (first | refine au1 (n := ?_) | (refine au2 (n := ?_); clear hS; intro w' hS) | (refine au3 (n := ?_); clear hS; intro gb w1 hS) | (refine au4 (n := ?_); clear hS; intro v1 w' hS) | ((with_reducible refine wl_guard ?_); refine stop_mem rfl rfl ?_)))
  go_ret
  exact ⟨rfl, St.packs (va, vt) hS⟩
end
end Go.Proofs.YtjjiibcnknljfaaGreat
namespace Go.Proofs.YtjjiibcnknljfaaGreat
open Go.RowKit Go.Cmp

section
variable {S : List Nat} {w0 w : World} {M : List Ent} {g : Nat} {D : Led}

set_option maxRecDepth 100000 in
set_option maxHeartbeats 4000000 in
theorem ledg_open (hS : St S w0 w (ledg g D :: M)) (hl : D.A.length ≤ 1000) (a : Acc) :
    Calls Tryz.prog 98 #[.pointer (some ⟨g, 0, none⟩), .agg a.cells.toArray] w fun e w' => e = .returned (.int .u8 ((D.open a).1.toNat : Int)) ∧ St S w0 w' (ledg g (D.open a).2 :: M) := by
  have HF := Lib.hid (fun (W : World) (M : List Ent) (hS : St S w0 W (ledg g D :: M)) => ledg_account hS (show D.A.length ≤ 1000000 by omega) a.id)
  obtain ⟨b, hb⟩ : ∃ b, D.open a = b := ⟨_, rfl⟩
  have hb' := hb
  unfold Led.open at hb
  obtain ⟨n, hn⟩ : ∃ n, accAt a.id D.A = n := ⟨_, rfl⟩
  rw [hn] at HF hb
  clear hn
  rw [hb']
  clear hb'
  obtain ⟨A, T⟩ := D
  obtain ⟨id, flags, deb, cred⟩ := a
  simp only at hb HF hl
  simp only [Acc.cells]
  by_cases h1 : id = 0
  · rw [if_pos h1] at hb
    subst hb
    subst h1
    (go_enter Tryz.func98, Tryz.ntmps98)
    go_wp2_with (first | refine au1 (n := ?_) | (refine au2 (n := ?_); clear hS; intro w' hS) | (refine au3 (n := ?_); clear hS; intro gb w1 hS) | (refine au4 (n := ?_); clear hS; intro v1 w' hS) | ((with_reducible refine wl_guard ?_); refine stop_mem rfl rfl ?_))
    go_ret
    exact ⟨rfl, hS.pick⟩
  rw [if_neg h1] at hb
  have h1' : ¬ (id : Int) = 0 := by omega
  by_cases h2 : 0 ≤ n
  · rw [if_pos h2] at hb
    subst hb
    (go_enter Tryz.func98, Tryz.ntmps98)
    go_wp2_with (first | (go_at_call 104; refine (HF.out _ _ (hS.out (by (repeat (first | exact Out.here | apply Out.there))))).mono ?_; clear hS; rintro e w' ⟨rfl, hS⟩) | (first | refine au1 (n := ?_) | (refine au2 (n := ?_); clear hS; intro w' hS) | (refine au3 (n := ?_); clear hS; intro gb w1 hS) | (refine au4 (n := ?_); clear hS; intro v1 w' hS) | ((with_reducible refine wl_guard ?_); refine stop_mem rfl rfl ?_)))
    go_ret
    exact ⟨rfl, hS.pick⟩
  rw [if_neg h2] at hb
  by_cases h3 : 1 < flags
  · rw [if_pos h3] at hb
    subst hb
    (go_enter Tryz.func98, Tryz.ntmps98)
    go_wp2_with (first | (go_at_call 104; refine (HF.out _ _ (hS.out (by (repeat (first | exact Out.here | apply Out.there))))).mono ?_; clear hS; rintro e w' ⟨rfl, hS⟩) | (first | refine au1 (n := ?_) | (refine au2 (n := ?_); clear hS; intro w' hS) | (refine au3 (n := ?_); clear hS; intro gb w1 hS) | (refine au4 (n := ?_); clear hS; intro v1 w' hS) | ((with_reducible refine wl_guard ?_); refine stop_mem rfl rfl ?_)))
    go_ret
    exact ⟨rfl, hS.pick⟩
  rw [if_neg h3] at hb
  by_cases h4 : 8 ≤ A.length
  · rw [if_pos h4] at hb
    subst hb
    have h4' : (8 : Int) ≤ A.length := by omega
    (go_enter Tryz.func98, Tryz.ntmps98)
    go_wp2_with (first | (go_at_call 104; refine (HF.out _ _ (hS.out (by (repeat (first | exact Out.here | apply Out.there))))).mono ?_; clear hS; rintro e w' ⟨rfl, hS⟩; (have hU := St.unpack hS; clear hS; obtain ⟨⟨va, vt⟩, _, hS⟩ := hU; simp only [List.cons_append, List.nil_append] at hS)) | (first | refine au1 (n := ?_) | (refine au2 (n := ?_); clear hS; intro w' hS) | (refine au3 (n := ?_); clear hS; intro gb w1 hS) | (refine au4 (n := ?_); clear hS; intro v1 w' hS) | ((with_reducible refine wl_guard ?_); refine stop_mem rfl rfl ?_)))
    go_ret
    exact ⟨rfl, (St.packs (va, vt) hS : St S w0 _ (ledg g ⟨A, T⟩ :: _)).pick⟩
  rw [if_neg h4] at hb
  subst hb
  have h4' : ¬ (8 : Int) ≤ A.length := by omega
  (go_enter Tryz.func98, Tryz.ntmps98)
  go_wp2_with (first | (go_at_call 104; refine (HF.out _ _ (hS.out (by (repeat (first | exact Out.here | apply Out.there))))).mono ?_; clear hS; rintro e w' ⟨rfl, hS⟩; (have hU := St.unpack hS; clear hS; obtain ⟨⟨xa, vt⟩, _, hS⟩ := hU; simp only [List.cons_append, List.nil_append] at hS)) | (first | refine au1 (n := ?_) | (refine au2 (n := ?_); clear hS; intro w' hS) | (refine au3 (n := ?_); clear hS; intro gb w1 hS) | (refine au4 (n := ?_); clear hS; intro v1 w' hS) | ((with_reducible refine wl_guard ?_); refine stop_mem rfl rfl ?_)))
  refine region_end 14 [.vec xa 86 4 A.length (A.flatMap Acc.cells)] (.row g [xa, vt] 110 (0, 0) :: .row gb [.int .u64 id, .int .i64 flags, .int .u64 deb, .int .u64 cred] 86 (0, 0) :: .vec vt 91 4 T.length (T.flatMap Tra.cells) :: M) hS.pick (by kernel_rfl) ?_
  clear hS
  intro F wx hR hB hS
  (refine we_take 0 rfl rfl (by kernel_rfl) (by kernel_rfl) (by kernel_rfl) (fun _ _ _ h => h) (by kernel_rfl) rfl (fun W hW => (by (go_simp; try with_reducible rfl))) hS.base ?_; simp only [Act.put, List.setIfInBounds_toArray, List.set_cons_zero, List.set_cons_succ])
  (refine we_take 1 rfl rfl (by kernel_rfl) (by kernel_rfl) (by kernel_rfl) (fun _ _ _ h => h) (by kernel_rfl) rfl (fun W hW => (by (go_simp; try with_reducible rfl))) hS.base ?_; simp only [Act.put, List.setIfInBounds_toArray, List.set_cons_zero, List.set_cons_succ])
  (refine we_take 2 rfl rfl (by kernel_rfl) (by kernel_rfl) (by kernel_rfl) (fun _ _ _ h => h) (by kernel_rfl) rfl (fun W hW => (by (go_simp; try with_reducible rfl))) hS.base ?_; simp only [Act.put, List.setIfInBounds_toArray, List.set_cons_zero, List.set_cons_succ])
  (refine we_take 3 rfl rfl (by kernel_rfl) (by kernel_rfl) (by kernel_rfl) (fun _ _ _ h => h) (by kernel_rfl) rfl (fun W hW => (by (go_simp; try with_reducible rfl))) hS.base ?_; simp only [Act.put, List.setIfInBounds_toArray, List.set_cons_zero, List.set_cons_succ])
  (refine we_take 4 rfl rfl (by kernel_rfl) (by kernel_rfl) (by kernel_rfl) (fun _ _ _ h => h) (by kernel_rfl) rfl (fun W hW => rdR) hS.base ?_; simp only [Act.put, List.setIfInBounds_toArray, List.set_cons_zero, List.set_cons_succ])
  (refine we_take 5 rfl rfl (by kernel_rfl) (by kernel_rfl) (by kernel_rfl) (fun _ _ _ h => h) (by kernel_rfl) rfl (fun W hW => (by (go_simp; try with_reducible rfl))) hS.base ?_; simp only [Act.put, List.setIfInBounds_toArray, List.set_cons_zero, List.set_cons_succ])
  (refine we_take 6 rfl rfl (by kernel_rfl) (by kernel_rfl) (by kernel_rfl) (fun _ _ _ h => h) (by kernel_rfl) rfl (fun W hW => rdR) hS.base ?_; simp only [Act.put, List.setIfInBounds_toArray, List.set_cons_zero, List.set_cons_succ])
  (refine we_take 7 rfl rfl (by kernel_rfl) (by kernel_rfl) (by kernel_rfl) (fun _ _ _ h => h) (by kernel_rfl) rfl (fun W hW => (by (go_simp; try with_reducible rfl))) hS.base ?_; simp only [Act.put, List.setIfInBounds_toArray, List.set_cons_zero, List.set_cons_succ])
  (refine we_take 8 rfl rfl (by kernel_rfl) (by kernel_rfl) (by kernel_rfl) (fun _ _ _ h => h) (by kernel_rfl) rfl (fun W hW => rdR) hS.base ?_; simp only [Act.put, List.setIfInBounds_toArray, List.set_cons_zero, List.set_cons_succ])
  (refine we_take 9 rfl rfl (by kernel_rfl) (by kernel_rfl) (by kernel_rfl) (fun _ _ _ h => h) (by kernel_rfl) rfl (fun W hW => (by (go_simp; try with_reducible rfl))) hS.base ?_; simp only [Act.put, List.setIfInBounds_toArray, List.set_cons_zero, List.set_cons_succ])
  (refine we_all (rs := [10]) (by kernel_rfl) (by simp) ?_; intro i hi; have hi := List.mem_singleton.1 hi; subst hi)
  (refine wod_of rfl rfl rfl (a_build1 (v := .agg _) hS rfl rfl rfl rfl (by rfl) (by simp) ?_); clear hS; intro v1 w4 hS; simp only [List.length_cons, List.length_nil, Nat.zero_add] at hS; try simp only [Nat.reduceAdd] at hS; (refine ⟨fun _ => hS.base, ?_⟩; simp only [Act.put, List.setIfInBounds_toArray, List.set_cons_zero, List.set_cons_succ]))
  (refine we_all (rs := [11]) (by kernel_rfl) (by simp) ?_; intro i hi; have hi := List.mem_singleton.1 hi; subst hi)
  (refine wod_of rfl rfl rfl (k_app (z := (⟨id, flags, 0, 0⟩ : Acc)) hS rfl rfl rfl rfl (h1 := by simp [Acc.cells, Value.oneCell']) (h := ?_)); clear hS; intro va w5 hS hv2; (refine ⟨fun _ => hS.base, ?_⟩; simp only [Act.put, List.setIfInBounds_toArray, List.set_cons_zero, List.set_cons_succ]))
  ((refine we_all (rs := [12]) (by kernel_rfl) (by simp) ?_; intro i hi; have hi := List.mem_singleton.1 hi; subst hi); refine wod_of rfl rfl rfl (wp_run (by (go_simp; first | done | exact ⟨rfl, rfl⟩ | with_reducible rfl)) ?_); (refine ⟨fun _ => hS.base, ?_⟩; simp only [Act.put, List.setIfInBounds_toArray, List.set_cons_zero, List.set_cons_succ]))
  ((refine we_all (rs := [13]) (by kernel_rfl) (by simp) ?_; intro i hi; have hi := List.mem_singleton.1 hi; subst hi); refine wod_of rfl rfl rfl (wp_run (by (go_simp; first | done | exact ⟨rfl, rfl⟩ | with_reducible rfl)) ?_); (refine ⟨fun _ => hS.base, ?_⟩; simp only [Act.put, List.setIfInBounds_toArray, List.set_cons_zero, List.set_cons_succ]))
  (refine we_all (rs := [14]) (by kernel_rfl) (by simp) ?_; intro i hi; have hi := List.mem_singleton.1 hi; subst hi)
  (replace hS := hB _ _ hS; simp only [List.cons_append, List.nil_append] at hS; refine won_of rfl rfl rfl (k_st1 hS rfl rfl rfl (h := ?_)); clear hS; intro w6 hS; simp only [List.set_cons_zero, List.set_cons_succ] at hS; simp only [Act.eval, Array.getD_eq_getD_getElem?, List.getElem?_toArray, List.getElem?_cons_succ, List.getElem?_cons_zero, Option.getD_some] at hS; (refine ⟨fun h => absurd rfl h, ?_⟩; refine we_done (by kernel_rfl) ?_ _))
  go_wp2_with (first | refine au1 (n := ?_) | (refine au2 (n := ?_); clear hS; intro w' hS) | (refine au3 (n := ?_); clear hS; intro gb w1 hS) | (refine au4 (n := ?_); clear hS; intro v1 w' hS) | ((with_reducible refine wl_guard ?_); refine stop_mem rfl rfl ?_))
  go_ret
  exact ⟨rfl, (St.packs (va, vt) hS : St S w0 _ (ledg g ⟨A ++ [⟨id, flags, 0, 0⟩], T⟩ :: _)).pick⟩
end
end Go.Proofs.YtjjiibcnknljfaaGreat
