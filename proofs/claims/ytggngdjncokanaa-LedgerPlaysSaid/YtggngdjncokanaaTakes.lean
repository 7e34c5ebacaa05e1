/-
  event.take at its three types of elements.
-/
import Derived.Test.YtggngdjncokanaaAsked
set_option linter.unusedSimpArgs false
set_option linter.unusedVariables false
set_option linter.unusedSectionVars false
namespace Go.Proofs.Ytggngdjncokanaa
open Go.RowKit Go.Cmp
set_option maxRecDepth 100000

/-- Piece i of so many bytes. -/
def chunk (l : List UInt8) (size i : Nat) : List UInt8 := (l.drop (i * size)).take size
def takeS {α : Type} (g : List UInt8 → α) (size : Nat) (l : List UInt8) : List α × Bool :=
  if l.length = 0 ∨ l.length % size ≠ 0 ∨ 4 < l.length / size then ([], false) else ((List.range (l.length / size)).map fun i => g (chunk l size i), true)
theorem hd_cells {l : List Value} (h : l.length = 1) (h1 : ∀ u ∈ l, u.oneCell' = true) : (hd l).cells = l.toArray := by
  match l, h with
  | [u], _ => have := h1 u (by simp); cases u <;> first | rfl | (simp [Value.oneCell'] at this)
set_option maxHeartbeats 1000000 in
theorem takesID_any {α : Type} (f : FuncId) (hcf : ∀ args w, (callFunc f args).run Try.prog w = .ok (.enter f args) w) (val : α → List Value) (g : List UInt8 → α) (l : List UInt8) (size : Nat) (w : World) (hv : ∀ x, (val x).length = 1) (ho : ∀ x, ∀ u ∈ val x, u.oneCell' = true) (hz : 0 < size) (hz2 : size ≤ 32)
    (hl : l.length ≤ 140737488355328)
    (hE : ∀ c : List UInt8, c.length = size → ∀ w, Calls Try.prog f #[.string ⟨c.toArray⟩] w fun e w' => e = .returned (hd (val (g c))) ∧ St [] w w' []) :
    Calls Try.prog 79 #[.string ⟨l.toArray⟩, .int .i64 size, .func (.func f) #[] #[]] w fun e w' => ∃ v, e = .returned (.tuple #[v, .bool (takeS g size l).2]) ∧ St [] w w' [.vec v 43 1 (takeS g size l).1.length ((takeS g size l).1.flatMap val)] := by
  have HE := Lib.hid hE
  have HO := Lib.hid ho
  have HV := Lib.hid hv
  clear hE ho hv
  have hdiv : (l.length : Int) / (size : Int) = ((l.length / size : Nat) : Int) := by push_cast; rfl
  have hdle : l.length / size ≤ l.length := Nat.div_le_self _ _
  obtain ⟨m, hm⟩ : ∃ m, l.length / size = m := ⟨_, rfl⟩
  have Hm := Lib.hid hm
  rw [hm] at hdiv hdle
  have s1 : wrap64 ((l.length : Int) / (size : Int)) = (m : Int) := by rw [hdiv]; exact IntWalk.wrap64_in _ ⟨by omega, by omega⟩
  have hsz : ((size : Int) == 0) = false := beq_eq_false_iff_ne.2 (by omega)
  have hsz' : ¬ size = 0 := by omega
  clear hm hdiv
  by_cases h0 : l = []
  · have hp : takeS g size l = ([], false) := by unfold takeS; rw [if_pos (.inl (by rw [h0]; rfl))]
    rw [hp]
    go_enter Try.func79, Try.ntmps79
    refine St.startAt w fun w1 hS => ?_
    go_wp2_with (fail)
    go_ret2
    exact ⟨_, rfl, hS.addNil _ _⟩
  have h0' : ((l.length : Int) == 0) = false := beq_eq_false_iff_ne.2 (by have := List.length_pos_iff.2 h0; omega)
  by_cases h1 : l.length % size = 0
  · have h1' : (l.length : Int) % (size : Int) = 0 := by rw [← Int.natCast_emod, h1]; rfl
    by_cases h4 : 4 < m
    · have hp : takeS g size l = ([], false) := by unfold takeS; rw [if_pos (.inr (.inr (by rw [Hm.out]; exact h4)))]
      rw [hp]
      have d4 : (4 : Int) < m := by omega
      go_enter Try.func79, Try.ntmps79
      refine St.startAt w fun w1 hS => ?_
      go_wp2_with (fail)
      go_ret2
      exact ⟨_, rfl, hS.addNil _ _⟩
    · have hp : takeS g size l = ((List.range m).map fun i => g (chunk l size i), true) := by
        unfold takeS; rw [if_neg (by rw [Hm.out]; have := List.length_pos_iff.2 h0; omega), Hm.out]
      rw [hp]
      have d4 : (m : Int) ≤ 4 := by omega
      have d4' : decide ((4 : Int) < m) = false := by simp; omega
      go_enter Try.func79, Try.ntmps79
      refine St.startAt w fun w1 hS => ?_
      go_wp2_with (fail)
      have hlm : l.length = m * size := by
        have := Nat.div_add_mod l.length size
        rw [h1, Hm.out, Nat.add_zero, Nat.mul_comm] at this
        exact this.symm
      have Hlm := Lib.hid hlm
      clear hlm hp s1 h0' h1' d4'
      replace hS := hS.addNil 43 1
      go_loopw [0, 8] (fun s v wr => ∃ (j : Nat) (r : List UInt8), j ≤ m ∧ s = .string ⟨r.toArray⟩ ∧ Hid (r = l.drop (j * size)) ∧ St [] w wr [.vec v 43 1 j (((List.range j).map fun i => g (chunk l size i)).flatMap val)]) (fun s _ _ => match s with | .string b => b.size | _ => 0)
      case atStart => exact ⟨0, l, by omega, rfl, Lib.hid (by simp), hS⟩
      case round =>
        clear hS
        obtain ⟨j, r, hj, rfl, Hr, hS⟩ := hrel
        by_cases hlt : j < m
        · have hrl : size ≤ r.length := by
            rw [Hr.out, List.length_drop, Hlm.out]
            have : (j + 1) * size ≤ m * size := Nat.mul_le_mul_right _ hlt
            rw [Nat.add_mul, Nat.one_mul] at this
            omega
          have hr0 : r.isEmpty = false := by cases r with | nil => simp at hrl; omega | cons => rfl
          have hx1 : (⟨r.toArray⟩ : ByteArray).extract 0 size = ⟨(r.take size).toArray⟩ := by rw [bx, List.drop_zero]
          have hx2 : (⟨r.toArray⟩ : ByteArray).extract size r.length = ⟨(r.drop size).toArray⟩ := by rw [bx, List.take_length]
          have hrs : (0 : Int) ≤ (size : Int) := by omega
          have hrs2 : (size : Int) ≤ (r.length : Int) := by omega
          have hch : r.take size = chunk l size j := by rw [Hr.out]; rfl
          have Hch := Lib.hid hch
          clear hch
          have hcl : (r.take size).length = size := by simp; omega
          have Hcl := Lib.hid hcl
          clear hcl
          have hS0 := hS
          clear hS
          go_wp2_with (fail)
          refine (HE.out _ Hcl.out _).mono ?_
          rintro e w2 ⟨rfl, hS2⟩
          have hS := hS0.call hS2
          clear hS2 hS0
          have hbl : (j + 1) * 8 ≤ 140737488355328 := by omega
          go_wp2_with (first | ((with_reducible refine g_bs ?_); refine wl_of rfl ?_; refine wp_build1 (ti := Try.t43) (cs := val (g (r.take size))) hS rfl rfl (hd_cells (HV.out _) (HO.out _)) rfl rfl rfl (HV.out _) (by decide) rfl ?_; clear hS; intro v1 w3 hS) | ((with_reducible refine g_append ?_); refine wl_of rfl ?_; refine wp_append (ti := Try.t43) hS rfl 1 rfl (hS.rdv (i := 0) rfl) rfl rfl rfl rfl rfl rfl (by decide) rfl (HO.out _) hbl ?_; clear hS; intro v2 w4 hS _) | fail)
          refine ⟨⟨j + 1, r.drop size, by omega, rfl, Lib.hid ?_, ?_⟩, ?_⟩
          · rw [Hr.out, List.drop_drop, Nat.add_mul, Nat.one_mul]
          · have hf := (hS.front 1 rfl).one
            rw [List.range_succ, List.map_append, List.flatMap_append]
            rw [Hch.out] at hf
            simpa using hf
          · have hsr : ∀ q : List UInt8, (⟨q.toArray⟩ : ByteArray).size = q.length := fun q => by simp [ByteArray.size]
            simp only [hsr, List.length_drop]
            omega
        · have hr0 : r = [] := by
            rw [Hr.out]
            obtain rfl : j = m := by omega
            exact List.drop_eq_nil_of_le (by rw [Hlm.out]; exact Nat.le_refl _)
          subst hr0
          obtain rfl : j = m := by omega
          go_wp2
          go_ret2
          exact ⟨_, rfl, by simpa using hS⟩
  · have h1' : ¬ (l.length : Int) % (size : Int) = 0 := by rw [← Int.natCast_emod]; omega
    have hp : takeS g size l = ([], false) := by unfold takeS; rw [if_pos (.inr (.inl h1))]
    rw [hp]
    go_enter Try.func79, Try.ntmps79
    refine St.startAt w fun w1 hS => ?_
    go_wp2_with (fail)
    go_ret2
    exact ⟨_, rfl, hS.addNil _ _⟩
set_option maxHeartbeats 1000000 in
theorem takesAccount_any {α : Type} (f : FuncId) (hcf : ∀ args w, (callFunc f args).run Try.prog w = .ok (.enter f args) w) (val : α → List Value) (g : List UInt8 → α) (l : List UInt8) (size : Nat) (w : World) (hv : ∀ x, (val x).length = 4) (ho : ∀ x, ∀ u ∈ val x, u.oneCell' = true) (hz : 0 < size) (hz2 : size ≤ 32)
    (hl : l.length ≤ 140737488355328)
    (hE : ∀ c : List UInt8, c.length = size → ∀ w, Calls Try.prog f #[.string ⟨c.toArray⟩] w fun e w' => e = .returned (ag (val (g c))) ∧ St [] w w' []) :
    Calls Try.prog 60 #[.string ⟨l.toArray⟩, .int .i64 size, .func (.func f) #[] #[]] w fun e w' => ∃ v, e = .returned (.tuple #[v, .bool (takeS g size l).2]) ∧ St [] w w' [.vec v 47 4 (takeS g size l).1.length ((takeS g size l).1.flatMap val)] := by
  have HE := Lib.hid hE
  have HO := Lib.hid ho
  have HV := Lib.hid hv
  clear hE ho hv
  have hdiv : (l.length : Int) / (size : Int) = ((l.length / size : Nat) : Int) := by push_cast; rfl
  have hdle : l.length / size ≤ l.length := Nat.div_le_self _ _
  obtain ⟨m, hm⟩ : ∃ m, l.length / size = m := ⟨_, rfl⟩
  have Hm := Lib.hid hm
  rw [hm] at hdiv hdle
  have s1 : wrap64 ((l.length : Int) / (size : Int)) = (m : Int) := by rw [hdiv]; exact IntWalk.wrap64_in _ ⟨by omega, by omega⟩
  have hsz : ((size : Int) == 0) = false := beq_eq_false_iff_ne.2 (by omega)
  have hsz' : ¬ size = 0 := by omega
  clear hm hdiv
  by_cases h0 : l = []
  · have hp : takeS g size l = ([], false) := by unfold takeS; rw [if_pos (.inl (by rw [h0]; rfl))]
    rw [hp]
    go_enter Try.func60, Try.ntmps60
    refine St.startAt w fun w1 hS => ?_
    go_wp2_with (fail)
    go_ret2
    exact ⟨_, rfl, hS.addNil _ _⟩
  have h0' : ((l.length : Int) == 0) = false := beq_eq_false_iff_ne.2 (by have := List.length_pos_iff.2 h0; omega)
  by_cases h1 : l.length % size = 0
  · have h1' : (l.length : Int) % (size : Int) = 0 := by rw [← Int.natCast_emod, h1]; rfl
    by_cases h4 : 4 < m
    · have hp : takeS g size l = ([], false) := by unfold takeS; rw [if_pos (.inr (.inr (by rw [Hm.out]; exact h4)))]
      rw [hp]
      have d4 : (4 : Int) < m := by omega
      go_enter Try.func60, Try.ntmps60
      refine St.startAt w fun w1 hS => ?_
      go_wp2_with (fail)
      go_ret2
      exact ⟨_, rfl, hS.addNil _ _⟩
    · have hp : takeS g size l = ((List.range m).map fun i => g (chunk l size i), true) := by
        unfold takeS; rw [if_neg (by rw [Hm.out]; have := List.length_pos_iff.2 h0; omega), Hm.out]
      rw [hp]
      have d4 : (m : Int) ≤ 4 := by omega
      have d4' : decide ((4 : Int) < m) = false := by simp; omega
      go_enter Try.func60, Try.ntmps60
      refine St.startAt w fun w1 hS => ?_
      go_wp2_with (fail)
      have hlm : l.length = m * size := by
        have := Nat.div_add_mod l.length size
        rw [h1, Hm.out, Nat.add_zero, Nat.mul_comm] at this
        exact this.symm
      have Hlm := Lib.hid hlm
      clear hlm hp s1 h0' h1' d4'
      replace hS := hS.addNil 47 4
      go_loopw [0, 8] (fun s v wr => ∃ (j : Nat) (r : List UInt8), j ≤ m ∧ s = .string ⟨r.toArray⟩ ∧ Hid (r = l.drop (j * size)) ∧ St [] w wr [.vec v 47 4 j (((List.range j).map fun i => g (chunk l size i)).flatMap val)]) (fun s _ _ => match s with | .string b => b.size | _ => 0)
      case atStart => exact ⟨0, l, by omega, rfl, Lib.hid (by simp), hS⟩
      case round =>
        clear hS
        obtain ⟨j, r, hj, rfl, Hr, hS⟩ := hrel
        by_cases hlt : j < m
        · have hrl : size ≤ r.length := by
            rw [Hr.out, List.length_drop, Hlm.out]
            have : (j + 1) * size ≤ m * size := Nat.mul_le_mul_right _ hlt
            rw [Nat.add_mul, Nat.one_mul] at this
            omega
          have hr0 : r.isEmpty = false := by cases r with | nil => simp at hrl; omega | cons => rfl
          have hx1 : (⟨r.toArray⟩ : ByteArray).extract 0 size = ⟨(r.take size).toArray⟩ := by rw [bx, List.drop_zero]
          have hx2 : (⟨r.toArray⟩ : ByteArray).extract size r.length = ⟨(r.drop size).toArray⟩ := by rw [bx, List.take_length]
          have hrs : (0 : Int) ≤ (size : Int) := by omega
          have hrs2 : (size : Int) ≤ (r.length : Int) := by omega
          have hch : r.take size = chunk l size j := by rw [Hr.out]; rfl
          have Hch := Lib.hid hch
          clear hch
          have hcl : (r.take size).length = size := by simp; omega
          have Hcl := Lib.hid hcl
          clear hcl
          have hS0 := hS
          clear hS
          go_wp2_with (fail)
          refine (HE.out _ Hcl.out _).mono ?_
          rintro e w2 ⟨rfl, hS2⟩
          have hS := hS0.call hS2
          clear hS2 hS0
          have hbl : (j + 1) * 32 ≤ 140737488355328 := by omega
          go_wp2_with (first | ((with_reducible refine g_bs ?_); refine wl_of rfl ?_; refine wp_build1 (ti := Try.t47) (cs := val (g (r.take size))) hS rfl rfl rfl rfl rfl rfl (HV.out _) (by decide) rfl ?_; clear hS; intro v1 w3 hS) | ((with_reducible refine g_append ?_); refine wl_of rfl ?_; refine wp_append (ti := Try.t47) hS rfl 1 rfl (hS.rdv (i := 0) rfl) rfl rfl rfl rfl rfl rfl (by decide) rfl (HO.out _) hbl ?_; clear hS; intro v2 w4 hS _) | fail)
          refine ⟨⟨j + 1, r.drop size, by omega, rfl, Lib.hid ?_, ?_⟩, ?_⟩
          · rw [Hr.out, List.drop_drop, Nat.add_mul, Nat.one_mul]
          · have hf := (hS.front 1 rfl).one
            rw [List.range_succ, List.map_append, List.flatMap_append]
            rw [Hch.out] at hf
            simpa using hf
          · have hsr : ∀ q : List UInt8, (⟨q.toArray⟩ : ByteArray).size = q.length := fun q => by simp [ByteArray.size]
            simp only [hsr, List.length_drop]
            omega
        · have hr0 : r = [] := by
            rw [Hr.out]
            obtain rfl : j = m := by omega
            exact List.drop_eq_nil_of_le (by rw [Hlm.out]; exact Nat.le_refl _)
          subst hr0
          obtain rfl : j = m := by omega
          go_wp2
          go_ret2
          exact ⟨_, rfl, by simpa using hS⟩
  · have h1' : ¬ (l.length : Int) % (size : Int) = 0 := by rw [← Int.natCast_emod]; omega
    have hp : takeS g size l = ([], false) := by unfold takeS; rw [if_pos (.inr (.inl h1))]
    rw [hp]
    go_enter Try.func60, Try.ntmps60
    refine St.startAt w fun w1 hS => ?_
    go_wp2_with (fail)
    go_ret2
    exact ⟨_, rfl, hS.addNil _ _⟩
set_option maxHeartbeats 1000000 in
theorem takesTransfer_any {α : Type} (f : FuncId) (hcf : ∀ args w, (callFunc f args).run Try.prog w = .ok (.enter f args) w) (val : α → List Value) (g : List UInt8 → α) (l : List UInt8) (size : Nat) (w : World) (hv : ∀ x, (val x).length = 4) (ho : ∀ x, ∀ u ∈ val x, u.oneCell' = true) (hz : 0 < size) (hz2 : size ≤ 32)
    (hl : l.length ≤ 140737488355328)
    (hE : ∀ c : List UInt8, c.length = size → ∀ w, Calls Try.prog f #[.string ⟨c.toArray⟩] w fun e w' => e = .returned (ag (val (g c))) ∧ St [] w w' []) :
    Calls Try.prog 63 #[.string ⟨l.toArray⟩, .int .i64 size, .func (.func f) #[] #[]] w fun e w' => ∃ v, e = .returned (.tuple #[v, .bool (takeS g size l).2]) ∧ St [] w w' [.vec v 45 4 (takeS g size l).1.length ((takeS g size l).1.flatMap val)] := by
  have HE := Lib.hid hE
  have HO := Lib.hid ho
  have HV := Lib.hid hv
  clear hE ho hv
  have hdiv : (l.length : Int) / (size : Int) = ((l.length / size : Nat) : Int) := by push_cast; rfl
  have hdle : l.length / size ≤ l.length := Nat.div_le_self _ _
  obtain ⟨m, hm⟩ : ∃ m, l.length / size = m := ⟨_, rfl⟩
  have Hm := Lib.hid hm
  rw [hm] at hdiv hdle
  have s1 : wrap64 ((l.length : Int) / (size : Int)) = (m : Int) := by rw [hdiv]; exact IntWalk.wrap64_in _ ⟨by omega, by omega⟩
  have hsz : ((size : Int) == 0) = false := beq_eq_false_iff_ne.2 (by omega)
  have hsz' : ¬ size = 0 := by omega
  clear hm hdiv
  by_cases h0 : l = []
  · have hp : takeS g size l = ([], false) := by unfold takeS; rw [if_pos (.inl (by rw [h0]; rfl))]
    rw [hp]
    go_enter Try.func63, Try.ntmps63
    refine St.startAt w fun w1 hS => ?_
    go_wp2_with (fail)
    go_ret2
    exact ⟨_, rfl, hS.addNil _ _⟩
  have h0' : ((l.length : Int) == 0) = false := beq_eq_false_iff_ne.2 (by have := List.length_pos_iff.2 h0; omega)
  by_cases h1 : l.length % size = 0
  · have h1' : (l.length : Int) % (size : Int) = 0 := by rw [← Int.natCast_emod, h1]; rfl
    by_cases h4 : 4 < m
    · have hp : takeS g size l = ([], false) := by unfold takeS; rw [if_pos (.inr (.inr (by rw [Hm.out]; exact h4)))]
      rw [hp]
      have d4 : (4 : Int) < m := by omega
      go_enter Try.func63, Try.ntmps63
      refine St.startAt w fun w1 hS => ?_
      go_wp2_with (fail)
      go_ret2
      exact ⟨_, rfl, hS.addNil _ _⟩
    · have hp : takeS g size l = ((List.range m).map fun i => g (chunk l size i), true) := by
        unfold takeS; rw [if_neg (by rw [Hm.out]; have := List.length_pos_iff.2 h0; omega), Hm.out]
      rw [hp]
      have d4 : (m : Int) ≤ 4 := by omega
      have d4' : decide ((4 : Int) < m) = false := by simp; omega
      go_enter Try.func63, Try.ntmps63
      refine St.startAt w fun w1 hS => ?_
      go_wp2_with (fail)
      have hlm : l.length = m * size := by
        have := Nat.div_add_mod l.length size
        rw [h1, Hm.out, Nat.add_zero, Nat.mul_comm] at this
        exact this.symm
      have Hlm := Lib.hid hlm
      clear hlm hp s1 h0' h1' d4'
      replace hS := hS.addNil 45 4
      go_loopw [0, 8] (fun s v wr => ∃ (j : Nat) (r : List UInt8), j ≤ m ∧ s = .string ⟨r.toArray⟩ ∧ Hid (r = l.drop (j * size)) ∧ St [] w wr [.vec v 45 4 j (((List.range j).map fun i => g (chunk l size i)).flatMap val)]) (fun s _ _ => match s with | .string b => b.size | _ => 0)
      case atStart => exact ⟨0, l, by omega, rfl, Lib.hid (by simp), hS⟩
      case round =>
        clear hS
        obtain ⟨j, r, hj, rfl, Hr, hS⟩ := hrel
        by_cases hlt : j < m
        · have hrl : size ≤ r.length := by
            rw [Hr.out, List.length_drop, Hlm.out]
            have : (j + 1) * size ≤ m * size := Nat.mul_le_mul_right _ hlt
            rw [Nat.add_mul, Nat.one_mul] at this
            omega
          have hr0 : r.isEmpty = false := by cases r with | nil => simp at hrl; omega | cons => rfl
          have hx1 : (⟨r.toArray⟩ : ByteArray).extract 0 size = ⟨(r.take size).toArray⟩ := by rw [bx, List.drop_zero]
          have hx2 : (⟨r.toArray⟩ : ByteArray).extract size r.length = ⟨(r.drop size).toArray⟩ := by rw [bx, List.take_length]
          have hrs : (0 : Int) ≤ (size : Int) := by omega
          have hrs2 : (size : Int) ≤ (r.length : Int) := by omega
          have hch : r.take size = chunk l size j := by rw [Hr.out]; rfl
          have Hch := Lib.hid hch
          clear hch
          have hcl : (r.take size).length = size := by simp; omega
          have Hcl := Lib.hid hcl
          clear hcl
          have hS0 := hS
          clear hS
          go_wp2_with (fail)
          refine (HE.out _ Hcl.out _).mono ?_
          rintro e w2 ⟨rfl, hS2⟩
          have hS := hS0.call hS2
          clear hS2 hS0
          have hbl : (j + 1) * 32 ≤ 140737488355328 := by omega
          go_wp2_with (first | ((with_reducible refine g_bs ?_); refine wl_of rfl ?_; refine wp_build1 (ti := Try.t45) (cs := val (g (r.take size))) hS rfl rfl rfl rfl rfl rfl (HV.out _) (by decide) rfl ?_; clear hS; intro v1 w3 hS) | ((with_reducible refine g_append ?_); refine wl_of rfl ?_; refine wp_append (ti := Try.t45) hS rfl 1 rfl (hS.rdv (i := 0) rfl) rfl rfl rfl rfl rfl rfl (by decide) rfl (HO.out _) hbl ?_; clear hS; intro v2 w4 hS _) | fail)
          refine ⟨⟨j + 1, r.drop size, by omega, rfl, Lib.hid ?_, ?_⟩, ?_⟩
          · rw [Hr.out, List.drop_drop, Nat.add_mul, Nat.one_mul]
          · have hf := (hS.front 1 rfl).one
            rw [List.range_succ, List.map_append, List.flatMap_append]
            rw [Hch.out] at hf
            simpa using hf
          · have hsr : ∀ q : List UInt8, (⟨q.toArray⟩ : ByteArray).size = q.length := fun q => by simp [ByteArray.size]
            simp only [hsr, List.length_drop]
            omega
        · have hr0 : r = [] := by
            rw [Hr.out]
            obtain rfl : j = m := by omega
            exact List.drop_eq_nil_of_le (by rw [Hlm.out]; exact Nat.le_refl _)
          subst hr0
          obtain rfl : j = m := by omega
          go_wp2
          go_ret2
          exact ⟨_, rfl, by simpa using hS⟩
  · have h1' : ¬ (l.length : Int) % (size : Int) = 0 := by rw [← Int.natCast_emod]; omega
    have hp : takeS g size l = ([], false) := by unfold takeS; rw [if_pos (.inr (.inl h1))]
    rw [hp]
    go_enter Try.func63, Try.ntmps63
    refine St.startAt w fun w1 hS => ?_
    go_wp2_with (fail)
    go_ret2
    exact ⟨_, rfl, hS.addNil _ _⟩
end Go.Proofs.Ytggngdjncokanaa
