/- What the statements' walks need. -/
import Derived.Test.YtemcemimipagoaaMVa4
import Derived.Test.YtemcemimipagoaaMVx3
import Derived.Test.YtemcemimipagoaaMVx4
import Derived.Test.YtemcemimipagoaaMVa2
set_option linter.unusedVariables false
set_option linter.unusedSimpArgs false
set_option maxRecDepth 100000
namespace Go.Proofs.Ytemcemimipagoaa
open Go Go.Proofs AW
def HObj.In (o : HObj) : Prop := In64 o.cls ∧ In64 o.kind ∧ (∀ x ∈ o.slots, In64 x) ∧ In64 o.bits ∧ In64 o.hash ∧ o.slots.length < 1099511627776 ∧ o.text.size < 1099511627776
def HHeap.In (h : HHeap) : Prop := (∀ o ∈ h.objs, o.In) ∧ In64 h.cap ∧ In64 h.last ∧ h.objs.length < 1099511627776
def kindB (o : HObj) : Bool := decide ((o.kind ≠ 0 → o.slots.length = 0) ∧ (o.kind ≠ 1 → o.text.size = 0) ∧ (o.kind ≠ 2 → o.bits = 0))
def headB (n : Int) (o : HObj) : Bool := decide (0 ≤ refI n o.cls ∧ 0 ≤ o.kind ∧ o.kind ≤ 2 ∧ 0 ≤ o.hash ∧ o.hash ≤ 1073741823)
def restB (n : Int) (o : HObj) : Bool := decide (o.slots.length ≤ 64 ∧ o.text.size ≤ 64 ∧ canI o.bits = o.bits) && o.slots.all (hasB n)
def mayObj (n : Int) (o : HObj) : Bool := headB n o && (kindB o && restB n o)
def mayH (h : HHeap) : Bool :=
  decide (1 ≤ h.cap ∧ h.cap ≤ 256 ∧ (h.objs.length : Int) ≤ h.cap ∧ 0 ≤ h.last ∧ h.last ≤ 1073741823) && h.objs.all (mayObj h.objs.length)
theorem may1_ok (n v : Int) : Gives Try.prog 73 [iv v, .ip [iv n]] (bv !(hasB n v)) := by
  refine gives_of Try.func73 rfl (Nat.le_of_ble_eq_true rfl) ?_
  (repeat' (first | refine mv ?_ | refine asg ?_ | refine ld ?_ | refine aops_nil ?_ | refine aw_seq ?_ | refine aw_region ?_ | fail))
  refine cl (has_ok _ _) ?_
  (repeat' (first | refine asg ?_ | refine un ?_ | refine aops_nil ?_ | refine aw_ret ?_ | fail))
  exact fin (sh_bv rfl)
theorem toList_nil (b : ByteArray) : (b.toList == ([] : List UInt8)) = decide (b.size = 0) := by
  have : b.toList.length = b.size := by rw [ByteArray.toList_eq]; rfl
  cases h : b.toList with
  | nil => rw [h] at this; simp at this; simp [← this]
  | cons x l => rw [h] at this; simp at this; simp [← this]
theorem nil_toList : (⟨#[]⟩ : ByteArray).toList = [] := by rw [ByteArray.toList_eq]
theorem str_nil (b : ByteArray) : (b.toList == (⟨#[]⟩ : ByteArray).toList) = decide (b.size = 0) := by rw [nil_toList, toList_nil]
set_option maxRecDepth 100000 in
set_option maxHeartbeats 4000000 in
theorem omay_ok (n : Int) (o : HObj) (h : o.In) : Gives Try.prog 54 [iv n, .agg (encObj o)] (bv (mayObj n o)) := by
  obtain ⟨i1, i2, i3, i4, i5, i6, i7⟩ := h
  refine gives_of Try.func54 rfl (Nat.le_of_ble_eq_true rfl) ?_
  refine aw_seq ?_
  refine aw_region ?_
  (repeat' (first | refine asg ?_ | refine aops_nil ?_ | refine bx 0 ?_ | refine bx 1 ?_ | fail))
  refine aw_cutE (ι := PLift (headB n o = true ∧ kindB o = true)) (fun _ => [(2, .ptr 0 0 0), (3, .ptr 1 0 0)]) ?_ ?_
  · (repeat' (first | refine ld ?_ | refine fp ?_ | refine aw_seq ?_ | refine aw_region ?_ | refine aw_block ?_ | fail))
    refine cl (ref_ok _ _) ?_
    (repeat' (first | refine mv ?_ | refine bi ?_ | fail))
    refine gs (fun h1 => ?_) (fun h1 => ?_) <;> (repeat' (first | refine sk ?_ | refine mv ?_ | refine asg ?_ | refine ld ?_ | refine fp ?_ | refine pt ?_ | refine aops_nil ?_ | refine aw_seq ?_ | refine aw_region ?_ | refine aw_cond_t rfl ?_ | refine aw_ret ?_ | fail))
    · refine fin (sh_bv ?_); simp at h1; simp [mayObj, headB]; omega
    refine cl (in_ok _ _) ?_
    (repeat' (first | refine mv ?_ | refine un ?_ | refine pf ?_ | fail))
    refine gs (fun h2 => ?_) (fun h2 => ?_) <;> (repeat' (first | refine sk ?_ | refine asg ?_ | refine ld ?_ | refine fp ?_ | refine pt ?_ | refine aops_nil ?_ | refine aw_seq ?_ | refine aw_region ?_ | refine aw_cond_t rfl ?_ | refine aw_ret ?_ | fail))
    · refine fin (sh_bv ?_); simp at h2; simp [mayObj, headB]; omega
    refine cl (in_ok _ _) ?_
    (repeat' (first | refine asg ?_ | refine un ?_ | refine pf ?_ | refine aops_nil ?_ | fail))
    refine aw_cond rfl (fun h3 => ?_) (fun h3 => ?_) <;> (repeat' (first | refine mv ?_ | refine asg ?_ | refine ld ?_ | refine fp ?_ | refine bi ?_ | refine aops_nil ?_ | refine aw_seq ?_ | refine aw_region ?_ | refine aw_ret ?_ | fail))
    · refine fin (sh_bv ?_); simp at h3; simp [mayObj, headB]; omega
    have hh : headB n o = true := by simp at h1 h2 h3; simp [headB]; omega
    clear h1 h2 h3
    (repeat' (first | refine sk ?_ | refine mv ?_ | refine asg ?_ | refine ld ?_ | refine fp ?_ | refine bi ?_ | refine pt ?_ | refine pf ?_ | refine ln ?_ | refine aops_nil ?_ | refine aw_seq ?_ | refine aw_region ?_ | refine aw_cond_t rfl ?_ | refine aw_cond_f rfl ?_ | refine aw_skip ?_ | refine aw_ret ?_ | refine gs (fun h => ?_) (fun h => ?_) | refine aw_cond rfl (fun h => ?_) (fun h => ?_) | fail))
    all_goals simp only [str_nil] at *
    all_goals first
      | (refine fin (sh_bv (x := false) ?_); simp only [mayObj, hh, Bool.true_and]; have : kindB o = false := (by simp at *; simp [kindB]; grind); rw [this]; rfl)
      | (refine ⟨⟨hh, ?_⟩, rfl, rfl, rfl, trivial⟩; simp at *; simp [kindB]; grind)
  · rintro ⟨hh, hk⟩
    refine aw_seq ?_
    refine aw_draw 25 none ?_
    all_goals first | refine dk ?_ | refine ds (y_faddr_ptr (hs := Nat.le_of_ble_eq_true rfl)) ?_
    all_goals first | refine dk ?_ | refine ds y_load ?_
    all_goals first | refine dk ?_ | refine ds y_len ?_
    all_goals first | refine dk ?_ | refine ds y_bin ?_
    all_goals first | refine dk ?_ | refine ds y_move ?_
    all_goals first | refine dg (fun h => ?_) (fun h => ?_) | skip
    all_goals first | refine dk ?_ | refine ds (y_faddr_ptr (hs := Nat.le_of_ble_eq_true rfl)) ?_
    all_goals first | refine dk ?_ | refine ds y_load ?_
    all_goals first | refine dk ?_ | refine ds y_lens ?_
    all_goals first | refine dk ?_ | refine ds y_bin ?_
    all_goals first | refine dk ?_ | refine ds y_pick_t ?_ | refine ds y_pick_f ?_
    all_goals first | refine dk ?_ | refine ds y_move ?_
    all_goals first | refine dg (fun h => ?_) (fun h => ?_) | skip
    all_goals first | refine dk ?_ | refine ds (y_faddr_ptr (hs := Nat.le_of_ble_eq_true rfl)) ?_
    all_goals first | refine dk ?_ | refine ds y_load ?_
    all_goals first | refine dk ?_ | refine ds (y_call (canon_ok _ i4)) ?_
    all_goals first | refine dk ?_ | refine ds (y_faddr_ptr (hs := Nat.le_of_ble_eq_true rfl)) ?_
    all_goals first | refine dk ?_ | refine ds y_load ?_
    all_goals first | refine dk ?_ | refine ds y_bin ?_
    all_goals first | refine dk ?_ | refine ds y_pick_t ?_ | refine ds y_pick_f ?_
    all_goals first | refine dk ?_ | refine ds y_move ?_
    all_goals first | refine dg (fun h => ?_) (fun h => ?_) | skip
    all_goals first | refine dk ?_ | refine ds (y_faddr_ptr (hs := Nat.le_of_ble_eq_true rfl)) ?_
    all_goals first | refine dk ?_ | refine ds y_load ?_
    all_goals first | refine dk ?_ | refine ds y_makeFunc ?_
    all_goals first | refine dk ?_ | refine ds (y_callS (containsFunc_int o.slots 73 [.ip [iv n]] (fun v => !(hasB n v)) rfl ⟨by simp, trivial⟩ (fun v _ => may1_ok n v) i6) (hsh := by exact ⟨.same _ (by simp), sh_clo ⟨sh_box rfl ⟨.same _ (.v _), trivial⟩, trivial⟩, trivial⟩)) ?_
    all_goals first | refine dk ?_ | refine ds y_un ?_
    all_goals first | refine dk ?_ | refine ds y_pick_t ?_ | refine ds y_pick_f ?_
    all_goals refine dn ?_
    all_goals (repeat' (first | refine asg ?_ | refine aops_nil ?_ | refine aw_ret ?_ | fail))
    all_goals refine fin (sh_bv ?_)
    all_goals (simp at *; simp [mayObj, hh, hk, restB]; grind)
end Go.Proofs.Ytemcemimipagoaa
