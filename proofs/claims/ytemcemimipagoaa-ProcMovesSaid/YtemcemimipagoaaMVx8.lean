/- What the statements' walks need. -/
import Derived.Test.YtemcemimipagoaaMVa4
import Derived.Test.YtemcemimipagoaaMVx5
import Derived.Test.YtemcemimipagoaaMVx6
import Derived.Test.YtemcemimipagoaaMVx7
import Derived.Test.YtemcemimipagoaaMVa2
set_option linter.unusedVariables false
set_option linter.unusedSimpArgs false
set_option maxRecDepth 100000
namespace Go.Proofs.Ytemcemimipagoaa
open Go Go.Proofs AW
set_option maxRecDepth 100000 in
set_option maxHeartbeats 4000000 in
theorem robj_ok (H : HHeap) (o : HObj) (hi : H.objs.length < 1099511627776) (ho : o.In) : Gives Try.prog 22 [.agg (encHeap H), .agg (encObj o)] (bv (mayObj H.objs.length o)) := by
  obtain ⟨i1, i2, i3, i4, i5, i6, i7⟩ := ho
  refine gives_of Try.func22 rfl (Nat.le_of_ble_eq_true rfl) ?_
  (repeat' (first | refine asg ?_ | refine aops_nil ?_ | refine aw_seq ?_ | refine aw_region ?_ | refine aw_block ?_ | refine bx 0 ?_ | refine bx 1 ?_ | fail))
  refine aw_forE o.slots.length (fun k => k ≤ o.slots.length ∧ ∀ (j : Nat) (y : Int), j < k → o.slots[j]? = some y → hasB H.objs.length y = true) (fun k => [(5, iv (k : Int)), (2, .ptr 0 0 0), (3, .ptr 1 0 0)])
    0 ⟨by omega, by omega⟩ ⟨rfl, rfl, rfl, trivial⟩ ?_
  rintro k ⟨hk, hprev⟩
  (repeat' (first | refine mv ?_ | refine ld ?_ | refine fp ?_ | refine bi ?_ | refine ln ?_ | refine aops_nil ?_ | refine aw_seq ?_ | refine aw_region ?_ | fail))
  refine aw_cond rfl (fun h => ?_) (fun h => ?_) <;> simp at h
  · (repeat' (first | refine aw_seq ?_ | refine aw_block ?_ | refine aw_skip ?_ | fail))
    have hget : o.slots[k]? = some o.slots[k] := List.getElem?_eq_getElem h
    refine aw_draw 8 none ?_
    (repeat' (first | refine dn ?_ | refine ds y_move ?_ | refine ds y_load ?_ | refine ds (y_faddr_ptr (hs := Nat.le_of_ble_eq_true rfl)) ?_ | refine ds y_un ?_ | refine ds y_loadsN ?_ | refine ds (y_iaddrN k (ints_get hget)) ?_ | refine ds (y_call (rHas_ok H _ hi) (hno := ⟨noOwn_heap H, .v _, trivial⟩)) ?_ | fail))
    (repeat' (first | refine aops_nil ?_ | fail))
    refine aw_cond rfl (fun h2 => ?_) (fun h2 => ?_) <;> simp at h2
    · (repeat' (first | refine asg ?_ | refine aops_nil ?_ | refine aw_seq ?_ | refine aw_region ?_ | refine aw_ret ?_ | fail))
      refine fin (sh_bv ?_)
      have : o.slots.all (hasB H.objs.length) = false := by
        rw [List.all_eq_false]; exact ⟨_, List.getElem_mem h, by simp [h2]⟩
      simp [mayObj, restB, this]
    · (repeat' (first | refine mv ?_ | refine asg ?_ | refine bw ?_ | refine aops_nil ?_ | refine aw_region ?_ | refine aw_skip ?_ | fail))
      refine ⟨h, ⟨by omega, fun j y hj hy => ?_⟩, rfl, rfl, rfl, rfl, trivial⟩
      by_cases hjk : j = k
      · subst hjk; rw [hget] at hy; cases hy; exact h2
      · exact hprev j y (by omega) hy
  · have hall : o.slots.all (hasB H.objs.length) = true := by
      rw [List.all_eq_true]
      intro x hx
      obtain ⟨j, hj, rfl⟩ := List.getElem_of_mem hx
      exact hprev j _ (by omega) (List.getElem?_eq_getElem hj)
    clear hprev h hk
    refine aw_exit ?_
    refine aw_cutE (ι := PLift (0 ≤ o.kind ∧ o.kind ≤ 2 ∧ kindB o = true)) (fun _ => [(2, .ptr 0 0 0), (3, .ptr 1 0 0)]) ?_ ?_
    · (repeat' (first | refine sk ?_ | refine mv ?_ | refine asg ?_ | refine ld ?_ | refine fp ?_ | refine bi ?_ | refine pt ?_ | refine pf ?_ | refine ln ?_ | refine aops_nil ?_ | refine aw_seq ?_ | refine aw_region ?_ | refine aw_cond_t rfl ?_ | refine aw_cond_f rfl ?_ | refine aw_skip ?_ | refine aw_ret ?_ | refine gs (fun h => ?_) (fun h => ?_) | refine aw_cond rfl (fun h => ?_) (fun h => ?_) | fail))
      all_goals simp only [str_nil] at *
      all_goals first
        | (refine fin (sh_bv (x := false) ?_); have : (headB H.objs.length o && kindB o) = false := (by simp at *; simp [kindB, headB]; grind); simp only [mayObj, ← Bool.and_assoc, this]; rfl)
        | (refine ⟨⟨?_⟩, rfl, rfl, rfl, trivial⟩; simp at *; simp [kindB]; grind)
    · rintro ⟨h1, h2, h3⟩
      refine aw_seq ?_
      refine aw_draw 30 none ?_
      (repeat' (first | refine dk ?_ | refine dn ?_ | refine ds y_move ?_ | refine ds y_load ?_ | refine ds (y_faddr_ptr (hs := Nat.le_of_ble_eq_true rfl)) ?_ | refine ds y_bin ?_ | refine ds y_pick_t ?_ | refine ds y_pick_f ?_ | refine ds y_len ?_ | refine ds y_lens ?_ | refine ds y_loadsN ?_ | refine ds (y_call (rRef_ok H _ hi) (hno := ⟨noOwn_heap H, .v _, trivial⟩)) ?_ | refine ds (y_call (rhash_ok _)) ?_ | refine ds (y_call (rcanon_ok _)) ?_ | refine dg (fun h => ?_) (fun h => ?_) | fail))
      all_goals (repeat' (first | refine asg ?_ | refine aops_nil ?_ | refine aw_ret ?_ | fail))
      all_goals refine fin (sh_bv ?_)
      all_goals simp only [mayObj, h3, restB, hall]
      all_goals (simp at *; simp [headB]; grind)
end Go.Proofs.Ytemcemimipagoaa
