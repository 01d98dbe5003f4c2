/- What the statements' walks need. -/
import Derived.Test.YtemcemimipagoaaMVa4
import Derived.Test.YtemcemimipagoaaMVx8
import Derived.Test.YtemcemimipagoaaMVa2
set_option linter.unusedVariables false
set_option linter.unusedSimpArgs false
set_option maxRecDepth 100000
namespace Go.Proofs.Ytemcemimipagoaa
open Go Go.Proofs AW
set_option maxRecDepth 100000 in
set_option maxHeartbeats 4000000 in
theorem rMay_ok (H : HHeap) (hi : H.In) : Gives Try.prog 7 [.agg (encHeap H)] (bv (mayH H)) := by
  obtain ⟨i1, i2, i3, i4⟩ := hi
  refine gives_of Try.func7 rfl (Nat.le_of_ble_eq_true rfl) ?_
  (repeat' (first | refine asg ?_ | refine aops_nil ?_ | refine aw_seq ?_ | refine aw_region ?_ | refine aw_block ?_ | refine bx 0 ?_ | fail))
  refine aw_forE H.objs.length (fun k => k ≤ H.objs.length ∧ ∀ (j : Nat) (y : HObj), j < k → H.objs[j]? = some y → mayObj H.objs.length y = true) (fun k => [(3, iv (k : Int)), (1, .ptr 0 0 0)])
    0 ⟨by omega, by omega⟩ ⟨rfl, rfl, trivial⟩ ?_
  rintro k ⟨hk, hprev⟩
  (repeat' (first | refine mv ?_ | refine ld ?_ | refine fp ?_ | refine bi ?_ | refine ln ?_ | refine aops_nil ?_ | refine aw_seq ?_ | refine aw_region ?_ | fail))
  refine aw_cond rfl (fun h => ?_) (fun h => ?_) <;> simp at h
  · (repeat' (first | refine aw_seq ?_ | refine aw_block ?_ | refine aw_skip ?_ | fail))
    have hget : H.objs[k]? = some H.objs[k] := List.getElem?_eq_getElem h
    refine aw_draw 8 none ?_
    (repeat' (first | refine dn ?_ | refine ds y_move ?_ | refine ds y_load ?_ | refine ds (y_faddr_ptr (hs := Nat.le_of_ble_eq_true rfl)) ?_ | refine ds y_un ?_ | refine ds y_loadsN ?_ | refine ds (y_iaddrN k (objs_get hget)) ?_ | refine ds (y_call (robj_ok H H.objs[k] i4 (i1 _ (List.getElem_mem h))) (hno := ⟨noOwn_heap H, noOwn_aobj _, trivial⟩)) ?_ | fail))
    (repeat' (first | refine aops_nil ?_ | fail))
    refine aw_cond rfl (fun h2 => ?_) (fun h2 => ?_) <;> simp at h2
    · (repeat' (first | refine asg ?_ | refine aops_nil ?_ | refine aw_seq ?_ | refine aw_region ?_ | refine aw_ret ?_ | fail))
      refine fin (sh_bv ?_)
      have : H.objs.all (mayObj H.objs.length) = false := by
        rw [List.all_eq_false]; exact ⟨_, List.getElem_mem h, by simp [h2]⟩
      simp [mayH, this]
    · (repeat' (first | refine mv ?_ | refine asg ?_ | refine bw ?_ | refine aops_nil ?_ | refine aw_region ?_ | refine aw_skip ?_ | fail))
      refine ⟨h, ⟨by omega, fun j y hj hy => ?_⟩, rfl, rfl, rfl, trivial⟩
      by_cases hjk : j = k
      · subst hjk; rw [hget] at hy; cases hy; exact h2
      · exact hprev j y (by omega) hy
  · have hall : H.objs.all (mayObj H.objs.length) = true := by
      rw [List.all_eq_true]
      intro x hx
      obtain ⟨j, hj, rfl⟩ := List.getElem_of_mem hx
      exact hprev j _ (by omega) (List.getElem?_eq_getElem hj)
    clear hprev h hk
    refine aw_exit ?_
    (repeat' (first | refine sk ?_ | refine mv ?_ | refine asg ?_ | refine ld ?_ | refine fp ?_ | refine bi ?_ | refine pt ?_ | refine pf ?_ | refine ln ?_ | refine aops_nil ?_ | refine aw_seq ?_ | refine aw_region ?_ | refine aw_ret ?_ | refine cl (rhash_ok _) ?_ | refine gs (fun h => ?_) (fun h => ?_) | fail))
    all_goals refine fin (sh_bv ?_)
    all_goals simp only [mayH, hall]
    all_goals (simp at *; grind)
end Go.Proofs.Ytemcemimipagoaa
