/- What the statements' walks need. -/
import Derived.Test.YtemcemimipagoaaMVa4
import Derived.Test.YtemcemimipagoaaMVx5
import Derived.Test.YtemcemimipagoaaMVa2
set_option linter.unusedVariables false
set_option linter.unusedSimpArgs false
set_option maxRecDepth 100000
namespace Go.Proofs.Ytemcemimipagoaa
open Go Go.Proofs AW
theorem May1_ok (n : Int) (o : HObj) (h : o.In) : Gives Try.prog 53 [.agg (encObj o), .ip [iv n]] (bv !(mayObj n o)) := by
  refine gives_of Try.func53 rfl (Nat.le_of_ble_eq_true rfl) ?_
  (repeat' (first | refine asg ?_ | refine ld ?_ | refine la ?_ | refine aops_nil ?_ | refine aw_seq ?_ | refine aw_region ?_ | refine bx 0 ?_ | fail))
  refine cl (omay_ok n o h) ?_ (hno := ⟨.v _, noOwn_aobj o, trivial⟩)
  (repeat' (first | refine asg ?_ | refine un ?_ | refine aops_nil ?_ | refine aw_ret ?_ | fail))
  exact fin (sh_bv rfl)
set_option maxRecDepth 100000 in
set_option maxHeartbeats 4000000 in
theorem May_ok (h : HHeap) (hi : h.In) : Gives Try.prog 32 [.agg (encHeap h)] (bv (mayH h)) := by
  obtain ⟨i1, i2, i3, i4⟩ := hi
  refine gives_of Try.func32 rfl (Nat.le_of_ble_eq_true rfl) ?_
  refine aw_seq ?_
  refine aw_region ?_
  (repeat' (first | refine asg ?_ | refine aops_nil ?_ | refine bx 0 ?_ | fail))
  refine aw_cutE (ι := PLift (1 ≤ h.cap ∧ h.cap ≤ 256 ∧ (h.objs.length : Int) ≤ h.cap ∧ 0 ≤ h.last ∧ h.last ≤ 1073741823)) (fun _ => [(1, .ptr 0 0 0)]) ?_ ?_
  · (repeat' (first | refine sk ?_ | refine mv ?_ | refine asg ?_ | refine ld ?_ | refine fp ?_ | refine bi ?_ | refine un ?_ | refine pt ?_ | refine pf ?_ | refine ln ?_ | refine aops_nil ?_ | refine aw_seq ?_ | refine aw_region ?_ | refine aw_cond_t rfl ?_ | refine aw_skip ?_ | refine aw_ret ?_ | refine cl (in_ok _ _) ?_ | refine gs (fun h => ?_) (fun h => ?_) | refine aw_cond rfl (fun h => ?_) (fun h => ?_) | fail))
    all_goals first
      | (refine fin (sh_bv ?_); simp at *; simp [mayH]; grind)
      | (refine ⟨⟨?_⟩, rfl, rfl, trivial⟩; simp at *; grind)
  · rintro ⟨h1, h2, h3, h4, h5⟩
    (repeat' (first | refine ld ?_ | refine fp ?_ | refine ln ?_ | refine so ?_ | refine mf ?_ | refine aops_nil ?_ | refine aw_seq ?_ | refine aw_region ?_ | refine al 1 ?_ | fail))
    refine cs (containsFunc_obj h.objs 53 [.ip [iv (encObjs h.objs).length]] (fun o => !(mayObj (encObjs h.objs).length o)) rfl ⟨by simp, trivial⟩ (fun o ho => May1_ok _ o (i1 o ho)) i4) ?_ (hsh := by exact ⟨.same _ (by simp), sh_clo ⟨sh_box rfl ⟨.same _ (.v _), trivial⟩, trivial⟩, trivial⟩)
    (repeat' (first | refine asg ?_ | refine un ?_ | refine aops_nil ?_ | refine aw_ret ?_ | fail))
    refine fin (sh_bv ?_)
    simp [mayH, h1, h2, h3, h4, h5]
    grind
end Go.Proofs.Ytemcemimipagoaa
