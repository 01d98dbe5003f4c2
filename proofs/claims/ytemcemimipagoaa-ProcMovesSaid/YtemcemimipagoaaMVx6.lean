/- What the statements' walks need. -/
import Derived.Test.YtemcemimipagoaaMVa4
import Derived.Test.YtemcemimipagoaaMVx2
import Derived.Test.YtemcemimipagoaaMVa2
set_option linter.unusedVariables false
set_option linter.unusedSimpArgs false
set_option maxRecDepth 100000
namespace Go.Proofs.Ytemcemimipagoaa
open Go Go.Proofs AW
theorem tmod2 (v : Int) : (v.tmod 2 = 0) ↔ v % 2 = 0 := by rw [← Int.dvd_iff_tmod_eq_zero, Int.dvd_iff_emod_eq_zero]
theorem rN_ok (v : Int) : Gives Try.prog 56 [iv v] (.tup [iv (nI v), bv (isN v)]) := by
  refine gives_of Try.func56 rfl (Nat.le_of_ble_eq_true rfl) ?_
  (repeat' (first | refine sk ?_ | refine mv ?_ | refine asg ?_ | refine rm ?_ | refine qu ?_ | refine bi ?_ | refine pt ?_ | refine pf ?_ | refine aops_nil ?_ | refine aw_seq ?_ | refine aw_region ?_ | refine aw_cond_t rfl ?_ | refine aw_skip ?_ | refine aw_ret ?_ | refine gs (fun h => ?_) (fun h => ?_) | refine aw_cond rfl (fun h => ?_) (fun h => ?_) | fail))
  all_goals refine fin (sh_ib ?_ ?_)
  all_goals simp [tmod2] at *
  all_goals simp [nI, isN]
  all_goals first | grind | skip
  have e1 : (v - 1).tdiv 2 = (v - 1) / 2 := Int.tdiv_eq_ediv_of_dvd (by omega)
  rw [wrap_id (by omega : -9223372036854775808 ≤ v - 1 ∧ v - 1 ≤ 9223372036854775807), e1, wrap_id (by omega)]
  grind
theorem rAt_ok (v : Int) : Gives Try.prog 55 [iv v] (.tup [iv (atI v), bv (isAt v)]) := by
  refine gives_of Try.func55 rfl (Nat.le_of_ble_eq_true rfl) ?_
  (repeat' (first | refine sk ?_ | refine mv ?_ | refine asg ?_ | refine rm ?_ | refine qu ?_ | refine bi ?_ | refine pt ?_ | refine pf ?_ | refine aops_nil ?_ | refine aw_seq ?_ | refine aw_region ?_ | refine aw_cond_t rfl ?_ | refine aw_skip ?_ | refine aw_ret ?_ | refine gs (fun h => ?_) (fun h => ?_) | refine aw_cond rfl (fun h => ?_) (fun h => ?_) | fail))
  all_goals refine fin (sh_ib ?_ ?_)
  all_goals simp [tmod2] at *
  all_goals simp [atI, isAt]
  all_goals first | grind | skip
  have e1 : v.tdiv 2 = v / 2 := Int.tdiv_eq_ediv_of_dvd (by omega)
  rw [e1, wrap_id (by omega)]
  grind
theorem rhash_ok (v : Int) : Gives Try.prog 23 [iv v] (bv (decide (0 ≤ v ∧ v ≤ 1073741823))) := by
  refine gives_of Try.func23 rfl (Nat.le_of_ble_eq_true rfl) ?_
  (repeat' (first | refine sk ?_ | refine mv ?_ | refine asg ?_ | refine bi ?_ | refine pt ?_ | refine pf ?_ | refine aops_nil ?_ | refine aw_seq ?_ | refine aw_region ?_ | refine aw_ret ?_ | refine gs (fun h => ?_) (fun h => ?_) | fail))
  all_goals refine fin (sh_bv ?_)
  all_goals simp at *
  all_goals grind
theorem rRef_ok (H : HHeap) (v : Int) (hi : H.objs.length < 1099511627776) : Gives Try.prog 35 [.agg (encHeap H), iv v] (iv (refI H.objs.length v)) := by
  refine gives_of Try.func35 rfl (Nat.le_of_ble_eq_true rfl) ?_
  (repeat' (first | refine sk ?_ | refine mv ?_ | refine asg ?_ | refine ld ?_ | refine fp ?_ | refine bi ?_ | refine un ?_ | refine pt ?_ | refine pf ?_ | refine ex ?_ | refine ln ?_ | refine aops_nil ?_ | refine aw_seq ?_ | refine aw_region ?_ | refine aw_cond_t rfl ?_ | refine aw_skip ?_ | refine aw_ret ?_ | refine bx 0 ?_ | refine cl (rAt_ok _) ?_ | refine gs (fun h => ?_) (fun h => ?_) | refine aw_cond rfl (fun h => ?_) (fun h => ?_) | fail))
  all_goals refine fin (sh_iv ?_)
  all_goals simp at *
  all_goals simp_all [refI, atI]
  all_goals first | omega | grind
theorem rHas_ok (H : HHeap) (v : Int) (hi : H.objs.length < 1099511627776) : Gives Try.prog 44 [.agg (encHeap H), iv v] (bv (hasB H.objs.length v)) := by
  refine gives_of Try.func44 rfl (Nat.le_of_ble_eq_true rfl) ?_
  (repeat' (first | refine sk ?_ | refine mv ?_ | refine asg ?_ | refine bi ?_ | refine pt ?_ | refine pf ?_ | refine ex ?_ | refine la ?_ | refine aops_nil ?_ | refine aw_seq ?_ | refine aw_region ?_ | refine aw_ret ?_ | refine bx 0 ?_ | refine cl (rN_ok _) ?_ | refine cl (rRef_ok H _ hi) ?_ (hno := ⟨noOwn_heap H, .v _, trivial⟩) | refine gs (fun h => ?_) (fun h => ?_) | fail))
  all_goals refine fin (sh_bv ?_)
  all_goals simp at *
  all_goals simp_all [hasB]
def nextI (v : Int) : Int := if 0 ≤ v ∧ v ≤ 1073741823 then (v * 69069 + 12345) % 1073741824 else 0
end Go.Proofs.Ytemcemimipagoaa
