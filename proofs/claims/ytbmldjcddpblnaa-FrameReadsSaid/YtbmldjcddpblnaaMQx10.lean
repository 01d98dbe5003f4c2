/- What the statements' walks need. -/
import Derived.Test.YtbmldjcddpblnaaMQa4
import Derived.Test.YtbmldjcddpblnaaMQx9
import Derived.Test.YtbmldjcddpblnaaMQa2
import Derived.Test.YtbmldjcddpblnaaMQx5
set_option linter.unusedVariables false
set_option linter.unusedSimpArgs false
set_option maxRecDepth 100000
namespace Go.Proofs.Ytbmldjcddpblnaa
open Go Go.Proofs AW
set_option maxRecDepth 100000 in
set_option maxHeartbeats 4000000 in
theorem rMay_ok (H : HHeap) (hi : H.In) : Gives Try.prog 29 [.agg (encHeap H)] (bv (mayH H)) := by
  obtain ⟨i1, i2, i3, i4⟩ := hi
  refine gives_of Try.func29 rfl (Nat.le_of_ble_eq_true rfl) ?_
  (repeat' (first | refine asg ?_ | refine aops_nil ?_ | refine aw_seq ?_ | refine aw_region ?_ | refine aw_block ?_ | refine bx 0 ?_ | fail))
  refine aw_forE H.objs.length (fun k => k ≤ H.objs.length ∧ ∀ (j : Nat) (y : HObj), j < k → H.objs[j]? = some y → mayObj H.objs.length y = true) (fun k => [(3, iv (k : Int)), (1, .ptr 0 0 0)])
    0 ⟨by omega, by omega⟩ ⟨rfl, rfl, trivial⟩ ?_
  rintro k ⟨hk, hprev⟩
  (repeat' (first | refine mv ?_ | refine ld ?_ | refine fp ?_ | refine bi ?_ | refine ln ?_ | refine aops_nil ?_ | refine aw_seq ?_ | refine aw_region ?_ | fail))
  refine aw_cond rfl (fun h => ?_) (fun h => ?_) <;> simp at h
  · (repeat' (first | refine aw_seq ?_ | refine aw_block ?_ | refine aw_skip ?_ | fail))
    have hget : H.objs[k]? = some H.objs[k] := List.getElem?_eq_getElem h
    refine aw_draw 8 none ?_
    (repeat' (first | refine dn ?_ | refine ds y_move ?_ | refine ds y_load ?_ | refine ds (y_faddr_ptr (hs := Nat.le_of_ble_eq_true rfl)) ?_ | refine ds y_un ?_ | refine ds y_loadsN ?_ | refine ds (y_iaddrN k (objs_get hget)) ?_ | refine ds (y_call (robj_ok H H.objs[k] i4 (i1 _ (List.getElem_mem h))) (hno := ⟨noOwn_heap H, noOwn_aobj _, trivial⟩)) ?_ | fail))
    (repeat' (first | refine aops_nil ?_ | fail))
    refine aw_cond rfl (fun h2 => ?_) (fun h2 => ?_) <;> simp at h2
    · (repeat' (first | refine asg ?_ | refine aops_nil ?_ | refine aw_seq ?_ | refine aw_region ?_ | refine aw_ret ?_ | fail))
      refine fin (sh_bv ?_)
      have : H.objs.all (mayObj H.objs.length) = false := by
        rw [List.all_eq_false]; exact ⟨_, List.getElem_mem h, by simp [h2]⟩
      simp [mayH, this]
    · (repeat' (first | refine mv ?_ | refine asg ?_ | refine bw ?_ | refine aops_nil ?_ | refine aw_region ?_ | refine aw_skip ?_ | fail))
      refine ⟨h, ⟨by omega, fun j y hj hy => ?_⟩, rfl, rfl, rfl, trivial⟩
      by_cases hjk : j = k
      · subst hjk; rw [hget] at hy; cases hy; exact h2
      · exact hprev j y (by omega) hy
  · have hall : H.objs.all (mayObj H.objs.length) = true := by
      rw [List.all_eq_true]
      intro x hx
      obtain ⟨j, hj, rfl⟩ := List.getElem_of_mem hx
      exact hprev j _ (by omega) (List.getElem?_eq_getElem hj)
    clear hprev h hk
    refine aw_exit ?_
    (repeat' (first | refine sk ?_ | refine mv ?_ | refine asg ?_ | refine ld ?_ | refine fp ?_ | refine bi ?_ | refine pt ?_ | refine pf ?_ | refine ln ?_ | refine aops_nil ?_ | refine aw_seq ?_ | refine aw_region ?_ | refine aw_ret ?_ | refine cl (rhash_ok _) ?_ | refine gs (fun h => ?_) (fun h => ?_) | fail))
    all_goals refine fin (sh_bv ?_)
    all_goals simp only [mayH, hall]
    all_goals (simp at *; grind)
end Go.Proofs.Ytbmldjcddpblnaa
namespace Go.Proofs.Ytbmldjcddpblnaa
open Go Go.Proofs AW
theorem wrong0 {H : HHeap} {v kind a : Int} (h : wrongE H v kind a = 0) : mayH H = true ∧ 0 ≤ H.ref v ∧ (H.at' v).kind = kind ∧ 0 ≤ a ∧ a < ((H.at' v).slots.length : Int) + ((H.at' v).text.size : Int) := by
  unfold wrongE at h
  by_cases h1 : mayH H = false
  · rw [if_pos h1] at h; omega
  rw [if_neg h1] at h
  by_cases h2 : H.ref v < 0
  · rw [if_pos h2] at h; omega
  rw [if_neg h2] at h
  by_cases h3 : (H.at' v).kind ≠ kind
  · rw [if_pos h3] at h; omega
  rw [if_neg h3] at h
  by_cases h4 : a < 0 ∨ ((H.at' v).slots.length : Int) + ((H.at' v).text.size : Int) ≤ a
  · rw [if_pos h4] at h; omega
  exact ⟨by simpa using h1, by omega, by simpa using h3, by omega, by omega⟩
theorem kind_lens {H : HHeap} {v : Int} (h1 : mayH H = true) (h2 : 0 ≤ H.ref v) : ((H.at' v).kind ≠ 0 → (H.at' v).slots.length = 0) ∧ ((H.at' v).kind ≠ 1 → (H.at' v).text.size = 0) := by
  have := may_obj h1 (at_mem h2)
  simp only [mayObj, kindB, Bool.and_eq_true, decide_eq_true_eq] at this
  exact ⟨this.2.1.1, this.2.1.2.1⟩
set_option maxRecDepth 100000 in
set_option maxHeartbeats 4000000 in
theorem rwrong_ok (H : HHeap) (hi : H.In) (v kind a : Int) (hk : kind = 0 ∨ kind = 1) : Gives Try.prog 110 [.agg (encHeap H), iv v, iv kind, iv a] (iv (wrongE H v kind a)) := by
  refine gives_of Try.func110 rfl (Nat.le_of_ble_eq_true rfl) ?_
  (repeat' (first | refine asg ?_ | refine la ?_ | refine aops_nil ?_ | refine aw_seq ?_ | refine aw_region ?_ | refine bx 0 ?_ | fail))
  refine cl (rMay_ok H hi) ?_ (hno := ⟨noOwn_heap H, trivial⟩)
  (repeat' (first | refine un ?_ | refine aops_nil ?_ | fail))
  refine aw_cond rfl (fun h1 => ?_) (fun h1 => ?_) <;> simp at h1 <;> (repeat' (first | refine mv ?_ | refine asg ?_ | refine la ?_ | refine aops_nil ?_ | refine aw_seq ?_ | refine aw_region ?_ | refine aw_skip ?_ | refine aw_ret ?_ | fail))
  · refine fin (sh_iv ?_); simp [wrongE, h1]
  refine cl (rRef_ok H _ hi.2.2.2) ?_ (hno := ⟨noOwn_heap H, .v _, trivial⟩)
  (repeat' (first | refine mv ?_ | refine asg ?_ | refine bi ?_ | refine aops_nil ?_ | refine aw_seq ?_ | refine aw_region ?_ | fail))
  refine aw_cond rfl (fun h2 => ?_) (fun h2 => ?_) <;> simp at h2 <;> (repeat' (first | refine mv ?_ | refine asg ?_ | refine ld ?_ | refine fp ?_ | refine aops_nil ?_ | refine aw_seq ?_ | refine aw_region ?_ | refine aw_skip ?_ | refine aw_ret ?_ | fail))
  · refine fin (sh_iv ?_); simp [wrongE, h1, HHeap.ref, h2]
  have hr : 0 ≤ H.ref v := by simpa [HHeap.ref] using h2
  have hget := at_get hr
  have hn : refI H.objs.length v = ((H.ref v).toNat : Int) := by rw [Int.toNat_of_nonneg hr]; simp [HHeap.ref]
  have e2 : ¬ H.ref v < 0 := by omega
  (repeat' (first | refine sk ?_ | refine mv ?_ | refine asg ?_ | refine ld ?_ | refine fp ?_ | refine fi ?_ | refine bi ?_ | refine pt ?_ | refine pf ?_ | refine ln ?_ | refine lns ?_ | refine aops_nil ?_ | refine aw_seq ?_ | refine aw_region ?_ | refine aw_cond_t rfl ?_ | refine aw_skip ?_ | refine aw_ret ?_ | refine ia (H.ref v).toNat (objs_get hget) ?_ (hn := hn) | refine gs (fun h => ?_) (fun h => ?_) | refine aw_cond rfl (fun h => ?_) (fun h => ?_) | fail))
  all_goals refine fin (sh_iv ?_)
  all_goals simp at *
  all_goals have kl := kind_lens h1 hr
  all_goals simp [wrongE, h1, e2]
  all_goals grind
end Go.Proofs.Ytbmldjcddpblnaa
