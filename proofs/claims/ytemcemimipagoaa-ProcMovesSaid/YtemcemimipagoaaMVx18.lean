/- What the statements' walks need. -/
import Derived.Test.YtemcemimipagoaaMVa4
import Derived.Test.YtemcemimipagoaaMVx2
import Derived.Test.YtemcemimipagoaaMVa2
set_option linter.unusedVariables false
set_option linter.unusedSimpArgs false
set_option maxRecDepth 100000
namespace Go.Proofs.Ytemcemimipagoaa
open Go Go.Proofs AW
theorem text_eq {a b : ByteArray} : (a.toList == b.toList) = decide (a = b) := by
  by_cases h : a = b
  · subst h; simp
  · have : a.toList ≠ b.toList := fun e => h (by
      rw [ByteArray.toList_eq, ByteArray.toList_eq] at e
      cases a; cases b
      congr 1
      exact Array.ext' e)
    simp [h, this]
set_option maxRecDepth 100000 in
set_option maxHeartbeats 4000000 in
theorem rOne_ok (A B : HObj) (hA : A.slots.length < 1099511627776) (hB : B.slots.length < 1099511627776) : Gives Try.prog 39 [.agg (encObj A), .agg (encObj B)] (bv (decide (A = B))) := by
  refine gives_of Try.func39 rfl (Nat.le_of_ble_eq_true rfl) ?_
  (repeat' (first | refine sk ?_ | refine mv ?_ | refine asg ?_ | refine ld ?_ | refine fp ?_ | refine bi ?_ | refine pt ?_ | refine pf ?_ | refine ln ?_ | refine aops_nil ?_ | refine aw_seq ?_ | refine aw_region ?_ | refine aw_cond_t rfl ?_ | refine aw_block ?_ | refine aw_skip ?_ | refine aw_ret ?_ | refine bx 0 ?_ | refine bx 1 ?_ | refine gs (fun h => ?_) (fun h => ?_) | refine aw_cond rfl (fun h => ?_) (fun h => ?_) | fail))
  all_goals simp only [text_eq] at *
  all_goals try (refine fin (sh_bv (x := false) ?_); symm; rw [decide_eq_false_iff_not]; rintro rfl; simp at *; done)
  have e : A.cls = B.cls ∧ A.kind = B.kind ∧ A.text = B.text ∧ A.bits = B.bits ∧ A.hash = B.hash ∧ A.slots.length = B.slots.length := by simp at *; grind
  obtain ⟨e1, e2, e3, e4, e5, e6⟩ := e
  refine aw_forE A.slots.length (fun k => k ≤ A.slots.length ∧ ∀ (j : Nat), j < k → A.slots[j]? = B.slots[j]?) (fun k => [(5, iv (k : Int)), (2, .ptr 0 0 0), (3, .ptr 1 0 0)])
    0 ⟨by omega, by omega⟩ ⟨rfl, rfl, rfl, trivial⟩ ?_
  rintro k ⟨hk, hprev⟩
  (repeat' (first | refine mv ?_ | refine ld ?_ | refine fp ?_ | refine bi ?_ | refine ln ?_ | refine aops_nil ?_ | refine aw_seq ?_ | refine aw_region ?_ | fail))
  refine aw_cond rfl (fun h => ?_) (fun h => ?_) <;> simp at h
  · (repeat' (first | refine aw_seq ?_ | refine aw_block ?_ | refine aw_skip ?_ | fail))
    have g1 : A.slots[k]? = some A.slots[k] := List.getElem?_eq_getElem h
    have g2 : B.slots[k]? = some (B.slots[k]'(by omega)) := List.getElem?_eq_getElem (by omega)
    refine aw_draw 11 none ?_
    (repeat' (first | refine dn ?_ | refine ds y_move ?_ | refine ds y_load ?_ | refine ds (y_faddr_ptr (hs := Nat.le_of_ble_eq_true rfl)) ?_ | refine ds y_bin ?_ | refine ds (y_iaddrN k (ints_get g1)) ?_ | refine ds (y_iaddrN k (ints_get g2)) ?_ | fail))
    (repeat' (first | refine aops_nil ?_ | fail))
    refine aw_cond rfl (fun h2 => ?_) (fun h2 => ?_) <;> simp at h2
    · (repeat' (first | refine asg ?_ | refine aops_nil ?_ | refine aw_seq ?_ | refine aw_region ?_ | refine aw_ret ?_ | fail))
      refine fin (sh_bv (x := false) ?_)
      symm; rw [decide_eq_false_iff_not]; rintro rfl; exact h2 rfl
    · (repeat' (first | refine mv ?_ | refine asg ?_ | refine bw ?_ | refine aops_nil ?_ | refine aw_region ?_ | refine aw_skip ?_ | fail))
      refine ⟨h, ⟨by omega, fun j hj => ?_⟩, rfl, rfl, rfl, rfl, trivial⟩
      by_cases hjk : j = k
      · subst hjk; rw [g1, g2, h2]
      · exact hprev j (by omega)
  · have hs : A.slots = B.slots := List.ext_getElem? fun j => by
      rcases Nat.lt_or_ge j k with hj | hj
      · exact hprev j hj
      · rw [List.getElem?_eq_none (by omega), List.getElem?_eq_none (by omega)]
    (repeat' (first | refine asg ?_ | refine aops_nil ?_ | refine aw_seq ?_ | refine aw_region ?_ | refine aw_exit ?_ | refine aw_ret ?_ | fail))
    refine fin (sh_bv (x := true) ?_)
    symm; rw [decide_eq_true_eq]
    cases A; cases B; simp_all
end Go.Proofs.Ytemcemimipagoaa
