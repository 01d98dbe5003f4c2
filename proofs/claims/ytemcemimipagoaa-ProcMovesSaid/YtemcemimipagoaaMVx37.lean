/- What the statements' walks need. -/
import Derived.Test.YtemcemimipagoaaMVa4
import Derived.Test.YtemcemimipagoaaMVx18
set_option linter.unusedVariables false
set_option linter.unusedSimpArgs false
set_option maxRecDepth 100000
namespace Go.Proofs.Ytemcemimipagoaa
open Go Go.Proofs AW
set_option maxHeartbeats 4000000 in
theorem rInts_ok (A B : List Int) (hA : A.length < 1099511627776) (hB : B.length < 1099511627776) : Gives Try.prog 13 [.sl 1 (encInts A), .sl 1 (encInts B)] (bv (decide (A = B))) := by
  refine gives_of Try.func13 rfl (Nat.le_of_ble_eq_true rfl) ?_
  have lA : (encInts A).length = A.length := len_ints A
  have lB : (encInts B).length = B.length := len_ints B
  (repeat' (first | refine mv ?_ | refine asg ?_ | refine bi ?_ | refine ln ?_ | refine aops_nil ?_ | refine aw_seq ?_ | refine aw_region ?_ | refine aw_block ?_ | refine aw_skip ?_ | refine aw_ret ?_ | refine aw_cond rfl (fun h => ?_) (fun h => ?_) | fail))
  all_goals try (refine fin (sh_bv (x := false) ?_); symm; rw [decide_eq_false_iff_not]; rintro rfl; simp at *; done)
  have hl : A.length = B.length := by simp at *; omega
  refine aw_forE A.length (fun k => k ≤ A.length ∧ ∀ (j : Nat), j < k → A[j]? = B[j]?) (fun k => [(5, iv (k : Int)), (0, .sl 1 (encInts A)), (1, .sl 1 (encInts B))])
    0 ⟨by omega, by omega⟩ ⟨rfl, rfl, rfl, trivial⟩ ?_
  rintro k ⟨hk, hprev⟩
  (repeat' (first | refine mv ?_ | refine bi ?_ | refine ln ?_ | refine aops_nil ?_ | refine aw_seq ?_ | refine aw_region ?_ | fail))
  refine aw_cond rfl (fun h => ?_) (fun h => ?_) <;> simp at h
  · (repeat' (first | refine aw_seq ?_ | refine aw_block ?_ | refine aw_skip ?_ | fail))
    have g1 : A[k]? = some A[k] := List.getElem?_eq_getElem h
    have g2 : B[k]? = some (B[k]'(by omega)) := List.getElem?_eq_getElem (by omega)
    refine aw_draw 9 none ?_
    (repeat' (first | refine dn ?_ | refine ds y_move ?_ | refine ds y_load ?_ | refine ds y_bin ?_ | refine ds (y_iaddrN k (ints_get g1)) ?_ | refine ds (y_iaddrN k (ints_get g2)) ?_ | fail))
    (repeat' (first | refine aops_nil ?_ | fail))
    refine aw_cond rfl (fun h2 => ?_) (fun h2 => ?_) <;> simp at h2
    · (repeat' (first | refine asg ?_ | refine aops_nil ?_ | refine aw_seq ?_ | refine aw_region ?_ | refine aw_ret ?_ | fail))
      refine fin (sh_bv (x := false) ?_)
      symm; rw [decide_eq_false_iff_not]; rintro rfl; exact h2 rfl
    · (repeat' (first | refine mv ?_ | refine asg ?_ | refine bw ?_ | refine aops_nil ?_ | refine aw_region ?_ | refine aw_skip ?_ | fail))
      refine ⟨h, ⟨by omega, fun j hj => ?_⟩, rfl, rfl, rfl, rfl, trivial⟩
      by_cases hjk : j = k
      · subst hjk; rw [g1, g2, h2]
      · exact hprev j (by omega)
  · have hs : A = B := List.ext_getElem? fun j => by
      rcases Nat.lt_or_ge j k with hj | hj
      · exact hprev j hj
      · rw [List.getElem?_eq_none (by omega), List.getElem?_eq_none (by omega)]
    (repeat' (first | refine asg ?_ | refine aops_nil ?_ | refine aw_seq ?_ | refine aw_region ?_ | refine aw_exit ?_ | refine aw_ret ?_ | fail))
    exact fin (sh_bv (x := true) (by simp [hs]))
end Go.Proofs.Ytemcemimipagoaa
