/- What the statements' walks need. -/
import Derived.Test.YtemcemimipagoaaMVa4
import Derived.Test.YtemcemimipagoaaMVx22
set_option linter.unusedVariables false
set_option linter.unusedSimpArgs false
set_option maxRecDepth 100000
namespace Go.Proofs.Ytemcemimipagoaa
open Go Go.Proofs AW
theorem rsmall_ok' (v most : Int) : Gives Try.prog 36 [iv v, iv most] (iv (smI v most)) := by
  refine gives_of Try.func36 rfl (Nat.le_of_ble_eq_true rfl) ?_
  (repeat' (first | refine sk ?_ | refine mv ?_ | refine asg ?_ | refine bi ?_ | refine un ?_ | refine pt ?_ | refine pf ?_ | refine ex ?_ | refine aops_nil ?_ | refine aw_seq ?_ | refine aw_region ?_ | refine aw_cond_t rfl ?_ | refine aw_skip ?_ | refine aw_ret ?_ | refine cl (rN_ok v) ?_ | refine gs (fun h => ?_) (fun h => ?_) | refine aw_cond rfl (fun h => ?_) (fun h => ?_) | fail))
  all_goals refine fin (sh_iv ?_)
  all_goals (simp at *; simp [smI]; first | done | omega | grind)
theorem rkind_ok (H : HHeap) (hi : H.In) (v k : Int) : Gives Try.prog 37 [.agg (encHeap H), iv v, iv k] (bv (decide (0 ≤ H.ref v ∧ (H.at' v).kind = k))) := by
  have c1 : Gives Try.prog 35 [.agg (encHeap H), iv v] (iv (H.ref v)) := rRef_ok H v hi.2.2.2
  by_cases h : 0 ≤ H.ref v
  · have hget := at_get h
    have hn : H.ref v = ((H.ref v).toNat : Int) := (Int.toNat_of_nonneg h).symm
    refine gives_of Try.func37 rfl (Nat.le_of_ble_eq_true rfl) ?_
    (repeat' (first | refine mv ?_ | refine asg ?_ | refine ld ?_ | refine fp ?_ | refine fi ?_ | refine bt ?_ | refine bi ?_ | refine pt ?_ | refine la ?_ | refine aops_nil ?_ | refine aw_seq ?_ | refine aw_region ?_ | refine aw_ret ?_ | refine bx 0 ?_ | refine cl c1 ?_ (hno := ⟨noOwn_heap _, noOwn_iv _, trivial⟩) | refine ia (H.ref v).toNat (objs_get hget) ?_ (hn := hn) | fail))
    exact fin (sh_bv (x := decide ((H.at' v).kind = k)) (by simp [h]))
  · refine gives_of Try.func37 rfl (Nat.le_of_ble_eq_true rfl) ?_
    (repeat' (first | refine sk ?_ | refine mv ?_ | refine asg ?_ | refine bf ?_ | refine pf ?_ | refine la ?_ | refine aops_nil ?_ | refine aw_seq ?_ | refine aw_region ?_ | refine aw_ret ?_ | refine bx 0 ?_ | refine cl c1 ?_ (hno := ⟨noOwn_heap _, noOwn_iv _, trivial⟩) | fail))
    exact fin (sh_bv (x := false) (by simp [h]))
def slotI (H : HHeap) (v : Int) : List Int := if H.is v 0 then (H.at' v).slots else []
theorem rSlots_ok (H : HHeap) (hi : H.In) (v : Int) : Gives Try.prog 15 [.agg (encHeap H), iv v] (.sl 1 (encInts (slotI H v))) := by
  have c1 : Gives Try.prog 35 [.agg (encHeap H), iv v] (iv (H.ref v)) := rRef_ok H v hi.2.2.2
  by_cases h : H.is v 0
  · have c0 := (rkind_ok H hi v 0).to' (congrArg bv (decide_eq_true h))
    have hget := at_get h.1
    have hn : H.ref v = ((H.ref v).toNat : Int) := (Int.toNat_of_nonneg h.1).symm
    refine gives_of Try.func15 rfl (Nat.le_of_ble_eq_true rfl) ?_
    (repeat' (first | refine mv ?_ | refine asg ?_ | refine un ?_ | refine la ?_ | refine aops_nil ?_ | refine aw_seq ?_ | refine aw_region ?_ | refine aw_cond_f rfl ?_ | refine aw_skip ?_ | refine bx 0 ?_ | refine cl c0 ?_ (hno := ⟨noOwn_heap _, noOwn_iv _, noOwn_iv _, trivial⟩) | fail))
    refine aw_draw 8 none ?_
    (repeat' (first | refine dn ?_ | refine ds y_move ?_ | refine ds y_load ?_ | refine ds (y_faddr_ptr (hs := Nat.le_of_ble_eq_true rfl)) ?_ | refine ds y_faddr_ip ?_ | refine ds y_loadsN ?_ | refine ds (y_call c1 (hno := ⟨noOwn_heap _, noOwn_iv _, trivial⟩)) ?_ | refine ds (y_iaddrN (H.ref v).toNat (objs_get hget) (hn := hn)) ?_ | fail))
    (repeat' (first | refine asg ?_ | refine aops_nil ?_ | refine aw_ret ?_ | fail))
    have hs : ∀ T, Sh T (.sl 1 (encInts (H.at' v).slots)) (.sl 1 (encInts (slotI H v))) := fun T => by rw [slotI, if_pos h]; exact .same _ (noOwn_ints _ _)
    exact fin (hs _)
  · have c0 := (rkind_ok H hi v 0).to' (congrArg bv (decide_eq_false h))
    refine gives_of Try.func15 rfl (Nat.le_of_ble_eq_true rfl) ?_
    (repeat' (first | refine mv ?_ | refine asg ?_ | refine un ?_ | refine la ?_ | refine aops_nil ?_ | refine aw_seq ?_ | refine aw_region ?_ | refine aw_cond_t rfl ?_ | refine aw_ret ?_ | refine bx 0 ?_ | refine cl c0 ?_ (hno := ⟨noOwn_heap _, noOwn_iv _, noOwn_iv _, trivial⟩) | fail))
    have hs : ∀ T, Sh T (.v (.slice none 0 0)) (.sl 1 (encInts (slotI H v))) := fun T => by rw [slotI, if_neg h]; exact .nil 1
    exact fin (hs _)
end Go.Proofs.Ytemcemimipagoaa
