/- What the statements' walks need. -/
import Derived.Test.YtbmldjcddpblnaaMQa4
import Derived.Test.YtbmldjcddpblnaaMQx3
import Derived.Test.YtbmldjcddpblnaaMQa2
import Derived.Test.YtbmldjcddpblnaaMQx4
import Derived.Test.YtbmldjcddpblnaaMQx7
import Derived.Test.YtbmldjcddpblnaaMQx8
set_option linter.unusedVariables false
set_option linter.unusedSimpArgs false
set_option maxRecDepth 100000
namespace Go.Proofs.Ytbmldjcddpblnaa
open Go Go.Proofs AW
theorem rmost_ok : Gives Try.prog 147 [] (iv 9223372036854775807) := by
  refine gives_of Try.func147 rfl (Nat.le_of_ble_eq_true rfl) ?_
  (repeat' (first | refine asg ?_ | refine aops_nil ?_ | refine aw_seq ?_ | refine aw_region ?_ | refine aw_ret ?_ | fail))
  exact fin (.same _ (.v _))
theorem rNaN_ok : Gives Try.prog 131 [] (iv 9221120237041090561) := by
  refine gives_of Try.func131 rfl (Nat.le_of_ble_eq_true rfl) ?_
  (repeat' (first | refine asg ?_ | refine aops_nil ?_ | refine aw_seq ?_ | refine aw_region ?_ | refine aw_ret ?_ | fail))
  exact fin (.same _ (.v _))
theorem rplain_ok (a : Int) : Gives Try.prog 142 [iv a] (iv (a % 9223372036854775808)) := by
  refine gives_of Try.func142 rfl (Nat.le_of_ble_eq_true rfl) ?_
  (repeat' (first | refine mv ?_ | refine asg ?_ | refine aops_nil ?_ | refine aw_seq ?_ | refine aw_region ?_ | fail))
  refine cl rmost_ok ?_
  (repeat' (first | refine asg ?_ | refine ms 63 ?_ | refine aops_nil ?_ | refine aw_ret ?_ | fail))
  refine fin (sh_iv ?_)
  simp
def kindI (a : Int) : Int :=
  let x := a % 9223372036854775808 / 4503599627370496
  let f := a % 9223372036854775808 % 4503599627370496
  if x = 2047 then (if f = 0 then 1 else 0) else if 0 < x then 4 else if 0 < f then 3 else 2
theorem rKind_ok (a : Int) : Gives Try.prog 130 [iv a] (iv (kindI a)) := by
  have e : (a % 9223372036854775808).tmod 4503599627370496 = a % 9223372036854775808 % 4503599627370496 := Int.tmod_eq_emod_of_nonneg (Int.emod_nonneg _ (by decide))
  refine gives_of Try.func130 rfl (Nat.le_of_ble_eq_true rfl) ?_
  (repeat' (first | refine mv ?_ | refine asg ?_ | refine sr ?_ | refine rm ?_ | refine bi ?_ | refine aops_nil ?_ | refine aw_seq ?_ | refine aw_region ?_ | refine aw_skip ?_ | refine aw_ret ?_ | refine cl (rplain_ok _) ?_ | refine aw_cond rfl (fun h => ?_) (fun h => ?_) | fail))
  all_goals refine fin (sh_iv ?_)
  all_goals simp [e, IntKind.bits] at *
  all_goals simp [kindI]
  all_goals grind
theorem kind0 (a : Int) : kindI a = 0 ↔ ¬ a % 9223372036854775808 ≤ 9218868437227405312 := by
  unfold kindI
  simp only
  constructor
  · intro h
    split at h
    · split at h <;> omega
    · split at h
      · omega
      · split at h <;> omega
  · intro h
    rw [if_pos (by omega), if_neg (by omega)]
theorem rcanon_ok (a : Int) : Gives Try.prog 112 [iv a] (iv (canI a)) := by
  have k := kind0 a
  refine gives_of Try.func112 rfl (Nat.le_of_ble_eq_true rfl) ?_
  (repeat' (first | refine mv ?_ | refine asg ?_ | refine bi ?_ | refine aops_nil ?_ | refine aw_seq ?_ | refine aw_region ?_ | refine aw_skip ?_ | refine aw_ret ?_ | refine cl (rKind_ok _) ?_ | refine cl rNaN_ok ?_ | refine aw_cond rfl (fun h => ?_) (fun h => ?_) | fail))
  all_goals refine fin (sh_iv ?_)
  all_goals simp [k] at *
  all_goals simp [canI]
  all_goals omega
end Go.Proofs.Ytbmldjcddpblnaa
namespace Go.Proofs.Ytbmldjcddpblnaa
open Go Go.Proofs AW
set_option maxRecDepth 100000 in
set_option maxHeartbeats 4000000 in
theorem robj_ok (H : HHeap) (o : HObj) (hi : H.objs.length < 1099511627776) (ho : o.In) : Gives Try.prog 72 [.agg (encHeap H), .agg (encObj o)] (bv (mayObj H.objs.length o)) := by
  obtain ⟨i1, i2, i3, i4, i5, i6, i7⟩ := ho
  refine gives_of Try.func72 rfl (Nat.le_of_ble_eq_true rfl) ?_
  (repeat' (first | refine asg ?_ | refine aops_nil ?_ | refine aw_seq ?_ | refine aw_region ?_ | refine aw_block ?_ | refine bx 0 ?_ | refine bx 1 ?_ | fail))
  refine aw_forE o.slots.length (fun k => k ≤ o.slots.length ∧ ∀ (j : Nat) (y : Int), j < k → o.slots[j]? = some y → hasB H.objs.length y = true) (fun k => [(5, iv (k : Int)), (2, .ptr 0 0 0), (3, .ptr 1 0 0)])
    0 ⟨by omega, by omega⟩ ⟨rfl, rfl, rfl, trivial⟩ ?_
  rintro k ⟨hk, hprev⟩
  (repeat' (first | refine mv ?_ | refine ld ?_ | refine fp ?_ | refine bi ?_ | refine ln ?_ | refine aops_nil ?_ | refine aw_seq ?_ | refine aw_region ?_ | fail))
  refine aw_cond rfl (fun h => ?_) (fun h => ?_) <;> simp at h
  · (repeat' (first | refine aw_seq ?_ | refine aw_block ?_ | refine aw_skip ?_ | fail))
    have hget : o.slots[k]? = some o.slots[k] := List.getElem?_eq_getElem h
    refine aw_draw 8 none ?_
    (repeat' (first | refine dn ?_ | refine ds y_move ?_ | refine ds y_load ?_ | refine ds (y_faddr_ptr (hs := Nat.le_of_ble_eq_true rfl)) ?_ | refine ds y_un ?_ | refine ds y_loadsN ?_ | refine ds (y_iaddrN k (ints_get hget)) ?_ | refine ds (y_call (rHas_ok H _ hi) (hno := ⟨noOwn_heap H, .v _, trivial⟩)) ?_ | fail))
    (repeat' (first | refine aops_nil ?_ | fail))
    refine aw_cond rfl (fun h2 => ?_) (fun h2 => ?_) <;> simp at h2
    · (repeat' (first | refine asg ?_ | refine aops_nil ?_ | refine aw_seq ?_ | refine aw_region ?_ | refine aw_ret ?_ | fail))
      refine fin (sh_bv ?_)
      have : o.slots.all (hasB H.objs.length) = false := by
        rw [List.all_eq_false]; exact ⟨_, List.getElem_mem h, by simp [h2]⟩
      simp [mayObj, restB, this]
    · (repeat' (first | refine mv ?_ | refine asg ?_ | refine bw ?_ | refine aops_nil ?_ | refine aw_region ?_ | refine aw_skip ?_ | fail))
      refine ⟨h, ⟨by omega, fun j y hj hy => ?_⟩, rfl, rfl, rfl, rfl, trivial⟩
      by_cases hjk : j = k
      · subst hjk; rw [hget] at hy; cases hy; exact h2
      · exact hprev j y (by omega) hy
  · have hall : o.slots.all (hasB H.objs.length) = true := by
      rw [List.all_eq_true]
      intro x hx
      obtain ⟨j, hj, rfl⟩ := List.getElem_of_mem hx
      exact hprev j _ (by omega) (List.getElem?_eq_getElem hj)
    clear hprev h hk
    refine aw_exit ?_
    refine aw_cutE (ι := PLift (0 ≤ o.kind ∧ o.kind ≤ 2 ∧ kindB o = true)) (fun _ => [(2, .ptr 0 0 0), (3, .ptr 1 0 0)]) ?_ ?_
    · (repeat' (first | refine sk ?_ | refine mv ?_ | refine asg ?_ | refine ld ?_ | refine fp ?_ | refine bi ?_ | refine pt ?_ | refine pf ?_ | refine ln ?_ | refine aops_nil ?_ | refine aw_seq ?_ | refine aw_region ?_ | refine aw_cond_t rfl ?_ | refine aw_cond_f rfl ?_ | refine aw_skip ?_ | refine aw_ret ?_ | refine gs (fun h => ?_) (fun h => ?_) | refine aw_cond rfl (fun h => ?_) (fun h => ?_) | fail))
      all_goals simp only [str_nil] at *
      all_goals first
        | (refine fin (sh_bv (x := false) ?_); have : (headB H.objs.length o && kindB o) = false := (by simp at *; simp [kindB, headB]; grind); simp only [mayObj, ← Bool.and_assoc, this]; rfl)
        | (refine ⟨⟨?_⟩, rfl, rfl, rfl, trivial⟩; simp at *; simp [kindB]; grind)
    · rintro ⟨h1, h2, h3⟩
      refine aw_seq ?_
      refine aw_draw 30 none ?_
      (repeat' (first | refine dk ?_ | refine dn ?_ | refine ds y_move ?_ | refine ds y_load ?_ | refine ds (y_faddr_ptr (hs := Nat.le_of_ble_eq_true rfl)) ?_ | refine ds y_bin ?_ | refine ds y_pick_t ?_ | refine ds y_pick_f ?_ | refine ds y_len ?_ | refine ds y_lens ?_ | refine ds y_loadsN ?_ | refine ds (y_call (rRef_ok H _ hi) (hno := ⟨noOwn_heap H, .v _, trivial⟩)) ?_ | refine ds (y_call (rhash_ok _)) ?_ | refine ds (y_call (rcanon_ok _)) ?_ | refine dg (fun h => ?_) (fun h => ?_) | fail))
      all_goals (repeat' (first | refine asg ?_ | refine aops_nil ?_ | refine aw_ret ?_ | fail))
      all_goals refine fin (sh_bv ?_)
      all_goals simp only [mayObj, h3, restB, hall]
      all_goals (simp at *; simp [headB]; grind)
end Go.Proofs.Ytbmldjcddpblnaa
namespace Go.Proofs.Ytbmldjcddpblnaa
open Go Go.Proofs AW
set_option maxHeartbeats 4000000 in
theorem rInts_ok (A B : List Int) (hA : A.length < 1099511627776) (hB : B.length < 1099511627776) : Gives Try.prog 43 [.sl 1 (encInts A), .sl 1 (encInts B)] (bv (decide (A = B))) := by
  refine gives_of Try.func43 rfl (Nat.le_of_ble_eq_true rfl) ?_
  have lA : (encInts A).length = A.length := len_ints A
  have lB : (encInts B).length = B.length := len_ints B
  (repeat' (first | refine mv ?_ | refine asg ?_ | refine bi ?_ | refine ln ?_ | refine aops_nil ?_ | refine aw_seq ?_ | refine aw_region ?_ | refine aw_block ?_ | refine aw_skip ?_ | refine aw_ret ?_ | refine aw_cond rfl (fun h => ?_) (fun h => ?_) | fail))
  all_goals try (refine fin (sh_bv (x := false) ?_); symm; rw [decide_eq_false_iff_not]; rintro rfl; simp at *; done)
  have hl : A.length = B.length := by simp at *; omega
  refine aw_forE A.length (fun k => k ≤ A.length ∧ ∀ (j : Nat), j < k → A[j]? = B[j]?) (fun k => [(5, iv (k : Int)), (0, .sl 1 (encInts A)), (1, .sl 1 (encInts B))])
    0 ⟨by omega, by omega⟩ ⟨rfl, rfl, rfl, trivial⟩ ?_
  rintro k ⟨hk, hprev⟩
  (repeat' (first | refine mv ?_ | refine bi ?_ | refine ln ?_ | refine aops_nil ?_ | refine aw_seq ?_ | refine aw_region ?_ | fail))
  refine aw_cond rfl (fun h => ?_) (fun h => ?_) <;> simp at h
  · (repeat' (first | refine aw_seq ?_ | refine aw_block ?_ | refine aw_skip ?_ | fail))
    have g1 : A[k]? = some A[k] := List.getElem?_eq_getElem h
    have g2 : B[k]? = some (B[k]'(by omega)) := List.getElem?_eq_getElem (by omega)
    refine aw_draw 9 none ?_
    (repeat' (first | refine dn ?_ | refine ds y_move ?_ | refine ds y_load ?_ | refine ds y_bin ?_ | refine ds (y_iaddrN k (ints_get g1)) ?_ | refine ds (y_iaddrN k (ints_get g2)) ?_ | fail))
    (repeat' (first | refine aops_nil ?_ | fail))
    refine aw_cond rfl (fun h2 => ?_) (fun h2 => ?_) <;> simp at h2
    · (repeat' (first | refine asg ?_ | refine aops_nil ?_ | refine aw_seq ?_ | refine aw_region ?_ | refine aw_ret ?_ | fail))
      refine fin (sh_bv (x := false) ?_)
      symm; rw [decide_eq_false_iff_not]; rintro rfl; exact h2 rfl
    · (repeat' (first | refine mv ?_ | refine asg ?_ | refine bw ?_ | refine aops_nil ?_ | refine aw_region ?_ | refine aw_skip ?_ | fail))
      refine ⟨h, ⟨by omega, fun j hj => ?_⟩, rfl, rfl, rfl, rfl, trivial⟩
      by_cases hjk : j = k
      · subst hjk; rw [g1, g2, h2]
      · exact hprev j (by omega)
  · have hs : A = B := List.ext_getElem? fun j => by
      rcases Nat.lt_or_ge j k with hj | hj
      · exact hprev j hj
      · rw [List.getElem?_eq_none (by omega), List.getElem?_eq_none (by omega)]
    (repeat' (first | refine asg ?_ | refine aops_nil ?_ | refine aw_seq ?_ | refine aw_region ?_ | refine aw_exit ?_ | refine aw_ret ?_ | fail))
    exact fin (sh_bv (x := true) (by simp [hs]))
end Go.Proofs.Ytbmldjcddpblnaa
