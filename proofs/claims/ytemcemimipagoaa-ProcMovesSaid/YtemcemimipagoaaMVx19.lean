/- What the statements' walks need. -/
import Derived.Test.YtemcemimipagoaaMVa4
import Derived.Test.YtemcemimipagoaaMVx5
import Derived.Test.YtemcemimipagoaaMVx18
import Derived.Test.YtemcemimipagoaaMVa2
set_option linter.unusedVariables false
set_option linter.unusedSimpArgs false
set_option maxRecDepth 100000
namespace Go.Proofs.Ytemcemimipagoaa
open Go Go.Proofs AW
theorem heap_ext {A B : HHeap} (h1 : A.cap = B.cap) (h2 : A.last = B.last) (h3 : A.objs = B.objs) : A = B := by
  cases A; cases B; simp_all
set_option maxRecDepth 100000 in
set_option maxHeartbeats 4000000 in
theorem rSame_ok (A B : HHeap) (hA : A.In) (hB : B.In) : Gives Try.prog 17 [.agg (encHeap A), .agg (encHeap B)] (bv (decide (A = B))) := by
  have lA : A.objs.length < 1099511627776 := hA.2.2.2
  have lB : B.objs.length < 1099511627776 := hB.2.2.2
  refine gives_of Try.func17 rfl (Nat.le_of_ble_eq_true rfl) ?_
  refine aw_seq ?_
  refine aw_region ?_
  (repeat' (first | refine asg ?_ | refine aops_nil ?_ | refine bx 0 ?_ | refine bx 1 ?_ | fail))
  refine aw_cutE (ι := PLift (A.cap = B.cap ∧ A.last = B.last ∧ A.objs.length = B.objs.length)) (fun _ => [(2, .ptr 0 0 0), (3, .ptr 1 0 0)]) ?_ ?_
  · (repeat' (first | refine sk ?_ | refine mv ?_ | refine asg ?_ | refine ld ?_ | refine fp ?_ | refine bi ?_ | refine pt ?_ | refine pf ?_ | refine ln ?_ | refine aops_nil ?_ | refine aw_seq ?_ | refine aw_region ?_ | refine aw_cond_t rfl ?_ | refine aw_skip ?_ | refine aw_ret ?_ | refine gs (fun h => ?_) (fun h => ?_) | refine aw_cond rfl (fun h => ?_) (fun h => ?_) | fail))
    all_goals first
      | (refine ⟨⟨?_⟩, rfl, rfl, rfl, trivial⟩; simp at *; grind)
      | (refine fin (sh_bv (x := false) ?_); symm; rw [decide_eq_false_iff_not]; rintro rfl; simp at *; done)
  rintro ⟨e1, e2, e3⟩
  (repeat' (first | refine asg ?_ | refine aops_nil ?_ | refine aw_seq ?_ | refine aw_region ?_ | refine aw_block ?_ | fail))
  refine aw_forE A.objs.length (fun k => k ≤ A.objs.length ∧ ∀ (j : Nat), j < k → A.objs[j]? = B.objs[j]?) (fun k => [(5, iv (k : Int)), (2, .ptr 0 0 0), (3, .ptr 1 0 0)])
    0 ⟨by omega, by omega⟩ ⟨rfl, rfl, rfl, trivial⟩ ?_
  rintro k ⟨hk, hprev⟩
  (repeat' (first | refine mv ?_ | refine ld ?_ | refine fp ?_ | refine bi ?_ | refine ln ?_ | refine aops_nil ?_ | refine aw_seq ?_ | refine aw_region ?_ | fail))
  refine aw_cond rfl (fun h => ?_) (fun h => ?_) <;> simp at h
  · (repeat' (first | refine aw_seq ?_ | refine aw_block ?_ | refine aw_skip ?_ | fail))
    have hkB : k < B.objs.length := by omega
    have g1 : A.objs[k]? = some A.objs[k] := List.getElem?_eq_getElem h
    have g2 : B.objs[k]? = some B.objs[k] := List.getElem?_eq_getElem hkB
    have s1 := (hA.1 _ (List.getElem_mem h)).2.2.2.2.2.1
    have s2 := (hB.1 _ (List.getElem_mem hkB)).2.2.2.2.2.1
    refine aw_draw 12 none ?_
    (repeat' (first | refine dn ?_ | refine ds y_move ?_ | refine ds y_load ?_ | refine ds (y_faddr_ptr (hs := Nat.le_of_ble_eq_true rfl)) ?_ | refine ds y_un ?_ | refine ds y_loadsN ?_ | refine ds (y_iaddrN k (objs_get g1)) ?_ | refine ds (y_iaddrN k (objs_get g2)) ?_ | refine ds (y_call (rOne_ok A.objs[k] B.objs[k] s1 s2) (hno := ⟨noOwn_aobj _, noOwn_aobj _, trivial⟩)) ?_ | fail))
    (repeat' (first | refine aops_nil ?_ | fail))
    refine aw_cond rfl (fun h2 => ?_) (fun h2 => ?_) <;> simp at h2
    · (repeat' (first | refine asg ?_ | refine aops_nil ?_ | refine aw_seq ?_ | refine aw_region ?_ | refine aw_ret ?_ | fail))
      refine fin (sh_bv (x := false) ?_)
      symm; rw [decide_eq_false_iff_not]; rintro rfl; exact h2 rfl
    · (repeat' (first | refine mv ?_ | refine asg ?_ | refine bw ?_ | refine aops_nil ?_ | refine aw_region ?_ | refine aw_skip ?_ | fail))
      refine ⟨h, ⟨by omega, fun j hj => ?_⟩, rfl, rfl, rfl, rfl, trivial⟩
      by_cases hjk : j = k
      · subst hjk; rw [g1, g2, h2]
      · exact hprev j (by omega)
  · have hs : A.objs = B.objs := List.ext_getElem? fun j => by
      rcases Nat.lt_or_ge j k with hj | hj
      · exact hprev j hj
      · rw [List.getElem?_eq_none (by omega), List.getElem?_eq_none (by omega)]
    (repeat' (first | refine asg ?_ | refine aops_nil ?_ | refine aw_seq ?_ | refine aw_region ?_ | refine aw_exit ?_ | refine aw_ret ?_ | fail))
    refine fin (sh_bv (x := true) ?_)
    symm; rw [decide_eq_true_eq]
    exact heap_ext e1 e2 hs
def objN (o : HObj) : Int := 1 + o.slots.length + o.text.size
def sumH (l : List HObj) : Int := (l.map objN).sum
theorem sumH_take {l : List HObj} {k : Nat} {o : HObj} (h : l[k]? = some o) : sumH (l.take (k + 1)) = sumH (l.take k) + objN o := by
  rw [sumH, sumH, List.take_add_one, h]; simp
theorem sumH_mono (l : List HObj) (k : Nat) : sumH (l.take k) ≤ sumH l := by
  have h : ∀ (l : List HObj), 0 ≤ sumH l := by
    intro l
    induction l with
    | nil => simp [sumH]
    | cons o l ih => simp only [sumH, List.map_cons, List.sum_cons, objN] at ih ⊢; omega
  have := h (l.drop k)
  have e : sumH l = sumH (l.take k) + sumH (l.drop k) := by
    have h1 : sumH (l.take k ++ l.drop k) = sumH (l.take k) + sumH (l.drop k) := by simp only [sumH, List.map_append, List.sum_append]
    rwa [List.take_append_drop] at h1
  omega
def HObj.Big (o : HObj) : Prop := In64 o.cls ∧ In64 o.kind ∧ (∀ x ∈ o.slots, In64 x) ∧ In64 o.bits ∧ In64 o.hash ∧ o.slots.length < 17592186044416 ∧ o.text.size < 140737488355328
def HHeap.Big (h : HHeap) : Prop := (∀ o ∈ h.objs, o.Big) ∧ In64 h.cap ∧ In64 h.last ∧ h.objs.length < 2199023255552
def smallH (H : HHeap) : Bool := decide (H.objs.length ≤ 300 ∧ sumH H.objs < 5000)
theorem small_end (H : HHeap) (k : Nat) (hk : k ≤ H.objs.length) (h : ¬ (k < H.objs.length ∧ sumH (H.objs.take k) < 5000)) : smallH H = (decide (H.objs.length ≤ 300) && decide (sumH (H.objs.take k) < 5000)) := by
  by_cases hkl : k = H.objs.length
  · subst hkl; simp [smallH]
  · have h1 := sumH_mono H.objs k
    have h2 : ¬ sumH (H.objs.take k) < 5000 := by omega
    have h3 : ¬ sumH H.objs < 5000 := by omega
    simp [smallH, h2, h3]
set_option maxRecDepth 100000 in
set_option maxHeartbeats 4000000 in
theorem rSmall_ok (H : HHeap) (hi : H.Big) : Gives Try.prog 6 [.agg (encHeap H)] (bv (smallH H)) := by
  have lH : H.objs.length < 2199023255552 := hi.2.2.2
  refine gives_of Try.func6 rfl (Nat.le_of_ble_eq_true rfl) ?_
  (repeat' (first | refine asg ?_ | refine aops_nil ?_ | refine aw_seq ?_ | refine aw_region ?_ | refine aw_block ?_ | refine bx 0 ?_ | fail))
  refine aw_forE H.objs.length (fun k => k ≤ H.objs.length ∧ 0 ≤ sumH (H.objs.take k) ∧ sumH (H.objs.take k) ≤ 9223372036854775000) (fun k => [(4, iv (k : Int)), (3, iv (sumH (H.objs.take k))), (1, .ptr 0 0 0)])
    0 ⟨by omega, by simp [sumH], by simp [sumH]⟩ ⟨rfl, rfl, rfl, trivial⟩ ?_
  rintro k ⟨hk, hn, hm⟩
  refine aw_cutE (ι := PLift (k < H.objs.length ∧ sumH (H.objs.take k) < 5000)) (fun _ => [(4, iv (k : Int)), (3, iv (sumH (H.objs.take k))), (1, .ptr 0 0 0)]) ?_ ?_
  · (repeat' (first | refine sk ?_ | refine mv ?_ | refine asg ?_ | refine ld ?_ | refine fp ?_ | refine bi ?_ | refine pt ?_ | refine pf ?_ | refine ln ?_ | refine aops_nil ?_ | refine aw_seq ?_ | refine aw_region ?_ | refine aw_cond_f rfl ?_ | refine aw_exit ?_ | refine aw_skip ?_ | refine aw_ret ?_ | refine gs (fun h => ?_) (fun h => ?_) | refine aw_cond rfl (fun h => ?_) (fun h => ?_) | fail))
    all_goals first
      | (refine ⟨⟨?_⟩, rfl, rfl, rfl, rfl, trivial⟩; simp at *; omega)
      | (refine fin (sh_bv ?_)
         rw [small_end H k hk (by simp at *; omega)]
         simp at *
         first | omega | grind)
  rintro ⟨h1, h2⟩
  have hget : H.objs[k]? = some H.objs[k] := List.getElem?_eq_getElem h1
  have hin := hi.1 _ (List.getElem_mem h1)
  have a1 : H.objs[k].slots.length < 17592186044416 := hin.2.2.2.2.2.1
  have a2 : H.objs[k].text.size < 140737488355328 := hin.2.2.2.2.2.2
  have hs := sumH_take hget
  simp only [objN] at hs
  have a3 : (encInts H.objs[k].slots).length < 17592186044416 := by simpa using a1
  (repeat' (first | refine aw_seq ?_ | refine aw_block ?_ | fail))
  refine aw_draw 18 none ?_
  (repeat' (first | refine dn ?_ | refine ds y_move ?_ | refine ds y_load ?_ | refine ds (y_faddr_ptr (hs := Nat.le_of_ble_eq_true rfl)) ?_ | refine ds y_faddr_ip ?_ | refine ds y_bw ?_ | refine ds y_len ?_ | refine ds y_lens ?_ | refine ds (y_iaddrN k (objs_get hget)) ?_ | fail))
  (repeat' (first | refine mv ?_ | refine asg ?_ | refine bw ?_ | refine aops_nil ?_ | refine aw_region ?_ | fail))
  refine ⟨h1, ⟨by omega, by omega, by omega⟩, rfl, rfl, ?_, rfl, trivial⟩
  refine congrArg some (congrArg iv ?_)
  rw [hs, len_ints]
theorem sum_ge {l : List HObj} {o : HObj} (h : o ∈ l) : objN o ≤ sumH l := by
  have h0 : ∀ (l : List HObj), 0 ≤ sumH l := by
    intro l
    induction l with
    | nil => simp [sumH]
    | cons o l ih => simp only [sumH, List.map_cons, List.sum_cons, objN] at ih ⊢; omega
  induction l with
  | nil => cases h
  | cons p l ih =>
    have e : sumH (p :: l) = objN p + sumH l := by simp [sumH]
    have hp : 0 ≤ objN p := by simp only [objN]; omega
    rcases List.mem_cons.1 h with rfl | h
    · have := h0 l; omega
    · have := ih h; omega
theorem small_in {H : HHeap} (hi : H.Big) (h : smallH H = true) : H.In := by
  simp only [smallH, decide_eq_true_eq] at h
  refine ⟨fun o ho => ?_, hi.2.1, hi.2.2.1, by omega⟩
  obtain ⟨b1, b2, b3, b4, b5, _, _⟩ := hi.1 o ho
  have := sum_ge ho
  simp only [objN] at this
  exact ⟨b1, b2, b3, b4, b5, by omega, by omega⟩
end Go.Proofs.Ytemcemimipagoaa
