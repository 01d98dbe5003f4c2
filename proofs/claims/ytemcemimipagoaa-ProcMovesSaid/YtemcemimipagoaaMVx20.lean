/- What the statements' walks need. -/
import Derived.Test.YtemcemimipagoaaMVa4
import Derived.Test.YtemcemimipagoaaMVx17
import Derived.Test.YtemcemimipagoaaMVx19
import Derived.Test.YtemcemimipagoaaMVa2
set_option linter.unusedVariables false
set_option linter.unusedSimpArgs false
set_option maxRecDepth 100000
namespace Go.Proofs.Ytemcemimipagoaa
open Go Go.Proofs AW
theorem mayH_iff {H : HHeap} : mayH H = true ↔ (1 ≤ H.cap ∧ H.cap ≤ 256 ∧ (H.objs.length : Int) ≤ H.cap ∧ 0 ≤ H.last ∧ H.last ≤ 1073741823) ∧ ∀ o ∈ H.objs, mayObj H.objs.length o = true := by
  simp [mayH]
@[simp] theorem put_len (H : HHeap) (i : Nat) (o : HObj) : (H.put i o).objs.length = H.objs.length := by simp [HHeap.put]
@[simp] theorem put_ref (H : HHeap) (i : Nat) (o : HObj) (v : Int) : (H.put i o).ref v = H.ref v := by simp [HHeap.ref]
theorem put_in {H : HHeap} (h : H.In) {o : HObj} (ho : o.In) (i : Nat) : (H.put i o).In := by
  refine ⟨fun p hp => ?_, h.2.1, h.2.2.1, by rw [put_len]; exact h.2.2.2⟩
  rcases List.mem_or_eq_of_mem_set hp with hp | rfl
  · exact h.1 p hp
  · exact ho
theorem put_may {H : HHeap} (h : mayH H = true) {o : HObj} (ho : mayObj H.objs.length o = true) (i : Nat) : mayH (H.put i o) = true := by
  rw [mayH_iff] at h ⊢
  rw [put_len]
  refine ⟨h.1, fun p hp => ?_⟩
  rcases List.mem_or_eq_of_mem_set hp with hp | rfl
  · exact h.2 p hp
  · exact ho
theorem put_at_same {H : HHeap} {v : Int} (h : 0 ≤ H.ref v) (o : HObj) : (H.put (H.ref v).toNat o).at' v = o := by
  simp only [HHeap.at', put_ref]
  simp only [HHeap.put]
  rw [List.getElem?_set_self (ref_lt h)]
  rfl
theorem put_at_other {H : HHeap} {v : Int} {i : Nat} (h : (H.ref v).toNat ≠ i) (o : HObj) : (H.put i o).at' v = H.at' v := by
  simp only [HHeap.at', put_ref]
  simp only [HHeap.put]
  rw [List.getElem?_set_ne (Ne.symm h)]
theorem put_self {H : HHeap} {v : Int} (h : 0 ≤ H.ref v) : H.put (H.ref v).toNat (H.at' v) = H := by
  refine heap_ext rfl rfl ?_
  have := at_get h
  simp only [HHeap.put]
  apply List.ext_getElem?
  intro j
  by_cases hj : (H.ref v).toNat = j
  · subst hj; rw [List.getElem?_set_self (ref_lt h), this]
  · rw [List.getElem?_set_ne hj]
theorem at_in {H : HHeap} (h : H.In) {v : Int} (hv : 0 ≤ H.ref v) : (H.at' v).In := h.1 _ (at_mem hv)
theorem has_in {n v : Int} (h : hasB n v = true) (hn : n < 1099511627776) : In64 v := by
  simp only [hasB, Bool.or_eq_true, decide_eq_true_eq] at h
  unfold In64
  rcases h with h | h
  · simp only [isN, decide_eq_true_eq] at h; omega
  · unfold refI at h
    split at h
    · rename_i hc; simp only [isAt, decide_eq_true_eq] at hc; omega
    · omega
theorem set0 {H : HHeap} {v slot x : Int} (h : setE H v slot x = 0) : wrongE H v 0 slot = 0 ∧ hasB H.objs.length x = true ∧ setH H v slot x = H.put (H.ref v).toNat { H.at' v with slots := (H.at' v).slots.set slot.toNat x } := by
  have h' := h
  simp only [setE] at h
  split at h
  · rename_i h1
    split at h
    · rename_i h2
      exact ⟨h1, h2, by simp [setH, h']⟩
    · omega
  · exact absurd h (by assumption)
theorem slots_in {o : HObj} (h : o.In) {k : Nat} {x : Int} (hx : In64 x) : ({ o with slots := o.slots.set k x } : HObj).In := by
  obtain ⟨h1, h2, h3, h4, h5, h6, h7⟩ := h
  refine ⟨h1, h2, fun y hy => ?_, h4, h5, by simpa using h6, h7⟩
  rcases List.mem_or_eq_of_mem_set hy with hy | rfl
  · exact h3 y hy
  · exact hx
theorem slots_may {n : Int} {o : HObj} (h : mayObj n o = true) {k : Nat} {x : Int} (hx : hasB n x = true) : mayObj n { o with slots := o.slots.set k x } = true := by
  simp only [mayObj, headB, kindB, restB, Bool.and_eq_true, decide_eq_true_eq, List.length_set, List.all_eq_true] at h ⊢
  refine ⟨h.1, h.2.1, h.2.2.1, fun y hy => ?_⟩
  rcases List.mem_or_eq_of_mem_set hy with hy | rfl
  · exact h.2.2.2 y hy
  · exact hx
theorem keptH_in {H : HHeap} (h : H.In) (e : Int) : (keptH H e).In := by
  unfold keptH; split
  · simp [emptyH, HHeap.In, In64]
  · exact h
theorem setH_in {H : HHeap} (h : H.In) {v slot x : Int} : (setH H v slot x).In := by
  by_cases he : setE H v slot x = 0
  · obtain ⟨h1, h2, h3⟩ := set0 he
    obtain ⟨_, hr, _⟩ := wrong0 h1
    rw [h3]
    exact put_in h (slots_in (at_in h hr) (has_in h2 (by have := h.2.2.2; omega))) _
  · simp only [setH, he, if_false]; exact keptH_in h _
theorem setH_may {H : HHeap} {v slot x : Int} (he : setE H v slot x = 0) : mayH (setH H v slot x) = true := by
  obtain ⟨h1, h2, h3⟩ := set0 he
  obtain ⟨hm, hr, _⟩ := wrong0 h1
  rw [h3]
  exact put_may hm (slots_may (may_obj hm (at_mem hr)) h2) _
theorem ref_inj {H : HHeap} {v w : Int} (hv : 0 ≤ H.ref v) (h : H.ref v = H.ref w) : v = w := by
  unfold HHeap.ref refI at *
  split at hv
  · rename_i h1
    rw [if_pos h1] at h
    split at h
    · rename_i h2
      simp only [isAt, decide_eq_true_eq] at h1 h2
      omega
    · omega
  · omega
theorem set_ref {H : HHeap} {v slot x : Int} (he : setE H v slot x = 0) (w : Int) : (setH H v slot x).ref w = H.ref w := by
  rw [(set0 he).2.2, put_ref]
theorem set_len {H : HHeap} {v slot x : Int} (he : setE H v slot x = 0) : (setH H v slot x).objs.length = H.objs.length := by
  rw [(set0 he).2.2, put_len]
end Go.Proofs.Ytemcemimipagoaa
