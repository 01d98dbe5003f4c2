/- What the statements' walks need. -/
import Derived.Test.YtnjihhheiiapnaaGreatMRa4
import Derived.Test.YtnjihhheiiapnaaGreatMRx21
import Derived.Test.YtnjihhheiiapnaaGreatMRx14
import Derived.Test.YtnjihhheiiapnaaGreatMRa3
set_option linter.unusedVariables false
set_option linter.unusedSimpArgs false
set_option maxRecDepth 100000
namespace Go.Proofs.YtnjihhheiiapnaaGreat
open Go Go.Proofs AW
theorem become0 {H : HHeap} {v w : Int} (h : becomeE H v w = 0) : mayH H = true ∧ 0 ≤ H.ref v ∧ 0 ≤ H.ref w ∧ becomeH H v w = (H.put (H.ref v).toNat (H.at' w)).put (H.ref w).toNat (H.at' v) := by
  have h' := h
  simp only [becomeE] at h
  split at h
  · rename_i hm
    split at h
    · omega
    · exact ⟨hm, by omega, by omega, by simp [becomeH, h']⟩
  · omega
theorem becomeE_of {H : HHeap} {v w : Int} (hm : mayH H = true) (hv : 0 ≤ H.ref v) (hw : 0 ≤ H.ref w) : becomeE H v w = 0 := by
  simp only [becomeE, hm, if_true]; rw [if_neg (by omega)]
theorem becomeH_in {H : HHeap} (h : H.In) {v w : Int} : (becomeH H v w).In := by
  by_cases he : becomeE H v w = 0
  · obtain ⟨_, hv, hw, h3⟩ := become0 he
    rw [h3]
    exact put_in (put_in h (at_in h hw) _) (at_in h hv) _
  · simp only [becomeH, he, if_false]; exact keptH_in h _
theorem becomeH_may {H : HHeap} {v w : Int} (he : becomeE H v w = 0) : mayH (becomeH H v w) = true := by
  obtain ⟨hm, hv, hw, h3⟩ := become0 he
  rw [h3]
  exact put_may (put_may hm (may_obj hm (at_mem hw)) _) (by rw [put_len]; exact may_obj hm (at_mem hv)) _
theorem become_ref {H : HHeap} {v w : Int} (he : becomeE H v w = 0) (x : Int) : (becomeH H v w).ref x = H.ref x := by
  rw [(become0 he).2.2.2, put_ref, put_ref]
theorem become_len {H : HHeap} {v w : Int} (he : becomeE H v w = 0) : (becomeH H v w).objs.length = H.objs.length := by
  rw [(become0 he).2.2.2, put_len, put_len]
theorem become_at_v {H : HHeap} {v w : Int} (he : becomeE H v w = 0) : (becomeH H v w).at' v = H.at' w := by
  obtain ⟨hm, hv, hw, h3⟩ := become0 he
  rw [h3]
  by_cases hvw : (H.ref v).toNat = (H.ref w).toNat
  · have e1 : H.ref w = H.ref v := by omega
    have : ((H.put (H.ref v).toNat (H.at' w)).put (H.ref w).toNat (H.at' v)).at' v = H.at' v := by
      have := put_at_same (H := H.put (H.ref v).toNat (H.at' w)) (v := v) (by rw [put_ref]; exact hv) (H.at' v)
      rw [put_ref] at this
      rw [e1]; exact this
    rw [this]
    simp only [HHeap.at', e1]
  · rw [put_at_other (by rw [put_ref]; exact hvw), put_at_same hv]
theorem become_at_w {H : HHeap} {v w : Int} (he : becomeE H v w = 0) : (becomeH H v w).at' w = H.at' v := by
  obtain ⟨hm, hv, hw, h3⟩ := become0 he
  rw [h3]
  have := put_at_same (H := H.put (H.ref v).toNat (H.at' w)) (v := w) (by rw [put_ref]; exact hw) (H.at' v)
  rwa [put_ref] at this
theorem become_twice {H : HHeap} {v w : Int} (he : becomeE H v w = 0) : becomeE (becomeH H v w) w v = 0 ∧ becomeH (becomeH H v w) w v = H := by
  obtain ⟨hm, hv, hw, h3⟩ := become0 he
  have hm2 := becomeH_may he
  have e0 : becomeE (becomeH H v w) w v = 0 := becomeE_of hm2 (by rw [become_ref he]; exact hw) (by rw [become_ref he]; exact hv)
  refine ⟨e0, ?_⟩
  rw [(become0 e0).2.2.2, become_at_v he, become_at_w he, become_ref he, become_ref he, h3]
  refine heap_ext rfl rfl ?_
  have gv := at_get hv
  have gw := at_get hw
  have lv := ref_lt hv
  have lw := ref_lt hw
  simp only [HHeap.put]
  apply List.ext_getElem?
  intro j
  by_cases h1 : (H.ref v).toNat = j
  · subst h1
    rw [List.getElem?_set_self (by simpa using lv), gv]
  · rw [List.getElem?_set_ne h1]
    by_cases h2 : (H.ref w).toNat = j
    · subst h2
      rw [List.getElem?_set_self (by simpa using lw), gw]
    · rw [List.getElem?_set_ne h2, List.getElem?_set_ne h2, List.getElem?_set_ne h1]
theorem size_setB (t : ByteArray) (k : Nat) (x : Int) : (setB t k x).size = t.size := by simp [setB, strOfNums_size]
theorem byte0 {H : HHeap} {v a x : Int} (h : setByteE H v a x = 0) : wrongE H v 1 a = 0 ∧ 0 ≤ x ∧ x ≤ 255 ∧ setByteH H v a x = H.put (H.ref v).toNat { H.at' v with text := setB (H.at' v).text a.toNat x } := by
  have h' := h
  simp only [setByteE] at h
  split at h
  · rename_i h1
    split at h
    · rename_i h2
      exact ⟨h1, h2.1, h2.2, by simp [setByteH, h']⟩
    · omega
  · exact absurd h (by assumption)
theorem text_in {o : HObj} (h : o.In) {k : Nat} {x : Int} : ({ o with text := setB o.text k x } : HObj).In := by
  obtain ⟨h1, h2, h3, h4, h5, h6, h7⟩ := h
  exact ⟨h1, h2, h3, h4, h5, h6, by simpa [size_setB] using h7⟩
theorem text_may {n : Int} {o : HObj} (h : mayObj n o = true) {k : Nat} {x : Int} : mayObj n { o with text := setB o.text k x } = true := by
  simp only [mayObj, headB, kindB, restB, Bool.and_eq_true, decide_eq_true_eq, size_setB] at h ⊢
  exact h
theorem byteH_in {H : HHeap} (h : H.In) {v a x : Int} : (setByteH H v a x).In := by
  by_cases he : setByteE H v a x = 0
  · obtain ⟨h1, h2, h4, h3⟩ := byte0 he
    obtain ⟨_, hr, _⟩ := wrong0 h1
    rw [h3]
    exact put_in h (text_in (at_in h hr)) _
  · simp only [setByteH, he, if_false]; exact keptH_in h _
theorem byteH_may {H : HHeap} {v a x : Int} (he : setByteE H v a x = 0) : mayH (setByteH H v a x) = true := by
  obtain ⟨h1, h2, h4, h3⟩ := byte0 he
  obtain ⟨hm, hr, _⟩ := wrong0 h1
  rw [h3]
  exact put_may hm (text_may (may_obj hm (at_mem hr))) _
theorem next_range (v : Int) : 0 ≤ nextI v ∧ nextI v ≤ 1073741823 := by
  unfold nextI; split <;> omega
theorem refI_mono {n m v : Int} (h : n ≤ m) (hv : 0 ≤ refI n v) : 0 ≤ refI m v := by
  unfold refI at *
  split at hv
  · rename_i hc
    rw [if_pos ⟨hc.1, by omega⟩]; exact hv
  · omega
theorem hasB_mono {n m v : Int} (h : n ≤ m) (hv : hasB n v = true) : hasB m v = true := by
  simp only [hasB, Bool.or_eq_true, decide_eq_true_eq] at hv ⊢
  rcases hv with hv | hv
  · exact .inl hv
  · exact .inr (refI_mono h hv)
theorem mayObj_mono {n m : Int} (h : n ≤ m) {o : HObj} (ho : mayObj n o = true) : mayObj m o = true := by
  simp only [mayObj, headB, kindB, restB, Bool.and_eq_true, decide_eq_true_eq, List.all_eq_true] at ho ⊢
  exact ⟨⟨refI_mono h ho.1.1, ho.1.2⟩, ho.2.1, ho.2.2.1, fun x hx => hasB_mono h (ho.2.2.2 x hx)⟩
theorem alloc0 {H : HHeap} {cls kind size : Int} (h : allocE H cls kind size = 0) : mayH H = true ∧ 0 ≤ refI H.objs.length cls ∧ (0 ≤ kind ∧ kind ≤ 2) ∧ (0 ≤ size ∧ size ≤ 64) ∧ (kind = 2 → size = 0) ∧ (H.objs.length : Int) ≠ H.cap ∧
    allocH H cls kind size = ⟨H.objs ++ [newObj H cls kind size], H.cap, nextI H.last⟩ := by
  have h' := h
  simp only [allocE] at h
  split at h
  · rename_i hm
    split at h
    · omega
    split at h
    · omega
    split at h
    · omega
    split at h
    · omega
    exact ⟨hm, by omega, by omega, by omega, by omega, by assumption, by simp [allocH, h']⟩
  · omega
theorem refI_in {n v : Int} (h : 0 ≤ refI n v) : In64 v := by
  unfold refI at h
  split at h
  · rename_i hc; simp only [isAt, decide_eq_true_eq] at hc; unfold In64; omega
  · omega
theorem new_in {H : HHeap} {cls kind size : Int} (h : allocE H cls kind size = 0) : (newObj H cls kind size).In := by
  obtain ⟨_, h1, h2, h3, _⟩ := alloc0 h
  have hn := next_range H.last
  refine ⟨refI_in h1, by unfold In64; simp only [newObj]; omega, fun x hx => ?_, by simp [newObj, In64], by unfold In64; simp only [newObj]; omega, ?_, ?_⟩
  · simp only [newObj] at hx
    split at hx
    · rw [List.eq_of_mem_replicate hx]; simp [In64]
    · cases hx
  · simp only [newObj]; split
    · rw [List.length_replicate]; omega
    · simp only [List.length_nil]; omega
  · simp only [newObj]; split
    · rw [zerosB_size]; omega
    · decide
theorem allocH_in {H : HHeap} (h : H.In) {cls kind size : Int} : (allocH H cls kind size).In := by
  by_cases he : allocE H cls kind size = 0
  · obtain ⟨hm, _, _, _, _, _, h3⟩ := alloc0 he
    have hl := mayH_len hm
    have hn := next_range H.last
    rw [h3]
    refine ⟨fun o ho => ?_, h.2.1, by unfold In64; simp only; omega, by simp; omega⟩
    rcases List.mem_append.1 ho with ho | ho
    · exact h.1 o ho
    · simp only [List.mem_singleton] at ho; subst ho; exact new_in he
  · simp only [allocH, he, if_false]; exact keptH_in h _
theorem new_may {H : HHeap} {cls kind size : Int} (h : allocE H cls kind size = 0) : mayObj ((H.objs.length : Int) + 1) (newObj H cls kind size) = true := by
  obtain ⟨_, h1, h2, h3, h4, _⟩ := alloc0 h
  have hn := next_range H.last
  have hz : hasB ((H.objs.length : Int) + 1) 0 = true := by
    simp only [hasB, refI, isAt, isN, Bool.or_eq_true, decide_eq_true_eq]
    right
    rw [if_pos (by simp <;> omega)]
    decide
  have hc : canI (newObj H cls kind size).bits = (newObj H cls kind size).bits := by show canI 0 = 0; decide
  simp only [mayObj, headB, kindB, restB, Bool.and_eq_true, decide_eq_true_eq, List.all_eq_true]
  refine ⟨⟨refI_mono (by omega) h1, h2.1, h2.2, hn.1, hn.2⟩, ⟨fun hk => ?_, fun hk => ?_, fun _ => rfl⟩, ⟨?_, ?_, hc⟩, fun x hx => ?_⟩
  · simp only [newObj] at hk ⊢; rw [if_neg hk]; rfl
  · simp only [newObj] at hk ⊢; rw [if_neg hk]; rfl
  · simp only [newObj]; split
    · simp; omega
    · simp
  · simp only [newObj]; split
    · rw [zerosB_size]; omega
    · decide
  · simp only [newObj] at hx
    split at hx
    · rw [List.eq_of_mem_replicate hx]; exact hz
    · cases hx
theorem allocH_may {H : HHeap} {cls kind size : Int} (he : allocE H cls kind size = 0) : mayH (allocH H cls kind size) = true := by
  obtain ⟨hm, _, _, _, _, hne, h3⟩ := alloc0 he
  have hn := next_range H.last
  rw [h3]
  have hm' := hm
  rw [mayH_iff] at hm ⊢
  simp only [List.length_append, List.length_singleton, Int.natCast_add, Int.natCast_one]
  refine ⟨⟨hm.1.1, hm.1.2.1, by omega, hn.1, hn.2⟩, fun o ho => ?_⟩
  rcases List.mem_append.1 ho with ho | ho
  · exact mayObj_mono (by omega) (hm.2 o ho)
  · simp only [List.mem_singleton] at ho; subst ho; exact new_may he
end Go.Proofs.YtnjihhheiiapnaaGreat
