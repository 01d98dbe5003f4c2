/- Heaps behind Become, behind written bytes, behind allocations. -/
import Derived.Test.YtafbiccgbgcooaaKD
set_option linter.unusedSimpArgs false
namespace Go.Proofs.Ytafbiccgbgcooaa
open Go Go.Proofs AW
theorem become0 {H : HHeap} {v w : Int} (h : becomeE H v w = 0) : mayH H = true ∧ 0 ≤ H.ref v ∧ 0 ≤ H.ref w ∧ becomeH H v w = (H.put (H.ref v).toNat (H.at' w)).put (H.ref w).toNat (H.at' v) := by
  have h' := h
  simp only [becomeE] at h
  split at h
  · rename_i hm
    split at h
    · omega
    · exact ⟨hm, by omega, by omega, by simp [becomeH, h']⟩
  · omega
theorem becomeE_of {H : HHeap} {v w : Int} (hm : mayH H = true) (hv : 0 ≤ H.ref v) (hw : 0 ≤ H.ref w) : becomeE H v w = 0 := by
  simp only [becomeE, hm, if_true]; rw [if_neg (by omega)]
theorem becomeH_in {H : HHeap} (h : H.In) {v w : Int} : (becomeH H v w).In := by
  by_cases he : becomeE H v w = 0
  · obtain ⟨_, hv, hw, h3⟩ := become0 he
    rw [h3]
    exact put_in (put_in h (at_in h hw) _) (at_in h hv) _
  · simp only [becomeH, he, if_false]; exact keptH_in h _
theorem becomeH_may {H : HHeap} {v w : Int} (he : becomeE H v w = 0) : mayH (becomeH H v w) = true := by
  obtain ⟨hm, hv, hw, h3⟩ := become0 he
  rw [h3]
  exact put_may (put_may hm (may_obj hm (at_mem hw)) _) (by rw [put_len]; exact may_obj hm (at_mem hv)) _
theorem become_ref {H : HHeap} {v w : Int} (he : becomeE H v w = 0) (x : Int) : (becomeH H v w).ref x = H.ref x := by
  rw [(become0 he).2.2.2, put_ref, put_ref]
theorem become_len {H : HHeap} {v w : Int} (he : becomeE H v w = 0) : (becomeH H v w).objs.length = H.objs.length := by
  rw [(become0 he).2.2.2, put_len, put_len]
theorem become_at_v {H : HHeap} {v w : Int} (he : becomeE H v w = 0) : (becomeH H v w).at' v = H.at' w := by
  obtain ⟨hm, hv, hw, h3⟩ := become0 he
  rw [h3]
  by_cases hvw : (H.ref v).toNat = (H.ref w).toNat
  · have e1 : H.ref w = H.ref v := by omega
    have : ((H.put (H.ref v).toNat (H.at' w)).put (H.ref w).toNat (H.at' v)).at' v = H.at' v := by
      have := put_at_same (H := H.put (H.ref v).toNat (H.at' w)) (v := v) (by rw [put_ref]; exact hv) (H.at' v)
      rw [put_ref] at this
      rw [e1]; exact this
    rw [this]
    simp only [HHeap.at', e1]
  · rw [put_at_other (by rw [put_ref]; exact hvw), put_at_same hv]
theorem become_at_w {H : HHeap} {v w : Int} (he : becomeE H v w = 0) : (becomeH H v w).at' w = H.at' v := by
  obtain ⟨hm, hv, hw, h3⟩ := become0 he
  rw [h3]
  have := put_at_same (H := H.put (H.ref v).toNat (H.at' w)) (v := w) (by rw [put_ref]; exact hw) (H.at' v)
  rwa [put_ref] at this
theorem become_comm {H : HHeap} {v w : Int} (he : becomeE H v w = 0) : becomeE H w v = 0 ∧ becomeH H w v = becomeH H v w := by
  obtain ⟨hm, hv, hw, h3⟩ := become0 he
  have e0 : becomeE H w v = 0 := becomeE_of hm hw hv
  refine ⟨e0, ?_⟩
  rw [(become0 e0).2.2.2, h3]
  by_cases hvw : (H.ref v).toNat = (H.ref w).toNat
  · have e1 : H.ref w = H.ref v := by omega
    have e2 : H.at' w = H.at' v := by simp only [HHeap.at', e1]
    rw [e2, e1]
  · refine heap_ext rfl rfl ?_
    simp only [HHeap.put]
    rw [List.set_comm _ _ hvw]
theorem become_twice {H : HHeap} {v w : Int} (he : becomeE H v w = 0) : becomeE (becomeH H v w) w v = 0 ∧ becomeH (becomeH H v w) w v = H := by
  obtain ⟨hm, hv, hw, h3⟩ := become0 he
  have hm2 := becomeH_may he
  have e0 : becomeE (becomeH H v w) w v = 0 := becomeE_of hm2 (by rw [become_ref he]; exact hw) (by rw [become_ref he]; exact hv)
  refine ⟨e0, ?_⟩
  rw [(become0 e0).2.2.2, become_at_v he, become_at_w he, become_ref he, become_ref he, h3]
  refine heap_ext rfl rfl ?_
  have gv := at_get hv
  have gw := at_get hw
  have lv := ref_lt hv
  have lw := ref_lt hw
  simp only [HHeap.put]
  apply List.ext_getElem?
  intro j
  by_cases h1 : (H.ref v).toNat = j
  · subst h1
    rw [List.getElem?_set_self (by simpa using lv), gv]
  · rw [List.getElem?_set_ne h1]
    by_cases h2 : (H.ref w).toNat = j
    · subst h2
      rw [List.getElem?_set_self (by simpa using lw), gw]
    · rw [List.getElem?_set_ne h2, List.getElem?_set_ne h2, List.getElem?_set_ne h1]
theorem become_self {H : HHeap} {v : Int} (hm : mayH H = true) (hv : 0 ≤ H.ref v) : becomeE H v v = 0 ∧ becomeH H v v = H := by
  have e0 := becomeE_of hm hv hv
  refine ⟨e0, ?_⟩
  rw [(become0 e0).2.2.2, put_put, put_self hv]
/- Bytes. -/
theorem nums_str {ns : List Int} (h : ∀ n ∈ ns, 0 ≤ n ∧ n ≤ 255) : numsOf (strOfNums ns) = ns := by
  simp only [numsOf, strOfNums, List.map_map]
  conv => rhs; rw [← List.map_id ns]
  apply List.map_congr_left
  intro n hn
  have := h n hn
  simp only [Function.comp, UInt8.toNat_ofNat', id]
  omega
theorem nums_byte (t : ByteArray) : ∀ n ∈ numsOf t, 0 ≤ n ∧ n ≤ 255 := by
  intro n hn
  simp only [numsOf, List.mem_map] at hn
  obtain ⟨b, _, rfl⟩ := hn
  have := b.toNat_lt
  omega
theorem nums_setB {t : ByteArray} {k : Nat} {x : Int} (hx : 0 ≤ x ∧ x ≤ 255) : numsOf (setB t k x) = (numsOf t).set k x := by
  refine nums_str fun n hn => ?_
  rcases List.mem_or_eq_of_mem_set hn with hn | rfl
  · exact nums_byte t n hn
  · exact hx
theorem size_setB (t : ByteArray) (k : Nat) (x : Int) : (setB t k x).size = t.size := by simp [setB, strOfNums_size]
theorem btA_nums (t : ByteArray) (a : Int) : btA t a = ((numsOf t)[a.toNat]?).getD 0 := by
  unfold btA numsOf
  rw [List.getElem?_map, Array.getElem?_toList]
  cases t.data[a.toNat]? <;> rfl
theorem setB_same {t : ByteArray} {k : Nat} (h : k < t.size) : setB t k (btA t k) = t := by
  have hl : k < (numsOf t).length := by simpa using h
  rw [btA_nums]
  simp only [Int.toNat_natCast, List.getElem?_eq_getElem hl, Option.getD_some]
  simp only [setB, List.set_getElem_self]
  exact strOfNums_numsOf t
theorem setB_twice {t : ByteArray} {k : Nat} {x y : Int} (hx : 0 ≤ x ∧ x ≤ 255) : setB (setB t k x) k y = setB t k y := by
  simp only [setB]
  have := nums_setB (t := t) (k := k) hx
  simp only [setB] at this
  rw [this, List.set_set]
theorem byte0 {H : HHeap} {v a x : Int} (h : setByteE H v a x = 0) : wrongE H v 1 a = 0 ∧ 0 ≤ x ∧ x ≤ 255 ∧ setByteH H v a x = H.put (H.ref v).toNat { H.at' v with text := setB (H.at' v).text a.toNat x } := by
  have h' := h
  simp only [setByteE] at h
  split at h
  · rename_i h1
    split at h
    · rename_i h2
      exact ⟨h1, h2.1, h2.2, by simp [setByteH, h']⟩
    · omega
  · exact absurd h (by assumption)
theorem text_in {o : HObj} (h : o.In) {k : Nat} {x : Int} : ({ o with text := setB o.text k x } : HObj).In := by
  obtain ⟨h1, h2, h3, h4, h5, h6, h7⟩ := h
  exact ⟨h1, h2, h3, h4, h5, h6, by simpa [size_setB] using h7⟩
theorem text_may {n : Int} {o : HObj} (h : mayObj n o = true) {k : Nat} {x : Int} : mayObj n { o with text := setB o.text k x } = true := by
  simp only [mayObj, headB, kindB, restB, Bool.and_eq_true, decide_eq_true_eq, size_setB] at h ⊢
  exact h
theorem byteH_in {H : HHeap} (h : H.In) {v a x : Int} : (setByteH H v a x).In := by
  by_cases he : setByteE H v a x = 0
  · obtain ⟨h1, h2, h4, h3⟩ := byte0 he
    obtain ⟨_, hr, _⟩ := wrong0 h1
    rw [h3]
    exact put_in h (text_in (at_in h hr)) _
  · simp only [setByteH, he, if_false]; exact keptH_in h _
theorem byteH_may {H : HHeap} {v a x : Int} (he : setByteE H v a x = 0) : mayH (setByteH H v a x) = true := by
  obtain ⟨h1, h2, h4, h3⟩ := byte0 he
  obtain ⟨hm, hr, _⟩ := wrong0 h1
  rw [h3]
  exact put_may hm (text_may (may_obj hm (at_mem hr))) _
theorem byte_wrong {H : HHeap} {v a x : Int} (he : setByteE H v a x = 0) (w kind b : Int) : wrongE (setByteH H v a x) w kind b = wrongE H w kind b := by
  obtain ⟨h1, h2, h4, h3⟩ := byte0 he
  obtain ⟨hm, hr, _⟩ := wrong0 h1
  rw [h3]
  exact wrong_put hm hr (text_may (may_obj hm (at_mem hr))) rfl rfl (size_setB _ _ _) w kind b
theorem byte_ref {H : HHeap} {v a x : Int} (he : setByteE H v a x = 0) (w : Int) : (setByteH H v a x).ref w = H.ref w := by
  rw [(byte0 he).2.2.2, put_ref]
theorem byte_lt {H : HHeap} {v a : Int} (h : wrongE H v 1 a = 0) : a.toNat < (H.at' v).text.size := by
  obtain ⟨hm, hr, hk, ha, hb⟩ := wrong0 h
  have := (kind_lens hm hr).1 (by omega)
  omega
theorem byte_get {H : HHeap} {v a x : Int} (he : setByteE H v a x = 0) : byteI (setByteH H v a x) v a = x := by
  obtain ⟨h1, h2, h4, h3⟩ := byte0 he
  obtain ⟨hm, hr, _, ha, _⟩ := wrong0 h1
  have hl : a.toNat < (numsOf (H.at' v).text).length := by simpa using byte_lt h1
  simp only [byteI, byte_wrong he, h1, if_true]
  rw [h3, put_at_same hr, btA_nums]
  simp only
  rw [nums_setB ⟨h2, h4⟩, List.getElem?_set_self hl]
  rfl
theorem byteI_ge {H : HHeap} {v a : Int} : 0 ≤ byteI H v a ∧ byteI H v a ≤ 255 := by
  unfold byteI
  split
  · have := btA_lt (H.at' v).text a; omega
  · omega
theorem byte_back {H : HHeap} {v a x : Int} (he : setByteE H v a x = 0) : setByteE (setByteH H v a x) v a (byteI H v a) = 0 ∧ setByteH (setByteH H v a x) v a (byteI H v a) = H := by
  obtain ⟨h1, h2, h4, h3⟩ := byte0 he
  obtain ⟨hm, hr, _, ha, _⟩ := wrong0 h1
  have e0 : setByteE (setByteH H v a x) v a (byteI H v a) = 0 := by
    simp only [setByteE, byte_wrong he, h1, if_true]
    rw [if_pos byteI_ge]
  refine ⟨e0, ?_⟩
  obtain ⟨_, _, _, h5⟩ := byte0 e0
  rw [h5, byte_ref he, h3, put_at_same hr, put_put]
  have e1 : byteI H v a = btA (H.at' v).text ((a.toNat : Nat) : Int) := by
    simp only [byteI, h1, if_true, Int.toNat_of_nonneg ha]
  simp only
  rw [setB_twice ⟨h2, h4⟩, e1, setB_same (byte_lt h1)]
  exact put_self hr
theorem byte_else {H : HHeap} {v a x w b : Int} (he : setByteE H v a x = 0) : byteI (setByteH H v a x) w b = byteI H w b ∨ (v = w ∧ a = b) := by
  obtain ⟨h1, h2, h4, h3⟩ := byte0 he
  obtain ⟨hm, hr, _, ha, _⟩ := wrong0 h1
  by_cases hw : wrongE H w 1 b = 0
  · obtain ⟨_, hr2, _, ha2, _⟩ := wrong0 hw
    simp only [byteI, byte_wrong he, hw, if_true]
    by_cases hvw : (H.ref w).toNat = (H.ref v).toNat
    · have e2 := ref_inj hr (show H.ref v = H.ref w by omega)
      subst e2
      by_cases hs : a = b
      · exact .inr ⟨rfl, hs⟩
      · left
        rw [h3, put_at_same hr, btA_nums, btA_nums]
        simp only
        rw [nums_setB ⟨h2, h4⟩, List.getElem?_set_ne (by omega)]
    · left
      rw [h3, put_at_other hvw]
  · left
    simp only [byteI, byte_wrong he, hw, if_false]
/- Allocations. -/
theorem next_range (v : Int) : 0 ≤ nextI v ∧ nextI v ≤ 1073741823 := by
  unfold nextI; split <;> omega
theorem refI_mono {n m v : Int} (h : n ≤ m) (hv : 0 ≤ refI n v) : 0 ≤ refI m v := by
  unfold refI at *
  split at hv
  · rename_i hc
    rw [if_pos ⟨hc.1, by omega⟩]; exact hv
  · omega
theorem hasB_mono {n m v : Int} (h : n ≤ m) (hv : hasB n v = true) : hasB m v = true := by
  simp only [hasB, Bool.or_eq_true, decide_eq_true_eq] at hv ⊢
  rcases hv with hv | hv
  · exact .inl hv
  · exact .inr (refI_mono h hv)
theorem mayObj_mono {n m : Int} (h : n ≤ m) {o : HObj} (ho : mayObj n o = true) : mayObj m o = true := by
  simp only [mayObj, headB, kindB, restB, Bool.and_eq_true, decide_eq_true_eq, List.all_eq_true] at ho ⊢
  exact ⟨⟨refI_mono h ho.1.1, ho.1.2⟩, ho.2.1, ho.2.2.1, fun x hx => hasB_mono h (ho.2.2.2 x hx)⟩
theorem alloc0 {H : HHeap} {cls kind size : Int} (h : allocE H cls kind size = 0) : mayH H = true ∧ 0 ≤ refI H.objs.length cls ∧ (0 ≤ kind ∧ kind ≤ 2) ∧ (0 ≤ size ∧ size ≤ 64) ∧ (kind = 2 → size = 0) ∧ (H.objs.length : Int) ≠ H.cap ∧
    allocH H cls kind size = ⟨H.objs ++ [newObj H cls kind size], H.cap, nextI H.last⟩ := by
  have h' := h
  simp only [allocE] at h
  split at h
  · rename_i hm
    split at h
    · omega
    split at h
    · omega
    split at h
    · omega
    split at h
    · omega
    exact ⟨hm, by omega, by omega, by omega, by omega, by assumption, by simp [allocH, h']⟩
  · omega
theorem refI_in {n v : Int} (h : 0 ≤ refI n v) : In64 v := by
  unfold refI at h
  split at h
  · rename_i hc; simp only [isAt, decide_eq_true_eq] at hc; unfold In64; omega
  · omega
theorem new_in {H : HHeap} {cls kind size : Int} (h : allocE H cls kind size = 0) : (newObj H cls kind size).In := by
  obtain ⟨_, h1, h2, h3, _⟩ := alloc0 h
  have hn := next_range H.last
  refine ⟨refI_in h1, by unfold In64; simp only [newObj]; omega, fun x hx => ?_, by simp [newObj, In64], by unfold In64; simp only [newObj]; omega, ?_, ?_⟩
  · simp only [newObj] at hx
    split at hx
    · rw [List.eq_of_mem_replicate hx]; simp [In64]
    · cases hx
  · simp only [newObj]; split
    · rw [List.length_replicate]; omega
    · simp only [List.length_nil]; omega
  · simp only [newObj]; split
    · rw [zerosB_size]; omega
    · decide
theorem allocH_in {H : HHeap} (h : H.In) {cls kind size : Int} : (allocH H cls kind size).In := by
  by_cases he : allocE H cls kind size = 0
  · obtain ⟨hm, _, _, _, _, _, h3⟩ := alloc0 he
    have hl := mayH_len hm
    have hn := next_range H.last
    rw [h3]
    refine ⟨fun o ho => ?_, h.2.1, by unfold In64; simp only; omega, by simp; omega⟩
    rcases List.mem_append.1 ho with ho | ho
    · exact h.1 o ho
    · simp only [List.mem_singleton] at ho; subst ho; exact new_in he
  · simp only [allocH, he, if_false]; exact keptH_in h _
theorem new_may {H : HHeap} {cls kind size : Int} (h : allocE H cls kind size = 0) : mayObj ((H.objs.length : Int) + 1) (newObj H cls kind size) = true := by
  obtain ⟨_, h1, h2, h3, h4, _⟩ := alloc0 h
  have hn := next_range H.last
  have hz : hasB ((H.objs.length : Int) + 1) 0 = true := by
    simp only [hasB, refI, isAt, isN, Bool.or_eq_true, decide_eq_true_eq]
    right
    rw [if_pos (by simp <;> omega)]
    decide
  have hc : canI (newObj H cls kind size).bits = (newObj H cls kind size).bits := by show canI 0 = 0; decide
  simp only [mayObj, headB, kindB, restB, Bool.and_eq_true, decide_eq_true_eq, List.all_eq_true]
  refine ⟨⟨refI_mono (by omega) h1, h2.1, h2.2, hn.1, hn.2⟩, ⟨fun hk => ?_, fun hk => ?_, fun _ => rfl⟩, ⟨?_, ?_, hc⟩, fun x hx => ?_⟩
  · simp only [newObj] at hk ⊢; rw [if_neg hk]; rfl
  · simp only [newObj] at hk ⊢; rw [if_neg hk]; rfl
  · simp only [newObj]; split
    · simp; omega
    · simp
  · simp only [newObj]; split
    · rw [zerosB_size]; omega
    · decide
  · simp only [newObj] at hx
    split at hx
    · rw [List.eq_of_mem_replicate hx]; exact hz
    · cases hx
theorem allocH_may {H : HHeap} {cls kind size : Int} (he : allocE H cls kind size = 0) : mayH (allocH H cls kind size) = true := by
  obtain ⟨hm, _, _, _, _, hne, h3⟩ := alloc0 he
  have hn := next_range H.last
  rw [h3]
  have hm' := hm
  rw [mayH_iff] at hm ⊢
  simp only [List.length_append, List.length_singleton, Int.natCast_add, Int.natCast_one]
  refine ⟨⟨hm.1.1, hm.1.2.1, by omega, hn.1, hn.2⟩, fun o ho => ?_⟩
  rcases List.mem_append.1 ho with ho | ho
  · exact mayObj_mono (by omega) (hm.2 o ho)
  · simp only [List.mem_singleton] at ho; subst ho; exact new_may he
end Go.Proofs.Ytafbiccgbgcooaa
