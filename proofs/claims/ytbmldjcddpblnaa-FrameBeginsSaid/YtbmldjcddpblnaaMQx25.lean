/- What the statements' walks need. -/
import Derived.Test.YtbmldjcddpblnaaMQa4
import Derived.Test.YtbmldjcddpblnaaMQx20
import Derived.Test.YtbmldjcddpblnaaMQx21
import Derived.Test.YtbmldjcddpblnaaMQx16
import Derived.Test.YtbmldjcddpblnaaMQa3
set_option linter.unusedVariables false
set_option linter.unusedSimpArgs false
set_option maxRecDepth 100000
namespace Go.Proofs.Ytbmldjcddpblnaa
open Go Go.Proofs AW
set_option maxHeartbeats 8000000 in
theorem read_c (H : HHeap) (hi : H.In) (c : Int) (h0 : mayH H = true) (h1 : H.is c 0) (h2 : (H.at' c).cls = 12) (h3 : (H.at' c).slots.length = 22) (hm : mthB H ((H.at' c).sl 3) = true) (r0 : 0 ≤ H.ref ((H.at' c).sl 0)) (r5 : ¬ 0 ≤ H.ref ((H.at' c).sl 5)) : Gives Try.prog 55 [.agg (encHeap H), iv c] (.tup [.agg (encCtx (ctxV H c)), bv (ctxB H c)]) := by
  have cr := ref6_ok
  have c0 := (May_ok H hi).to' (congrArg bv h0)
  have c1 := object_some H c 0 h1
  have hle : (encInts (H.at' c).slots).length = 22 := by rw [len_ints, h3]
  have g0 := ints_get (sl_get (o := H.at' c) (k := 0) (by omega))
  have g1 := ints_get (sl_get (o := H.at' c) (k := 1) (by omega))
  have g2 := ints_get (sl_get (o := H.at' c) (k := 2) (by omega))
  have g3 := ints_get (sl_get (o := H.at' c) (k := 3) (by omega))
  have g5 := ints_get (sl_get (o := H.at' c) (k := 5) (by omega))
  have c2 := (method_ok H hi ((H.at' c).sl 3)).to' (y := AV.tup [.agg (encMethod (mthX H ((H.at' c).sl 3))), bv true]) (by rw [hm, mthM, if_pos hm])
  have t0 := (there_ok H ((H.at' c).sl 0)).to' (congrArg bv (decide_eq_true r0))
  have t5 := (there_ok H ((H.at' c).sl 5)).to' (congrArg bv (decide_eq_false r5))
  refine gives_of Try.func55 rfl (Nat.le_of_ble_eq_true rfl) ?_
  (repeat' (first | refine mv ?_ | refine asg ?_ | refine ld ?_ | refine fi ?_ | refine bf ?_ | refine un ?_ | refine pf ?_ | refine ex ?_ | refine ln ?_ | refine la ?_ | refine so ?_ | refine bd ?_ | refine nk ?_ | refine pn ?_ | refine aops_nil ?_ | refine aw_seq ?_ | refine aw_region ?_ | refine aw_cond_f rfl ?_ | refine aw_skip ?_ | refine bx 0 ?_ | refine al 1 ?_ | refine al 2 ?_ | refine cl cr ?_ | refine cl c0 ?_ (hno := ⟨noOwn_heap _, trivial⟩) | refine cl c1 ?_ (hno := ⟨noOwn_heap _, noOwn_iv _, noOwn_iv _, trivial⟩) | fail))
  refine aw_drawM2 14 11 3 (.live 32 5 [[iv 0, iv 0, iv 0, .v (.slice none 0 0), .v (.slice none 0 0)]]) 12 3 (.live 32 5 [encMethod (mthX H ((H.at' c).sl 3))]) ?_
  (repeat' (first | refine dMn ?_ | refine dM (.inr (y_move)) (by first | exact .inr (y_move) | exact .inl rfl) (by first | exact .inr (y_move) | exact .inl rfl) ?_ | refine dM (.inr (y_assign)) (by first | exact .inr (y_assign) | exact .inl rfl) (by first | exact .inr (y_assign) | exact .inl rfl) ?_ | refine dM (.inr (y_extract)) (by first | exact .inr (y_extract) | exact .inl rfl) (by first | exact .inr (y_extract) | exact .inl rfl) ?_ | refine dM (.inr (y_load)) (by first | exact .inr (y_load) | exact .inl rfl) (by first | exact .inr (y_load) | exact .inl rfl) ?_ | refine dM (.inr (y_faddr_ip)) (by first | exact .inr (y_faddr_ip) | exact .inl rfl) (by first | exact .inr (y_faddr_ip) | exact .inl rfl) ?_ | refine dM (.inr (y_nilc)) (by first | exact .inr (y_nilc) | exact .inl rfl) (by first | exact .inr (y_nilc) | exact .inl rfl) ?_ | refine dM (.inr (y_loadsN)) (by first | exact .inr (y_loadsN) | exact .inl rfl) (by first | exact .inr (y_loadsN) | exact .inl rfl) ?_ | refine dMS 1 y_storeV ?_ | refine dME 0 (y_allocU 3) ?_ | refine dM (.inr (y_call c2 (hno := ⟨noOwn_heap _, noOwn_iv _, trivial⟩))) (by first | exact .inr (y_call c2 (hno := ⟨noOwn_heap _, noOwn_iv _, trivial⟩)) | exact .inl rfl) (by first | exact .inr (y_call c2 (hno := ⟨noOwn_heap _, noOwn_iv _, trivial⟩)) | exact .inl rfl) ?_ | refine dM (.inr (y_iaddrN 3 g3)) (by first | exact .inr (y_iaddrN 3 g3) | exact .inl rfl) (by first | exact .inr (y_iaddrN 3 g3) | exact .inl rfl) ?_ | fail))
  (repeat' (first | refine aops_nil ?_ | refine aw_seq ?_ | fail))
  refine aw_draw 24 none ?_
  (repeat' (first | refine dn ?_ | refine ds y_move ?_ | refine ds y_load ?_ | refine ds y_faddr_ip ?_ | refine ds y_nilc ?_ | refine ds y_un ?_ | refine ds y_pick_f ?_ | refine ds y_loadsN ?_ | refine ds (y_call t0 (hno := ⟨noOwn_heap _, noOwn_iv _, trivial⟩)) ?_ | refine ds (y_call t5 (hno := ⟨noOwn_heap _, noOwn_iv _, trivial⟩)) ?_ | refine ds (y_iaddrN 0 g0) ?_ | refine ds (y_iaddrN 5 g5) ?_ | fail))
  (repeat' (first | refine asg ?_ | refine so ?_ | refine bd ?_ | refine aops_nil ?_ | refine aw_seq ?_ | refine aw_region ?_ | refine aw_cond_t rfl ?_ | refine aw_ret ?_ | fail))
  exact fin (ctx_zero (by simp [ctxB1, r5]))
end Go.Proofs.Ytbmldjcddpblnaa
namespace Go.Proofs.Ytbmldjcddpblnaa
open Go Go.Proofs AW
theorem next_range (v : Int) : 0 ≤ nextI v ∧ nextI v ≤ 1073741823 := by
  unfold nextI; split <;> omega
theorem refI_mono {n m v : Int} (h : n ≤ m) (hv : 0 ≤ refI n v) : 0 ≤ refI m v := by
  unfold refI at *
  split at hv
  · rename_i hc
    rw [if_pos ⟨hc.1, by omega⟩]; exact hv
  · omega
theorem hasB_mono {n m v : Int} (h : n ≤ m) (hv : hasB n v = true) : hasB m v = true := by
  simp only [hasB, Bool.or_eq_true, decide_eq_true_eq] at hv ⊢
  rcases hv with hv | hv
  · exact .inl hv
  · exact .inr (refI_mono h hv)
theorem mayObj_mono {n m : Int} (h : n ≤ m) {o : HObj} (ho : mayObj n o = true) : mayObj m o = true := by
  simp only [mayObj, headB, kindB, restB, Bool.and_eq_true, decide_eq_true_eq, List.all_eq_true] at ho ⊢
  exact ⟨⟨refI_mono h ho.1.1, ho.1.2⟩, ho.2.1, ho.2.2.1, fun x hx => hasB_mono h (ho.2.2.2 x hx)⟩
theorem alloc0 {H : HHeap} {cls kind size : Int} (h : allocE H cls kind size = 0) : mayH H = true ∧ 0 ≤ refI H.objs.length cls ∧ (0 ≤ kind ∧ kind ≤ 2) ∧ (0 ≤ size ∧ size ≤ 64) ∧ (kind = 2 → size = 0) ∧ (H.objs.length : Int) ≠ H.cap ∧
    allocH H cls kind size = ⟨H.objs ++ [newObj H cls kind size], H.cap, nextI H.last⟩ := by
  have h' := h
  simp only [allocE] at h
  split at h
  · rename_i hm
    split at h
    · omega
    split at h
    · omega
    split at h
    · omega
    split at h
    · omega
    exact ⟨hm, by omega, by omega, by omega, by omega, by assumption, by simp [allocH, h']⟩
  · omega
theorem refI_in {n v : Int} (h : 0 ≤ refI n v) : In64 v := by
  unfold refI at h
  split at h
  · rename_i hc; simp only [isAt, decide_eq_true_eq] at hc; unfold In64; omega
  · omega
theorem new_in {H : HHeap} {cls kind size : Int} (h : allocE H cls kind size = 0) : (newObj H cls kind size).In := by
  obtain ⟨_, h1, h2, h3, _⟩ := alloc0 h
  have hn := next_range H.last
  refine ⟨refI_in h1, by unfold In64; simp only [newObj]; omega, fun x hx => ?_, by simp [newObj, In64], by unfold In64; simp only [newObj]; omega, ?_, ?_⟩
  · simp only [newObj] at hx
    split at hx
    · rw [List.eq_of_mem_replicate hx]; simp [In64]
    · cases hx
  · simp only [newObj]; split
    · rw [List.length_replicate]; omega
    · simp only [List.length_nil]; omega
  · simp only [newObj]; split
    · rw [zerosB_size]; omega
    · decide
theorem allocH_in {H : HHeap} (h : H.In) {cls kind size : Int} : (allocH H cls kind size).In := by
  by_cases he : allocE H cls kind size = 0
  · obtain ⟨hm, _, _, _, _, _, h3⟩ := alloc0 he
    have hl := mayH_len hm
    have hn := next_range H.last
    rw [h3]
    refine ⟨fun o ho => ?_, h.2.1, by unfold In64; simp only; omega, by simp; omega⟩
    rcases List.mem_append.1 ho with ho | ho
    · exact h.1 o ho
    · simp only [List.mem_singleton] at ho; subst ho; exact new_in he
  · simp only [allocH, he, if_false]; exact keptH_in h _
theorem new_may {H : HHeap} {cls kind size : Int} (h : allocE H cls kind size = 0) : mayObj ((H.objs.length : Int) + 1) (newObj H cls kind size) = true := by
  obtain ⟨_, h1, h2, h3, h4, _⟩ := alloc0 h
  have hn := next_range H.last
  have hz : hasB ((H.objs.length : Int) + 1) 0 = true := by
    simp only [hasB, refI, isAt, isN, Bool.or_eq_true, decide_eq_true_eq]
    right
    rw [if_pos (by simp <;> omega)]
    decide
  have hc : canI (newObj H cls kind size).bits = (newObj H cls kind size).bits := by show canI 0 = 0; decide
  simp only [mayObj, headB, kindB, restB, Bool.and_eq_true, decide_eq_true_eq, List.all_eq_true]
  refine ⟨⟨refI_mono (by omega) h1, h2.1, h2.2, hn.1, hn.2⟩, ⟨fun hk => ?_, fun hk => ?_, fun _ => rfl⟩, ⟨?_, ?_, hc⟩, fun x hx => ?_⟩
  · simp only [newObj] at hk ⊢; rw [if_neg hk]; rfl
  · simp only [newObj] at hk ⊢; rw [if_neg hk]; rfl
  · simp only [newObj]; split
    · simp; omega
    · simp
  · simp only [newObj]; split
    · rw [zerosB_size]; omega
    · decide
  · simp only [newObj] at hx
    split at hx
    · rw [List.eq_of_mem_replicate hx]; exact hz
    · cases hx
theorem allocH_may {H : HHeap} {cls kind size : Int} (he : allocE H cls kind size = 0) : mayH (allocH H cls kind size) = true := by
  obtain ⟨hm, _, _, _, _, hne, h3⟩ := alloc0 he
  have hn := next_range H.last
  rw [h3]
  have hm' := hm
  rw [mayH_iff] at hm ⊢
  simp only [List.length_append, List.length_singleton, Int.natCast_add, Int.natCast_one]
  refine ⟨⟨hm.1.1, hm.1.2.1, by omega, hn.1, hn.2⟩, fun o ho => ?_⟩
  rcases List.mem_append.1 ho with ho | ho
  · exact mayObj_mono (by omega) (hm.2 o ho)
  · simp only [List.mem_singleton] at ho; subst ho; exact new_may he
end Go.Proofs.Ytbmldjcddpblnaa
