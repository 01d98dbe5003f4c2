/- What the statements' walks need. -/
import Derived.Test.YtbmldjcddpblnaaMQa4
import Derived.Test.YtbmldjcddpblnaaMQx36
set_option linter.unusedVariables false
set_option linter.unusedSimpArgs false
set_option maxRecDepth 100000
namespace Go.Proofs.Ytbmldjcddpblnaa
open Go Go.Proofs AW
set_option maxHeartbeats 16000000 in
theorem rNew_no (H : HHeap) (hi : H.In) (s m r home : Int) (args : List Int) (ha : args.length < 1099511627776) (hne : newE H s m r home args ≠ 0) : Gives Try.prog 23 [.agg (encHeap H), iv s, iv m, iv r, iv home, .sl 1 (encInts args)]
    (.tup [.agg (encHeap (newHp H s m r home args)), iv (newV H s m r home args), iv (newE H s m r home args)]) := by
  have c1 := rMethod_ok H hi m
  have hla : (encInts args).length = args.length := len_ints _
  have e3 : newHp H s m r home args = H := by rw [newHp, if_neg hne]
  have e4 : newV H s m r home args = 0 := by rw [newV, if_neg hne]
  rw [e3, e4]
  by_cases hm : methB H m = true
  rotate_left
  · have hE : newE H s m r home args = 120 := by simp [newE, newOk, hm]
    have e1 : methE H m = 120 := by rw [methE, if_neg hm]
    have e2 : methM H m = noMth := by rw [methM, if_neg hm]
    rw [e1, e2] at c1
    refine gives_of Try.func23 rfl (Nat.le_of_ble_eq_true rfl) ?_
    (repeat' (first | refine sk ?_ | refine mv ?_ | refine asg ?_ | refine bt ?_ | refine pt ?_ | refine ex ?_ | refine la ?_ | refine so ?_ | refine aops_nil ?_ | refine aw_seq ?_ | refine aw_region ?_ | refine aw_cond_t rfl ?_ | refine aw_ret ?_ | refine bx 0 ?_ | refine al 1 ?_ | refine al 2 ?_ | refine cl (c1) ?_ | fail))
    exact fin (sh_keep3 (H := H) (v := 0) rfl rfl hE.symm)
  have e1 : methE H m = 0 := by rw [methE, if_pos hm]
  have e2 : methM H m = mthX H m := by rw [methM, if_pos hm]
  rw [e1, e2] at c1
  by_cases hn : (args.length : Int) = (mthX H m).args
  rotate_left
  · have hE : newE H s m r home args = 120 := by simp [newE, newOk, hn]
    refine gives_of Try.func23 rfl (Nat.le_of_ble_eq_true rfl) ?_
    (repeat' (first | refine mv ?_ | refine asg ?_ | refine ld ?_ | refine fp ?_ | refine bt ?_ | refine bf ?_ | refine pf ?_ | refine ex ?_ | refine ln ?_ | refine la ?_ | refine so ?_ | refine aops_nil ?_ | refine aw_seq ?_ | refine aw_region ?_ | refine aw_cond_t rfl ?_ | refine aw_ret ?_ | refine bx 0 ?_ | refine al 1 ?_ | refine al 2 ?_ | refine cl (c1) ?_ | fail))
    exact fin (sh_keep3 (H := H) (v := 0) rfl rfl hE.symm)
  have hO : newOk H m args = true := by simp [newOk, hm, hn]
  have cS : Gives Try.prog 52 [.agg (encHeap H), iv s] (iv (H.ref s)) := rRef_ok H s hi.2.2.2
  have ch : Gives Try.prog 52 [.agg (encHeap H), iv home] (iv (H.ref home)) := rRef_ok H home hi.2.2.2
  have cv := rvalues_ok H hi args ha
  have hlo : (encObjs H.objs).length = H.objs.length := len_objs _
  by_cases hs : 0 ≤ H.ref s
  rotate_left
  · have hE : newE H s m r home args = 31 := by simp [newE, hO, newRf, hs]
    refine gives_of Try.func23 rfl (Nat.le_of_ble_eq_true rfl) ?_
    (repeat' (first | refine sk ?_ | refine mv ?_ | refine asg ?_ | refine ld ?_ | refine fp ?_ | refine bt ?_ | refine bf ?_ | refine pt ?_ | refine pf ?_ | refine ex ?_ | refine ln ?_ | refine la ?_ | refine so ?_ | refine aops_nil ?_ | refine aw_seq ?_ | refine aw_region ?_ | refine aw_cond_t rfl ?_ | refine aw_cond_f rfl ?_ | refine aw_skip ?_ | refine aw_ret ?_ | refine bx 0 ?_ | refine al 1 ?_ | refine al 2 ?_ | refine cl (c1) ?_ | refine cl (cS) ?_ | fail))
    exact fin (sh_keep3 (H := H) (v := 0) rfl rfl hE.symm)
  by_cases hh : 0 ≤ H.ref home
  rotate_left
  · have hE : newE H s m r home args = 31 := by simp [newE, hO, newRf, hh]
    refine gives_of Try.func23 rfl (Nat.le_of_ble_eq_true rfl) ?_
    (repeat' (first | refine sk ?_ | refine mv ?_ | refine asg ?_ | refine ld ?_ | refine fp ?_ | refine bt ?_ | refine bf ?_ | refine pt ?_ | refine pf ?_ | refine ex ?_ | refine ln ?_ | refine la ?_ | refine so ?_ | refine aops_nil ?_ | refine aw_seq ?_ | refine aw_region ?_ | refine aw_cond_t rfl ?_ | refine aw_cond_f rfl ?_ | refine aw_skip ?_ | refine aw_ret ?_ | refine bx 0 ?_ | refine al 1 ?_ | refine al 2 ?_ | refine cl (c1) ?_ | refine cl (cS) ?_ | refine cl (ch) ?_ | fail))
    exact fin (sh_keep3 (H := H) (v := 0) rfl rfl hE.symm)
  by_cases hr : hasB H.objs.length r = true
  rotate_left
  · have hE : newE H s m r home args = 31 := by simp [newE, hO, newRf, hr]
    have cr := (rhas_c H hi r).to' (congrArg bv (eq_false_of_ne_true hr))
    refine gives_of Try.func23 rfl (Nat.le_of_ble_eq_true rfl) ?_
    (repeat' (first | refine sk ?_ | refine mv ?_ | refine asg ?_ | refine ld ?_ | refine fp ?_ | refine bf ?_ | refine un ?_ | refine pt ?_ | refine pf ?_ | refine ex ?_ | refine ln ?_ | refine la ?_ | refine so ?_ | refine aops_nil ?_ | refine aw_seq ?_ | refine aw_region ?_ | refine aw_cond_t rfl ?_ | refine aw_cond_f rfl ?_ | refine aw_skip ?_ | refine aw_ret ?_ | refine bx 0 ?_ | refine al 1 ?_ | refine al 2 ?_ | refine cl (c1) ?_ | refine cl (cS) ?_ | refine cl (ch) ?_ | refine cl (cr) ?_ | fail))
    exact fin (sh_keep3 (H := H) (v := 0) rfl rfl hE.symm)
  have cr := (rhas_c H hi r).to' (congrArg bv hr)
  by_cases hl : args.all (hasB H.objs.length) = true
  rotate_left
  · have hE : newE H s m r home args = 31 := by
      rw [newE, if_pos hO]; simp only [newRf, eq_false_of_ne_true hl]; simp
    rw [eq_false_of_ne_true hl] at cv
    refine gives_of Try.func23 rfl (Nat.le_of_ble_eq_true rfl) ?_
    (repeat' (first | refine sk ?_ | refine mv ?_ | refine asg ?_ | refine ld ?_ | refine fp ?_ | refine bf ?_ | refine un ?_ | refine pt ?_ | refine pf ?_ | refine ex ?_ | refine ln ?_ | refine la ?_ | refine so ?_ | refine aops_nil ?_ | refine aw_seq ?_ | refine aw_region ?_ | refine aw_cond_t rfl ?_ | refine aw_cond_f rfl ?_ | refine aw_skip ?_ | refine aw_ret ?_ | refine bx 0 ?_ | refine al 1 ?_ | refine al 2 ?_ | refine cl (c1) ?_ | refine cl (cS) ?_ | refine cl (ch) ?_ | refine cl (cr) ?_ | refine cl (cv) ?_ | fail))
    exact fin (sh_keep3 (H := H) (v := 0) rfl rfl hE.symm)
  rw [hl] at cv
  by_cases h7 : 7 ≤ H.objs.length
  rotate_left
  · have hE : newE H s m r home args = 31 := by simp [newE, hO, newRf, h7]
    refine gives_of Try.func23 rfl (Nat.le_of_ble_eq_true rfl) ?_
    (repeat' (first | refine mv ?_ | refine asg ?_ | refine ld ?_ | refine fp ?_ | refine bt ?_ | refine bf ?_ | refine un ?_ | refine pf ?_ | refine ex ?_ | refine ln ?_ | refine la ?_ | refine so ?_ | refine aops_nil ?_ | refine aw_seq ?_ | refine aw_region ?_ | refine aw_cond_t rfl ?_ | refine aw_cond_f rfl ?_ | refine aw_skip ?_ | refine aw_ret ?_ | refine bx 0 ?_ | refine al 1 ?_ | refine al 2 ?_ | refine cl (c1) ?_ | refine cl (cS) ?_ | refine cl (ch) ?_ | refine cl (cr) ?_ | refine cl (cv) ?_ | fail))
    exact fin (sh_keep3 (H := H) (v := 0) rfl rfl hE.symm)
  have hR : newRf H s r home args = true := by simp only [newRf, hl, hr]; simp [hs, hh, h7]
  have hEa : newE H s m r home args = allocE H 12 0 22 := by rw [newE, if_pos hO, if_pos hR]
  by_cases h0 : allocE H 12 0 22 = 0
  · exact absurd (by rw [hEa, h0]) hne
  · have hm0 : mayH H = true := by simp only [methB, Bool.and_eq_true] at hm; exact hm.1
    have h30 : allocE H 12 0 22 = 30 := by
      have h12 : ¬ refI H.objs.length 12 < 0 := by have := ref12.2 h7; simp only [HHeap.ref] at this; omega
      simp only [allocE, hm0, if_true, if_neg h12] at h0 ⊢
      by_cases hc : (H.objs.length : Int) = H.cap
      · simp [hc]
      · simp [hc] at h0
    have k1 := rAlloc_ok H hi 12 0 22
    rw [show allocV H 12 0 22 = 0 by rw [allocV, if_neg h0], h30] at k1
    rw [h30] at hEa
    refine gives_of Try.func23 rfl (Nat.le_of_ble_eq_true rfl) ?_
    (repeat' (first | refine mv ?_ | refine asg ?_ | refine ld ?_ | refine fp ?_ | refine bt ?_ | refine bf ?_ | refine un ?_ | refine pf ?_ | refine ex ?_ | refine ln ?_ | refine la ?_ | refine so ?_ | refine aops_nil ?_ | refine aw_seq ?_ | refine aw_region ?_ | refine aw_cond_t rfl ?_ | refine aw_cond_f rfl ?_ | refine aw_skip ?_ | refine aw_ret ?_ | refine bx 0 ?_ | refine al 1 ?_ | refine al 2 ?_ | refine al 3 ?_ | refine cl (c1) ?_ | refine cl (cS) ?_ | refine cl (ch) ?_ | refine cl (cr) ?_ | refine cl (cv) ?_ | refine cl (k1) ?_ | fail))
    exact fin (sh_keep3 (H := H) (v := 0) rfl rfl hEa.symm)
end Go.Proofs.Ytbmldjcddpblnaa
