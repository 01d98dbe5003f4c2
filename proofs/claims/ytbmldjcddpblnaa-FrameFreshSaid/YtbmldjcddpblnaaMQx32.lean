/- What the statements' walks need. -/
import Derived.Test.YtbmldjcddpblnaaMQa4
import Derived.Test.YtbmldjcddpblnaaMQx28
set_option linter.unusedVariables false
set_option linter.unusedSimpArgs false
set_option maxRecDepth 100000
namespace Go.Proofs.Ytbmldjcddpblnaa
open Go Go.Proofs AW
def sTmpE (H : HHeap) (c k v : Int) : Int := if ctxB H c = true then (if hasB H.objs.length v = true then (if 0 ≤ k ∧ k < (ctxX H c).mth.temps then 0 else 121) else 31) else 120
def sTmpH (H : HHeap) (c k v : Int) : HHeap := if sTmpE H c k v = 0 then putL H c [(6 + k, v)] else H
set_option maxHeartbeats 8000000 in
theorem SetTemp_ok (H : HHeap) (hi : H.In) (c k v : Int) : Gives Try.prog 34 [.agg (encHeap H), iv c, iv k, iv v] (.tup [.agg (encHeap (sTmpH H c k v)), iv (sTmpE H c k v)]) := by
  have cr := read_ok H hi c
  by_cases h : ctxB H c = true
  rotate_left
  · have h' := eq_false_of_ne_true h
    have hE : sTmpE H c k v = 120 := by rw [sTmpE, if_neg h]
    rw [h'] at cr
    refine gives_of Try.func34 rfl (Nat.le_of_ble_eq_true rfl) ?_
    (repeat' (first | refine mv ?_ | refine asg ?_ | refine un ?_ | refine ex ?_ | refine la ?_ | refine so ?_ | refine aops_nil ?_ | refine aw_seq ?_ | refine aw_region ?_ | refine aw_cond_t rfl ?_ | refine aw_block ?_ | refine aw_ret ?_ | refine bx 0 ?_ | refine al 1 ?_ | refine al 2 ?_ | refine cl cr ?_ | fail))
    exact fin (sh_keep (H := H) (by simp [sTmpH, hE]) hE.symm)
  obtain ⟨e1, e2, e3, e4, _⟩ := ctx_yes h
  rw [h, e1] at cr
  obtain ⟨s0, s1, s2, s3⟩ := ctx_sp h
  by_cases h0 : hasB H.objs.length v = true
  rotate_left
  · have h0' := eq_false_of_ne_true h0
    have hE : sTmpE H c k v = 31 := by rw [sTmpE, if_pos h, if_neg h0]
    have ch := (fhas_ok H v).to' (congrArg bv h0')
    refine gives_of Try.func34 rfl (Nat.le_of_ble_eq_true rfl) ?_
    (repeat' (first | refine mv ?_ | refine asg ?_ | refine un ?_ | refine ex ?_ | refine la ?_ | refine so ?_ | refine aops_nil ?_ | refine aw_seq ?_ | refine aw_region ?_ | refine aw_cond_t rfl ?_ | refine aw_cond_f rfl ?_ | refine aw_block ?_ | refine aw_ret ?_ | refine bx 0 ?_ | refine al 1 ?_ | refine al 2 ?_ | refine cl cr ?_ | refine cl ch ?_ | fail))
    exact fin (sh_keep (H := H) (by simp [sTmpH, hE]) hE.symm)
  have ch := (fhas_ok H v).to' (congrArg bv h0)
  by_cases h2 : 0 ≤ k
  rotate_left
  · have hE : sTmpE H c k v = 121 := by rw [sTmpE, if_pos h, if_pos h0, if_neg (fun e => h2 e.1)]
    refine gives_of Try.func34 rfl (Nat.le_of_ble_eq_true rfl) ?_
    (repeat' (first | refine sk ?_ | refine mv ?_ | refine asg ?_ | refine bt ?_ | refine un ?_ | refine pt ?_ | refine ex ?_ | refine la ?_ | refine so ?_ | refine aops_nil ?_ | refine aw_seq ?_ | refine aw_region ?_ | refine aw_cond_t rfl ?_ | refine aw_cond_f rfl ?_ | refine aw_block ?_ | refine aw_ret ?_ | refine bx 0 ?_ | refine al 1 ?_ | refine al 2 ?_ | refine cl cr ?_ | refine cl ch ?_ | fail))
    exact fin (sh_keep (H := H) (by simp [sTmpH, hE]) hE.symm)
  by_cases h3 : k < (ctxX H c).mth.temps
  rotate_left
  · have hE : sTmpE H c k v = 121 := by rw [sTmpE, if_pos h, if_pos h0, if_neg (fun e => h3 e.2)]
    refine gives_of Try.func34 rfl (Nat.le_of_ble_eq_true rfl) ?_
    (repeat' (first | refine mv ?_ | refine asg ?_ | refine ld ?_ | refine fp ?_ | refine bt ?_ | refine bf ?_ | refine un ?_ | refine pf ?_ | refine ex ?_ | refine la ?_ | refine so ?_ | refine aops_nil ?_ | refine aw_seq ?_ | refine aw_region ?_ | refine aw_cond_t rfl ?_ | refine aw_cond_f rfl ?_ | refine aw_block ?_ | refine aw_ret ?_ | refine bx 0 ?_ | refine al 1 ?_ | refine al 2 ?_ | refine cl cr ?_ | refine cl ch ?_ | fail))
    exact fin (sh_keep (H := H) (by simp [sTmpH, hE]) hE.symm)
  have hE : sTmpE H c k v = 0 := by rw [sTmpE, if_pos h, if_pos h0, if_pos ⟨h2, h3⟩]
  refine gives_of Try.func34 rfl (Nat.le_of_ble_eq_true rfl) ?_
  (repeat' (first | refine mv ?_ | refine asg ?_ | refine ld ?_ | refine fp ?_ | refine bf ?_ | refine bw ?_ | refine un ?_ | refine pf ?_ | refine ex ?_ | refine la ?_ | refine so ?_ | refine bd2 ?_ | refine aops_nil ?_ | refine aw_seq ?_ | refine aw_region ?_ | refine aw_cond_f rfl ?_ | refine aw_block ?_ | refine aw_skip ?_ | refine bx 0 ?_ | refine al 1 ?_ | refine al 2 ?_ | refine cl cr ?_ | refine cl ch ?_ | fail))
  refine li 5 ?_
  refine fzs 45 (noOwn_pairs [(6 + k, v)]) ?_
  (repeat' (first | refine asg ?_ | refine so ?_ | refine aops_nil ?_ | refine aw_ret ?_ | refine cl (put_ok H hi c [(6 + k, v)] (by simp)) ?_ | fail))
  exact fin (sh_keep (H := putL H c [(6 + k, v)]) (by simp [sTmpH, hE]) hE.symm)
def goE (H : HHeap) (c ip : Int) : Int := if ctxB H c = true ∧ 0 ≤ ip ∧ ip < (ctxX H c).mth.code.length then 0 else 120
def goH (H : HHeap) (c ip : Int) : HHeap := if goE H c ip = 0 then putL H c [(1, numV ip)] else H
set_option maxHeartbeats 8000000 in
theorem Go_ok (H : HHeap) (hi : H.In) (c ip : Int) : Gives Try.prog 31 [.agg (encHeap H), iv c, iv ip] (.tup [.agg (encHeap (goH H c ip)), iv (goE H c ip)]) := by
  have cr := read_ok H hi c
  by_cases h : ctxB H c = true
  rotate_left
  · have h' := eq_false_of_ne_true h
    have hE : goE H c ip = 120 := by rw [goE, if_neg (fun e => h e.1)]
    rw [h'] at cr
    refine gives_of Try.func31 rfl (Nat.le_of_ble_eq_true rfl) ?_
    (repeat' (first | refine sk ?_ | refine mv ?_ | refine asg ?_ | refine un ?_ | refine pt ?_ | refine ex ?_ | refine la ?_ | refine so ?_ | refine aops_nil ?_ | refine aw_seq ?_ | refine aw_region ?_ | refine aw_cond_t rfl ?_ | refine aw_ret ?_ | refine bx 0 ?_ | refine al 1 ?_ | refine al 2 ?_ | refine cl cr ?_ | fail))
    exact fin (sh_keep (H := H) (by simp [goH, hE]) hE.symm)
  obtain ⟨e1, e2, e3, e4, _⟩ := ctx_yes h
  rw [h, e1] at cr
  have p2 : (encCode (ctxX H c).mth.code).length = (ctxX H c).mth.code.length := len_code _
  by_cases h2 : 0 ≤ ip
  rotate_left
  · have hE : goE H c ip = 120 := by rw [goE, if_neg (fun e => h2 e.2.1)]
    refine gives_of Try.func31 rfl (Nat.le_of_ble_eq_true rfl) ?_
    (repeat' (first | refine sk ?_ | refine mv ?_ | refine asg ?_ | refine bt ?_ | refine un ?_ | refine pt ?_ | refine pf ?_ | refine ex ?_ | refine la ?_ | refine so ?_ | refine aops_nil ?_ | refine aw_seq ?_ | refine aw_region ?_ | refine aw_cond_t rfl ?_ | refine aw_ret ?_ | refine bx 0 ?_ | refine al 1 ?_ | refine al 2 ?_ | refine cl cr ?_ | fail))
    exact fin (sh_keep (H := H) (by simp [goH, hE]) hE.symm)
  by_cases h3 : ip < (ctxX H c).mth.code.length
  rotate_left
  · have hE : goE H c ip = 120 := by rw [goE, if_neg (fun e => h3 e.2.2)]
    refine gives_of Try.func31 rfl (Nat.le_of_ble_eq_true rfl) ?_
    (repeat' (first | refine mv ?_ | refine asg ?_ | refine ld ?_ | refine fp ?_ | refine bt ?_ | refine bf ?_ | refine un ?_ | refine pf ?_ | refine ex ?_ | refine ln ?_ | refine la ?_ | refine so ?_ | refine aops_nil ?_ | refine aw_seq ?_ | refine aw_region ?_ | refine aw_cond_t rfl ?_ | refine aw_ret ?_ | refine bx 0 ?_ | refine al 1 ?_ | refine al 2 ?_ | refine cl cr ?_ | fail))
    exact fin (sh_keep (H := H) (by simp [goH, hE]) hE.symm)
  have hE : goE H c ip = 0 := by rw [goE, if_pos ⟨h, h2, h3⟩]
  refine gives_of Try.func31 rfl (Nat.le_of_ble_eq_true rfl) ?_
  (repeat' (first | refine mv ?_ | refine asg ?_ | refine ld ?_ | refine fp ?_ | refine bf ?_ | refine un ?_ | refine pf ?_ | refine ex ?_ | refine ln ?_ | refine la ?_ | refine so ?_ | refine aops_nil ?_ | refine aw_seq ?_ | refine aw_region ?_ | refine aw_cond_f rfl ?_ | refine aw_skip ?_ | refine bx 0 ?_ | refine al 1 ?_ | refine al 2 ?_ | refine cl cr ?_ | fail))
  refine aw_drawU 6 5 5 (.live 91 2 (encPairs [(1, numV ip)])) ?_
  (repeat' (first | refine dn ?_ | refine d2 y_move y_move ?_ | refine d2 y_loadsN y_loadsN ?_ | refine d2 (y_call (number_ok' _)) (y_call (number_ok' _)) ?_ | refine d2 y_buildB y_buildB ?_ | refine de (y_litU 5) ?_ | fail))
  refine fzs 36 (noOwn_pairs _) ?_
  (repeat' (first | refine asg ?_ | refine so ?_ | refine aops_nil ?_ | refine aw_ret ?_ | refine cl (put_ok H hi c [(1, numV ip)] (by simp)) ?_ | fail))
  exact fin (sh_keep (H := putL H c [(1, numV ip)]) (by simp [goH, hE]) hE.symm)
end Go.Proofs.Ytbmldjcddpblnaa
