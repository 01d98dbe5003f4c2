/- What the statements' walks need. -/
import Derived.Test.YtbmldjcddpblnaaMQa4
import Derived.Test.YtbmldjcddpblnaaMQx27
import Derived.Test.YtbmldjcddpblnaaMQa3
set_option linter.unusedVariables false
set_option linter.unusedSimpArgs false
set_option maxRecDepth 100000
namespace Go.Proofs.Ytbmldjcddpblnaa
open Go Go.Proofs AW
def pushE (H : HHeap) (c v : Int) : Int := if ctxB H c = true then (if hasB H.objs.length v = true then (if (ctxX H c).sp = 16 then 121 else 0) else 31) else 120
def pushL (H : HHeap) (c v : Int) : List (Int × Int) := [(6 + (ctxX H c).sp, v), (2, numV ((ctxX H c).sp + 1))]
def pushH (H : HHeap) (c v : Int) : HHeap := if pushE H c v = 0 then putL H c (pushL H c v) else H
theorem ctx_sp {H : HHeap} {c : Int} (h : ctxB H c = true) : 0 ≤ (ctxX H c).mth.temps ∧ (ctxX H c).mth.temps ≤ (ctxX H c).sp ∧ (ctxX H c).sp ≤ 16 ∧ (ctxX H c).mth.temps ≤ 8 := by
  obtain ⟨e1, e2, e3, e4, e5, _⟩ := ctx_yes h
  have h8 := mth_temps H ((H.at' c).sl 3)
  have h9 : (ctxX H c).mth.temps ≤ 8 := h8
  have h10 := sm_rng ((H.at' c).sl 2) 16
  have h11 : (ctxX H c).sp = smI ((H.at' c).sl 2) 16 := rfl
  have h12 : 0 ≤ (mthX H ((H.at' c).sl 3)).args ∧ (mthX H ((H.at' c).sl 3)).args ≤ (mthX H ((H.at' c).sl 3)).temps := by
    simp only [mthB, Bool.and_eq_true, decide_eq_true_eq] at e5
    exact ⟨e5.2.2.2.1.2.1, e5.2.2.2.1.2.2⟩
  have h13 : (ctxX H c).mth = mthX H ((H.at' c).sl 3) := rfl
  have h14 : (ctxX H c).mth.temps = (mthX H ((H.at' c).sl 3)).temps := rfl
  rw [← h11] at h10
  rw [← h14] at h12
  omega
set_option maxHeartbeats 8000000 in
theorem Push_ok (H : HHeap) (hi : H.In) (c v : Int) : Gives Try.prog 26 [.agg (encHeap H), iv c, iv v] (.tup [.agg (encHeap (pushH H c v)), iv (pushE H c v)]) := by
  have cr := read_ok H hi c
  by_cases h : ctxB H c = true
  rotate_left
  · have h' := eq_false_of_ne_true h
    have hE : pushE H c v = 120 := by rw [pushE, if_neg h]
    rw [h'] at cr
    refine gives_of Try.func26 rfl (Nat.le_of_ble_eq_true rfl) ?_
    (repeat' (first | refine mv ?_ | refine asg ?_ | refine un ?_ | refine ex ?_ | refine la ?_ | refine so ?_ | refine aops_nil ?_ | refine aw_seq ?_ | refine aw_region ?_ | refine aw_cond_t rfl ?_ | refine aw_block ?_ | refine aw_ret ?_ | refine bx 0 ?_ | refine al 1 ?_ | refine al 2 ?_ | refine cl cr ?_ | fail))
    exact fin (sh_keep (H := H) (by simp [pushH, hE]) hE.symm)
  obtain ⟨e1, e2, e3, e4, _⟩ := ctx_yes h
  rw [h, e1] at cr
  obtain ⟨s0, s1, s2, s3⟩ := ctx_sp h
  by_cases h0 : hasB H.objs.length v = true
  rotate_left
  · have h0' := eq_false_of_ne_true h0
    have hE : pushE H c v = 31 := by rw [pushE, if_pos h, if_neg h0]
    have ch := (fhas_ok H v).to' (congrArg bv h0')
    refine gives_of Try.func26 rfl (Nat.le_of_ble_eq_true rfl) ?_
    (repeat' (first | refine mv ?_ | refine asg ?_ | refine un ?_ | refine ex ?_ | refine la ?_ | refine so ?_ | refine aops_nil ?_ | refine aw_seq ?_ | refine aw_region ?_ | refine aw_cond_t rfl ?_ | refine aw_cond_f rfl ?_ | refine aw_block ?_ | refine aw_ret ?_ | refine bx 0 ?_ | refine al 1 ?_ | refine al 2 ?_ | refine cl cr ?_ | refine cl ch ?_ | fail))
    exact fin (sh_keep (H := H) (by simp [pushH, hE]) hE.symm)
  have ch := (fhas_ok H v).to' (congrArg bv h0)
  by_cases h1 : (ctxX H c).sp = 16
  · have hE : pushE H c v = 121 := by rw [pushE, if_pos h, if_pos h0, if_pos h1]
    refine gives_of Try.func26 rfl (Nat.le_of_ble_eq_true rfl) ?_
    (repeat' (first | refine mv ?_ | refine asg ?_ | refine ld ?_ | refine fp ?_ | refine bt ?_ | refine un ?_ | refine ex ?_ | refine la ?_ | refine so ?_ | refine aops_nil ?_ | refine aw_seq ?_ | refine aw_region ?_ | refine aw_cond_t rfl ?_ | refine aw_cond_f rfl ?_ | refine aw_block ?_ | refine aw_ret ?_ | refine bx 0 ?_ | refine al 1 ?_ | refine al 2 ?_ | refine cl cr ?_ | refine cl ch ?_ | fail))
    exact fin (sh_keep (H := H) (by simp [pushH, hE]) hE.symm)
  have hE : pushE H c v = 0 := by rw [pushE, if_pos h, if_pos h0, if_neg h1]
  refine gives_of Try.func26 rfl (Nat.le_of_ble_eq_true rfl) ?_
  (repeat' (first | refine mv ?_ | refine asg ?_ | refine ld ?_ | refine fp ?_ | refine bf ?_ | refine un ?_ | refine ex ?_ | refine la ?_ | refine so ?_ | refine aops_nil ?_ | refine aw_seq ?_ | refine aw_region ?_ | refine aw_cond_f rfl ?_ | refine aw_block ?_ | refine aw_skip ?_ | refine bx 0 ?_ | refine al 1 ?_ | refine al 2 ?_ | refine cl cr ?_ | refine cl ch ?_ | fail))
  have hl2 : (pushL H c v).length < 1099511627776 := by simp [pushL]
  refine aw_drawU 13 12 5 (.live 91 2 (encPairs (pushL H c v))) ?_
  (repeat' (first | refine dn ?_ | refine d2 y_move y_move ?_ | refine d2 y_load y_load ?_ | refine d2 (y_faddr_ptr (hs := Nat.le_of_ble_eq_true rfl)) (y_faddr_ptr (hs := Nat.le_of_ble_eq_true rfl)) ?_ | refine d2 y_bw y_bw ?_ | refine d2 y_loadsN y_loadsN ?_ | refine d2 (y_call (number_ok' _)) (y_call (number_ok' _)) ?_ | refine d2 y_buildB y_buildB ?_ | refine de (y_litU 5) ?_ | fail))
  refine fzs 43 (noOwn_pairs _) ?_
  (repeat' (first | refine asg ?_ | refine so ?_ | refine aops_nil ?_ | refine aw_ret ?_ | refine cl (put_ok H hi c (pushL H c v) hl2) ?_ | fail))
  exact fin (sh_keep (H := putL H c (pushL H c v)) (by simp [pushH, hE]) hE.symm)
end Go.Proofs.Ytbmldjcddpblnaa
namespace Go.Proofs.Ytbmldjcddpblnaa
open Go Go.Proofs AW
def popE (H : HHeap) (c : Int) : Int := if ctxB H c = true then (if (ctxX H c).sp = (ctxX H c).mth.temps then 121 else 0) else 120
def popV (H : HHeap) (c : Int) : Int := if popE H c = 0 then (H.at' c).sl (5 + (ctxX H c).sp.toNat) else 0
def popL (H : HHeap) (c : Int) : List (Int × Int) := [(6 + (ctxX H c).sp - 1, 0), (2, numV ((ctxX H c).sp - 1))]
def popH (H : HHeap) (c : Int) : HHeap := if popE H c = 0 then putL H c (popL H c) else H
set_option maxHeartbeats 8000000 in
theorem Pop_ok (H : HHeap) (hi : H.In) (c : Int) : Gives Try.prog 27 [.agg (encHeap H), iv c] (.tup [.agg (encHeap (popH H c)), iv (popV H c), iv (popE H c)]) := by
  have cr := read_ok H hi c
  by_cases h : ctxB H c = true
  rotate_left
  · have h' := eq_false_of_ne_true h
    have hE : popE H c = 120 := by rw [popE, if_neg h]
    rw [h'] at cr
    refine gives_of Try.func27 rfl (Nat.le_of_ble_eq_true rfl) ?_
    (repeat' (first | refine mv ?_ | refine asg ?_ | refine un ?_ | refine ex ?_ | refine la ?_ | refine so ?_ | refine aops_nil ?_ | refine aw_seq ?_ | refine aw_region ?_ | refine aw_cond_t rfl ?_ | refine aw_block ?_ | refine aw_ret ?_ | refine bx 0 ?_ | refine al 1 ?_ | refine al 2 ?_ | refine cl cr ?_ | fail))
    exact fin (sh_keep3 (H := H) (v := 0) (by simp [popH, hE]) (by simp [popV, hE]) hE.symm)
  obtain ⟨e1, e2, e3, e4, _⟩ := ctx_yes h
  rw [h, e1] at cr
  obtain ⟨s0, s1, s2, s3⟩ := ctx_sp h
  by_cases h1 : (ctxX H c).sp = (ctxX H c).mth.temps
  · have hE : popE H c = 121 := by rw [popE, if_pos h, if_pos h1]
    refine gives_of Try.func27 rfl (Nat.le_of_ble_eq_true rfl) ?_
    (repeat' (first | refine mv ?_ | refine asg ?_ | refine ld ?_ | refine fp ?_ | refine bt ?_ | refine un ?_ | refine ex ?_ | refine la ?_ | refine so ?_ | refine aops_nil ?_ | refine aw_seq ?_ | refine aw_region ?_ | refine aw_cond_t rfl ?_ | refine aw_cond_f rfl ?_ | refine aw_block ?_ | refine aw_ret ?_ | refine bx 0 ?_ | refine al 1 ?_ | refine al 2 ?_ | refine cl cr ?_ | fail))
    exact fin (sh_keep3 (H := H) (v := 0) (by simp [popH, hE]) (by simp [popV, hE]) hE.symm)
  have hE : popE H c = 0 := by rw [popE, if_pos h, if_neg h1]
  have hl2 : (popL H c).length < 1099511627776 := by simp [popL]
  have hg := ints_get (sl_get (o := H.at' c) (k := 5 + (ctxX H c).sp.toNat) (by omega))
  have hle : (encInts (H.at' c).slots).length = 22 := by rw [len_ints, e4]
  have hn : 6 + (ctxX H c).sp - 1 = ((5 + (ctxX H c).sp.toNat : Nat) : Int) := by omega
  refine gives_of Try.func27 rfl (Nat.le_of_ble_eq_true rfl) ?_
  (repeat' (first | refine mv ?_ | refine asg ?_ | refine ld ?_ | refine fp ?_ | refine bf ?_ | refine bw ?_ | refine un ?_ | refine ex ?_ | refine la ?_ | refine so ?_ | refine aops_nil ?_ | refine aw_seq ?_ | refine aw_region ?_ | refine aw_cond_f rfl ?_ | refine aw_block ?_ | refine aw_skip ?_ | refine bx 0 ?_ | refine al 1 ?_ | refine al 2 ?_ | refine cl cr ?_ | refine ia (5 + (ctxX H c).sp.toNat) hg ?_ (hn := hn) | fail))
  refine aw_wipe 5 (aw_wipe 6 ?_)
  refine aw_drawM3 15 9 5 (.live 91 2 (encPairs (popL H c))) 10 5 .dead 12 1 (.live 24 3 [encHeap (putL H c (popL H c))]) ?_
  (repeat' (first | refine dMn ?_ | refine dM3 (.inr (y_move)) (by first | exact .inr (y_move) | exact .inl rfl) (by first | exact .inr (y_move) | exact .inl rfl) (by first | exact .inr (y_move) | exact .inl rfl) ?_ | refine dM3 (.inr (y_assign)) (by first | exact .inr (y_assign) | exact .inl rfl) (by first | exact .inr (y_assign) | exact .inl rfl) (by first | exact .inr (y_assign) | exact .inl rfl) ?_ | refine dM3 (.inr (y_load)) (by first | exact .inr (y_load) | exact .inl rfl) (by first | exact .inr (y_load) | exact .inl rfl) (by first | exact .inr (y_load) | exact .inl rfl) ?_ | refine dM3 (.inr (y_faddr_ptr (hs := Nat.le_of_ble_eq_true rfl))) (by first | exact .inr (y_faddr_ptr (hs := Nat.le_of_ble_eq_true rfl)) | exact .inl rfl) (by first | exact .inr (y_faddr_ptr (hs := Nat.le_of_ble_eq_true rfl)) | exact .inl rfl) (by first | exact .inr (y_faddr_ptr (hs := Nat.le_of_ble_eq_true rfl)) | exact .inl rfl) ?_ | refine dM3 (.inr (y_bw)) (by first | exact .inr (y_bw) | exact .inl rfl) (by first | exact .inr (y_bw) | exact .inl rfl) (by first | exact .inr (y_bw) | exact .inl rfl) ?_ | refine dM3 (.inr (y_loadsN)) (by first | exact .inr (y_loadsN) | exact .inl rfl) (by first | exact .inr (y_loadsN) | exact .inl rfl) (by first | exact .inr (y_loadsN) | exact .inl rfl) ?_ | refine dMS 2 y_storeV ?_ | refine dM3 (.inr (y_buildB)) (by first | exact .inr (y_buildB) | exact .inl rfl) (by first | exact .inr (y_buildB) | exact .inl rfl) (by first | exact .inr (y_buildB) | exact .inl rfl) ?_ | refine dM3 (.inr (y_call (number_ok' _))) (by first | exact .inr (y_call (number_ok' _)) | exact .inl rfl) (by first | exact .inr (y_call (number_ok' _)) | exact .inl rfl) (by first | exact .inr (y_call (number_ok' _)) | exact .inl rfl) ?_ | refine dME 0 (y_litU 5) ?_ | refine dME 1 (AEff.frz 47 (noOwn_pairs _) (y_call (put_ok H hi c (popL H c) hl2) (hno := ⟨noOwn_heap _, noOwn_iv _, noOwn_apairs _, trivial⟩))) ?_ | fail))
  (repeat' (first | refine aops_nil ?_ | refine aw_ret ?_ | fail))
  exact fin (sh_keep3 (H := putL H c (popL H c)) (v := (H.at' c).sl (5 + (ctxX H c).sp.toNat)) (by simp [popH, hE]) (by simp [popV, hE]) hE.symm)
end Go.Proofs.Ytbmldjcddpblnaa
