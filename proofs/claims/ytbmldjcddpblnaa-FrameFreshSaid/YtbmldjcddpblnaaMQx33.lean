/- What the statements' walks need. -/
import Derived.Test.YtbmldjcddpblnaaMQa4
import Derived.Test.YtbmldjcddpblnaaMQx31
import Derived.Test.YtbmldjcddpblnaaMQx32
import Derived.Test.YtbmldjcddpblnaaMQx18
set_option linter.unusedVariables false
set_option linter.unusedSimpArgs false
set_option maxRecDepth 100000
namespace Go.Proofs.Ytbmldjcddpblnaa
open Go Go.Proofs AW
theorem meth_yes {H : HHeap} {m : Int} (h0 : mayH H = true) (h : mthB H m = true) : methM H m = mthX H m ∧ methE H m = 0 := by
  have hb : methB H m = true := by simp [methB, h0, h]
  exact ⟨by rw [methM, if_pos hb], by rw [methE, if_pos hb]⟩
theorem meth_not {H : HHeap} {m : Int} (h : mthB H m = false) : methM H m = noMth ∧ methE H m = 120 := by
  have hb : methB H m = false := by simp [methB, h]
  exact ⟨by rw [methM, hb]; rfl, by rw [methE, hb]; rfl⟩
theorem ctxB_iff {H : HHeap} {c : Int} : ctxB H c = true ↔ mayH H = true ∧ H.is c 0 ∧ (H.at' c).cls = 12 ∧ (H.at' c).slots.length = 22 ∧ mthB H ((H.at' c).sl 3) = true ∧ 0 ≤ H.ref ((H.at' c).sl 0) ∧ 0 ≤ H.ref ((H.at' c).sl 5) ∧
    0 ≤ smI ((H.at' c).sl 1) (((mthX H ((H.at' c).sl 3)).code.length : Int) - 1) ∧ (mthX H ((H.at' c).sl 3)).temps ≤ smI ((H.at' c).sl 2) 16 := by
  simp only [ctxB, ctxB1, ctxB2, Bool.and_eq_true, decide_eq_true_eq, and_assoc]; rfl
set_option maxHeartbeats 8000000 in
theorem rCMay_ok (H : HHeap) (hi : H.In) (c : Int) : Gives Try.prog 21 [.agg (encHeap H), iv c] (bv (ctxB H c)) := by
  have cs := rSlots_ok H hi c
  have hls : (encInts (slotI H c)).length = (slotI H c).length := len_ints _
  by_cases h0 : mayH H = true
  rotate_left
  · have c0 := (rMay_ok H hi).to' (congrArg bv (eq_false_of_ne_true h0))
    refine gives_of Try.func21 rfl (Nat.le_of_ble_eq_true rfl) ?_
    (repeat' (first | refine sk ?_ | refine mv ?_ | refine asg ?_ | refine un ?_ | refine pt ?_ | refine la ?_ | refine aops_nil ?_ | refine aw_seq ?_ | refine aw_region ?_ | refine aw_cond_t rfl ?_ | refine aw_ret ?_ | refine bx 0 ?_ | refine cl (cs) ?_ | refine cl (c0) ?_ | fail))
    exact fin (sh_bv (x := false) (by simp [ctxB, ctxB1, h0]))
  have c0 := (rMay_ok H hi).to' (congrArg bv h0)
  by_cases h2 : (slotI H c).length = 22
  rotate_left
  · have hb : ctxB H c = false := by
      by_cases h1 : H.is c 0
      · rw [slotI_is h1] at h2; simp [ctxB, ctxB1, h2]
      · simp [ctxB, ctxB1, h1]
    refine gives_of Try.func21 rfl (Nat.le_of_ble_eq_true rfl) ?_
    (repeat' (first | refine mv ?_ | refine asg ?_ | refine bt ?_ | refine un ?_ | refine pf ?_ | refine ln ?_ | refine la ?_ | refine aops_nil ?_ | refine aw_seq ?_ | refine aw_region ?_ | refine aw_cond_t rfl ?_ | refine aw_ret ?_ | refine bx 0 ?_ | refine cl (cs) ?_ | refine cl (c0) ?_ | fail))
    exact fin (sh_bv (x := false) hb.symm)
  have h1 : H.is c 0 := by
    by_cases h1 : H.is c 0
    · exact h1
    · rw [slotI_no h1] at h2; simp at h2
  rw [slotI_is h1] at cs h2 hls
  have g0 := ints_get (sl_get (o := H.at' c) (k := 0) (by omega))
  have g1 := ints_get (sl_get (o := H.at' c) (k := 1) (by omega))
  have g2 := ints_get (sl_get (o := H.at' c) (k := 2) (by omega))
  have g3 := ints_get (sl_get (o := H.at' c) (k := 3) (by omega))
  have g5 := ints_get (sl_get (o := H.at' c) (k := 5) (by omega))
  have c2 := rMethod_ok H hi ((H.at' c).sl 3)
  have rc : Gives Try.prog 52 [.agg (encHeap H), iv c] (iv (H.ref c)) := rRef_ok H c hi.2.2.2
  have hget := at_get h1.1
  have hn : H.ref c = ((H.ref c).toNat : Int) := (Int.toNat_of_nonneg h1.1).symm
  have r0 : Gives Try.prog 52 [.agg (encHeap H), iv ((H.at' c).sl 0)] (iv (H.ref ((H.at' c).sl 0))) := rRef_ok H ((H.at' c).sl 0) hi.2.2.2
  have r5 : Gives Try.prog 52 [.agg (encHeap H), iv ((H.at' c).sl 5)] (iv (H.ref ((H.at' c).sl 5))) := rRef_ok H ((H.at' c).sl 5) hi.2.2.2
  by_cases hm : mthB H ((H.at' c).sl 3) = true
  rotate_left
  · have hm := eq_false_of_ne_true hm
    rw [(meth_not hm).1, (meth_not hm).2] at c2
    refine gives_of Try.func21 rfl (Nat.le_of_ble_eq_true rfl) ?_
    (repeat' (first | refine mv ?_ | refine asg ?_ | refine bf ?_ | refine un ?_ | refine pf ?_ | refine ln ?_ | refine la ?_ | refine aops_nil ?_ | refine aw_seq ?_ | refine aw_region ?_ | refine aw_cond_f rfl ?_ | refine aw_skip ?_ | refine bx 0 ?_ | refine cl (cs) ?_ | refine cl (c0) ?_ | fail))
    refine aw_drawP 11 [(8, 3, .live 32 5 [[iv 0, iv 0, iv 0, .v (.slice none 0 0), .v (.slice none 0 0)]], none), (9, 3, .live 32 5 [encMethod noMth], none)] ?_
    (repeat' (first | refine dPn ?_ | refine dP (fun _ => y_move) ?_ | refine dP (fun _ => y_assign) ?_ | refine dP (fun _ => y_extract) ?_ | refine dP (fun _ => y_load) ?_ | refine dP (fun _ => y_loadsN) ?_ | refine dPS (fun _ => y_storeV) ?_ | refine dP (fun _ => y_iaddrN 3 g3) ?_ | refine dP (fun _ => y_call (c2)) ?_ | refine dPE (fun _ => y_allocU 3) ?_ | fail))
    (repeat' (first | refine aops_nil ?_ | refine aw_seq ?_ | fail))
    refine aw_wipe 4 ?_
    refine aw_drawP 50 [] ?_
    (repeat' (first | refine dPk ?_ | refine dPn ?_ | refine dP (fun _ => y_move) ?_ | refine dP (fun _ => y_assign) ?_ | refine dP (fun _ => y_bf) ?_ | refine dP (fun _ => y_pick_f) ?_ | fail))
    (repeat' (first | refine aops_nil ?_ | refine aw_ret ?_ | fail))
    exact fin (sh_bv (x := false) (by simp [ctxB, ctxB1, hm]))
  rw [(meth_yes h0 hm).1, (meth_yes h0 hm).2] at c2
  have p2 : (encCode (mthX H ((H.at' c).sl 3)).code).length = (mthX H ((H.at' c).sl 3)).code.length := len_code _
  have hcl : (mthX H ((H.at' c).sl 3)).code.length ≤ 32 := by
    have h5 := hm
    simp only [mthB, checkB, allI, Bool.and_eq_true, decide_eq_true_eq] at h5
    exact h5.2.2.2.2.2.1.1
  refine gives_of Try.func21 rfl (Nat.le_of_ble_eq_true rfl) ?_
  (repeat' (first | refine mv ?_ | refine asg ?_ | refine bf ?_ | refine un ?_ | refine pf ?_ | refine ln ?_ | refine la ?_ | refine aops_nil ?_ | refine aw_seq ?_ | refine aw_region ?_ | refine aw_cond_f rfl ?_ | refine aw_skip ?_ | refine bx 0 ?_ | refine cl (cs) ?_ | refine cl (c0) ?_ | fail))
  refine aw_drawP 11 [(8, 3, .live 32 5 [[iv 0, iv 0, iv 0, .v (.slice none 0 0), .v (.slice none 0 0)]], none), (9, 3, .live 32 5 [encMethod (mthX H ((H.at' c).sl 3))], none)] ?_
  (repeat' (first | refine dPn ?_ | refine dP (fun _ => y_move) ?_ | refine dP (fun _ => y_assign) ?_ | refine dP (fun _ => y_extract) ?_ | refine dP (fun _ => y_load) ?_ | refine dP (fun _ => y_loadsN) ?_ | refine dPS (fun _ => y_storeV) ?_ | refine dP (fun _ => y_iaddrN 3 g3) ?_ | refine dP (fun _ => y_call (c2)) ?_ | refine dPE (fun _ => y_allocU 3) ?_ | fail))
  (repeat' (first | refine aops_nil ?_ | refine aw_seq ?_ | fail))
  refine aw_wipe 4 ?_
  refine aw_drawP 50 [] ?_
  (repeat' (first | refine dPk ?_ | refine dPn ?_ | refine dP (fun _ => y_move) ?_ | refine dP (fun _ => y_assign) ?_ | refine dP (fun _ => y_load) ?_ | refine dP (fun _ => y_faddr_ptr (hs := Nat.le_of_ble_eq_true rfl)) ?_ | refine dP (fun _ => y_faddr_ip) ?_ | refine dP (fun _ => y_bt) ?_ | refine dP (fun _ => y_bw) ?_ | refine dP (fun _ => y_bin) ?_ | refine dP (fun _ => y_pick_t) ?_ | refine dP (fun _ => y_pick_f) ?_ | refine dP (fun _ => y_len) ?_ | refine dP (fun _ => y_loadsN) ?_ | refine dP (fun _ => y_iaddrN 0 g0) ?_ | refine dP (fun _ => y_iaddrN 1 g1) ?_ | refine dP (fun _ => y_iaddrN 2 g2) ?_ | refine dP (fun _ => y_iaddrN 5 g5) ?_ | refine dP (fun _ => y_call (rsmall_ok' _ _)) ?_ | refine dP (fun _ => y_call (rc)) ?_ | refine dP (fun _ => y_call (r0)) ?_ | refine dP (fun _ => y_call (r5)) ?_ | refine dP (fun _ => y_iaddrN (H.ref c).toNat (objs_get hget) (hn := hn)) ?_ | refine dPg (fun h => ?_) (fun h => ?_) | fail))
  all_goals (repeat' (first | refine aops_nil ?_ | refine aw_ret ?_ | fail))
  all_goals refine fin (sh_bv ?_)
  all_goals
    rw [Bool.eq_iff_iff, ctxB_iff]
    clear cs c0 g0 g1 g2 g3 g5 c2 rc r0 r5 hget hls
    simp only [h0, h1, h2, hm, true_and]
    simp only [p2] at *
    simp at *
    omega
end Go.Proofs.Ytbmldjcddpblnaa
namespace Go.Proofs.Ytbmldjcddpblnaa
open Go Go.Proofs AW
theorem rslots_c {H : HHeap} (hi : H.In) {c : Int} (h : ctxB H c = true) : Gives Try.prog 25 [.agg (encHeap H), iv c] (.sl 1 (encInts (H.at' c).slots)) := by
  have := rSlots_ok H hi c
  rwa [slotI_is (ctxB_iff.1 h).2.1] at this
theorem rmeth_c {H : HHeap} (hi : H.In) {c : Int} (h : ctxB H c = true) : Gives Try.prog 14 [.agg (encHeap H), iv ((H.at' c).sl 3)] (.tup [.agg (encMethod (mthX H ((H.at' c).sl 3))), iv 0]) := by
  obtain ⟨h0, _, _, _, hm, _⟩ := ctxB_iff.1 h
  have := rMethod_ok H hi ((H.at' c).sl 3)
  rwa [(meth_yes h0 hm).1, (meth_yes h0 hm).2] at this
set_option maxHeartbeats 4000000 in
theorem rsp_ok (H : HHeap) (hi : H.In) (c : Int) (h : ctxB H c = true) : Gives Try.prog 56 [.agg (encHeap H), iv c] (.tup [iv (ctxX H c).sp, iv (ctxX H c).mth.temps]) := by
  have cs := rslots_c hi h
  have c2 := rmeth_c hi h
  obtain ⟨h0, h1, _, h2, hm, _⟩ := ctxB_iff.1 h
  have hls : (encInts (H.at' c).slots).length = 22 := by rw [len_ints, h2]
  have g2 := ints_get (sl_get (o := H.at' c) (k := 2) (by omega))
  have g3 := ints_get (sl_get (o := H.at' c) (k := 3) (by omega))
  refine gives_of Try.func56 rfl (Nat.le_of_ble_eq_true rfl) ?_
  (repeat' (first | refine mv ?_ | refine asg ?_ | refine la ?_ | refine aops_nil ?_ | refine aw_seq ?_ | refine aw_region ?_ | refine bx 0 ?_ | refine cl (cs) ?_ | fail))
  refine aw_drawP 11 [(8, 3, .live 32 5 [[iv 0, iv 0, iv 0, .v (.slice none 0 0), .v (.slice none 0 0)]], none), (9, 3, .live 32 5 [encMethod (mthX H ((H.at' c).sl 3))], none)] ?_
  (repeat' (first | refine dPn ?_ | refine dP (fun _ => y_move) ?_ | refine dP (fun _ => y_assign) ?_ | refine dP (fun _ => y_extract) ?_ | refine dP (fun _ => y_load) ?_ | refine dP (fun _ => y_loadsN) ?_ | refine dPS (fun _ => y_storeV) ?_ | refine dP (fun _ => y_iaddrN 3 g3) ?_ | refine dP (fun _ => y_call (c2)) ?_ | refine dPE (fun _ => y_allocU 3) ?_ | fail))
  (repeat' (first | refine aops_nil ?_ | refine aw_seq ?_ | fail))
  refine aw_wipe 4 (aw_wipe 5 ?_)
  refine aw_drawP 8 [] ?_
  (repeat' (first | refine dPn ?_ | refine dP (fun _ => y_move) ?_ | refine dP (fun _ => y_assign) ?_ | refine dP (fun _ => y_load) ?_ | refine dP (fun _ => y_faddr_ptr (hs := Nat.le_of_ble_eq_true rfl)) ?_ | refine dP (fun _ => y_iaddrN 2 g2) ?_ | refine dP (fun _ => y_call (rsmall_ok' _ _)) ?_ | fail))
  (repeat' (first | refine aops_nil ?_ | refine aw_ret ?_ | fail))
  exact fin (sh_ii (x := smI ((H.at' c).sl 2) 16) (y := (mthX H ((H.at' c).sl 3)).temps) rfl rfl)
theorem rhas_c (H : HHeap) (hi : H.In) (v : Int) : Gives Try.prog 65 [.agg (encHeap H), iv v] (bv (hasB H.objs.length v)) := rHas_ok H v hi.2.2.2
set_option maxHeartbeats 4000000 in
theorem rPush_ok (H : HHeap) (hi : H.In) (c v : Int) : Gives Try.prog 32 [.agg (encHeap H), iv c, iv v] (.tup [.agg (encHeap (pushH H c v)), iv (pushE H c v)]) := by
  have cm := rCMay_ok H hi c
  by_cases h : ctxB H c = true
  rotate_left
  · have h' := eq_false_of_ne_true h
    have hE : pushE H c v = 120 := by rw [pushE, if_neg h]
    rw [h'] at cm
    refine gives_of Try.func32 rfl (Nat.le_of_ble_eq_true rfl) ?_
    (repeat' (first | refine mv ?_ | refine asg ?_ | refine un ?_ | refine la ?_ | refine so ?_ | refine aops_nil ?_ | refine aw_seq ?_ | refine aw_region ?_ | refine aw_cond_t rfl ?_ | refine aw_ret ?_ | refine bx 0 ?_ | refine al 1 ?_ | refine cl (cm) ?_ | fail))
    exact fin (sh_keep (H := H) (by simp [pushH, hE]) hE.symm)
  rw [h] at cm
  have csp := rsp_ok H hi c h
  obtain ⟨s0, s1, s2, s3⟩ := ctx_sp h
  by_cases h0 : hasB H.objs.length v = true
  rotate_left
  · have h0' := eq_false_of_ne_true h0
    have hE : pushE H c v = 31 := by rw [pushE, if_pos h, if_neg h0]
    have ch := (rhas_c H hi v).to' (congrArg bv h0')
    refine gives_of Try.func32 rfl (Nat.le_of_ble_eq_true rfl) ?_
    (repeat' (first | refine mv ?_ | refine asg ?_ | refine un ?_ | refine ex ?_ | refine la ?_ | refine so ?_ | refine aops_nil ?_ | refine aw_seq ?_ | refine aw_region ?_ | refine aw_cond_t rfl ?_ | refine aw_cond_f rfl ?_ | refine aw_skip ?_ | refine aw_ret ?_ | refine bx 0 ?_ | refine al 1 ?_ | refine cl (cm) ?_ | refine cl (csp) ?_ | refine cl (ch) ?_ | fail))
    exact fin (sh_keep (H := H) (by simp [pushH, hE]) hE.symm)
  have ch := (rhas_c H hi v).to' (congrArg bv h0)
  by_cases h1 : (ctxX H c).sp = 16
  · have hE : pushE H c v = 121 := by rw [pushE, if_pos h, if_pos h0, if_pos h1]
    refine gives_of Try.func32 rfl (Nat.le_of_ble_eq_true rfl) ?_
    (repeat' (first | refine mv ?_ | refine asg ?_ | refine bt ?_ | refine un ?_ | refine ex ?_ | refine la ?_ | refine so ?_ | refine aops_nil ?_ | refine aw_seq ?_ | refine aw_region ?_ | refine aw_cond_t rfl ?_ | refine aw_cond_f rfl ?_ | refine aw_skip ?_ | refine aw_ret ?_ | refine bx 0 ?_ | refine al 1 ?_ | refine cl (cm) ?_ | refine cl (csp) ?_ | refine cl (ch) ?_ | fail))
    exact fin (sh_keep (H := H) (by simp [pushH, hE]) hE.symm)
  have hE : pushE H c v = 0 := by rw [pushE, if_pos h, if_pos h0, if_neg h1]
  have k1 := rSet_ok H hi c (6 + (ctxX H c).sp) v
  have k2 := rSet_ok _ (setH_in (v := c) (slot := 6 + (ctxX H c).sp) (x := v) hi) c 2 (2 * (ctxX H c).sp + 3)
  refine gives_of Try.func32 rfl (Nat.le_of_ble_eq_true rfl) ?_
  (repeat' (first | refine mv ?_ | refine asg ?_ | refine bf ?_ | refine bw ?_ | refine un ?_ | refine ex ?_ | refine la ?_ | refine so ?_ | refine aops_nil ?_ | refine aw_seq ?_ | refine aw_region ?_ | refine aw_cond_f rfl ?_ | refine aw_skip ?_ | refine aw_ret ?_ | refine bx 0 ?_ | refine al 1 ?_ | refine al 2 ?_ | refine cl (cm) ?_ | refine cl (csp) ?_ | refine cl (ch) ?_ | refine cl (k1) ?_ | refine cl (k2) ?_ | fail))
  have e1 : numV ((ctxX H c).sp + 1) = 2 * (ctxX H c).sp + 3 := by rw [numV, if_pos (by omega)]; omega
  exact fin (sh_keep (H := setH (setH H c (6 + (ctxX H c).sp) v) c 2 (2 * (ctxX H c).sp + 3)) (by simp [pushH, hE, pushL, putL, e1]) hE.symm)
set_option maxHeartbeats 4000000 in
theorem rPop_ok (H : HHeap) (hi : H.In) (c : Int) : Gives Try.prog 33 [.agg (encHeap H), iv c] (.tup [.agg (encHeap (popH H c)), iv (popV H c), iv (popE H c)]) := by
  have cm := rCMay_ok H hi c
  by_cases h : ctxB H c = true
  rotate_left
  · have h' := eq_false_of_ne_true h
    have hE : popE H c = 120 := by rw [popE, if_neg h]
    rw [h'] at cm
    refine gives_of Try.func33 rfl (Nat.le_of_ble_eq_true rfl) ?_
    (repeat' (first | refine mv ?_ | refine asg ?_ | refine un ?_ | refine la ?_ | refine so ?_ | refine aops_nil ?_ | refine aw_seq ?_ | refine aw_region ?_ | refine aw_cond_t rfl ?_ | refine aw_ret ?_ | refine bx 0 ?_ | refine al 1 ?_ | refine cl (cm) ?_ | fail))
    exact fin (sh_keep3 (H := H) (v := 0) (by simp [popH, hE]) (by simp [popV, hE]) hE.symm)
  rw [h] at cm
  have csp := rsp_ok H hi c h
  have cs := rslots_c hi h
  obtain ⟨s0, s1, s2, s3⟩ := ctx_sp h
  obtain ⟨_, _, _, h2, _⟩ := ctxB_iff.1 h
  by_cases h1 : (ctxX H c).sp = (ctxX H c).mth.temps
  · have hE : popE H c = 121 := by rw [popE, if_pos h, if_pos h1]
    refine gives_of Try.func33 rfl (Nat.le_of_ble_eq_true rfl) ?_
    (repeat' (first | refine mv ?_ | refine asg ?_ | refine bt ?_ | refine un ?_ | refine ex ?_ | refine la ?_ | refine so ?_ | refine aops_nil ?_ | refine aw_seq ?_ | refine aw_region ?_ | refine aw_cond_t rfl ?_ | refine aw_cond_f rfl ?_ | refine aw_skip ?_ | refine aw_ret ?_ | refine bx 0 ?_ | refine al 1 ?_ | refine cl (cm) ?_ | refine cl (csp) ?_ | fail))
    exact fin (sh_keep3 (H := H) (v := 0) (by simp [popH, hE]) (by simp [popV, hE]) hE.symm)
  have hE : popE H c = 0 := by rw [popE, if_pos h, if_neg h1]
  have hg := ints_get (sl_get (o := H.at' c) (k := 5 + (ctxX H c).sp.toNat) (by omega))
  have hls : (encInts (H.at' c).slots).length = 22 := by rw [len_ints, h2]
  have hn : 5 + (ctxX H c).sp = ((5 + (ctxX H c).sp.toNat : Nat) : Int) := by omega
  have k1 := rSet_ok H hi c (5 + (ctxX H c).sp) 0
  have k2 := rSet_ok _ (setH_in (v := c) (slot := 5 + (ctxX H c).sp) (x := 0) hi) c 2 (2 * (ctxX H c).sp - 1)
  refine gives_of Try.func33 rfl (Nat.le_of_ble_eq_true rfl) ?_
  (repeat' (first | refine mv ?_ | refine asg ?_ | refine ld ?_ | refine bf ?_ | refine bw ?_ | refine un ?_ | refine ex ?_ | refine la ?_ | refine so ?_ | refine aops_nil ?_ | refine aw_seq ?_ | refine aw_region ?_ | refine aw_cond_f rfl ?_ | refine aw_skip ?_ | refine aw_ret ?_ | refine bx 0 ?_ | refine al 1 ?_ | refine al 2 ?_ | refine cl (cm) ?_ | refine cl (csp) ?_ | refine cl (cs) ?_ | refine cl (k1) ?_ | refine cl (k2) ?_ | refine ia (5 + (ctxX H c).sp.toNat) hg ?_ (hn := hn) | fail))
  have e1 : numV ((ctxX H c).sp - 1) = 2 * (ctxX H c).sp - 1 := by rw [numV, if_pos (by omega)]; omega
  have e2 : 6 + (ctxX H c).sp - 1 = 5 + (ctxX H c).sp := by omega
  exact fin (sh_keep3 (H := setH (setH H c (5 + (ctxX H c).sp) 0) c 2 (2 * (ctxX H c).sp - 1)) (v := (H.at' c).sl (5 + (ctxX H c).sp.toNat)) (by simp [popH, hE, popL, putL, e1, e2]) (by simp [popV, hE]) hE.symm)
set_option maxHeartbeats 4000000 in
theorem rTemp_ok (H : HHeap) (hi : H.In) (c k : Int) : Gives Try.prog 18 [.agg (encHeap H), iv c, iv k] (.tup [iv (tempI H c k), iv (tempE H c k)]) := by
  have cm := rCMay_ok H hi c
  by_cases h : ctxB H c = true
  rotate_left
  · have h' := eq_false_of_ne_true h
    have hE : tempE H c k = 120 := by rw [tempE, if_neg h]
    have hI : tempI H c k = 0 := by rw [tempI, hE]; rfl
    rw [h'] at cm
    refine gives_of Try.func18 rfl (Nat.le_of_ble_eq_true rfl) ?_
    (repeat' (first | refine mv ?_ | refine asg ?_ | refine un ?_ | refine la ?_ | refine aops_nil ?_ | refine aw_seq ?_ | refine aw_region ?_ | refine aw_cond_t rfl ?_ | refine aw_ret ?_ | refine bx 0 ?_ | refine cl (cm) ?_ | fail))
    exact fin (sh_ii hI.symm hE.symm)
  rw [h] at cm
  have csp := rsp_ok H hi c h
  have cs := rslots_c hi h
  obtain ⟨s0, s1, s2, s3⟩ := ctx_sp h
  obtain ⟨_, _, _, h2, _⟩ := ctxB_iff.1 h
  by_cases h3 : 0 ≤ k ∧ k < (ctxX H c).mth.temps
  rotate_left
  · have hE : tempE H c k = 121 := by rw [tempE, if_pos h, if_neg h3]
    have hI : tempI H c k = 0 := by rw [tempI, hE]; rfl
    refine gives_of Try.func18 rfl (Nat.le_of_ble_eq_true rfl) ?_
    by_cases h4 : 0 ≤ k
    · have h5 : ¬ k < (ctxX H c).mth.temps := fun e => h3 ⟨h4, e⟩
      (repeat' (first | refine mv ?_ | refine asg ?_ | refine bt ?_ | refine bf ?_ | refine un ?_ | refine pf ?_ | refine ex ?_ | refine la ?_ | refine aops_nil ?_ | refine aw_seq ?_ | refine aw_region ?_ | refine aw_cond_t rfl ?_ | refine aw_cond_f rfl ?_ | refine aw_skip ?_ | refine aw_ret ?_ | refine bx 0 ?_ | refine cl (cm) ?_ | refine cl (csp) ?_ | fail))
      exact fin (sh_ii hI.symm hE.symm)
    · (repeat' (first | refine sk ?_ | refine mv ?_ | refine asg ?_ | refine bt ?_ | refine un ?_ | refine pt ?_ | refine ex ?_ | refine la ?_ | refine aops_nil ?_ | refine aw_seq ?_ | refine aw_region ?_ | refine aw_cond_t rfl ?_ | refine aw_cond_f rfl ?_ | refine aw_skip ?_ | refine aw_ret ?_ | refine bx 0 ?_ | refine cl (cm) ?_ | refine cl (csp) ?_ | fail))
      exact fin (sh_ii hI.symm hE.symm)
  have hE : tempE H c k = 0 := by rw [tempE, if_pos h, if_pos h3]
  have hI : tempI H c k = (H.at' c).sl (6 + k.toNat) := by rw [tempI, if_pos hE]
  have hg := ints_get (sl_get (o := H.at' c) (k := 6 + k.toNat) (by omega))
  have hls : (encInts (H.at' c).slots).length = 22 := by rw [len_ints, h2]
  have hn : 6 + k = ((6 + k.toNat : Nat) : Int) := by omega
  refine gives_of Try.func18 rfl (Nat.le_of_ble_eq_true rfl) ?_
  (repeat' (first | refine mv ?_ | refine asg ?_ | refine ld ?_ | refine bf ?_ | refine bw ?_ | refine un ?_ | refine pf ?_ | refine ex ?_ | refine la ?_ | refine aops_nil ?_ | refine aw_seq ?_ | refine aw_region ?_ | refine aw_cond_f rfl ?_ | refine aw_skip ?_ | refine aw_ret ?_ | refine bx 0 ?_ | refine cl (cm) ?_ | refine cl (csp) ?_ | refine cl (cs) ?_ | refine ia (6 + k.toNat) hg ?_ (hn := hn) | fail))
  exact fin (sh_ii hI.symm hE.symm)
end Go.Proofs.Ytbmldjcddpblnaa
