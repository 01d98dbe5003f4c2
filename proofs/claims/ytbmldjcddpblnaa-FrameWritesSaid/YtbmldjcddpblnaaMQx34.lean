/- What the statements' walks need. -/
import Derived.Test.YtbmldjcddpblnaaMQa4
import Derived.Test.YtbmldjcddpblnaaMQx33
set_option linter.unusedVariables false
set_option linter.unusedSimpArgs false
set_option maxRecDepth 100000
namespace Go.Proofs.Ytbmldjcddpblnaa
open Go Go.Proofs AW
set_option maxHeartbeats 4000000 in
theorem rSetTemp_ok (H : HHeap) (hi : H.In) (c k v : Int) : Gives Try.prog 35 [.agg (encHeap H), iv c, iv k, iv v] (.tup [.agg (encHeap (sTmpH H c k v)), iv (sTmpE H c k v)]) := by
  have cm := rCMay_ok H hi c
  by_cases h : ctxB H c = true
  rotate_left
  · have h' := eq_false_of_ne_true h
    have hE : sTmpE H c k v = 120 := by rw [sTmpE, if_neg h]
    rw [h'] at cm
    refine gives_of Try.func35 rfl (Nat.le_of_ble_eq_true rfl) ?_
    (repeat' (first | refine mv ?_ | refine asg ?_ | refine un ?_ | refine la ?_ | refine so ?_ | refine aops_nil ?_ | refine aw_seq ?_ | refine aw_region ?_ | refine aw_cond_t rfl ?_ | refine aw_ret ?_ | refine bx 0 ?_ | refine al 1 ?_ | refine cl (cm) ?_ | fail))
    exact fin (sh_keep (H := H) (by simp [sTmpH, hE]) hE.symm)
  rw [h] at cm
  have csp := rsp_ok H hi c h
  obtain ⟨s0, s1, s2, s3⟩ := ctx_sp h
  by_cases h0 : hasB H.objs.length v = true
  rotate_left
  · have h0' := eq_false_of_ne_true h0
    have hE : sTmpE H c k v = 31 := by rw [sTmpE, if_pos h, if_neg h0]
    have ch := (rhas_c H hi v).to' (congrArg bv h0')
    refine gives_of Try.func35 rfl (Nat.le_of_ble_eq_true rfl) ?_
    (repeat' (first | refine mv ?_ | refine asg ?_ | refine un ?_ | refine ex ?_ | refine la ?_ | refine so ?_ | refine aops_nil ?_ | refine aw_seq ?_ | refine aw_region ?_ | refine aw_cond_t rfl ?_ | refine aw_cond_f rfl ?_ | refine aw_skip ?_ | refine aw_ret ?_ | refine bx 0 ?_ | refine al 1 ?_ | refine cl (cm) ?_ | refine cl (csp) ?_ | refine cl (ch) ?_ | fail))
    exact fin (sh_keep (H := H) (by simp [sTmpH, hE]) hE.symm)
  have ch := (rhas_c H hi v).to' (congrArg bv h0)
  by_cases h4 : 0 ≤ k
  rotate_left
  · have hE : sTmpE H c k v = 121 := by rw [sTmpE, if_pos h, if_pos h0, if_neg (fun e => h4 e.1)]
    refine gives_of Try.func35 rfl (Nat.le_of_ble_eq_true rfl) ?_
    (repeat' (first | refine sk ?_ | refine mv ?_ | refine asg ?_ | refine bt ?_ | refine un ?_ | refine pt ?_ | refine ex ?_ | refine la ?_ | refine so ?_ | refine aops_nil ?_ | refine aw_seq ?_ | refine aw_region ?_ | refine aw_cond_t rfl ?_ | refine aw_cond_f rfl ?_ | refine aw_skip ?_ | refine aw_ret ?_ | refine bx 0 ?_ | refine al 1 ?_ | refine cl (cm) ?_ | refine cl (csp) ?_ | refine cl (ch) ?_ | fail))
    exact fin (sh_keep (H := H) (by simp [sTmpH, hE]) hE.symm)
  by_cases h5 : k < (ctxX H c).mth.temps
  rotate_left
  · have hE : sTmpE H c k v = 121 := by rw [sTmpE, if_pos h, if_pos h0, if_neg (fun e => h5 e.2)]
    refine gives_of Try.func35 rfl (Nat.le_of_ble_eq_true rfl) ?_
    (repeat' (first | refine mv ?_ | refine asg ?_ | refine bt ?_ | refine bf ?_ | refine un ?_ | refine pf ?_ | refine ex ?_ | refine la ?_ | refine so ?_ | refine aops_nil ?_ | refine aw_seq ?_ | refine aw_region ?_ | refine aw_cond_t rfl ?_ | refine aw_cond_f rfl ?_ | refine aw_skip ?_ | refine aw_ret ?_ | refine bx 0 ?_ | refine al 1 ?_ | refine cl (cm) ?_ | refine cl (csp) ?_ | refine cl (ch) ?_ | fail))
    exact fin (sh_keep (H := H) (by simp [sTmpH, hE]) hE.symm)
  have hE : sTmpE H c k v = 0 := by rw [sTmpE, if_pos h, if_pos h0, if_pos ⟨h4, h5⟩]
  have k1 := rSet_ok H hi c (6 + k) v
  refine gives_of Try.func35 rfl (Nat.le_of_ble_eq_true rfl) ?_
  (repeat' (first | refine mv ?_ | refine asg ?_ | refine bf ?_ | refine bw ?_ | refine un ?_ | refine pf ?_ | refine ex ?_ | refine la ?_ | refine so ?_ | refine aops_nil ?_ | refine aw_seq ?_ | refine aw_region ?_ | refine aw_cond_f rfl ?_ | refine aw_skip ?_ | refine aw_ret ?_ | refine bx 0 ?_ | refine al 1 ?_ | refine al 2 ?_ | refine cl (cm) ?_ | refine cl (csp) ?_ | refine cl (ch) ?_ | refine cl (k1) ?_ | fail))
  exact fin (sh_keep (H := setH H c (6 + k) v) (by simp [sTmpH, hE, putL]) hE.symm)
theorem mth_code {H : HHeap} {m : Int} (h : mthB H m = true) : (mthX H m).code.length ≤ 32 := by
  simp only [mthB, checkB, allI, Bool.and_eq_true, decide_eq_true_eq] at h
  exact h.2.2.2.2.2.1.1
set_option maxHeartbeats 4000000 in
theorem rGo_ok (H : HHeap) (hi : H.In) (c ip : Int) : Gives Try.prog 36 [.agg (encHeap H), iv c, iv ip] (.tup [.agg (encHeap (goH H c ip)), iv (goE H c ip)]) := by
  have cm := rCMay_ok H hi c
  by_cases h : ctxB H c = true
  rotate_left
  · have h' := eq_false_of_ne_true h
    have hE : goE H c ip = 120 := by rw [goE, if_neg (fun e => h e.1)]
    rw [h'] at cm
    refine gives_of Try.func36 rfl (Nat.le_of_ble_eq_true rfl) ?_
    (repeat' (first | refine mv ?_ | refine asg ?_ | refine un ?_ | refine la ?_ | refine so ?_ | refine aops_nil ?_ | refine aw_seq ?_ | refine aw_region ?_ | refine aw_cond_t rfl ?_ | refine aw_ret ?_ | refine bx 0 ?_ | refine al 1 ?_ | refine cl (cm) ?_ | fail))
    exact fin (sh_keep (H := H) (by simp [goH, hE]) hE.symm)
  rw [h] at cm
  have cs := rslots_c hi h
  have c2 := rmeth_c hi h
  obtain ⟨_, _, _, h2, hm, _⟩ := ctxB_iff.1 h
  have hls : (encInts (H.at' c).slots).length = 22 := by rw [len_ints, h2]
  have g3 := ints_get (sl_get (o := H.at' c) (k := 3) (by omega))
  have h32 := mth_code hm
  have p2 : (encCode (mthX H ((H.at' c).sl 3)).code).length = (ctxX H c).mth.code.length := len_code _
  have p3 : (ctxX H c).mth.code.length ≤ 32 := h32
  by_cases h4 : 0 ≤ ip
  rotate_left
  · have hE : goE H c ip = 120 := by rw [goE, if_neg (fun e => h4 e.2.1)]
    refine gives_of Try.func36 rfl (Nat.le_of_ble_eq_true rfl) ?_
    (repeat' (first | refine mv ?_ | refine asg ?_ | refine un ?_ | refine la ?_ | refine aops_nil ?_ | refine aw_seq ?_ | refine aw_region ?_ | refine aw_cond_f rfl ?_ | refine aw_skip ?_ | refine bx 0 ?_ | refine al 1 ?_ | refine cl (cm) ?_ | fail))
    refine aw_drawP 13 [(10, 3, .live 32 5 [[iv 0, iv 0, iv 0, .v (.slice none 0 0), .v (.slice none 0 0)]], none), (11, 3, .live 32 5 [encMethod (mthX H ((H.at' c).sl 3))], none)] ?_
    (repeat' (first | refine dPn ?_ | refine dP (fun _ => y_move) ?_ | refine dP (fun _ => y_assign) ?_ | refine dP (fun _ => y_extract) ?_ | refine dP (fun _ => y_load) ?_ | refine dP (fun _ => y_loadsN) ?_ | refine dPS (fun _ => y_storeV) ?_ | refine dP (fun _ => y_iaddrN 3 g3) ?_ | refine dP (fun _ => y_call (cs)) ?_ | refine dP (fun _ => y_call (c2)) ?_ | refine dPE (fun _ => y_allocU 3) ?_ | fail))
    (repeat' (first | refine sk ?_ | refine mv ?_ | refine asg ?_ | refine bt ?_ | refine pt ?_ | refine la ?_ | refine so ?_ | refine aops_nil ?_ | refine aw_seq ?_ | refine aw_region ?_ | refine aw_cond_t rfl ?_ | refine aw_ret ?_ | fail))
    exact fin (sh_keep (H := H) (by simp [goH, hE]) hE.symm)
  by_cases h5 : ip < (ctxX H c).mth.code.length
  rotate_left
  · have hE : goE H c ip = 120 := by rw [goE, if_neg (fun e => h5 e.2.2)]
    have h6 : ¬ ip < ((mthX H ((H.at' c).sl 3)).code.length : Int) := h5
    refine gives_of Try.func36 rfl (Nat.le_of_ble_eq_true rfl) ?_
    (repeat' (first | refine mv ?_ | refine asg ?_ | refine un ?_ | refine la ?_ | refine aops_nil ?_ | refine aw_seq ?_ | refine aw_region ?_ | refine aw_cond_f rfl ?_ | refine aw_skip ?_ | refine bx 0 ?_ | refine al 1 ?_ | refine cl (cm) ?_ | fail))
    refine aw_drawP 13 [(10, 3, .live 32 5 [[iv 0, iv 0, iv 0, .v (.slice none 0 0), .v (.slice none 0 0)]], none), (11, 3, .live 32 5 [encMethod (mthX H ((H.at' c).sl 3))], none)] ?_
    (repeat' (first | refine dPn ?_ | refine dP (fun _ => y_move) ?_ | refine dP (fun _ => y_assign) ?_ | refine dP (fun _ => y_extract) ?_ | refine dP (fun _ => y_load) ?_ | refine dP (fun _ => y_loadsN) ?_ | refine dPS (fun _ => y_storeV) ?_ | refine dP (fun _ => y_iaddrN 3 g3) ?_ | refine dP (fun _ => y_call (cs)) ?_ | refine dP (fun _ => y_call (c2)) ?_ | refine dPE (fun _ => y_allocU 3) ?_ | fail))
    (repeat' (first | refine mv ?_ | refine asg ?_ | refine ld ?_ | refine fp ?_ | refine bt ?_ | refine bf ?_ | refine pf ?_ | refine ln ?_ | refine la ?_ | refine so ?_ | refine aops_nil ?_ | refine aw_seq ?_ | refine aw_region ?_ | refine aw_cond_t rfl ?_ | refine aw_ret ?_ | fail))
    exact fin (sh_keep (H := H) (by simp [goH, hE]) hE.symm)
  have hE : goE H c ip = 0 := by rw [goE, if_pos ⟨h, h4, h5⟩]
  have k1 := rSet_ok H hi c 1 (2 * ip + 1)
  refine gives_of Try.func36 rfl (Nat.le_of_ble_eq_true rfl) ?_
  (repeat' (first | refine mv ?_ | refine asg ?_ | refine un ?_ | refine la ?_ | refine aops_nil ?_ | refine aw_seq ?_ | refine aw_region ?_ | refine aw_cond_f rfl ?_ | refine aw_skip ?_ | refine bx 0 ?_ | refine al 1 ?_ | refine cl (cm) ?_ | fail))
  refine aw_drawP 13 [(10, 3, .live 32 5 [[iv 0, iv 0, iv 0, .v (.slice none 0 0), .v (.slice none 0 0)]], none), (11, 3, .live 32 5 [encMethod (mthX H ((H.at' c).sl 3))], none)] ?_
  (repeat' (first | refine dPn ?_ | refine dP (fun _ => y_move) ?_ | refine dP (fun _ => y_assign) ?_ | refine dP (fun _ => y_extract) ?_ | refine dP (fun _ => y_load) ?_ | refine dP (fun _ => y_loadsN) ?_ | refine dPS (fun _ => y_storeV) ?_ | refine dP (fun _ => y_iaddrN 3 g3) ?_ | refine dP (fun _ => y_call (cs)) ?_ | refine dP (fun _ => y_call (c2)) ?_ | refine dPE (fun _ => y_allocU 3) ?_ | fail))
  (repeat' (first | refine mv ?_ | refine asg ?_ | refine ld ?_ | refine fp ?_ | refine bf ?_ | refine bw ?_ | refine pf ?_ | refine ex ?_ | refine ln ?_ | refine la ?_ | refine so ?_ | refine aops_nil ?_ | refine aw_seq ?_ | refine aw_region ?_ | refine aw_cond_f rfl ?_ | refine aw_skip ?_ | refine aw_ret ?_ | refine al 2 ?_ | refine cl (k1) ?_ | fail))
  have e1 : numV ip = 2 * ip + 1 := by rw [numV, if_pos (by omega)]; omega
  exact fin (sh_keep (H := setH H c 1 (2 * ip + 1)) (by simp [goH, hE, putL, e1]) hE.symm)
theorem sm_more {v a b : Int} (h : 0 ≤ smI v a) (hab : a ≤ b) : smI v b = smI v a := by
  simp only [smI] at h ⊢
  split at h
  · rename_i h1
    rw [if_pos h1, if_pos ⟨h1.1, h1.2.1, by omega⟩]
  · simp at h
set_option maxHeartbeats 4000000 in
theorem rAt_c_ok (H : HHeap) (hi : H.In) (c : Int) : Gives Try.prog 16 [.agg (encHeap H), iv c] (.tup [iv (atP H c), .agg (encInstr (atN H c)), iv (atE H c)]) := by
  have cm := rCMay_ok H hi c
  by_cases h : ctxB H c = true
  rotate_left
  · have h' := eq_false_of_ne_true h
    rw [h'] at cm
    refine gives_of Try.func16 rfl (Nat.le_of_ble_eq_true rfl) ?_
    (repeat' (first | refine mv ?_ | refine asg ?_ | refine un ?_ | refine la ?_ | refine so ?_ | refine bd ?_ | refine aops_nil ?_ | refine aw_seq ?_ | refine aw_region ?_ | refine aw_cond_t rfl ?_ | refine aw_ret ?_ | refine bx 0 ?_ | refine al 1 ?_ | refine cl (cm) ?_ | fail))
    exact fin (sh_tup (l := [iv 0, .agg [iv 0, iv 0], iv 120]) ⟨sh_iv (by rw [atP, if_neg h]), by rw [atN, if_neg h]; exact .same _ (noOwn_instr noIns), sh_iv (by rw [atE, if_neg h]), trivial⟩)
  rw [h] at cm
  have cs := rslots_c hi h
  have c2 := rmeth_c hi h
  obtain ⟨_, _, _, h2, hm, _, _, hip, _⟩ := ctxB_iff.1 h
  have hls : (encInts (H.at' c).slots).length = 22 := by rw [len_ints, h2]
  have g3 := ints_get (sl_get (o := H.at' c) (k := 3) (by omega))
  have g1 := ints_get (sl_get (o := H.at' c) (k := 1) (by omega))
  have h32 := mth_code hm
  obtain ⟨n, e2, x, e3, e4⟩ := ctx_ip h
  have e5 : (ctxX H c).ip = smI ((H.at' c).sl 1) ((mthX H ((H.at' c).sl 3)).code.length - 1) := rfl
  have c3 : Gives Try.prog 53 [iv ((H.at' c).sl 1), iv 64] (iv (ctxX H c).ip) := by
    have := rsmall_ok' ((H.at' c).sl 1) 64
    rwa [sm_more (b := 64) hip (by omega), ← e5] at this
  have hg : (encCode (mthX H ((H.at' c).sl 3)).code)[n]? = some (encInstr x) := code_get e3
  refine gives_of Try.func16 rfl (Nat.le_of_ble_eq_true rfl) ?_
  (repeat' (first | refine mv ?_ | refine asg ?_ | refine un ?_ | refine la ?_ | refine aops_nil ?_ | refine aw_seq ?_ | refine aw_region ?_ | refine aw_cond_f rfl ?_ | refine aw_skip ?_ | refine bx 0 ?_ | refine al 1 ?_ | refine cl (cm) ?_ | refine cl (cs) ?_ | fail))
  refine aw_drawP 11 [(8, 3, .live 32 5 [[iv 0, iv 0, iv 0, .v (.slice none 0 0), .v (.slice none 0 0)]], none), (9, 3, .live 32 5 [encMethod (mthX H ((H.at' c).sl 3))], none)] ?_
  (repeat' (first | refine dPn ?_ | refine dP (fun _ => y_move) ?_ | refine dP (fun _ => y_assign) ?_ | refine dP (fun _ => y_extract) ?_ | refine dP (fun _ => y_load) ?_ | refine dP (fun _ => y_loadsN) ?_ | refine dPS (fun _ => y_storeV) ?_ | refine dP (fun _ => y_iaddrN 3 g3) ?_ | refine dP (fun _ => y_call (c2)) ?_ | refine dPE (fun _ => y_allocU 3) ?_ | fail))
  (repeat' (first | refine mv ?_ | refine asg ?_ | refine ld ?_ | refine aops_nil ?_ | refine aw_seq ?_ | refine aw_region ?_ | refine ia 1 g1 ?_ | refine cl (c3) ?_ | fail))
  refine aw_wipe 4 (aw_wipe 6 ?_)
  refine aw_drawP 9 [(7, 1, .live 37 2 [encInstr x], none)] ?_
  (repeat' (first | refine dPn ?_ | refine dP (fun _ => y_move) ?_ | refine dP (fun _ => y_assign) ?_ | refine dP (fun _ => y_load) ?_ | refine dP (fun _ => y_faddr_ptr (hs := Nat.le_of_ble_eq_true rfl)) ?_ | refine dP (fun _ => y_loadsN) ?_ | refine dPS (fun _ => y_storeV) ?_ | refine dP (fun _ => y_iaddrN n hg (hn := e2)) ?_ | fail))
  (repeat' (first | refine aops_nil ?_ | refine aw_ret ?_ | fail))
  exact fin (sh_tup (l := [iv (ctxX H c).ip, .agg (encInstr x), iv 0]) ⟨sh_iv (by rw [atP, if_pos h]), by rw [e4]; exact .same _ (noOwn_instr x), sh_iv (by rw [atE, if_pos h]), trivial⟩)
end Go.Proofs.Ytbmldjcddpblnaa
