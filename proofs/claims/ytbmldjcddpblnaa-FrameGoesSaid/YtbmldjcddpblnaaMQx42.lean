/- What the statements' walks need. -/
import Derived.Test.YtbmldjcddpblnaaMQa4
import Derived.Test.YtbmldjcddpblnaaMQx41
set_option linter.unusedVariables false
set_option linter.unusedSimpArgs false
set_option maxRecDepth 100000
namespace Go.Proofs.Ytbmldjcddpblnaa
open Go Go.Proofs AW
theorem set_has {n : Int} {l : List Int} {k : Nat} {x : Int} (hl : ∀ y ∈ l, hasB n y = true) (hx : hasB n x = true) : ∀ y ∈ l.set k x, hasB n y = true := by
  intro y hy
  rcases List.mem_or_eq_of_mem_set hy with h | rfl
  · exact hl y h
  · exact hx
theorem set_get_ne {l : List Int} {k j : Nat} {x : Int} (h : k ≠ j) : (l.set k x)[j]? = l[j]? := by rw [List.getElem?_set_ne h]
theorem set_get_eq {l : List Int} {k : Nat} {x : Int} (h : k < l.length) : (l.set k x)[k]? = some x := by rw [List.getElem?_set_self h]
theorem go_facts {H : HHeap} {c ip : Int} (h : ctxB H c = true) (h0 : 0 ≤ ip) (h1 : ip < (ctxX H c).mth.code.length) :
    goE H c ip = 0 ∧ goH H c ip = ctxPut H c ((H.at' c).slots.set 1 (2 * ip + 1)) ∧ ctxB (goH H c ip) c = true ∧ (ctxX (goH H c ip) c).mth.code = (ctxX H c).mth.code ∧ (ctxX (goH H c ip) c).ip = ip := by
  obtain ⟨hm, hc, hcl, hl, hmt, r0, r5, hip, hsp⟩ := ctxB_iff.1 h
  have h32 : (ctxX H c).mth.code.length ≤ 32 := mth_code hmt
  have hE : goE H c ip = 0 := by rw [goE, if_pos ⟨h, h0, h1⟩]
  have e1 : numV ip = 2 * ip + 1 := by rw [numV, if_pos (by omega)]; omega
  have hb := slot_has hm hc.1
  have hx : hasB H.objs.length (2 * ip + 1) = true := hasN (by omega)
  have hH : goH H c ip = ctxPut H c ((H.at' c).slots.set 1 (2 * ip + 1)) := by
    rw [goH, if_pos hE, e1]
    show setH H c ((1 : Nat) : Int) (2 * ip + 1) = _
    exact (ctx_set hm hc (by omega) hx).2
  obtain ⟨s1, s2, s3, s4, s5⟩ := ctx_stays h (S := (H.at' c).slots.set 1 (2 * ip + 1)) (by simp [hl]) (set_has hb hx) (by rw [set_get_ne (by omega)]; exact sl_get (by omega)) ⟨(H.at' c).sl 0, by rw [set_get_ne (by omega)]; exact sl_get (by omega), r0⟩
    ⟨(H.at' c).sl 5, by rw [set_get_ne (by omega)]; exact sl_get (by omega), r5⟩ (x1 := 2 * ip + 1) (x2 := (H.at' c).sl 2) (set_get_eq (by omega)) (by rw [set_get_ne (by omega)]; exact sl_get (by omega)) (by rw [sm_of h0 (by omega) (by omega)]; exact h0) hsp
  refine ⟨hE, hH, by rw [hH]; exact s1, by rw [hH]; exact s2, ?_⟩
  rw [hH, s4, sm_of h0 (by omega) (by omega)]
theorem go_back {H : HHeap} {c ip : Int} (h : ctxB H c = true) (h0 : 0 ≤ ip) (h1 : ip < (ctxX H c).mth.code.length) : goE (goH H c ip) c (ctxX H c).ip = 0 ∧ goH (goH H c ip) c (ctxX H c).ip = H := by
  obtain ⟨hm, hc, hcl, hl, hmt, r0, r5, hip, hsp⟩ := ctxB_iff.1 h
  obtain ⟨f1, f2, f3, f4, f5⟩ := go_facts h h0 h1
  obtain ⟨n, e2, x, e3, e4⟩ := ctx_ip h
  have hn : n < (ctxX H c).mth.code.length := (List.getElem?_eq_some_iff.1 e3).1
  have h32 : (ctxX H c).mth.code.length ≤ 32 := mth_code hmt
  have hE : goE (goH H c ip) c (ctxX H c).ip = 0 := by rw [goE, if_pos ⟨f3, by omega, by rw [f4]; omega⟩]
  refine ⟨hE, ?_⟩
  have e5 : numV (ctxX H c).ip = 2 * (ctxX H c).ip + 1 := by rw [numV, if_pos (by omega)]; omega
  have hv : (H.at' c).sl 1 = 2 * (ctxX H c).ip + 1 := sm_val (by have : (ctxX H c).ip = smI ((H.at' c).sl 1) ((mthX H ((H.at' c).sl 3)).code.length - 1) := rfl; omega)
  have hb := slot_has hm hc.1
  rw [goH, if_pos hE, e5, f2]
  show setH (ctxPut H c _) c ((1 : Nat) : Int) _ = H
  rw [(ctx_set' hm hc (by simp [hl]) (set_has hb (hasN (by omega))) (k := 1) (x := 2 * (ctxX H c).ip + 1) (by omega) (hasN (by omega))).2, List.set_set, ← hv]
  have : (H.at' c).slots.set 1 ((H.at' c).sl 1) = (H.at' c).slots := by
    apply List.ext_getElem?
    intro j
    by_cases hj : j = 1
    · subst hj; rw [set_get_eq (by omega), sl_get (by omega)]
    · rw [set_get_ne (fun e => hj e.symm)]
  rw [this, ctxPut_self hc.1]
set_option maxHeartbeats 16000000 in
theorem fgoes_ok (H : HHeap) (hi : H.Big) (c ip : Int) : Gives Try.prog 7 [.agg (encHeap H), iv c, iv ip] (bv true) := by
  have hlo : (encObjs H.objs).length = H.objs.length := len_objs _
  by_cases hs : smallH H = true
  rotate_left
  · have c0 := (rSmall_ok H hi).to' (congrArg bv (eq_false_of_ne_true hs))
    refine gives_of Try.func7 rfl (Nat.le_of_ble_eq_true rfl) ?_
    (repeat' (first | refine sk ?_ | refine mv ?_ | refine asg ?_ | refine un ?_ | refine pt ?_ | refine pf ?_ | refine la ?_ | refine aops_nil ?_ | refine aw_seq ?_ | refine aw_region ?_ | refine aw_cond_t rfl ?_ | refine aw_ret ?_ | refine bx 0 ?_ | refine cl (fixed12_ok) ?_ | refine cl (c0) ?_ | fail))
    exact fin (sh_bv rfl)
  have hin := small_in hi hs
  have c0 := (rSmall_ok H hi).to' (congrArg bv hs)
  by_cases hn : H.objs.length ≤ 60
  rotate_left
  · refine gives_of Try.func7 rfl (Nat.le_of_ble_eq_true rfl) ?_
    (repeat' (first | refine sk ?_ | refine mv ?_ | refine asg ?_ | refine ld ?_ | refine fp ?_ | refine bt ?_ | refine un ?_ | refine pt ?_ | refine pf ?_ | refine ln ?_ | refine la ?_ | refine aops_nil ?_ | refine aw_seq ?_ | refine aw_region ?_ | refine aw_cond_t rfl ?_ | refine aw_ret ?_ | refine bx 0 ?_ | refine cl (fixed12_ok) ?_ | refine cl (c0) ?_ | fail))
    exact fin (sh_bv rfl)
  by_cases h : ctxB H c = true
  rotate_left
  · have cm := (rCMay_ok H hin c).to' (congrArg bv (eq_false_of_ne_true h))
    refine gives_of Try.func7 rfl (Nat.le_of_ble_eq_true rfl) ?_
    (repeat' (first | refine mv ?_ | refine asg ?_ | refine ld ?_ | refine fp ?_ | refine bf ?_ | refine un ?_ | refine pf ?_ | refine ln ?_ | refine la ?_ | refine aops_nil ?_ | refine aw_seq ?_ | refine aw_region ?_ | refine aw_cond_t rfl ?_ | refine aw_ret ?_ | refine bx 0 ?_ | refine cl (fixed12_ok) ?_ | refine cl (c0) ?_ | refine cl (cm) ?_ | fail))
    exact fin (sh_bv rfl)
  have cm := (rCMay_ok H hin c).to' (congrArg bv h)
  have cs := rslots_c hin h
  have c2 := rmeth_c hin h
  obtain ⟨hm, hc, hcl, hl, hmt, r0, r5, hip, hsp⟩ := ctxB_iff.1 h
  have hls : (encInts (H.at' c).slots).length = 22 := by rw [len_ints, hl]
  have g3 := ints_get (sl_get (o := H.at' c) (k := 3) (by omega))
  have p2 : (encCode (mthX H ((H.at' c).sl 3)).code).length = (ctxX H c).mth.code.length := len_code _
  have hat := (At_f_ok H hin c).to' (y := .tup [iv (ctxX H c).ip, .agg (encInstr (atN H c)), iv 0]) (by rw [atP, if_pos h, atE, if_pos h])
  have hgo := Go_ok H hin c ip
  by_cases h0 : 0 ≤ ip
  rotate_left
  · have hE : goE H c ip = 120 := by rw [goE, if_neg (fun e => h0 e.2.1)]
    rw [hE, show goH H c ip = H by rw [goH, hE]; rfl] at hgo
    refine gives_of Try.func7 rfl (Nat.le_of_ble_eq_true rfl) ?_
    (repeat' (first | refine mv ?_ | refine asg ?_ | refine ld ?_ | refine fp ?_ | refine bf ?_ | refine un ?_ | refine pf ?_ | refine ln ?_ | refine la ?_ | refine aops_nil ?_ | refine aw_seq ?_ | refine aw_region ?_ | refine aw_cond_f rfl ?_ | refine aw_skip ?_ | refine bx 0 ?_ | refine cl (fixed12_ok) ?_ | refine cl (c0) ?_ | refine cl (cm) ?_ | fail))
    refine aw_drawP 13 [(10, 3, .live 32 5 [[iv 0, iv 0, iv 0, .v (.slice none 0 0), .v (.slice none 0 0)]], none), (11, 3, .live 32 5 [encMethod (mthX H ((H.at' c).sl 3))], none)] ?_
    (repeat' (first | refine dPn ?_ | refine dP (fun _ => y_move) ?_ | refine dP (fun _ => y_assign) ?_ | refine dP (fun _ => y_extract) ?_ | refine dP (fun _ => y_load) ?_ | refine dP (fun _ => y_loadsN) ?_ | refine dPS (fun _ => y_storeV) ?_ | refine dP (fun _ => y_iaddrN 3 g3) ?_ | refine dP (fun _ => y_call (cs)) ?_ | refine dP (fun _ => y_call (c2)) ?_ | refine dPE (fun _ => y_allocU 3) ?_ | fail))
    (repeat' (first | refine sk ?_ | refine mv ?_ | refine asg ?_ | refine bt ?_ | refine pt ?_ | refine ex ?_ | refine la ?_ | refine so ?_ | refine aops_nil ?_ | refine aw_seq ?_ | refine aw_region ?_ | refine aw_cond_t rfl ?_ | refine aw_ret ?_ | refine al 1 ?_ | refine al 2 ?_ | refine cl (hat) ?_ | refine cl (hgo) ?_ | refine cl (rSame_id H hin) ?_ | fail))
    exact fin (sh_bv rfl)
  by_cases h1 : ip < (ctxX H c).mth.code.length
  rotate_left
  · have hE : goE H c ip = 120 := by rw [goE, if_neg (fun e => h1 e.2.2)]
    have h6 : ¬ ip < ((mthX H ((H.at' c).sl 3)).code.length : Int) := h1
    rw [hE, show goH H c ip = H by rw [goH, hE]; rfl] at hgo
    refine gives_of Try.func7 rfl (Nat.le_of_ble_eq_true rfl) ?_
    (repeat' (first | refine mv ?_ | refine asg ?_ | refine ld ?_ | refine fp ?_ | refine bf ?_ | refine un ?_ | refine pf ?_ | refine ln ?_ | refine la ?_ | refine aops_nil ?_ | refine aw_seq ?_ | refine aw_region ?_ | refine aw_cond_f rfl ?_ | refine aw_skip ?_ | refine bx 0 ?_ | refine cl (fixed12_ok) ?_ | refine cl (c0) ?_ | refine cl (cm) ?_ | fail))
    refine aw_drawP 13 [(10, 3, .live 32 5 [[iv 0, iv 0, iv 0, .v (.slice none 0 0), .v (.slice none 0 0)]], none), (11, 3, .live 32 5 [encMethod (mthX H ((H.at' c).sl 3))], none)] ?_
    (repeat' (first | refine dPn ?_ | refine dP (fun _ => y_move) ?_ | refine dP (fun _ => y_assign) ?_ | refine dP (fun _ => y_extract) ?_ | refine dP (fun _ => y_load) ?_ | refine dP (fun _ => y_loadsN) ?_ | refine dPS (fun _ => y_storeV) ?_ | refine dP (fun _ => y_iaddrN 3 g3) ?_ | refine dP (fun _ => y_call (cs)) ?_ | refine dP (fun _ => y_call (c2)) ?_ | refine dPE (fun _ => y_allocU 3) ?_ | fail))
    (repeat' (first | refine mv ?_ | refine asg ?_ | refine ld ?_ | refine fp ?_ | refine bt ?_ | refine bf ?_ | refine pt ?_ | refine pf ?_ | refine ex ?_ | refine ln ?_ | refine la ?_ | refine so ?_ | refine aops_nil ?_ | refine aw_seq ?_ | refine aw_region ?_ | refine aw_cond_t rfl ?_ | refine aw_ret ?_ | refine al 1 ?_ | refine al 2 ?_ | refine cl (hat) ?_ | refine cl (hgo) ?_ | refine cl (rSame_id H hin) ?_ | fail))
    exact fin (sh_bv rfl)
  obtain ⟨f1, f2, f3, f4, f5⟩ := go_facts h h0 h1
  obtain ⟨b1, b2⟩ := go_back h h0 h1
  have hig : (goH H c ip).In := goH_in hin
  rw [f1] at hgo
  have g1 : (ctxX H c).mth.code[ip.toNat]? = some ((ctxX H c).mth.code[ip.toNat]'(by omega)) := List.getElem?_eq_getElem _
  generalize hx : (ctxX H c).mth.code[ip.toNat]'(by omega) = x at g1
  have hax : atN (goH H c ip) c = x := by rw [atN, if_pos f3, f4, f5, g1]; rfl
  have hat2 := (At_f_ok (goH H c ip) hig c).to' (y := .tup [iv ip, .agg (encInstr x), iv 0]) (by rw [atP, if_pos f3, atE, if_pos f3, f5, hax])
  have hgo2 := (Go_ok (goH H c ip) hig c (ctxX H c).ip).to' (by rw [b1, b2])
  have hgc : (encCode (mthX H ((H.at' c).sl 3)).code)[ip.toNat]? = some (encInstr x) := code_get g1
  have hnn : ip = (ip.toNat : Int) := by omega
  have h6 : ip < ((mthX H ((H.at' c).sl 3)).code.length : Int) := h1
  refine gives_of Try.func7 rfl (Nat.le_of_ble_eq_true rfl) ?_
  (repeat' (first | refine mv ?_ | refine asg ?_ | refine ld ?_ | refine fp ?_ | refine bf ?_ | refine un ?_ | refine pf ?_ | refine ln ?_ | refine la ?_ | refine aops_nil ?_ | refine aw_seq ?_ | refine aw_region ?_ | refine aw_cond_f rfl ?_ | refine aw_skip ?_ | refine bx 0 ?_ | refine cl (fixed12_ok) ?_ | refine cl (c0) ?_ | refine cl (cm) ?_ | fail))
  refine aw_drawP 13 [(10, 3, .live 32 5 [[iv 0, iv 0, iv 0, .v (.slice none 0 0), .v (.slice none 0 0)]], none), (11, 3, .live 32 5 [encMethod (mthX H ((H.at' c).sl 3))], none)] ?_
  (repeat' (first | refine dPn ?_ | refine dP (fun _ => y_move) ?_ | refine dP (fun _ => y_assign) ?_ | refine dP (fun _ => y_extract) ?_ | refine dP (fun _ => y_load) ?_ | refine dP (fun _ => y_loadsN) ?_ | refine dPS (fun _ => y_storeV) ?_ | refine dP (fun _ => y_iaddrN 3 g3) ?_ | refine dP (fun _ => y_call (cs)) ?_ | refine dP (fun _ => y_call (c2)) ?_ | refine dPE (fun _ => y_allocU 3) ?_ | fail))
  (repeat' (first | refine mv ?_ | refine asg ?_ | refine ld ?_ | refine fp ?_ | refine bf ?_ | refine pf ?_ | refine ex ?_ | refine ln ?_ | refine la ?_ | refine so ?_ | refine aops_nil ?_ | refine aw_seq ?_ | refine aw_region ?_ | refine aw_cond_f rfl ?_ | refine aw_skip ?_ | refine al 1 ?_ | refine al 2 ?_ | refine al 4 ?_ | refine al 5 ?_ | refine cl (hat) ?_ | refine cl (hgo) ?_ | refine cl (hat2) ?_ | refine cl (hgo2) ?_ | fail))
  refine aw_wipe 6 ?_
  refine aw_drawP 30 [] ?_
  (repeat' (first | refine dPn ?_ | refine dP (fun _ => y_move) ?_ | refine dP (fun _ => y_assign) ?_ | refine dP (fun _ => y_load) ?_ | refine dP (fun _ => y_faddr_ptr (hs := Nat.le_of_ble_eq_true rfl)) ?_ | refine dP (fun _ => y_bt) ?_ | refine dP (fun _ => y_pick_t) ?_ | refine dP (fun _ => y_loadsN) ?_ | refine dP (fun _ => y_iaddrN ip.toNat hgc (hn := hnn)) ?_ | refine dP (fun _ => y_call (rSame_id H hin)) ?_ | refine dP (fun _ => y_binA [.int .i64 x.op, .int .i64 x.arg] [.int .i64 x.op, .int .i64 x.arg] (hrun := fun w => ins_eql _ 0 _ _ x w rfl)) ?_ | fail))
  (repeat' (first | refine aops_nil ?_ | refine aw_ret ?_ | fail))
  exact fin (sh_bv rfl)
end Go.Proofs.Ytbmldjcddpblnaa
