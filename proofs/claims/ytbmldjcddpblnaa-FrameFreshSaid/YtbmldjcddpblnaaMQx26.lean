/- What the statements' walks need. -/
import Derived.Test.YtbmldjcddpblnaaMQa4
import Derived.Test.YtbmldjcddpblnaaMQx20
set_option linter.unusedVariables false
set_option linter.unusedSimpArgs false
set_option maxRecDepth 100000
namespace Go.Proofs.Ytbmldjcddpblnaa
open Go Go.Proofs AW
set_option maxHeartbeats 8000000 in
theorem read_d (H : HHeap) (hi : H.In) (c : Int) (h0 : mayH H = true) (h1 : H.is c 0) (h2 : (H.at' c).cls = 12) (h3 : (H.at' c).slots.length = 22) (hm : mthB H ((H.at' c).sl 3) = true) (r0 : 0 ≤ H.ref ((H.at' c).sl 0)) (r5 : 0 ≤ H.ref ((H.at' c).sl 5)) : Gives Try.prog 55 [.agg (encHeap H), iv c] (.tup [.agg (encCtx (ctxV H c)), bv (ctxB H c)]) := by
  have cr := ref6_ok
  have c0 := (May_ok H hi).to' (congrArg bv h0)
  have c1 := object_some H c 0 h1
  have hle : (encInts (H.at' c).slots).length = 22 := by rw [len_ints, h3]
  have g0 := ints_get (sl_get (o := H.at' c) (k := 0) (by omega))
  have g1 := ints_get (sl_get (o := H.at' c) (k := 1) (by omega))
  have g2 := ints_get (sl_get (o := H.at' c) (k := 2) (by omega))
  have g3 := ints_get (sl_get (o := H.at' c) (k := 3) (by omega))
  have g5 := ints_get (sl_get (o := H.at' c) (k := 5) (by omega))
  have c2 := (method_ok H hi ((H.at' c).sl 3)).to' (y := AV.tup [.agg (encMethod (mthX H ((H.at' c).sl 3))), bv true]) (by rw [hm, mthM, if_pos hm])
  have t0 := (there_ok H ((H.at' c).sl 0)).to' (congrArg bv (decide_eq_true r0))
  have t5 := (there_ok H ((H.at' c).sl 5)).to' (congrArg bv (decide_eq_true r5))
  have hcl : (encCode (mthX H ((H.at' c).sl 3)).code).length < 1099511627776 := by
    rw [len_code]
    show (unpackL (H.at' ((H.at' ((H.at' c).sl 3)).sl 3)).text).length < _
    simp only [mthB, Bool.and_eq_true, decide_eq_true_eq] at hm
    have h9 := hm.2.1.1.1
    have s3 : (H.at' ((H.at' ((H.at' c).sl 3)).sl 3)).text.size < 1099511627776 := (at_in hi h9).2.2.2.2.2.2
    simp only [unpackL]; split
    · simp only [pairsI, len_pairs]; omega
    · simp
  have k1 := small_ok' ((H.at' c).sl 1) (((encCode (mthX H ((H.at' c).sl 3)).code).length : Int) - 1)
  have k2 := small_ok' ((H.at' c).sl 2) 16
  have hB1 : ctxB1 H c = true := by simp [ctxB1, h0, h1, h2, h3, hm, r0, r5]
  have n1 := noOwn_ctx (ctxX H c)
  refine gives_of Try.func55 rfl (Nat.le_of_ble_eq_true rfl) ?_
  (repeat' (first | refine mv ?_ | refine asg ?_ | refine ld ?_ | refine fi ?_ | refine bf ?_ | refine un ?_ | refine pf ?_ | refine ex ?_ | refine ln ?_ | refine la ?_ | refine so ?_ | refine bd ?_ | refine nk ?_ | refine pn ?_ | refine aops_nil ?_ | refine aw_seq ?_ | refine aw_region ?_ | refine aw_cond_f rfl ?_ | refine aw_skip ?_ | refine bx 0 ?_ | refine al 1 ?_ | refine al 2 ?_ | refine cl cr ?_ | refine cl c0 ?_ (hno := ⟨noOwn_heap _, trivial⟩) | refine cl c1 ?_ (hno := ⟨noOwn_heap _, noOwn_iv _, noOwn_iv _, trivial⟩) | fail))
  refine aw_drawM2 14 11 3 (.live 32 5 [[iv 0, iv 0, iv 0, .v (.slice none 0 0), .v (.slice none 0 0)]]) 12 3 (.live 32 5 [encMethod (mthX H ((H.at' c).sl 3))]) ?_
  (repeat' (first | refine dMn ?_ | refine dM (.inr (y_move)) (by first | exact .inr (y_move) | exact .inl rfl) (by first | exact .inr (y_move) | exact .inl rfl) ?_ | refine dM (.inr (y_assign)) (by first | exact .inr (y_assign) | exact .inl rfl) (by first | exact .inr (y_assign) | exact .inl rfl) ?_ | refine dM (.inr (y_extract)) (by first | exact .inr (y_extract) | exact .inl rfl) (by first | exact .inr (y_extract) | exact .inl rfl) ?_ | refine dM (.inr (y_load)) (by first | exact .inr (y_load) | exact .inl rfl) (by first | exact .inr (y_load) | exact .inl rfl) ?_ | refine dM (.inr (y_faddr_ip)) (by first | exact .inr (y_faddr_ip) | exact .inl rfl) (by first | exact .inr (y_faddr_ip) | exact .inl rfl) ?_ | refine dM (.inr (y_nilc)) (by first | exact .inr (y_nilc) | exact .inl rfl) (by first | exact .inr (y_nilc) | exact .inl rfl) ?_ | refine dM (.inr (y_loadsN)) (by first | exact .inr (y_loadsN) | exact .inl rfl) (by first | exact .inr (y_loadsN) | exact .inl rfl) ?_ | refine dMS 1 y_storeV ?_ | refine dME 0 (y_allocU 3) ?_ | refine dM (.inr (y_call c2 (hno := ⟨noOwn_heap _, noOwn_iv _, trivial⟩))) (by first | exact .inr (y_call c2 (hno := ⟨noOwn_heap _, noOwn_iv _, trivial⟩)) | exact .inl rfl) (by first | exact .inr (y_call c2 (hno := ⟨noOwn_heap _, noOwn_iv _, trivial⟩)) | exact .inl rfl) ?_ | refine dM (.inr (y_iaddrN 3 g3)) (by first | exact .inr (y_iaddrN 3 g3) | exact .inl rfl) (by first | exact .inr (y_iaddrN 3 g3) | exact .inl rfl) ?_ | fail))
  (repeat' (first | refine aops_nil ?_ | refine aw_seq ?_ | fail))
  refine aw_draw 24 none ?_
  (repeat' (first | refine dn ?_ | refine ds y_move ?_ | refine ds y_load ?_ | refine ds y_faddr_ip ?_ | refine ds y_nilc ?_ | refine ds y_un ?_ | refine ds y_pick_f ?_ | refine ds y_loadsN ?_ | refine ds (y_call t0 (hno := ⟨noOwn_heap _, noOwn_iv _, trivial⟩)) ?_ | refine ds (y_call t5 (hno := ⟨noOwn_heap _, noOwn_iv _, trivial⟩)) ?_ | refine ds (y_iaddrN 0 g0) ?_ | refine ds (y_iaddrN 5 g5) ?_ | fail))
  (repeat' (first | refine fp ?_ | refine la ?_ | refine so ?_ | refine aops_nil ?_ | refine aw_seq ?_ | refine aw_region ?_ | refine aw_cond_f rfl ?_ | refine aw_skip ?_ | fail))
  refine aw_drawM2 22 19 2 (.live 78 8 [encMethod (mthX H ((H.at' c).sl 3)) ++ [.sl 1 (encInts (H.at' c).slots), iv (smI ((H.at' c).sl 1) (((encCode (mthX H ((H.at' c).sl 3)).code).length : Int) - 1)), iv 0]]) 21 2 (.live 78 8 [encMethod (mthX H ((H.at' c).sl 3)) ++ [.sl 1 (encInts (H.at' c).slots), iv (smI ((H.at' c).sl 1) (((encCode (mthX H ((H.at' c).sl 3)).code).length : Int) - 1)), iv (smI ((H.at' c).sl 2) 16)]]) ?_
  (repeat' (first | refine dMn ?_ | refine dM (.inr (y_move)) (by first | exact .inr (y_move) | exact .inl rfl) (by first | exact .inr (y_move) | exact .inl rfl) ?_ | refine dM (.inr (y_load)) (by first | exact .inr (y_load) | exact .inl rfl) (by first | exact .inr (y_load) | exact .inl rfl) ?_ | refine dM (.inr (y_faddr_ptr (hs := Nat.le_of_ble_eq_true rfl))) (by first | exact .inr (y_faddr_ptr (hs := Nat.le_of_ble_eq_true rfl)) | exact .inl rfl) (by first | exact .inr (y_faddr_ptr (hs := Nat.le_of_ble_eq_true rfl)) | exact .inl rfl) ?_ | refine dM (.inr (y_faddr_ip)) (by first | exact .inr (y_faddr_ip) | exact .inl rfl) (by first | exact .inr (y_faddr_ip) | exact .inl rfl) ?_ | refine dM (.inr (y_nilc)) (by first | exact .inr (y_nilc) | exact .inl rfl) (by first | exact .inr (y_nilc) | exact .inl rfl) ?_ | refine dM (.inr (y_bw)) (by first | exact .inr (y_bw) | exact .inl rfl) (by first | exact .inr (y_bw) | exact .inl rfl) ?_ | refine dM (.inr (y_len)) (by first | exact .inr (y_len) | exact .inl rfl) (by first | exact .inr (y_len) | exact .inl rfl) ?_ | refine dMS 1 y_storeV ?_ | refine dMS 0 y_storeV ?_ | refine dM (.inr (y_call k1)) (by first | exact .inr (y_call k1) | exact .inl rfl) (by first | exact .inr (y_call k1) | exact .inl rfl) ?_ | refine dM (.inr (y_call k2)) (by first | exact .inr (y_call k2) | exact .inl rfl) (by first | exact .inr (y_call k2) | exact .inl rfl) ?_ | refine dM (.inr (y_iaddrN 1 g1)) (by first | exact .inr (y_iaddrN 1 g1) | exact .inl rfl) (by first | exact .inr (y_iaddrN 1 g1) | exact .inl rfl) ?_ | refine dM (.inr (y_iaddrN 2 g2)) (by first | exact .inr (y_iaddrN 2 g2) | exact .inl rfl) (by first | exact .inr (y_iaddrN 2 g2) | exact .inl rfl) ?_ | fail))
  (repeat' (first | refine aops_nil ?_ | refine aw_seq ?_ | fail))
  have hx : (⟨mthX H ((H.at' c).sl 3), (H.at' c).slots, (smI ((H.at' c).sl 1) (((encCode (mthX H ((H.at' c).sl 3)).code).length : Int) - 1)), (smI ((H.at' c).sl 2) 16)⟩ : HCtx) = ctxX H c := by simp [ctxX, len_code]
  by_cases p : 0 ≤ (smI ((H.at' c).sl 1) (((encCode (mthX H ((H.at' c).sl 3)).code).length : Int) - 1))
  rotate_left
  · have hB2 : ctxB2 H c = false := by simp only [ctxB2, ← hx, p, false_and, decide_false]
    have p2 := p
    simp only [len_code] at p2
    refine aw_drawU 12 11 1 (.live 78 8 [encMethod (mthX H ((H.at' c).sl 3)) ++ [.sl 1 (encInts (H.at' c).slots), iv (smI ((H.at' c).sl 1) (((encCode (mthX H ((H.at' c).sl 3)).code).length : Int) - 1)), iv (smI ((H.at' c).sl 2) 16)]]) ?_
    (repeat' (first | refine dk ?_ | refine dn ?_ | refine db y_move ?_ | refine d2 y_load y_load ?_ | refine d2 (y_faddr_ptr (hs := Nat.le_of_ble_eq_true rfl)) (y_faddr_ptr (hs := Nat.le_of_ble_eq_true rfl)) ?_ | refine d2 y_bf y_bf ?_ | refine d2 y_pick_f y_pick_f ?_ | refine db y_loadsN ?_ | refine deS y_storeV ?_ | fail))
    (repeat' (first | refine asg ?_ | refine aops_nil ?_ | refine aw_ret ?_ | fail))
    exact fin (sh_tup (l := [.agg (encCtx (⟨mthX H ((H.at' c).sl 3), (H.at' c).slots, (smI ((H.at' c).sl 1) (((encCode (mthX H ((H.at' c).sl 3)).code).length : Int) - 1)), (smI ((H.at' c).sl 2) 16)⟩ : HCtx)), bv false]) ⟨by rw [ctxV, if_pos hB1, hx]; exact .same _ (noOwn_actx _), sh_bv (by rw [ctxB, hB1, hB2]; rfl), trivial⟩)
  have p2 := p
  simp only [len_code] at p2
  by_cases q : (mthX H ((H.at' c).sl 3)).temps ≤ (smI ((H.at' c).sl 2) 16)
  rotate_left
  · have hB2 : ctxB2 H c = false := by simp only [ctxB2, ← hx, q, and_false, decide_false]
    refine aw_drawU 12 11 1 (.live 78 8 [encMethod (mthX H ((H.at' c).sl 3)) ++ [.sl 1 (encInts (H.at' c).slots), iv (smI ((H.at' c).sl 1) (((encCode (mthX H ((H.at' c).sl 3)).code).length : Int) - 1)), iv (smI ((H.at' c).sl 2) 16)]]) ?_
    (repeat' (first | refine dn ?_ | refine db y_move ?_ | refine d2 y_load y_load ?_ | refine d2 (y_faddr_ptr (hs := Nat.le_of_ble_eq_true rfl)) (y_faddr_ptr (hs := Nat.le_of_ble_eq_true rfl)) ?_ | refine d2 y_bt y_bt ?_ | refine d2 y_bf y_bf ?_ | refine d2 y_pick_t y_pick_t ?_ | refine db y_loadsN ?_ | refine deS y_storeV ?_ | fail))
    (repeat' (first | refine asg ?_ | refine aops_nil ?_ | refine aw_ret ?_ | fail))
    exact fin (sh_tup (l := [.agg (encCtx (⟨mthX H ((H.at' c).sl 3), (H.at' c).slots, (smI ((H.at' c).sl 1) (((encCode (mthX H ((H.at' c).sl 3)).code).length : Int) - 1)), (smI ((H.at' c).sl 2) 16)⟩ : HCtx)), bv false]) ⟨by rw [ctxV, if_pos hB1, hx]; exact .same _ (noOwn_actx _), sh_bv (by rw [ctxB, hB1, hB2]; rfl), trivial⟩)
  · have hB2 : ctxB2 H c = true := by simp only [ctxB2, ← hx, p, q, and_self, decide_true]
    refine aw_drawU 12 11 1 (.live 78 8 [encMethod (mthX H ((H.at' c).sl 3)) ++ [.sl 1 (encInts (H.at' c).slots), iv (smI ((H.at' c).sl 1) (((encCode (mthX H ((H.at' c).sl 3)).code).length : Int) - 1)), iv (smI ((H.at' c).sl 2) 16)]]) ?_
    (repeat' (first | refine dn ?_ | refine db y_move ?_ | refine d2 y_load y_load ?_ | refine d2 (y_faddr_ptr (hs := Nat.le_of_ble_eq_true rfl)) (y_faddr_ptr (hs := Nat.le_of_ble_eq_true rfl)) ?_ | refine d2 y_bt y_bt ?_ | refine d2 y_pick_t y_pick_t ?_ | refine db y_loadsN ?_ | refine deS y_storeV ?_ | fail))
    (repeat' (first | refine asg ?_ | refine aops_nil ?_ | refine aw_ret ?_ | fail))
    exact fin (sh_tup (l := [.agg (encCtx (⟨mthX H ((H.at' c).sl 3), (H.at' c).slots, (smI ((H.at' c).sl 1) (((encCode (mthX H ((H.at' c).sl 3)).code).length : Int) - 1)), (smI ((H.at' c).sl 2) 16)⟩ : HCtx)), bv true]) ⟨by rw [ctxV, if_pos hB1, hx]; exact .same _ (noOwn_actx _), sh_bv (by rw [ctxB, hB1, hB2]; rfl), trivial⟩)
end Go.Proofs.Ytbmldjcddpblnaa
