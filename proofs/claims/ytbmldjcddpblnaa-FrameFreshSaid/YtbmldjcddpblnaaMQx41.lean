/- What the statements' walks need. -/
import Derived.Test.YtbmldjcddpblnaaMQa4
import Derived.Test.YtbmldjcddpblnaaMQx40
import Derived.Test.YtbmldjcddpblnaaMQx30
set_option linter.unusedVariables false
set_option linter.unusedSimpArgs false
set_option maxRecDepth 100000
namespace Go.Proofs.Ytbmldjcddpblnaa
open Go Go.Proofs AW
theorem ty_ask12 {n : Nat} {p : List AV} (h : Ty Try.prog (n + 2) 26 p) : ∃ x y z : Int, p = [iv x, iv y, iv z] ∧ (In64 x ∧ In64 y ∧ In64 z) := by
  unfold Ty at h
  rw [Try.underlying26] at h
  obtain ⟨parts, hl, rfl, hf⟩ := h
  match parts, hl with
  | [p0, p1, p2], _ =>
    obtain ⟨x0, rfl, i0⟩ := ty_int (hf 0 _ p0 rfl rfl)
    obtain ⟨x1, rfl, i1⟩ := ty_int (hf 1 _ p1 rfl rfl)
    obtain ⟨x2, rfl, i2⟩ := ty_int (hf 2 _ p2 rfl rfl)
    exact ⟨x0, x1, x2, rfl, i0, i1, i2⟩
theorem ty_begin {n : Nat} {p : List AV} (h : Ty Try.prog (n + 3) 46 p) : ∃ (s m r home : Int) (args : List Int), p = [iv s, iv m, iv r, iv home, .sl 1 (encInts args)] ∧ args.length < 17592186044416 := by
  unfold Ty at h
  rw [Try.underlying46] at h
  obtain ⟨parts, hl, rfl, hf⟩ := h
  match parts, hl with
  | [p0, p1, p2, p3, p4], _ =>
    obtain ⟨x0, rfl, i0⟩ := ty_int (hf 0 _ p0 rfl rfl)
    obtain ⟨x1, rfl, i1⟩ := ty_int (hf 1 _ p1 rfl rfl)
    obtain ⟨x2, rfl, i2⟩ := ty_int (hf 2 _ p2 rfl rfl)
    obtain ⟨x3, rfl, i3⟩ := ty_int (hf 3 _ p3 rfl rfl)
    obtain ⟨x4, rfl, i4, j4⟩ := ty_ints (hf 4 _ p4 rfl rfl)
    exact ⟨x0, x1, x2, x3, x4, rfl, j4⟩
theorem mth_lens {H : HHeap} (hi : H.In) (m : Int) : (methM H m).code.length < 1099511627776 ∧ (methM H m).lits.length < 1099511627776 := by
  by_cases h : methB H m = true
  · have hmth : mthB H m = true := by simp only [methB, Bool.and_eq_true] at h; exact h.2
    rw [methM, if_pos h]
    refine ⟨by have := mth_code hmth; omega, ?_⟩
    have h4 : H.is ((H.at' m).sl 4) 0 := by
      simp only [mthB, Bool.and_eq_true, decide_eq_true_eq] at hmth
      exact hmth.2.1.2
    exact (at_in hi h4.1).2.2.2.2.2.1
  · rw [methM, if_neg h]; simp [noMth]
set_option maxHeartbeats 16000000 in
theorem freads_ok (H : HHeap) (hi : H.Big) (c k v : Int) (_ : In64 c ∧ In64 k ∧ In64 v) : Gives Try.prog 3 [.agg (encHeap H), .agg [iv c, iv k, iv v]] (bv true) := by
  have hlo : (encObjs H.objs).length = H.objs.length := len_objs _
  by_cases hs : smallH H = true
  rotate_left
  · have c0 := (rSmall_ok H hi).to' (congrArg bv (eq_false_of_ne_true hs))
    refine gives_of Try.func3 rfl (Nat.le_of_ble_eq_true rfl) ?_
    (repeat' (first | refine sk ?_ | refine mv ?_ | refine asg ?_ | refine un ?_ | refine pt ?_ | refine la ?_ | refine aops_nil ?_ | refine aw_seq ?_ | refine aw_region ?_ | refine aw_cond_t rfl ?_ | refine aw_ret ?_ | refine bx 0 ?_ | refine bx 1 ?_ | refine cl (fixed12_ok) ?_ | refine cl (c0) ?_ | fail))
    exact fin (sh_bv rfl)
  have hin := small_in hi hs
  have c0 := (rSmall_ok H hi).to' (congrArg bv hs)
  by_cases hn : H.objs.length ≤ 60
  rotate_left
  · refine gives_of Try.func3 rfl (Nat.le_of_ble_eq_true rfl) ?_
    (repeat' (first | refine mv ?_ | refine asg ?_ | refine ld ?_ | refine fp ?_ | refine bt ?_ | refine un ?_ | refine pf ?_ | refine ln ?_ | refine la ?_ | refine aops_nil ?_ | refine aw_seq ?_ | refine aw_region ?_ | refine aw_cond_t rfl ?_ | refine aw_ret ?_ | refine bx 0 ?_ | refine bx 1 ?_ | refine cl (fixed12_ok) ?_ | refine cl (c0) ?_ | fail))
    exact fin (sh_bv rfl)
  have cm := rMethods_same (methM H c) (mth_lens hin c).1 (mth_lens hin c).2
  refine gives_of Try.func3 rfl (Nat.le_of_ble_eq_true rfl) ?_
  (repeat' (first | refine mv ?_ | refine asg ?_ | refine ld ?_ | refine fp ?_ | refine bf ?_ | refine un ?_ | refine pf ?_ | refine ex ?_ | refine ln ?_ | refine la ?_ | refine so ?_ | refine aops_nil ?_ | refine aw_seq ?_ | refine aw_region ?_ | refine aw_cond_f rfl ?_ | refine aw_skip ?_ | refine bx 0 ?_ | refine bx 1 ?_ | refine al 2 ?_ | refine al 3 ?_ | refine al 4 ?_ | refine al 5 ?_ | refine cl (c0) ?_ | refine cl (Method_ok H hin c) ?_ | refine cl (rMethod_ok H hin c) ?_ | refine cl (At_f_ok H hin c) ?_ | refine cl (rAt_c_ok H hin c) ?_ | refine cl (Temp_ok H hin c k) ?_ | refine cl (rTemp_ok H hin c k) ?_ | fail))
  refine aw_wipe 4 ?_
  refine aw_drawP 48 [] ?_
  (repeat' (first | refine dPn ?_ | refine dP (fun _ => y_move) ?_ | refine dP (fun _ => y_assign) ?_ | refine dP (fun _ => y_load) ?_ | refine dP (fun _ => y_faddr_ptr (hs := Nat.le_of_ble_eq_true rfl)) ?_ | refine dP (fun _ => y_bt) ?_ | refine dP (fun _ => y_pick_t) ?_ | refine dP (fun _ => y_loadsN) ?_ | refine dP (fun _ => y_call (fixed12_ok)) ?_ | refine dP (fun _ => y_call (cm)) ?_ | refine dP (fun _ => y_call (FMay_ok H hin c)) ?_ | refine dP (fun _ => y_call (rCMay_ok H hin c)) ?_ | refine dP (fun _ => y_binA [.int .i64 (atN H c).op, .int .i64 (atN H c).arg] [.int .i64 (atN H c).op, .int .i64 (atN H c).arg] (hrun := fun w => ins_eql _ 0 _ _ (atN H c) w rfl)) ?_ | fail))
  (repeat' (first | refine aops_nil ?_ | refine aw_ret ?_ | fail))
  exact fin (sh_bv rfl)
set_option maxHeartbeats 16000000 in
theorem fwrites_ok (H : HHeap) (hi : H.Big) (c k v : Int) (_ : In64 c ∧ In64 k ∧ In64 v) : Gives Try.prog 8 [.agg (encHeap H), .agg [iv c, iv k, iv v]] (bv true) := by
  have hlo : (encObjs H.objs).length = H.objs.length := len_objs _
  by_cases hs : smallH H = true
  rotate_left
  · have c0 := (rSmall_ok H hi).to' (congrArg bv (eq_false_of_ne_true hs))
    refine gives_of Try.func8 rfl (Nat.le_of_ble_eq_true rfl) ?_
    (repeat' (first | refine sk ?_ | refine mv ?_ | refine asg ?_ | refine un ?_ | refine pt ?_ | refine la ?_ | refine aops_nil ?_ | refine aw_seq ?_ | refine aw_region ?_ | refine aw_cond_t rfl ?_ | refine aw_ret ?_ | refine bx 0 ?_ | refine bx 1 ?_ | refine cl (fixed12_ok) ?_ | refine cl (c0) ?_ | fail))
    exact fin (sh_bv rfl)
  have hin := small_in hi hs
  have c0 := (rSmall_ok H hi).to' (congrArg bv hs)
  by_cases hn : H.objs.length ≤ 60
  rotate_left
  · refine gives_of Try.func8 rfl (Nat.le_of_ble_eq_true rfl) ?_
    (repeat' (first | refine mv ?_ | refine asg ?_ | refine ld ?_ | refine fp ?_ | refine bt ?_ | refine un ?_ | refine pf ?_ | refine ln ?_ | refine la ?_ | refine aops_nil ?_ | refine aw_seq ?_ | refine aw_region ?_ | refine aw_cond_t rfl ?_ | refine aw_ret ?_ | refine bx 0 ?_ | refine bx 1 ?_ | refine cl (fixed12_ok) ?_ | refine cl (c0) ?_ | fail))
    exact fin (sh_bv rfl)
  refine gives_of Try.func8 rfl (Nat.le_of_ble_eq_true rfl) ?_
  (repeat' (first | refine mv ?_ | refine asg ?_ | refine ld ?_ | refine fp ?_ | refine bt ?_ | refine bf ?_ | refine un ?_ | refine pt ?_ | refine pf ?_ | refine ex ?_ | refine ln ?_ | refine la ?_ | refine so ?_ | refine aops_nil ?_ | refine aw_seq ?_ | refine aw_region ?_ | refine aw_cond_f rfl ?_ | refine aw_skip ?_ | refine aw_ret ?_ | refine bx 0 ?_ | refine bx 1 ?_ | refine al 2 ?_ | refine al 3 ?_ | refine al 4 ?_ | refine al 5 ?_ | refine al 6 ?_ | refine al 7 ?_ | refine al 8 ?_ | refine al 9 ?_ | refine cl (c0) ?_ | refine cl (fixed12_ok) ?_ | refine cl (Push_ok H hin c v) ?_ | refine cl (rPush_ok H hin c v) ?_ | refine cl (Pop_ok H hin c) ?_ | refine cl (rPop_ok H hin c) ?_ | refine cl (SetTemp_ok H hin c k v) ?_ | refine cl (rSetTemp_ok H hin c k v) ?_ | refine cl (Go_ok H hin c k) ?_ | refine cl (rGo_ok H hin c k) ?_ | refine cl (rSame_id _ (pushH_in hin)) ?_ | refine cl (rSame_id _ (popH_in hin)) ?_ | refine cl (rSame_id _ (sTmpH_in hin)) ?_ | refine cl (rSame_id _ (goH_in hin)) ?_ | fail))
  exact fin (sh_bv rfl)
set_option maxHeartbeats 16000000 in
theorem fbegins_ok (H : HHeap) (hi : H.Big) (s m r home : Int) (args : List Int) (ha : args.length < 17592186044416) : Gives Try.prog 4 [.agg (encHeap H), .agg [iv s, iv m, iv r, iv home, .sl 1 (encInts args)]] (bv true) := by
  have hlo : (encObjs H.objs).length = H.objs.length := len_objs _
  have hla : (encInts args).length = args.length := len_ints _
  by_cases hs : smallH H = true
  rotate_left
  · have c0 := (rSmall_ok H hi).to' (congrArg bv (eq_false_of_ne_true hs))
    refine gives_of Try.func4 rfl (Nat.le_of_ble_eq_true rfl) ?_
    (repeat' (first | refine sk ?_ | refine mv ?_ | refine asg ?_ | refine un ?_ | refine pt ?_ | refine la ?_ | refine aops_nil ?_ | refine aw_seq ?_ | refine aw_region ?_ | refine aw_cond_t rfl ?_ | refine aw_ret ?_ | refine bx 0 ?_ | refine bx 1 ?_ | refine cl (fixed12_ok) ?_ | refine cl (c0) ?_ | fail))
    exact fin (sh_bv rfl)
  have hin := small_in hi hs
  have c0 := (rSmall_ok H hi).to' (congrArg bv hs)
  by_cases hn : H.objs.length ≤ 60
  rotate_left
  · refine gives_of Try.func4 rfl (Nat.le_of_ble_eq_true rfl) ?_
    (repeat' (first | refine sk ?_ | refine mv ?_ | refine asg ?_ | refine ld ?_ | refine fp ?_ | refine bt ?_ | refine un ?_ | refine pt ?_ | refine pf ?_ | refine ln ?_ | refine la ?_ | refine aops_nil ?_ | refine aw_seq ?_ | refine aw_region ?_ | refine aw_cond_t rfl ?_ | refine aw_ret ?_ | refine bx 0 ?_ | refine bx 1 ?_ | refine cl (fixed12_ok) ?_ | refine cl (c0) ?_ | fail))
    exact fin (sh_bv rfl)
  by_cases hk : args.length ≤ 20
  rotate_left
  · refine gives_of Try.func4 rfl (Nat.le_of_ble_eq_true rfl) ?_
    (repeat' (first | refine mv ?_ | refine asg ?_ | refine ld ?_ | refine fp ?_ | refine bt ?_ | refine bf ?_ | refine un ?_ | refine pf ?_ | refine ln ?_ | refine la ?_ | refine aops_nil ?_ | refine aw_seq ?_ | refine aw_region ?_ | refine aw_cond_t rfl ?_ | refine aw_ret ?_ | refine bx 0 ?_ | refine bx 1 ?_ | refine cl (fixed12_ok) ?_ | refine cl (c0) ?_ | fail))
    exact fin (sh_bv rfl)
  have ha' : args.length < 1099511627776 := by omega
  refine gives_of Try.func4 rfl (Nat.le_of_ble_eq_true rfl) ?_
  (repeat' (first | refine mv ?_ | refine asg ?_ | refine ld ?_ | refine fp ?_ | refine bt ?_ | refine bf ?_ | refine un ?_ | refine pt ?_ | refine pf ?_ | refine ex ?_ | refine ln ?_ | refine la ?_ | refine so ?_ | refine aops_nil ?_ | refine aw_seq ?_ | refine aw_region ?_ | refine aw_cond_f rfl ?_ | refine aw_skip ?_ | refine aw_ret ?_ | refine bx 0 ?_ | refine bx 1 ?_ | refine al 2 ?_ | refine al 3 ?_ | refine cl (c0) ?_ | refine cl (fixed12_ok) ?_ | refine cl (New_ok H hin s m r home args ha') ?_ | refine cl (rNew_ok H hin s m r home args ha') ?_ | refine cl (rSame_id _ (newHp_in hin)) ?_ | fail))
  exact fin (sh_bv rfl)
end Go.Proofs.Ytbmldjcddpblnaa
namespace Go.Proofs.Ytbmldjcddpblnaa
open Go Go.Proofs AW
theorem sm_val {v most : Int} (h : 0 ≤ smI v most) : v = 2 * smI v most + 1 := by
  simp only [smI] at h ⊢
  split at h
  · rename_i h1
    rw [if_pos h1]
    have h2 := h1.1
    simp only [isN, decide_eq_true_eq] at h2
    have h3 : nI v = v / 2 := by rw [nI, if_pos h1.1]
    omega
  · simp at h
theorem sm_of {n most : Int} (h0 : 0 ≤ n) (h1 : n ≤ most) (h2 : n ≤ 1073741823) : smI (2 * n + 1) most = n := by
  have hN : isN (2 * n + 1) = true := by simp [isN]; omega
  have hI : nI (2 * n + 1) = n := by rw [nI, if_pos hN]; omega
  rw [smI, hI, if_pos ⟨hN, h0, h1⟩]
def ctxPut (H : HHeap) (c : Int) (S : List Int) : HHeap := H.put (H.ref c).toNat { H.at' c with slots := S }
theorem put_len' (H : HHeap) (c : Int) (S : List Int) : (ctxPut H c S).objs.length = H.objs.length := by simp [ctxPut]
theorem ctxPut_ref (H : HHeap) (c : Int) (S : List Int) (v : Int) : (ctxPut H c S).ref v = H.ref v := put_ref _ _ _ _
theorem ctxPut_at {H : HHeap} {c : Int} (h : 0 ≤ H.ref c) (S : List Int) : (ctxPut H c S).at' c = { H.at' c with slots := S } := put_at_same h _
theorem ctxPut_other {H : HHeap} {c v : Int} (S : List Int) (h : (H.ref v).toNat ≠ (H.ref c).toNat) : (ctxPut H c S).at' v = H.at' v := put_at_other h _
theorem ctxPut_put {H : HHeap} {c : Int} (h : 0 ≤ H.ref c) (S S' : List Int) : ctxPut (ctxPut H c S) c S' = ctxPut H c S' := by
  rw [ctxPut, ctxPut_ref, ctxPut_at h]; simp only [ctxPut, put_put]
theorem ctxPut_self {H : HHeap} {c : Int} (h : 0 ≤ H.ref c) : ctxPut H c (H.at' c).slots = H := put_self h
theorem ref_same {H : HHeap} {v w : Int} (hv : 0 ≤ H.ref v) (hw : 0 ≤ H.ref w) (h : (H.ref v).toNat = (H.ref w).toNat) : H.at' v = H.at' w := by
  simp only [HHeap.at', h]
theorem ctxPut_may {H : HHeap} {c : Int} (hm : mayH H = true) (hc : H.is c 0) {S : List Int} (hl : S.length ≤ 64) (hb : ∀ x ∈ S, hasB H.objs.length x = true) : mayH (ctxPut H c S) = true := by
  refine put_may hm ?_ _
  have h1 := may_obj hm (at_mem hc.1)
  simp only [mayObj, Bool.and_eq_true] at h1 ⊢
  obtain ⟨h2, h3, h4⟩ := h1
  have hk : (H.at' c).kind = 0 := hc.2
  refine ⟨h2, ?_, ?_⟩
  · simp only [kindB, decide_eq_true_eq, hk] at h3 ⊢
    exact ⟨fun e => absurd rfl e, h3.2⟩
  · simp only [restB, Bool.and_eq_true, decide_eq_true_eq, List.all_eq_true] at h4 ⊢
    exact ⟨⟨hl, h4.1.2⟩, hb⟩
theorem slot_has {H : HHeap} {c : Int} (hm : mayH H = true) (hc : 0 ≤ H.ref c) : ∀ x ∈ (H.at' c).slots, hasB H.objs.length x = true := by
  have h1 := may_obj hm (at_mem hc)
  simp only [mayObj, restB, Bool.and_eq_true, List.all_eq_true] at h1
  exact h1.2.2.2
theorem mth_stays {H : HHeap} {c m : Int} (hc : H.is c 0) (hl : (H.at' c).slots.length = 22) {S : List Int} (hS : S.length = 22) (hm : mthB H m = true) :
    mthB (ctxPut H c S) m = true ∧ (mthX (ctxPut H c S) m).code = (mthX H m).code ∧ (mthX (ctxPut H c S) m).temps = (mthX H m).temps ∧ (mthX (ctxPut H c S) m).args = (mthX H m).args := by
  have hm' := hm
  simp only [mthB, Bool.and_eq_true, decide_eq_true_eq] at hm'
  obtain ⟨⟨hm1, hm2⟩, ⟨ht, hL⟩, hu, hq, hk⟩ := hm'
  have n1 : (H.ref m).toNat ≠ (H.ref c).toNat := fun e => by
    rw [ref_same hm1.1 hc.1 e, hl] at hm2; omega
  have n2 : (H.ref ((H.at' m).sl 3)).toNat ≠ (H.ref c).toNat := fun e => by
    have := ht.2
    rw [ref_same ht.1 hc.1 e, hc.2] at this; omega
  have e1 := ctxPut_other S n1
  have e2 := ctxPut_other S n2
  have e3 : ((ctxPut H c S).at' ((H.at' m).sl 4)).kind = 0 ∧ ((ctxPut H c S).at' ((H.at' m).sl 4)).slots.length = (H.at' ((H.at' m).sl 4)).slots.length := by
    by_cases n3 : (H.ref ((H.at' m).sl 4)).toNat = (H.ref c).toNat
    · have h1 := ref_same hL.1 hc.1 n3
      have h2 : (ctxPut H c S).at' ((H.at' m).sl 4) = (ctxPut H c S).at' c := ref_same (by rw [ctxPut_ref]; exact hL.1) (by rw [ctxPut_ref]; exact hc.1) (by rw [ctxPut_ref, ctxPut_ref]; exact n3)
      rw [h2, ctxPut_at hc.1, h1]
      exact ⟨hc.2, by rw [hl]; exact hS⟩
    · rw [ctxPut_other S n3]; exact ⟨hL.2, rfl⟩
  have x1 : (mthX (ctxPut H c S) m).code = (mthX H m).code := by simp only [mthX, e1, e2]
  have x2 : (mthX (ctxPut H c S) m).temps = (mthX H m).temps := by simp only [mthX, e1]
  have x3 : (mthX (ctxPut H c S) m).args = (mthX H m).args := by simp only [mthX, e1]
  have x4 : (mthX (ctxPut H c S) m).prim = (mthX H m).prim := by simp only [mthX, e1]
  have x5 : (mthX (ctxPut H c S) m).lits.length = (mthX H m).lits.length := by simp only [mthX, e1]; exact e3.2
  refine ⟨?_, x1, x2, x3⟩
  simp only [mthB, Bool.and_eq_true, decide_eq_true_eq, x1, x2, x3, x4, x5, e1, e2]
  exact ⟨⟨⟨by rw [ctxPut_ref]; exact hm1.1, by rw [e1]; exact hm1.2⟩, hm2⟩, ⟨⟨by rw [ctxPut_ref]; exact ht.1, by rw [e2]; exact ht.2⟩, ⟨by rw [ctxPut_ref]; exact hL.1, e3.1⟩⟩, hu, hq, hk⟩
theorem ctx_stays {H : HHeap} {c : Int} (h : ctxB H c = true) {S : List Int} (hS : S.length = 22) (hb : ∀ x ∈ S, hasB H.objs.length x = true) (h3 : S[3]? = some ((H.at' c).sl 3)) (h0 : ∃ x, S[0]? = some x ∧ 0 ≤ H.ref x) (h5 : ∃ x, S[5]? = some x ∧ 0 ≤ H.ref x)
    {x1 x2 : Int} (g1 : S[1]? = some x1) (g2 : S[2]? = some x2) (h1 : 0 ≤ smI x1 ((ctxX H c).mth.code.length - 1)) (h2 : (ctxX H c).mth.temps ≤ smI x2 16) :
    ctxB (ctxPut H c S) c = true ∧ (ctxX (ctxPut H c S) c).mth.code = (ctxX H c).mth.code ∧ (ctxX (ctxPut H c S) c).mth.temps = (ctxX H c).mth.temps ∧ (ctxX (ctxPut H c S) c).ip = smI x1 ((ctxX H c).mth.code.length - 1) ∧ (ctxX (ctxPut H c S) c).sp = smI x2 16 := by
  obtain ⟨hm, hc, hcl, hl, hmt, r0, r5, _⟩ := ctxB_iff.1 h
  obtain ⟨m1, m2, m3, m4⟩ := mth_stays hc hl hS hmt
  have hat := ctxPut_at hc.1 S
  have sl : ∀ k x, S[k]? = some x → ((ctxPut H c S).at' c).sl k = x := fun k x hx => by rw [hat]; simp [HObj.sl, hx]
  obtain ⟨y0, k0, q0⟩ := h0
  obtain ⟨y5, k5, q5⟩ := h5
  have E : (ctxX (ctxPut H c S) c).mth = mthX (ctxPut H c S) ((H.at' c).sl 3) := by simp only [ctxX, sl 3 _ h3]
  have E' : (ctxX H c).mth = mthX H ((H.at' c).sl 3) := rfl
  have x1e : (ctxX (ctxPut H c S) c).ip = smI x1 ((ctxX H c).mth.code.length - 1) := by simp only [ctxX, sl 3 _ h3, sl 1 _ g1, m2]
  have x2e : (ctxX (ctxPut H c S) c).sp = smI x2 16 := by simp only [ctxX, sl 2 _ g2]
  refine ⟨?_, by rw [E, E', m2], by rw [E, E', m3], x1e, x2e⟩
  rw [ctxB_iff]
  refine ⟨ctxPut_may hm hc (by omega) hb, ⟨by rw [ctxPut_ref]; exact hc.1, by rw [hat]; exact hc.2⟩, by rw [hat]; exact hcl, by rw [hat]; exact hS, by rw [sl 3 _ h3]; exact m1, ?_, ?_, ?_, ?_⟩
  · rw [sl 0 _ k0, ctxPut_ref]; exact q0
  · rw [sl 5 _ k5, ctxPut_ref]; exact q5
  · rw [sl 3 _ h3, sl 1 _ g1, m2]; exact h1
  · rw [sl 3 _ h3, sl 2 _ g2, m3]; exact h2
theorem ctx_set {H : HHeap} {c : Int} (hm : mayH H = true) (hc : H.is c 0) {k : Nat} {x : Int} (hk : k < (H.at' c).slots.length) (hx : hasB H.objs.length x = true) : setE H c k x = 0 ∧ setH H c k x = ctxPut H c ((H.at' c).slots.set k x) := by
  have hw : wrongE H c 0 k = 0 := by
    rw [wrongE, hm, if_neg (by decide), if_neg (by have := hc.1; omega), if_neg (by simp [hc.2]), if_neg (by omega)]
  have hE : setE H c k x = 0 := by rw [setE, if_pos hw, if_pos hx]
  exact ⟨hE, by rw [setH, if_pos hE]; simp [ctxPut]⟩
theorem ctx_set' {H : HHeap} {c : Int} (hm : mayH H = true) (hc : H.is c 0) {S : List Int} (hS : S.length = 22) (hb : ∀ x ∈ S, hasB H.objs.length x = true) {k : Nat} {x : Int} (hk : k < 22) (hx : hasB H.objs.length x = true) : setE (ctxPut H c S) c k x = 0 ∧ setH (ctxPut H c S) c k x = ctxPut H c (S.set k x) := by
  have hat := ctxPut_at hc.1 S
  have h := ctx_set (H := ctxPut H c S) (c := c) (k := k) (x := x) (ctxPut_may hm hc (by omega) hb) ⟨by rw [ctxPut_ref]; exact hc.1, by rw [hat]; exact hc.2⟩ (by rw [hat]; show k < S.length; omega) (by rw [put_len']; exact hx)
  rw [hat] at h
  rw [ctxPut_put hc.1] at h
  exact h
end Go.Proofs.Ytbmldjcddpblnaa
