/- What the statements' walks need. -/
import Derived.Test.YtbmldjcddpblnaaMQa4
import Derived.Test.YtbmldjcddpblnaaMQx45
set_option linter.unusedVariables false
set_option linter.unusedSimpArgs false
set_option maxRecDepth 100000
namespace Go.Proofs.Ytbmldjcddpblnaa
open Go Go.Proofs AW
def skT (H B : HHeap) (c : Int) : List (Nat × Ob) := [(0, .live 24 3 [encHeap H]), (1, .live 32 5 [encMethod (mthX H ((H.at' c).sl 3))]), (2, .live 24 3 [encHeap B])]
def skE (H : HHeap) (c : Int) (l : List Int) (k : Nat) : List (Nat × AV) :=
  [(13, iv (k : Int)), (10, iv (k : Int)), (1, iv c), (2, .sl 1 (encInts l)), (3, .ptr 0 0 0), (7, .ptr 1 0 0), (9, .ptr 2 0 0), (11, iv (tempI H c 0)), (12, iv (tempE H c 0))]
def skF (H : HHeap) (c : Int) (l : List Int) (n : Nat) : List (Nat × AV) :=
  [(10, iv (n : Int)), (1, iv c), (2, .sl 1 (encInts l)), (3, .ptr 0 0 0), (7, .ptr 1 0 0), (9, .ptr 2 0 0), (11, iv (tempI H c 0)), (12, iv (tempE H c 0))]
def skG (c : Int) (l : List Int) (j : Nat) : List (Nat × AV) := [(18, iv ((j : Int) - 1)), (1, iv c), (2, .sl 1 (encInts l)), (3, .ptr 0 0 0), (9, .ptr 2 0 0)]
theorem st_temp {H : HHeap} {c : Int} {l : List Int} {n : Nat} (h : Stk H c l n n) : tempI (stH H c l n n) c 0 = tempI H c 0 ∧ tempE (stH H c l n n) c 0 = tempE H c 0 := by
  obtain ⟨q1, q2, q3, q4⟩ := st_ctx h
  obtain ⟨hm, hc, _, hl, _⟩ := ctxB_iff.1 h.ctx
  obtain ⟨s0, s1, s2, s3⟩ := ctx_sp h.ctx
  have hE : tempE (stH H c l n n) c 0 = tempE H c 0 := by rw [tempE, tempE, if_pos q1, if_pos h.ctx, q3]
  refine ⟨?_, hE⟩
  by_cases h0 : tempE H c 0 = 0
  · rw [tempI, hE, if_pos h0, tempI, if_pos h0, HObj.sl, stH, ctxPut_at hc.1]
    show ((stS H c l n n)[6]?).getD 0 = _
    have hT : 0 < (ctxX H c).mth.temps := by
      by_cases ht : 0 < (ctxX H c).mth.temps
      · exact ht
      · rw [tempE, if_pos h.ctx, if_neg (by omega)] at h0; simp at h0
    rw [stS_get (by omega), stF, if_neg (by omega), if_neg (by omega), if_neg (by omega)]; rfl
  · rw [tempI, hE, if_neg h0, tempI, if_neg h0]
set_option maxHeartbeats 16000000 in
theorem fstacks_ok (H : HHeap) (hi : H.Big) (c : Int) (l : List Int) (ha : l.length < 17592186044416) : Gives Try.prog 5 [.agg (encHeap H), iv c, .sl 1 (encInts l)] (bv true) := by
  have hlo : (encObjs H.objs).length = H.objs.length := len_objs _
  have hla : (encInts l).length = l.length := len_ints _
  by_cases hs : smallH H = true
  rotate_left
  · have c0 := (rSmall_ok H hi).to' (congrArg bv (eq_false_of_ne_true hs))
    refine gives_of Try.func5 rfl (Nat.le_of_ble_eq_true rfl) ?_
    (repeat' (first | refine sk ?_ | refine mv ?_ | refine asg ?_ | refine un ?_ | refine pt ?_ | refine pf ?_ | refine la ?_ | refine aops_nil ?_ | refine aw_seq ?_ | refine aw_region ?_ | refine aw_cond_t rfl ?_ | refine aw_ret ?_ | refine bx 0 ?_ | refine cl (fixed12_ok) ?_ | refine cl (c0) ?_ | fail))
    exact fin (sh_bv rfl)
  have hin := small_in hi hs
  have c0 := (rSmall_ok H hi).to' (congrArg bv hs)
  by_cases hn : H.objs.length ≤ 60
  rotate_left
  · refine gives_of Try.func5 rfl (Nat.le_of_ble_eq_true rfl) ?_
    (repeat' (first | refine sk ?_ | refine mv ?_ | refine asg ?_ | refine ld ?_ | refine fp ?_ | refine bt ?_ | refine un ?_ | refine pt ?_ | refine pf ?_ | refine ln ?_ | refine la ?_ | refine aops_nil ?_ | refine aw_seq ?_ | refine aw_region ?_ | refine aw_cond_t rfl ?_ | refine aw_ret ?_ | refine bx 0 ?_ | refine cl (fixed12_ok) ?_ | refine cl (c0) ?_ | fail))
    exact fin (sh_bv rfl)
  by_cases hk : l.length ≤ 20
  rotate_left
  · refine gives_of Try.func5 rfl (Nat.le_of_ble_eq_true rfl) ?_
    (repeat' (first | refine sk ?_ | refine mv ?_ | refine asg ?_ | refine ld ?_ | refine fp ?_ | refine bt ?_ | refine bf ?_ | refine un ?_ | refine pt ?_ | refine pf ?_ | refine ln ?_ | refine la ?_ | refine aops_nil ?_ | refine aw_seq ?_ | refine aw_region ?_ | refine aw_cond_t rfl ?_ | refine aw_ret ?_ | refine bx 0 ?_ | refine cl (fixed12_ok) ?_ | refine cl (c0) ?_ | fail))
    exact fin (sh_bv rfl)
  by_cases h : ctxB H c = true
  rotate_left
  · have cm := (rCMay_ok H hin c).to' (congrArg bv (eq_false_of_ne_true h))
    refine gives_of Try.func5 rfl (Nat.le_of_ble_eq_true rfl) ?_
    (repeat' (first | refine mv ?_ | refine asg ?_ | refine ld ?_ | refine fp ?_ | refine bf ?_ | refine un ?_ | refine pf ?_ | refine ln ?_ | refine la ?_ | refine aops_nil ?_ | refine aw_seq ?_ | refine aw_region ?_ | refine aw_cond_t rfl ?_ | refine aw_ret ?_ | refine bx 0 ?_ | refine cl (fixed12_ok) ?_ | refine cl (c0) ?_ | refine cl (cm) ?_ | fail))
    exact fin (sh_bv rfl)
  have cm := (rCMay_ok H hin c).to' (congrArg bv h)
  have cs := rslots_c hin h
  have c2 := rmeth_c hin h
  obtain ⟨hm, hc, hcl, hl, hmt, r0, r5, hip, hsp⟩ := ctxB_iff.1 h
  obtain ⟨s0, s1, s2, s3⟩ := ctx_sp h
  have hls : (encInts (H.at' c).slots).length = 22 := by rw [len_ints, hl]
  have g3 := ints_get (sl_get (o := H.at' c) (k := 3) (by omega))
  have cT := Temp_ok H hin c 0
  have hin' : ∀ n i, Stk H c l n i → (stH H c l n i).In := fun n i hst => ctxPut_in hin hc.1 (stS_len _ _ _ _ _) (stS_has hst)
  have hst0 : Stk H c l 0 0 := ⟨h, Nat.le_refl _, Nat.zero_le _, by omega, fun k x hk => by omega⟩
  refine gives_of Try.func5 rfl (Nat.le_of_ble_eq_true rfl) ?_
  (repeat' (first | refine mv ?_ | refine asg ?_ | refine ld ?_ | refine fp ?_ | refine bf ?_ | refine un ?_ | refine pf ?_ | refine ln ?_ | refine la ?_ | refine aops_nil ?_ | refine aw_seq ?_ | refine aw_region ?_ | refine aw_cond_f rfl ?_ | refine aw_skip ?_ | refine bx 0 ?_ | refine cl (fixed12_ok) ?_ | refine cl (c0) ?_ | refine cl (cm) ?_ | fail))
  refine aw_drawP 13 [(10, 1, .live 32 5 [[iv 0, iv 0, iv 0, .v (.slice none 0 0), .v (.slice none 0 0)]], none), (11, 1, .live 32 5 [encMethod (mthX H ((H.at' c).sl 3))], none)] ?_
  (repeat' (first | refine dPn ?_ | refine dP (fun _ => y_move) ?_ | refine dP (fun _ => y_assign) ?_ | refine dP (fun _ => y_extract) ?_ | refine dP (fun _ => y_load) ?_ | refine dP (fun _ => y_loadsN) ?_ | refine dPS (fun _ => y_storeV) ?_ | refine dP (fun _ => y_iaddrN 3 g3) ?_ | refine dP (fun _ => y_call (cs)) ?_ | refine dP (fun _ => y_call (c2)) ?_ | refine dPE (fun _ => y_allocU 1) ?_ | fail))
  refine aops_nil (aw_seq (aw_region ?_))
  (repeat' (first | refine asg ?_ | refine la ?_ | refine so ?_ | refine aops_nil ?_ | refine al 2 ?_ | fail))
  refine aw_seq (aw_region ?_)
  (repeat' (first | refine mv ?_ | refine asg ?_ | refine ex ?_ | refine la ?_ | refine aops_nil ?_ | refine cl (cT) ?_ | fail))
  refine aw_cuts (ι := {n : Nat // Stk H c l n n}) (fun n => ⟨skF H c l n.1, tb (skT H (stH H c l n.1 n.1) c)⟩) ?_ ?_
  · refine aw_seq (aw_region ?_)
    (repeat' (first | refine asg ?_ | refine aops_nil ?_ | fail))
    refine aw_block ?_
    refine aw_for l.length (fun k => Stk H c l k k) (fun k => ⟨skE H c l k, tb (skT H (stH H c l k k) c)⟩) 0 hst0 ?_ ?_
    · rw [st_zero h]
      refine ent_tb id (skT H H c) ?_ ?_ <;> (repeat' (first | exact trivial | exact fz_v _ | exact .ptr _ _ _ _ rfl (ne_live rfl) | exact fzL_to (noOwn_heapc _) | exact fzL_to (noOwn_mth _) | exact .same _ (noOwn_ints _ _) | refine ⟨_, rfl, ?_⟩ | refine ⟨?_, ?_⟩ | refine .one _ _ _ _ rfl rfl ?_ | fail))
    intro k hst
    have hkl := hst.len
    (repeat' (first | refine mv ?_ | refine bi ?_ | refine ln ?_ | refine aops_nil ?_ | refine aw_seq ?_ | refine aw_region ?_ | fail))
    refine aw_cond rfl (fun h2 => ?_) (fun h2 => ?_) <;> simp at h2
    · have ga : l[k]? = some (l[k]'h2) := List.getElem?_eq_getElem _
      generalize hy : l[k]'h2 = y at ga
      have cp := Push_ok _ (hin' k k hst) c y
      refine aw_skip (aw_seq (aw_block (aw_seq ?_)))
      rcases st_push hst ga with ⟨hE, _⟩ | ⟨hE, hH, hst'⟩
      · rw [show pushH (stH H c l k k) c y = stH H c l k k by rw [pushH, if_neg hE]] at cp
        refine aw_drawP 13 [(10, 4, .live 24 3 [[.v (.slice none 0 0), iv 0, iv 0]], none), (11, 4, .live 24 3 [encHeap (stH H c l k k)], none)] ?_
        (repeat' (first | refine dPn ?_ | refine dP (fun _ => y_move) ?_ | refine dP (fun _ => y_assign) ?_ | refine dP (fun _ => y_extract) ?_ | refine dP (fun _ => y_load) ?_ | refine dP (fun _ => y_loadsN) ?_ | refine dPS (fun _ => y_storeV) ?_ | refine dP (fun _ => y_iaddrN k (ints_get ga)) ?_ | refine dP (fun _ => y_call (cp)) ?_ | refine dPE (fun _ => y_allocU 4) ?_ | fail))
        (repeat' (first | refine mv ?_ | refine bt ?_ | refine aops_nil ?_ | refine aw_seq ?_ | refine aw_region ?_ | refine aw_cond_t rfl ?_ | refine aw_exit ?_ | fail))
        refine ⟨⟨k, hst⟩, ?_⟩
        refine ent_tb id (skT H (stH H c l k k) c) ?_ ?_ <;> (repeat' (first | exact trivial | exact fz_v _ | exact .ptr _ _ _ _ rfl (ne_live rfl) | exact fzL_to (noOwn_heapc _) | exact fzL_to (noOwn_mth _) | exact .same _ (noOwn_ints _ _) | refine ⟨_, rfl, ?_⟩ | refine ⟨?_, ?_⟩ | refine .one _ _ _ _ rfl rfl ?_ | fail))
      · rw [hE, hH] at cp
        have cM := (FMay_ok _ (hin' _ _ hst') c).to' (congrArg bv (st_ctx hst').1)
        refine aw_drawP 13 [(10, 4, .live 24 3 [[.v (.slice none 0 0), iv 0, iv 0]], none), (11, 4, .live 24 3 [encHeap (stH H c l (k + 1) (k + 1))], none)] ?_
        (repeat' (first | refine dPn ?_ | refine dP (fun _ => y_move) ?_ | refine dP (fun _ => y_assign) ?_ | refine dP (fun _ => y_extract) ?_ | refine dP (fun _ => y_load) ?_ | refine dP (fun _ => y_loadsN) ?_ | refine dPS (fun _ => y_storeV) ?_ | refine dP (fun _ => y_iaddrN k (ints_get ga)) ?_ | refine dP (fun _ => y_call (cp)) ?_ | refine dPE (fun _ => y_allocU 4) ?_ | fail))
        (repeat' (first | refine mv ?_ | refine asg ?_ | refine bf ?_ | refine bw ?_ | refine un ?_ | refine la ?_ | refine so ?_ | refine aops_nil ?_ | refine aw_seq ?_ | refine aw_region ?_ | refine aw_cond_f rfl ?_ | refine aw_skip ?_ | refine cl (cM) ?_ | fail))
        refine ⟨h2, hst', ?_⟩
        refine ent_tb id (skT H (stH H c l (k + 1) (k + 1)) c) ?_ ?_ <;> (repeat' (first | exact trivial | exact fz_v _ | exact .ptr _ _ _ _ rfl (ne_live rfl) | exact fzL_to (noOwn_heapc _) | exact fzL_to (noOwn_mth _) | exact .same _ (noOwn_ints _ _) | refine ⟨_, rfl, ?_⟩ | refine ⟨?_, ?_⟩ | refine .one _ _ _ _ rfl rfl ?_ | fail))
    · (repeat' (first | refine aw_exit ?_ | fail))
      refine ⟨⟨k, hst⟩, ?_⟩
      refine ent_tb id (skT H (stH H c l k k) c) ?_ ?_ <;> (repeat' (first | exact trivial | exact fz_v _ | exact .ptr _ _ _ _ rfl (ne_live rfl) | exact fzL_to (noOwn_heapc _) | exact fzL_to (noOwn_mth _) | exact .same _ (noOwn_ints _ _) | refine ⟨_, rfl, ?_⟩ | refine ⟨?_, ?_⟩ | refine .one _ _ _ _ rfl rfl ?_ | fail))
  · rintro ⟨n, hst⟩
    show AWp _ _ _ _ ⟨skF H c l n, tb (skT H (stH H c l n n) c)⟩
    obtain ⟨t1, t2⟩ := st_temp hst
    have cT2 := Temp_ok _ (hin' n n hst) c 0
    rw [t1, t2] at cT2
    have hnl := hst.len
    have htm : (mthX H ((H.at' c).sl 3)).temps = (ctxX H c).mth.temps := rfl
    by_cases ht : 0 < (ctxX H c).mth.temps
    · have hE0 : tempE H c 0 = 0 := by rw [tempE, if_pos h, if_pos ⟨Int.le_refl _, ht⟩]
      have ht' : 0 < (mthX H ((H.at' c).sl 3)).temps := ht
      (repeat' (first | refine mv ?_ | refine asg ?_ | refine ld ?_ | refine fp ?_ | refine bt ?_ | refine bf ?_ | refine bw ?_ | refine pf ?_ | refine ex ?_ | refine la ?_ | refine aops_nil ?_ | refine aw_seq ?_ | refine aw_region ?_ | refine aw_cond_f rfl ?_ | refine aw_block ?_ | refine aw_skip ?_ | refine cl (cT2) ?_ | fail))
      refine aw_loop (ι := {j : Nat // Stk H c l n j}) (fun j => ⟨skG c l j.1, tb [(0, .live 24 3 [encHeap H]), (2, .live 24 3 [encHeap (stH H c l n j.1)])]⟩) (fun j => j.1) ⟨n, hst⟩ ?_ ?_
      · refine ent_tb id [(0, .live 24 3 [encHeap H]), (2, .live 24 3 [encHeap (stH H c l n n)])] ?_ ?_ <;> (repeat' (first | exact trivial | exact fz_v _ | exact .ptr _ _ _ _ rfl (ne_live rfl) | exact fzL_to (noOwn_heapc _) | exact .same _ (noOwn_ints _ _) | refine ⟨_, rfl, ?_⟩ | refine ⟨?_, ?_⟩ | refine .one _ _ _ _ rfl rfl ?_ | fail))
      rintro ⟨j, hsj⟩
      cases j with
      | zero =>
        show AWp _ _ _ _ ⟨skG c l 0, tb [(0, .live 24 3 [encHeap H]), (2, .live 24 3 [encHeap (stH H c l n 0)])]⟩
        have cC := clean_ok H hin c l n hsj
        (repeat' (first | refine mv ?_ | refine asg ?_ | refine bf ?_ | refine la ?_ | refine aops_nil ?_ | refine aw_seq ?_ | refine aw_region ?_ | refine aw_cond_f rfl ?_ | refine aw_exit ?_ | refine aw_ret ?_ | refine cl (cC) ?_ | fail))
        exact fin (sh_bv rfl)
      | succ i =>
        show AWp _ _ _ _ ⟨skG c l (i + 1), tb [(0, .live 24 3 [encHeap H]), (2, .live 24 3 [encHeap (stH H c l n (i + 1))])]⟩
        have hle := hsj.le
        have ga : l[i]? = some (l[i]'(by omega)) := List.getElem?_eq_getElem _
        generalize hy : l[i]'(by omega) = y at ga
        obtain ⟨p1, p2, p3, p4⟩ := st_pop hsj ga
        have cP := (Pop_ok _ (hin' _ _ hsj) c).to' (by rw [p1, p2, p3])
        have hni : (((i + 1 : Nat) : Int)) - 1 = (i : Int) := by omega
        (repeat' (first | refine mv ?_ | refine asg ?_ | refine ld ?_ | refine bt ?_ | refine bf ?_ | refine bw ?_ | refine pf ?_ | refine ex ?_ | refine la ?_ | refine so ?_ | refine aops_nil ?_ | refine aw_seq ?_ | refine aw_region ?_ | refine aw_cond_t rfl ?_ | refine aw_cond_f rfl ?_ | refine aw_block ?_ | refine aw_skip ?_ | refine al 1 ?_ | refine cl (cP) ?_ | refine ia i (ints_get ga) ?_ (hn := hni) | fail))
        refine ⟨⟨i, p4⟩, by show i < i + 1; omega, ?_⟩
        refine ent_tb id [(0, .live 24 3 [encHeap H]), (2, .live 24 3 [encHeap (stH H c l n i)])] ?_ ?_
        · (repeat' (first | exact trivial | exact fzL_to (noOwn_heapc _) | refine ⟨?_, ?_⟩ | refine .one _ _ _ _ rfl rfl ?_ | fail))
        · refine ⟨⟨_, rfl, ?_⟩, ?_⟩
          · show Fz _ _ _ _ (iv ((i : Int) - 1))
            rw [hni]; exact fz_v _
          · (repeat' (first | exact trivial | exact fz_v _ | exact .ptr _ _ _ _ rfl (ne_live rfl) | exact .same _ (noOwn_ints _ _) | refine ⟨_, rfl, ?_⟩ | refine ⟨?_, ?_⟩ | fail))
    · have hE0 : tempE H c 0 = 121 := by rw [tempE, if_pos h, if_neg (fun e => ht e.2)]
      have ht' : ¬ 0 < (mthX H ((H.at' c).sl 3)).temps := ht
      (repeat' (first | refine mv ?_ | refine asg ?_ | refine ld ?_ | refine fp ?_ | refine bf ?_ | refine bw ?_ | refine pf ?_ | refine ex ?_ | refine la ?_ | refine aops_nil ?_ | refine aw_seq ?_ | refine aw_region ?_ | refine aw_cond_f rfl ?_ | refine aw_block ?_ | refine aw_skip ?_ | refine cl (cT2) ?_ | fail))
      refine aw_loop (ι := {j : Nat // Stk H c l n j}) (fun j => ⟨skG c l j.1, tb [(0, .live 24 3 [encHeap H]), (2, .live 24 3 [encHeap (stH H c l n j.1)])]⟩) (fun j => j.1) ⟨n, hst⟩ ?_ ?_
      · refine ent_tb id [(0, .live 24 3 [encHeap H]), (2, .live 24 3 [encHeap (stH H c l n n)])] ?_ ?_ <;> (repeat' (first | exact trivial | exact fz_v _ | exact .ptr _ _ _ _ rfl (ne_live rfl) | exact fzL_to (noOwn_heapc _) | exact .same _ (noOwn_ints _ _) | refine ⟨_, rfl, ?_⟩ | refine ⟨?_, ?_⟩ | refine .one _ _ _ _ rfl rfl ?_ | fail))
      rintro ⟨j, hsj⟩
      cases j with
      | zero =>
        show AWp _ _ _ _ ⟨skG c l 0, tb [(0, .live 24 3 [encHeap H]), (2, .live 24 3 [encHeap (stH H c l n 0)])]⟩
        have cC := clean_ok H hin c l n hsj
        (repeat' (first | refine mv ?_ | refine asg ?_ | refine bf ?_ | refine la ?_ | refine aops_nil ?_ | refine aw_seq ?_ | refine aw_region ?_ | refine aw_cond_f rfl ?_ | refine aw_exit ?_ | refine aw_ret ?_ | refine cl (cC) ?_ | fail))
        exact fin (sh_bv rfl)
      | succ i =>
        show AWp _ _ _ _ ⟨skG c l (i + 1), tb [(0, .live 24 3 [encHeap H]), (2, .live 24 3 [encHeap (stH H c l n (i + 1))])]⟩
        have hle := hsj.le
        have ga : l[i]? = some (l[i]'(by omega)) := List.getElem?_eq_getElem _
        generalize hy : l[i]'(by omega) = y at ga
        obtain ⟨p1, p2, p3, p4⟩ := st_pop hsj ga
        have cP := (Pop_ok _ (hin' _ _ hsj) c).to' (by rw [p1, p2, p3])
        have hni : (((i + 1 : Nat) : Int)) - 1 = (i : Int) := by omega
        (repeat' (first | refine mv ?_ | refine asg ?_ | refine ld ?_ | refine bt ?_ | refine bf ?_ | refine bw ?_ | refine pf ?_ | refine ex ?_ | refine la ?_ | refine so ?_ | refine aops_nil ?_ | refine aw_seq ?_ | refine aw_region ?_ | refine aw_cond_t rfl ?_ | refine aw_cond_f rfl ?_ | refine aw_block ?_ | refine aw_skip ?_ | refine al 1 ?_ | refine cl (cP) ?_ | refine ia i (ints_get ga) ?_ (hn := hni) | fail))
        refine ⟨⟨i, p4⟩, by show i < i + 1; omega, ?_⟩
        refine ent_tb id [(0, .live 24 3 [encHeap H]), (2, .live 24 3 [encHeap (stH H c l n i)])] ?_ ?_
        · (repeat' (first | exact trivial | exact fzL_to (noOwn_heapc _) | refine ⟨?_, ?_⟩ | refine .one _ _ _ _ rfl rfl ?_ | fail))
        · refine ⟨⟨_, rfl, ?_⟩, ?_⟩
          · show Fz _ _ _ _ (iv ((i : Int) - 1))
            rw [hni]; exact fz_v _
          · (repeat' (first | exact trivial | exact fz_v _ | exact .ptr _ _ _ _ rfl (ne_live rfl) | exact .same _ (noOwn_ints _ _) | refine ⟨_, rfl, ?_⟩ | refine ⟨?_, ?_⟩ | fail))
end Go.Proofs.Ytbmldjcddpblnaa
