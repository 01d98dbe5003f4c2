/- What the statements' walks need. -/
import Derived.Test.YtbmldjcddpblnaaMQa4
import Derived.Test.YtbmldjcddpblnaaMQx42
set_option linter.unusedVariables false
set_option linter.unusedSimpArgs false
set_option maxRecDepth 100000
namespace Go.Proofs.Ytbmldjcddpblnaa
open Go Go.Proofs AW
theorem app_ref {H : HHeap} {o : HObj} {cap last v : Int} (h : 0 ≤ H.ref v) : (⟨H.objs ++ [o], cap, last⟩ : HHeap).ref v = H.ref v := by
  have h' := h
  simp only [HHeap.ref, refI] at h' ⊢
  split at h'
  · rename_i h1
    rw [if_pos h1, if_pos ⟨h1.1, by simp; omega⟩]
  · omega
theorem app_at {H : HHeap} {o : HObj} {cap last v : Int} (h : 0 ≤ H.ref v) : (⟨H.objs ++ [o], cap, last⟩ : HHeap).at' v = H.at' v := by
  simp only [HHeap.at', app_ref h]
  rw [List.getElem?_append_left (ref_lt h)]
theorem app_is {H : HHeap} {o : HObj} {cap last v k : Int} (h : H.is v k) : (⟨H.objs ++ [o], cap, last⟩ : HHeap).is v k := ⟨by rw [app_ref h.1]; exact h.1, by rw [app_at h.1]; exact h.2⟩
theorem app_mth {H : HHeap} {o : HObj} {cap last m : Int} (h : mthB H m = true) : mthB ⟨H.objs ++ [o], cap, last⟩ m = true ∧ mthX ⟨H.objs ++ [o], cap, last⟩ m = mthX H m := by
  have h' := h
  simp only [mthB, Bool.and_eq_true, decide_eq_true_eq] at h'
  obtain ⟨⟨hm1, hm2⟩, ⟨ht, hL⟩, hu, hq, hk⟩ := h'
  have e1 := app_at (o := o) (cap := cap) (last := last) hm1.1
  have e2 := app_at (o := o) (cap := cap) (last := last) ht.1
  have e3 := app_at (o := o) (cap := cap) (last := last) hL.1
  have x : mthX ⟨H.objs ++ [o], cap, last⟩ m = mthX H m := by simp only [mthX, e1, e2, e3]
  refine ⟨?_, x⟩
  simp only [mthB, Bool.and_eq_true, decide_eq_true_eq, x, e1, e2]
  exact ⟨⟨app_is hm1, hm2⟩, ⟨app_is ht, app_is hL⟩, hu, hq, hk⟩
theorem mth_ne {H : HHeap} {m : Int} (h : mthB H m = true) : 0 < (mthX H m).code.length := by
  simp only [mthB, checkB, Bool.and_eq_true, decide_eq_true_eq] at h
  have := h.2.2.2.2.1
  omega
theorem fresh {H : HHeap} {s m r home : Int} {args : List Int} (h : newE H s m r home args = 0) :
    newV H s m r home args = 2 * (H.objs.length : Int) ∧ ctxB (newHp H s m r home args) (2 * (H.objs.length : Int)) = true ∧ (ctxX (newHp H s m r home args) (2 * (H.objs.length : Int))).ip = 0 ∧
    (ctxX (newHp H s m r home args) (2 * (H.objs.length : Int))).mth = mthX H m ∧ ((newHp H s m r home args).at' (2 * (H.objs.length : Int))).slots = newSl H s m r home args := by
  have hv : newV H s m r home args = 2 * (H.objs.length : Int) := by rw [newV, if_pos h]
  obtain ⟨hm, hn, hs, hh, hr, hl, h7, h0⟩ := new_yes h
  have hmth : mthB H m = true := by simp only [methB, Bool.and_eq_true] at hm; exact hm.2
  obtain ⟨a0, a1, a2, a3⟩ := mth_args hmth
  have h256 := mayH_len (alloc0 h0).1
  have hG : newHp H s m r home args = ⟨H.objs ++ [{ newObj H 12 0 22 with slots := newSl H s m r home args }], H.cap, nextI H.last⟩ := by rw [newHp, if_pos h]
  have hM := newHp_may h
  rw [hG] at hM ⊢
  have hat : isAt (2 * (H.objs.length : Int)) = true := by simp [isAt]; omega
  have href : (⟨H.objs ++ [{ newObj H 12 0 22 with slots := newSl H s m r home args }], H.cap, nextI H.last⟩ : HHeap).ref (2 * (H.objs.length : Int)) = H.objs.length := by
    simp only [HHeap.ref, refI]
    rw [if_pos ⟨hat, by simp; omega⟩]; omega
  have hobj : (⟨H.objs ++ [{ newObj H 12 0 22 with slots := newSl H s m r home args }], H.cap, nextI H.last⟩ : HHeap).at' (2 * (H.objs.length : Int)) = { newObj H 12 0 22 with slots := newSl H s m r home args } := by
    rw [HHeap.at', href]; simp
  obtain ⟨b1, b2⟩ := app_mth (o := { newObj H 12 0 22 with slots := newSl H s m r home args }) (cap := H.cap) (last := nextI H.last) hmth
  have hlen : (newSl H s m r home args).length = 22 := by simp [newSl]; omega
  have t0 : ∀ (k : Nat) (x : Int), (newSl H s m r home args)[k]? = some x → ((⟨H.objs ++ [{ newObj H 12 0 22 with slots := newSl H s m r home args }], H.cap, nextI H.last⟩ : HHeap).at' (2 * (H.objs.length : Int))).sl k = x := fun k x hx => by
    rw [hobj]; simp [HObj.sl, hx]
  have k0 := t0 0 s rfl
  have k1 := t0 1 1 rfl
  have k2 := t0 2 (2 * (mthX H m).temps + 1) rfl
  have k3 := t0 3 m rfl
  have k5 := t0 5 (if home = 0 then 2 * (H.objs.length : Int) else home) rfl
  have hc0 := mth_ne hmth
  have hip : smI 1 (((mthX H m).code.length : Int) - 1) = 0 := sm_of (n := 0) (by omega) (by omega) (by omega)
  have hsp : smI (2 * (mthX H m).temps + 1) 16 = (mthX H m).temps := sm_of (by omega) (by omega) (by omega)
  refine ⟨hv, ?_, ?_, ?_, by rw [hobj]⟩
  · rw [ctxB_iff]
    refine ⟨hM, ⟨by rw [href]; omega, by rw [hobj]; rfl⟩, by rw [hobj]; rfl, by rw [hobj]; exact hlen, by rw [k3]; exact b1, by rw [k0, app_ref hs]; exact hs, ?_, by rw [k1, k3, b2, hip]; omega, by rw [k2, k3, b2, hsp]; exact Int.le_refl _⟩
    rw [k5]
    split
    · rw [href]; omega
    · rw [app_ref hh]; exact hh
  · simp only [ctxX, k1, k3, b2, hip]
  · simp only [ctxX, k3, b2]
theorem ins_nsame (t : TypeId) (p q : Operand) (x : HInstr) (w : World) (ht : t = 37) : (do eqGuard .neq t p q (.agg [.int .i64 x.op, .int .i64 x.arg].toArray) (.agg [.int .i64 x.op, .int .i64 x.arg].toArray); binOp .neq t (.agg [.int .i64 x.op, .int .i64 x.arg].toArray) (.agg [.int .i64 x.op, .int .i64 x.arg].toArray) : Sem Value).run Try.prog w = .ok (.bool false) w := by
  rw [ins_neq t 0 p q x x w ht]; simp
def frE (c : Int) (k : Nat) : List (Nat × AV) := [(13, iv (k : Int)), (2, .ptr 0 0 0), (3, .ptr 1 0 0), (5, .ptr 2 0 0), (8, .ptr 3 0 0), (6, iv c)]
set_option maxHeartbeats 16000000 in
theorem ffresh_ok (H : HHeap) (hi : H.Big) (s m r home : Int) (args : List Int) (ha : args.length < 17592186044416) : Gives Try.prog 6 [.agg (encHeap H), .agg [iv s, iv m, iv r, iv home, .sl 1 (encInts args)]] (bv true) := by
  have hlo : (encObjs H.objs).length = H.objs.length := len_objs _
  have hla : (encInts args).length = args.length := len_ints _
  by_cases hs : smallH H = true
  rotate_left
  · have c0 := (rSmall_ok H hi).to' (congrArg bv (eq_false_of_ne_true hs))
    refine gives_of Try.func6 rfl (Nat.le_of_ble_eq_true rfl) ?_
    (repeat' (first | refine sk ?_ | refine mv ?_ | refine asg ?_ | refine un ?_ | refine pt ?_ | refine pf ?_ | refine la ?_ | refine aops_nil ?_ | refine aw_seq ?_ | refine aw_region ?_ | refine aw_cond_t rfl ?_ | refine aw_ret ?_ | refine bx 0 ?_ | refine bx 1 ?_ | refine cl (fixed12_ok) ?_ | refine cl (c0) ?_ | fail))
    exact fin (sh_bv rfl)
  have hin := small_in hi hs
  have c0 := (rSmall_ok H hi).to' (congrArg bv hs)
  by_cases hn : H.objs.length ≤ 60
  rotate_left
  · refine gives_of Try.func6 rfl (Nat.le_of_ble_eq_true rfl) ?_
    (repeat' (first | refine sk ?_ | refine mv ?_ | refine asg ?_ | refine ld ?_ | refine fp ?_ | refine bt ?_ | refine un ?_ | refine pt ?_ | refine pf ?_ | refine ln ?_ | refine la ?_ | refine aops_nil ?_ | refine aw_seq ?_ | refine aw_region ?_ | refine aw_cond_t rfl ?_ | refine aw_ret ?_ | refine bx 0 ?_ | refine bx 1 ?_ | refine cl (fixed12_ok) ?_ | refine cl (c0) ?_ | fail))
    exact fin (sh_bv rfl)
  by_cases hk : args.length ≤ 20
  rotate_left
  · refine gives_of Try.func6 rfl (Nat.le_of_ble_eq_true rfl) ?_
    (repeat' (first | refine sk ?_ | refine mv ?_ | refine asg ?_ | refine ld ?_ | refine fp ?_ | refine bt ?_ | refine bf ?_ | refine un ?_ | refine pt ?_ | refine pf ?_ | refine ln ?_ | refine la ?_ | refine aops_nil ?_ | refine aw_seq ?_ | refine aw_region ?_ | refine aw_cond_t rfl ?_ | refine aw_ret ?_ | refine bx 0 ?_ | refine bx 1 ?_ | refine cl (fixed12_ok) ?_ | refine cl (c0) ?_ | fail))
    exact fin (sh_bv rfl)
  by_cases hm : mayH H = true
  rotate_left
  · have cm := (rMay_ok H hin).to' (congrArg bv (eq_false_of_ne_true hm))
    refine gives_of Try.func6 rfl (Nat.le_of_ble_eq_true rfl) ?_
    (repeat' (first | refine mv ?_ | refine asg ?_ | refine ld ?_ | refine fp ?_ | refine bf ?_ | refine un ?_ | refine pf ?_ | refine ln ?_ | refine la ?_ | refine aops_nil ?_ | refine aw_seq ?_ | refine aw_region ?_ | refine aw_cond_t rfl ?_ | refine aw_ret ?_ | refine bx 0 ?_ | refine bx 1 ?_ | refine cl (fixed12_ok) ?_ | refine cl (c0) ?_ | refine cl (cm) ?_ | fail))
    exact fin (sh_bv rfl)
  have cm := (rMay_ok H hin).to' (congrArg bv hm)
  have ha' : args.length < 1099511627776 := by omega
  have cn := New_ok H hin s m r home args ha'
  by_cases hE : newE H s m r home args = 0
  rotate_left
  · rw [show newHp H s m r home args = H by rw [newHp, if_neg hE], show newV H s m r home args = 0 by rw [newV, if_neg hE]] at cn
    refine gives_of Try.func6 rfl (Nat.le_of_ble_eq_true rfl) ?_
    (repeat' (first | refine mv ?_ | refine asg ?_ | refine ld ?_ | refine fp ?_ | refine bt ?_ | refine bf ?_ | refine un ?_ | refine pt ?_ | refine pf ?_ | refine ex ?_ | refine ln ?_ | refine la ?_ | refine so ?_ | refine aops_nil ?_ | refine aw_seq ?_ | refine aw_region ?_ | refine aw_cond_t rfl ?_ | refine aw_cond_f rfl ?_ | refine aw_skip ?_ | refine aw_ret ?_ | refine bx 0 ?_ | refine bx 1 ?_ | refine al 2 ?_ | refine cl (fixed12_ok) ?_ | refine cl (c0) ?_ | refine cl (cm) ?_ | refine cl (cn) ?_ | refine cl (rSame_id H hin) ?_ | fail))
    exact fin (sh_bv rfl)
  obtain ⟨f1, f2, f3, f4, f5⟩ := fresh hE
  obtain ⟨hmB, hna, _, _, _, _, _, h0⟩ := new_yes hE
  have hmth : mthB H m = true := by simp only [methB, Bool.and_eq_true] at hmB; exact hmB.2
  obtain ⟨a0, a1, a2, a3⟩ := mth_args hmth
  rw [hE, f1] at cn
  have hgin : (newHp H s m r home args).In := newHp_in hin
  have hGo : ∀ (i : Nat) (o : HObj), H.objs[i]? = some o → (newHp H s m r home args).objs[i]? = some o := fun i o ho => by
    rw [newHp, if_pos hE]
    show (H.objs ++ _)[i]? = _
    rw [List.getElem?_append_left (List.getElem?_eq_some_iff.1 ho).1]; exact ho
  have hsl : ∀ k : Nat, (k : Int) < (mthX H m).temps → tempE (newHp H s m r home args) (2 * (H.objs.length : Int)) k = 0 ∧ tempI (newHp H s m r home args) (2 * (H.objs.length : Int)) k = (args[k]?).getD 0 := by
    intro k hkt
    have hEt : tempE (newHp H s m r home args) (2 * (H.objs.length : Int)) k = 0 := by rw [tempE, if_pos f2, if_pos ⟨by omega, by rw [f4]; exact hkt⟩]
    refine ⟨hEt, ?_⟩
    rw [tempI, if_pos hEt, HObj.sl, f5, Int.toNat_natCast]
    by_cases hka : k < args.length
    · have e1 : (newSl H s m r home args)[6 + k]? = args[k]? := by
        rw [newSl, List.getElem?_append_left (by simp; omega), List.getElem?_append_right (by simp)]; simp
      rw [e1]
    · have e1 : (newSl H s m r home args)[6 + k]? = some 0 := by
        rw [newSl, List.getElem?_append_right (by simp; omega), List.getElem?_replicate, if_pos (by simp; omega)]
      rw [e1, List.getElem?_eq_none (by omega)]; rfl
  generalize hG : newHp H s m r home args = G at *
  generalize hcc : 2 * (H.objs.length : Int) = c at *
  have c2 := (rMethod_ok H hin m).to' (y := .tup [.agg (encMethod (mthX H m)), iv 0]) (by rw [methM, if_pos hmB, methE, if_pos hmB])
  have hc0 := mth_ne hmth
  have g1 : (mthX H m).code[0]? = some ((mthX H m).code[0]'hc0) := List.getElem?_eq_getElem _
  generalize hx : (mthX H m).code[0]'hc0 = x at g1
  have hgc : (encCode (mthX H m).code)[0]? = some (encInstr x) := code_get g1
  have hax : atN G c = x := by rw [atN, if_pos f2, f4, f3]; show ((mthX H m).code[0]?).getD noIns = x; rw [g1]; rfl
  have hat := (At_f_ok G hgin c).to' (y := .tup [iv 0, .agg (encInstr x), iv 0]) (by rw [atP, if_pos f2, atE, if_pos f2, f3, hax])
  have cM := (FMay_ok G hgin c).to' (congrArg bv f2)
  have hc2 : c = 2 * ((encObjs H.objs).length : Int) := by rw [hlo]; exact hcc.symm
  subst hc2
  refine gives_of Try.func6 rfl (Nat.le_of_ble_eq_true rfl) ?_
  (repeat' (first | refine mv ?_ | refine asg ?_ | refine ld ?_ | refine fp ?_ | refine bf ?_ | refine un ?_ | refine pf ?_ | refine ex ?_ | refine ln ?_ | refine la ?_ | refine so ?_ | refine aops_nil ?_ | refine aw_seq ?_ | refine aw_region ?_ | refine aw_cond_f rfl ?_ | refine aw_skip ?_ | refine bx 0 ?_ | refine bx 1 ?_ | refine al 2 ?_ | refine al 3 ?_ | refine al 4 ?_ | refine cl (fixed12_ok) ?_ | refine cl (c0) ?_ | refine cl (cm) ?_ | refine cl (cn) ?_ | refine cl (c2) ?_ | refine cl (hat) ?_ | fail))
  refine aw_drawP 28 [] ?_
  (repeat' (first | refine dPn ?_ | refine dP (fun _ => y_move) ?_ | refine dP (fun _ => y_load) ?_ | refine dP (fun _ => y_faddr_ptr (hs := Nat.le_of_ble_eq_true rfl)) ?_ | refine dP (fun _ => y_bf) ?_ | refine dP (fun _ => y_bw) ?_ | refine dP (fun _ => y_un) ?_ | refine dP (fun _ => y_pick_f) ?_ | refine dP (fun _ => y_len) ?_ | refine dP (fun _ => y_loadsN) ?_ | refine dP (fun _ => y_call (cM)) ?_ | refine dP (fun _ => y_iaddrN 0 hgc) ?_ | refine dP (fun _ => y_binA [.int .i64 x.op, .int .i64 x.arg] [.int .i64 x.op, .int .i64 x.arg] (hrun := fun w => ins_nsame _ _ _ x w rfl)) ?_ | fail))
  (repeat' (first | refine asg ?_ | refine aops_nil ?_ | refine aw_seq ?_ | refine aw_region ?_ | refine aw_cond_f rfl ?_ | refine aw_block ?_ | refine aw_skip ?_ | fail))
  refine aw_forE (mthX H m).temps.toNat (fun k => (k : Int) ≤ (mthX H m).temps) (frE (2 * ((encObjs H.objs).length : Int))) 0 (by omega) ⟨rfl, rfl, rfl, rfl, rfl, rfl, trivial⟩ ?_
  · intro k hk
    (repeat' (first | refine mv ?_ | refine ld ?_ | refine fp ?_ | refine bi ?_ | refine aops_nil ?_ | refine aw_seq ?_ | refine aw_region ?_ | fail))
    refine aw_cond rfl (fun h => ?_) (fun h => ?_) <;> simp at h
    · obtain ⟨t1, t2⟩ := hsl k h
      have ct := Temp_ok G hgin (2 * ((encObjs H.objs).length : Int)) k
      rw [t1, t2] at ct
      by_cases hka : k < args.length
      · have ga : args[k]? = some (args[k]'hka) := List.getElem?_eq_getElem _
        generalize hy : args[k]'hka = y at ga
        rw [ga] at ct
        have ct : Gives Try.prog 17 [.agg (encHeap G), iv (2 * ((encObjs H.objs).length : Int)), iv (k : Int)] (.tup [iv y, iv 0]) := ct
        (repeat' (first | refine sk ?_ | refine mv ?_ | refine asg ?_ | refine ld ?_ | refine fp ?_ | refine bt ?_ | refine bf ?_ | refine bw ?_ | refine pt ?_ | refine pf ?_ | refine ex ?_ | refine ln ?_ | refine la ?_ | refine aops_nil ?_ | refine aw_seq ?_ | refine aw_region ?_ | refine aw_cond_f rfl ?_ | refine aw_block ?_ | refine aw_skip ?_ | refine cl (ct) ?_ | refine ia k (ints_get ga) ?_ | fail))
        exact ⟨by omega, by omega, rfl, rfl, rfl, rfl, rfl, rfl, rfl, trivial⟩
      · have ga : args[k]? = none := List.getElem?_eq_none (by omega)
        rw [ga] at ct
        have ct : Gives Try.prog 17 [.agg (encHeap G), iv (2 * ((encObjs H.objs).length : Int)), iv (k : Int)] (.tup [iv 0, iv 0]) := ct
        (repeat' (first | refine sk ?_ | refine mv ?_ | refine asg ?_ | refine ld ?_ | refine fp ?_ | refine bt ?_ | refine bf ?_ | refine bw ?_ | refine pt ?_ | refine pf ?_ | refine ex ?_ | refine ln ?_ | refine la ?_ | refine aops_nil ?_ | refine aw_seq ?_ | refine aw_region ?_ | refine aw_cond_f rfl ?_ | refine aw_block ?_ | refine aw_skip ?_ | refine cl (ct) ?_ | fail))
        exact ⟨by omega, by omega, rfl, rfl, rfl, rfl, rfl, rfl, rfl, trivial⟩
    · refine aw_exit ?_
      (repeat' (first | refine asg ?_ | refine aops_nil ?_ | refine aw_seq ?_ | refine aw_region ?_ | refine aw_block ?_ | fail))
      refine aw_forE H.objs.length (fun k => k ≤ H.objs.length) (fun k => [(16, iv (k : Int)), (2, .ptr 0 0 0), (5, .ptr 2 0 0)]) 0 (by omega) ⟨rfl, rfl, rfl, trivial⟩ ?_
      intro i hi'
      (repeat' (first | refine mv ?_ | refine ld ?_ | refine fp ?_ | refine bi ?_ | refine ln ?_ | refine aops_nil ?_ | refine aw_seq ?_ | refine aw_region ?_ | fail))
      refine aw_cond rfl (fun h2 => ?_) (fun h2 => ?_) <;> simp at h2
      · have go : H.objs[i]? = some (H.objs[i]'h2) := List.getElem?_eq_getElem _
        generalize hy : H.objs[i]'h2 = o at go
        have hoin := hin.1 o (List.mem_of_getElem? go)
        have co := (rOne_ok o o hoin.2.2.2.2.2.1 hoin.2.2.2.2.2.1).to' (y := bv true) (by simp)
        refine aw_skip (aw_seq (aw_block (aw_seq ?_)))
        refine aw_drawP 12 [] ?_
        (repeat' (first | refine dPn ?_ | refine dP (fun _ => y_move) ?_ | refine dP (fun _ => y_load) ?_ | refine dP (fun _ => y_faddr_ptr (hs := Nat.le_of_ble_eq_true rfl)) ?_ | refine dP (fun _ => y_un) ?_ | refine dP (fun _ => y_loadsN) ?_ | refine dP (fun _ => y_iaddrN i (objs_get go)) ?_ | refine dP (fun _ => y_iaddrN i (objs_get (hGo i o go))) ?_ | refine dP (fun _ => y_call (co)) ?_ | fail))
        (repeat' (first | refine mv ?_ | refine asg ?_ | refine bw ?_ | refine aops_nil ?_ | refine aw_region ?_ | refine aw_cond_f rfl ?_ | refine aw_skip ?_ | fail))
        exact ⟨h2, by omega, rfl, rfl, rfl, rfl, trivial⟩
      · (repeat' (first | refine asg ?_ | refine aops_nil ?_ | refine aw_seq ?_ | refine aw_region ?_ | refine aw_exit ?_ | refine aw_ret ?_ | fail))
        exact fin (sh_bv rfl)
end Go.Proofs.Ytbmldjcddpblnaa
