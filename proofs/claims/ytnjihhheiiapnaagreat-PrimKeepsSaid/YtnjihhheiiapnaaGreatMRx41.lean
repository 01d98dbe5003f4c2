/- What the statements' walks need. -/
import Derived.Test.YtnjihhheiiapnaaGreatMRa4
import Derived.Test.YtnjihhheiiapnaaGreatMRx35
import Derived.Test.YtnjihhheiiapnaaGreatMRx40
set_option linter.unusedVariables false
set_option linter.unusedSimpArgs false
set_option maxRecDepth 100000
namespace Go.Proofs.YtnjihhheiiapnaaGreat
open Go Go.Proofs AW
theorem hi_ref {H : HHeap} {v : Int} (hb : hasB H.objs.length v = true) : hiB v = decide (12 ≤ H.ref v) := by
  unfold hiB HHeap.ref atI
  cases ha : isAt v with
  | false => simp [refI, ha]
  | true =>
    have hn : isN v = false := by simp [isAt] at ha; simp [isN]; omega
    rw [hasB, hn, Bool.false_or, decide_eq_true_eq] at hb
    unfold refI at hb ⊢
    by_cases h2 : v / 2 < (H.objs.length : Int)
    · simp [ha, h2]
    · simp [ha, h2] at hb
theorem qSame_id (A : HHeap) (hA : A.In) : Gives Tryz.prog 15 [.agg (encHeap A), .agg (encHeap A)] (bv true) := (rSame_ok A A hA hA).to' (by simp)
theorem okNil {H : HHeap} (hm : mayH H = true) (hl : 12 ≤ H.objs.length) {s : Int} (hs : hasB H.objs.length s = true) : okV H s [] = true := by
  simp [okV, hm, hl, hs]
theorem okOne {H : HHeap} (hm : mayH H = true) (hl : 12 ≤ H.objs.length) {s x : Int} (hs : hasB H.objs.length s = true) (hx : hasB H.objs.length x = true) : okV H s [x] = true := by
  simp [okV, hm, hl, hs, hx]
set_option maxRecDepth 100000 in
set_option maxHeartbeats 16000000 in
theorem pbec_gate (H : HHeap) (hi : H.Big) (a b : Int) (h : ¬ (smallH H = true ∧ H.objs.length ≤ 60 ∧ 12 ≤ H.objs.length ∧ mayH H = true ∧ hasB H.objs.length a = true ∧ hasB H.objs.length b = true)) : Gives Tryz.prog 8 [.agg (encHeap H), iv a, iv b] (bv true) := by
  have hlo : (encObjs H.objs).length = H.objs.length := len_objs _
  by_cases hs : smallH H = true
  rotate_left
  · simp only [Bool.not_eq_true] at hs
    have cs := (rSmall_ok H hi).to' (congrArg bv hs)
    refine gives_of Tryz.func8 rfl (Nat.le_of_ble_eq_true rfl) ?_
    (repeat' (first | refine sk ?_ | refine mv ?_ | refine asg ?_ | refine un ?_ | refine pt ?_ | refine pf ?_ | refine la ?_ | refine aops_nil ?_ | refine aw_seq ?_ | refine aw_region ?_ | refine aw_cond_t rfl ?_ | refine aw_ret ?_ | refine bx 0 ?_ | refine cl (fixed13_ok) ?_ | refine cl (cs) ?_ | fail))
    exact fin (sh_bv rfl)
  have hin := small_in hi hs
  have cs := (rSmall_ok H hi).to' (congrArg bv hs)
  by_cases hl : H.objs.length ≤ 60
  rotate_left
  · refine gives_of Tryz.func8 rfl (Nat.le_of_ble_eq_true rfl) ?_
    (repeat' (first | refine sk ?_ | refine mv ?_ | refine asg ?_ | refine ld ?_ | refine fp ?_ | refine bt ?_ | refine un ?_ | refine pt ?_ | refine pf ?_ | refine ln ?_ | refine la ?_ | refine aops_nil ?_ | refine aw_seq ?_ | refine aw_region ?_ | refine aw_cond_t rfl ?_ | refine aw_ret ?_ | refine bx 0 ?_ | refine cl (fixed13_ok) ?_ | refine cl (cs) ?_ | fail))
    exact fin (sh_bv rfl)
  by_cases hl2 : 12 ≤ H.objs.length
  rotate_left
  · refine gives_of Tryz.func8 rfl (Nat.le_of_ble_eq_true rfl) ?_
    (repeat' (first | refine sk ?_ | refine mv ?_ | refine asg ?_ | refine ld ?_ | refine fp ?_ | refine bt ?_ | refine bf ?_ | refine un ?_ | refine pt ?_ | refine pf ?_ | refine ln ?_ | refine la ?_ | refine aops_nil ?_ | refine aw_seq ?_ | refine aw_region ?_ | refine aw_cond_t rfl ?_ | refine aw_ret ?_ | refine bx 0 ?_ | refine cl (fixed13_ok) ?_ | refine cl (cs) ?_ | fail))
    exact fin (sh_bv rfl)
  by_cases hm : mayH H = true
  rotate_left
  · simp only [Bool.not_eq_true] at hm
    have cm := (rMay_ok H hin).to' (congrArg bv hm)
    refine gives_of Tryz.func8 rfl (Nat.le_of_ble_eq_true rfl) ?_
    (repeat' (first | refine sk ?_ | refine mv ?_ | refine asg ?_ | refine ld ?_ | refine fp ?_ | refine bf ?_ | refine un ?_ | refine pt ?_ | refine pf ?_ | refine ln ?_ | refine la ?_ | refine aops_nil ?_ | refine aw_seq ?_ | refine aw_region ?_ | refine aw_cond_t rfl ?_ | refine aw_ret ?_ | refine bx 0 ?_ | refine cl (fixed13_ok) ?_ | refine cl (cs) ?_ | refine cl (cm) ?_ | fail))
    exact fin (sh_bv rfl)
  have cm := (rMay_ok H hin).to' (congrArg bv hm)
  by_cases h1 : hasB H.objs.length a = true
  rotate_left
  · have ca := (rHas_ok H a hin.2.2.2).to' (congrArg bv (eq_false_of_ne_true h1))
    refine gives_of Tryz.func8 rfl (Nat.le_of_ble_eq_true rfl) ?_
    (repeat' (first | refine sk ?_ | refine mv ?_ | refine asg ?_ | refine ld ?_ | refine fp ?_ | refine bf ?_ | refine un ?_ | refine pt ?_ | refine pf ?_ | refine ln ?_ | refine la ?_ | refine aops_nil ?_ | refine aw_seq ?_ | refine aw_region ?_ | refine aw_cond_t rfl ?_ | refine aw_ret ?_ | refine bx 0 ?_ | refine cl (fixed13_ok) ?_ | refine cl (cs) ?_ | refine cl (cm) ?_ | refine cl (ca) ?_ | fail))
    exact fin (sh_bv rfl)
  have ca := (rHas_ok H a hin.2.2.2).to' (congrArg bv h1)
  have h2 : ¬ hasB H.objs.length b = true := fun h2 => h ⟨hs, hl, hl2, hm, h1, h2⟩
  have cb := (rHas_ok H b hin.2.2.2).to' (congrArg bv (eq_false_of_ne_true h2))
  refine gives_of Tryz.func8 rfl (Nat.le_of_ble_eq_true rfl) ?_
  (repeat' (first | refine mv ?_ | refine asg ?_ | refine ld ?_ | refine fp ?_ | refine bf ?_ | refine un ?_ | refine pf ?_ | refine ln ?_ | refine la ?_ | refine aops_nil ?_ | refine aw_seq ?_ | refine aw_region ?_ | refine aw_cond_t rfl ?_ | refine aw_ret ?_ | refine bx 0 ?_ | refine cl (fixed13_ok) ?_ | refine cl (cs) ?_ | refine cl (cm) ?_ | refine cl (ca) ?_ | refine cl (cb) ?_ | fail))
  exact fin (sh_bv rfl)
set_option maxRecDepth 100000 in
set_option maxHeartbeats 16000000 in
theorem pbec_no (H : HHeap) (hi : H.Big) (a b : Int) (hs : smallH H = true) (hl : H.objs.length ≤ 60) (hl2 : 12 ≤ H.objs.length) (hm : mayH H = true) (h1 : hasB H.objs.length a = true) (h2 : hasB H.objs.length b = true) (h : ¬ (hiB a = true ∧ hiB b = true)) : Gives Tryz.prog 8 [.agg (encHeap H), iv a, iv b] (bv true) := by
  have hlo : (encObjs H.objs).length = H.objs.length := len_objs _
  have hin := small_in hi hs
  have cs := (rSmall_ok H hi).to' (congrArg bv hs)
  have cm := (rMay_ok H hin).to' (congrArg bv hm)
  have ca := (rHas_ok H a hin.2.2.2).to' (congrArg bv h1)
  have cb := (rHas_ok H b hin.2.2.2).to' (congrArg bv h2)
  have c16 := (Do_16 H hin a b (okOne hm hl2 h1 h2) (fun e1 e2 => absurd ⟨e1, e2⟩ h)).to' (show _ = .tup [.agg (encHeap H), iv 0, iv 130] by rw [becV, if_neg h]; rfl)
  have sm := qSame_id H hin
  have ra := rRef_ok H a hin.2.2.2
  have rb := rRef_ok H b hin.2.2.2
  rw [hi_ref h1, hi_ref h2] at h
  have h : ¬ (12 ≤ refI H.objs.length a ∧ 12 ≤ refI H.objs.length b) := fun e => h ⟨decide_eq_true e.1, decide_eq_true e.2⟩
  by_cases h3 : 12 ≤ refI H.objs.length a
  · have h4 : ¬ 12 ≤ refI H.objs.length b := fun h4 => h ⟨h3, h4⟩
    refine gives_of Tryz.func8 rfl (Nat.le_of_ble_eq_true rfl) ?_
    (repeat' (first | refine mv ?_ | refine asg ?_ | refine ld ?_ | refine fp ?_ | refine bt ?_ | refine bf ?_ | refine un ?_ | refine pt ?_ | refine pf ?_ | refine ex ?_ | refine ln ?_ | refine la ?_ | refine so ?_ | refine aops_nil ?_ | refine aw_seq ?_ | refine aw_region ?_ | refine aw_cond_t rfl ?_ | refine aw_cond_f rfl ?_ | refine aw_skip ?_ | refine aw_ret ?_ | refine bx 0 ?_ | refine al 1 ?_ | refine cl (fixed13_ok) ?_ | refine cl (cs) ?_ | refine cl (cm) ?_ | refine cl (ca) ?_ | refine cl (cb) ?_ | refine cl (c16) ?_ | refine cl (ra) ?_ | refine cl (rb) ?_ | refine cl (sm) ?_ | refine li 30 ?_ | refine fzs 66 (fun c hc => noOwn_intsc (l := [b]) hc) ?_ | fail))
    exact fin (sh_bv rfl)
  · refine gives_of Tryz.func8 rfl (Nat.le_of_ble_eq_true rfl) ?_
    (repeat' (first | refine sk ?_ | refine mv ?_ | refine asg ?_ | refine ld ?_ | refine fp ?_ | refine bt ?_ | refine bf ?_ | refine un ?_ | refine pf ?_ | refine ex ?_ | refine ln ?_ | refine la ?_ | refine so ?_ | refine aops_nil ?_ | refine aw_seq ?_ | refine aw_region ?_ | refine aw_cond_t rfl ?_ | refine aw_cond_f rfl ?_ | refine aw_skip ?_ | refine aw_ret ?_ | refine bx 0 ?_ | refine al 1 ?_ | refine cl (fixed13_ok) ?_ | refine cl (cs) ?_ | refine cl (cm) ?_ | refine cl (ca) ?_ | refine cl (cb) ?_ | refine cl (c16) ?_ | refine cl (ra) ?_ | refine cl (sm) ?_ | refine li 30 ?_ | refine fzs 66 (fun c hc => noOwn_intsc (l := [b]) hc) ?_ | fail))
    exact fin (sh_bv rfl)
theorem ofV_eq {H : HHeap} (hm : mayH H = true) {v : Int} (hn : isN v = false) (h : 0 ≤ H.ref v) : ofV H v = (H.at' v).cls := by
  rw [ofV, if_pos hm, if_neg (by rw [hn]; simp), if_pos h]
set_option maxRecDepth 100000 in
set_option maxHeartbeats 16000000 in
theorem pbec_yes (H : HHeap) (hi : H.Big) (a b : Int) (hs : smallH H = true) (hl : H.objs.length ≤ 60) (hl2 : 12 ≤ H.objs.length) (hm : mayH H = true) (h1 : hasB H.objs.length a = true) (h2 : hasB H.objs.length b = true) (h : hiB a = true ∧ hiB b = true) : Gives Tryz.prog 8 [.agg (encHeap H), iv a, iv b] (bv true) := by
  have hlo : (encObjs H.objs).length = H.objs.length := len_objs _
  have hin := small_in hi hs
  have cs := (rSmall_ok H hi).to' (congrArg bv hs)
  have cm := (rMay_ok H hin).to' (congrArg bv hm)
  have ca := (rHas_ok H a hin.2.2.2).to' (congrArg bv h1)
  have cb := (rHas_ok H b hin.2.2.2).to' (congrArg bv h2)
  have sm := qSame_id H hin
  have ra := rRef_ok H a hin.2.2.2
  have rb := rRef_ok H b hin.2.2.2
  have g1 : 12 ≤ H.ref a := by have := h.1; rw [hi_ref h1, decide_eq_true_eq] at this; exact this
  have g2 : 12 ≤ H.ref b := by have := h.2; rw [hi_ref h2, decide_eq_true_eq] at this; exact this
  have g3 : 12 ≤ refI H.objs.length a := g1
  have g4 : 12 ≤ refI H.objs.length b := g2
  have he := becomeE_of hm (show 0 ≤ H.ref a by omega) (show 0 ≤ H.ref b by omega)
  have na : isN a = false := by have := h.1; simp [hiB, isAt] at this; simp [isN]; omega
  have nb : isN b = false := by have := h.2; simp [hiB, isAt] at this; simp [isN]; omega
  obtain ⟨t1, t2⟩ := become_twice he
  have em := becomeH_may he
  have el := become_len he
  have ein : (becomeH H a b).In := becomeH_in hin
  have ea : hasB (becomeH H a b).objs.length a = true := by rw [el]; exact h1
  have eb : hasB (becomeH H a b).objs.length b = true := by rw [el]; exact h2
  have el2 : 12 ≤ (becomeH H a b).objs.length := by omega
  have r1 := become_ref he a
  have r2 := become_ref he b
  have c16 := (Do_16 H hin a b (okOne hm hl2 h1 h2) (fun _ _ => he)).to' (show _ = .tup [.agg (encHeap (becomeH H a b)), iv a, iv 0] by rw [becV, if_pos h]; rfl)
  have c13 := do_nil ((Do_13 _ ein a (okNil em el2 ea)).to' (show _ = .tup [.agg (encHeap (becomeH H a b)), iv (H.at' b).cls, iv 0] by rw [ofV_eq em na (by omega), become_at_v he]; rfl))
  have d13 := do_nil ((Do_13 H hin b (okNil hm hl2 h2)).to' (show _ = .tup [.agg (encHeap H), iv (H.at' b).cls, iv 0] by rw [ofV_eq hm nb (by omega)]; rfl))
  have c15 := do_nil ((Do_15 _ ein b (okNil em el2 eb)).to' (show _ = .tup [.agg (encHeap (becomeH H a b)), iv ((H.at' a).hash * 2 + 1), iv 0] by rw [hashV, if_neg (by rw [nb]; simp), become_at_w he]; rfl))
  have d15 := do_nil ((Do_15 H hin a (okNil hm hl2 h1)).to' (show _ = .tup [.agg (encHeap H), iv ((H.at' a).hash * 2 + 1), iv 0] by rw [hashV, if_neg (by rw [na]; simp)]; rfl))
  have d16 := (Do_16 _ ein b a (okOne em el2 eb ea) (fun _ _ => t1)).to' (show _ = .tup [.agg (encHeap H), iv b, iv 0] by rw [becV, if_pos ⟨h.2, h.1⟩, t2]; rfl)
  clear t1 t2 r1 r2 em el ea eb el2 he
  generalize becomeH H a b = G at *
  generalize (H.at' b).cls = xc at *
  generalize (H.at' a).hash * 2 + 1 = xh at *
  refine gives_of Tryz.func8 rfl (Nat.le_of_ble_eq_true rfl) ?_
  (repeat' (first | refine mv ?_ | refine asg ?_ | refine ld ?_ | refine fp ?_ | refine bt ?_ | refine bf ?_ | refine un ?_ | refine pt ?_ | refine pf ?_ | refine ex ?_ | refine ln ?_ | refine la ?_ | refine so ?_ | refine aops_nil ?_ | refine aw_seq ?_ | refine aw_region ?_ | refine aw_cond_f rfl ?_ | refine aw_skip ?_ | refine aw_ret ?_ | refine bx 0 ?_ | refine al 1 ?_ | refine al 2 ?_ | refine al 3 ?_ | refine al 4 ?_ | refine al 5 ?_ | refine al 6 ?_ | refine cl (fixed13_ok) ?_ | refine cl (cs) ?_ | refine cl (cm) ?_ | refine cl (ca) ?_ | refine cl (cb) ?_ | refine cl (c16) ?_ | refine cl (ra) ?_ | refine cl (rb) ?_ | refine cl (c13) ?_ | refine cl (d13) ?_ | refine cl (c15) ?_ | refine cl (d15) ?_ | refine cl (d16) ?_ | refine cl (sm) ?_ | refine li 30 ?_ | refine li 31 ?_ | refine fzs 66 (fun c hc => noOwn_intsc (l := [b]) hc) ?_ | refine fzs 121 (fun c hc => noOwn_intsc (l := [a]) hc) ?_ | fail))
  exact fin (sh_bv rfl)
theorem pbec_ok (H : HHeap) (hi : H.Big) (a b : Int) : Gives Tryz.prog 8 [.agg (encHeap H), iv a, iv b] (bv true) := by
  by_cases h : smallH H = true ∧ H.objs.length ≤ 60 ∧ 12 ≤ H.objs.length ∧ mayH H = true ∧ hasB H.objs.length a = true ∧ hasB H.objs.length b = true
  · obtain ⟨g1, g2, g3, g4, g5, g6⟩ := h
    by_cases hh : hiB a = true ∧ hiB b = true
    · exact pbec_yes H hi a b g1 g2 g3 g4 g5 g6 hh
    · exact pbec_no H hi a b g1 g2 g3 g4 g5 g6 hh
  · exact pbec_gate H hi a b h
end Go.Proofs.YtnjihhheiiapnaaGreat
