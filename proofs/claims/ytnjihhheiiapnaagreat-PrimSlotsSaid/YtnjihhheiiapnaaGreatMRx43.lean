/- What the statements' walks need. -/
import Derived.Test.YtnjihhheiiapnaaGreatMRa4
import Derived.Test.YtnjihhheiiapnaaGreatMRx42
import Derived.Test.YtnjihhheiiapnaaGreatMRx14
set_option linter.unusedVariables false
set_option linter.unusedSimpArgs false
set_option maxRecDepth 100000
namespace Go.Proofs.YtnjihhheiiapnaaGreat
open Go Go.Proofs AW
set_option maxRecDepth 100000 in
set_option maxHeartbeats 16000000 in
theorem pslot_gate (H : HHeap) (hi : H.Big) (s p y : Int) (h : ¬ (smallH H = true ∧ H.objs.length ≤ 60 ∧ 12 ≤ H.objs.length ∧ mayH H = true ∧ hasB H.objs.length s = true ∧ hasB H.objs.length y = true ∧ -1000 ≤ p ∧ p ≤ 1000)) : Gives Tryz.prog 7 (slArgs H s p y) (bv true) := by
  have hlo : (encObjs H.objs).length = H.objs.length := len_objs _
  by_cases hs : smallH H = true
  rotate_left
  · simp only [Bool.not_eq_true] at hs
    have cs := (rSmall_ok H hi).to' (congrArg bv hs)
    refine gives_of Tryz.func7 rfl (Nat.le_of_ble_eq_true rfl) ?_
    (repeat' (first | refine sk ?_ | refine mv ?_ | refine asg ?_ | refine un ?_ | refine pt ?_ | refine pf ?_ | refine la ?_ | refine aops_nil ?_ | refine aw_seq ?_ | refine aw_region ?_ | refine aw_cond_t rfl ?_ | refine aw_ret ?_ | refine bx 0 ?_ | refine bx 1 ?_ | refine cl (fixed13_ok) ?_ | refine cl (cs) ?_ | fail))
    exact fin (sh_bv rfl)
  have hin := small_in hi hs
  have cs := (rSmall_ok H hi).to' (congrArg bv hs)
  by_cases hl : H.objs.length ≤ 60
  rotate_left
  · skip
    refine gives_of Tryz.func7 rfl (Nat.le_of_ble_eq_true rfl) ?_
    (repeat' (first | refine sk ?_ | refine mv ?_ | refine asg ?_ | refine ld ?_ | refine fp ?_ | refine bt ?_ | refine un ?_ | refine pt ?_ | refine pf ?_ | refine ln ?_ | refine la ?_ | refine aops_nil ?_ | refine aw_seq ?_ | refine aw_region ?_ | refine aw_cond_t rfl ?_ | refine aw_ret ?_ | refine bx 0 ?_ | refine bx 1 ?_ | refine cl (fixed13_ok) ?_ | refine cl (cs) ?_ | fail))
    exact fin (sh_bv rfl)
  by_cases hl2 : 12 ≤ H.objs.length
  rotate_left
  · skip
    refine gives_of Tryz.func7 rfl (Nat.le_of_ble_eq_true rfl) ?_
    (repeat' (first | refine sk ?_ | refine mv ?_ | refine asg ?_ | refine ld ?_ | refine fp ?_ | refine bt ?_ | refine bf ?_ | refine un ?_ | refine pt ?_ | refine pf ?_ | refine ln ?_ | refine la ?_ | refine aops_nil ?_ | refine aw_seq ?_ | refine aw_region ?_ | refine aw_cond_t rfl ?_ | refine aw_ret ?_ | refine bx 0 ?_ | refine bx 1 ?_ | refine cl (fixed13_ok) ?_ | refine cl (cs) ?_ | fail))
    exact fin (sh_bv rfl)
  by_cases hm : mayH H = true
  rotate_left
  · simp only [Bool.not_eq_true] at hm
    have cm := (rMay_ok H hin).to' (congrArg bv hm)
    refine gives_of Tryz.func7 rfl (Nat.le_of_ble_eq_true rfl) ?_
    (repeat' (first | refine sk ?_ | refine mv ?_ | refine asg ?_ | refine ld ?_ | refine fp ?_ | refine bf ?_ | refine un ?_ | refine pt ?_ | refine pf ?_ | refine ln ?_ | refine la ?_ | refine aops_nil ?_ | refine aw_seq ?_ | refine aw_region ?_ | refine aw_cond_t rfl ?_ | refine aw_ret ?_ | refine bx 0 ?_ | refine bx 1 ?_ | refine cl (fixed13_ok) ?_ | refine cl (cs) ?_ | refine cl (cm) ?_ | fail))
    exact fin (sh_bv rfl)
  have cm := (rMay_ok H hin).to' (congrArg bv hm)
  by_cases h1 : hasB H.objs.length s = true
  rotate_left
  · have ca := (rHas_ok H s hin.2.2.2).to' (congrArg bv (eq_false_of_ne_true h1))
    refine gives_of Tryz.func7 rfl (Nat.le_of_ble_eq_true rfl) ?_
    (repeat' (first | refine sk ?_ | refine mv ?_ | refine asg ?_ | refine ld ?_ | refine fp ?_ | refine bf ?_ | refine un ?_ | refine pt ?_ | refine pf ?_ | refine ln ?_ | refine la ?_ | refine aops_nil ?_ | refine aw_seq ?_ | refine aw_region ?_ | refine aw_cond_t rfl ?_ | refine aw_ret ?_ | refine bx 0 ?_ | refine bx 1 ?_ | refine cl (fixed13_ok) ?_ | refine cl (cs) ?_ | refine cl (cm) ?_ | refine cl (ca) ?_ | fail))
    exact fin (sh_bv rfl)
  have ca := (rHas_ok H s hin.2.2.2).to' (congrArg bv h1)
  by_cases h2 : hasB H.objs.length y = true
  rotate_left
  · have cb := (rHas_ok H y hin.2.2.2).to' (congrArg bv (eq_false_of_ne_true h2))
    refine gives_of Tryz.func7 rfl (Nat.le_of_ble_eq_true rfl) ?_
    (repeat' (first | refine sk ?_ | refine mv ?_ | refine asg ?_ | refine ld ?_ | refine fp ?_ | refine bf ?_ | refine un ?_ | refine pt ?_ | refine pf ?_ | refine ln ?_ | refine la ?_ | refine aops_nil ?_ | refine iar ?_ | refine aw_seq ?_ | refine aw_region ?_ | refine aw_cond_t rfl ?_ | refine aw_ret ?_ | refine bx 0 ?_ | refine bx 1 ?_ | refine cl (fixed13_ok) ?_ | refine cl (cs) ?_ | refine cl (cm) ?_ | refine cl (ca) ?_ | refine cl (cb) ?_ | fail))
    exact fin (sh_bv rfl)
  have cb := (rHas_ok H y hin.2.2.2).to' (congrArg bv h2)
  by_cases h3 : -1000 ≤ p
  rotate_left
  · skip
    refine gives_of Tryz.func7 rfl (Nat.le_of_ble_eq_true rfl) ?_
    (repeat' (first | refine sk ?_ | refine mv ?_ | refine asg ?_ | refine ld ?_ | refine fp ?_ | refine bt ?_ | refine bf ?_ | refine un ?_ | refine pt ?_ | refine pf ?_ | refine ln ?_ | refine la ?_ | refine aops_nil ?_ | refine iar ?_ | refine aw_seq ?_ | refine aw_region ?_ | refine aw_cond_t rfl ?_ | refine aw_ret ?_ | refine bx 0 ?_ | refine bx 1 ?_ | refine cl (fixed13_ok) ?_ | refine cl (cs) ?_ | refine cl (cm) ?_ | refine cl (ca) ?_ | refine cl (cb) ?_ | fail))
    exact fin (sh_bv rfl)
  have h4 : ¬ p ≤ 1000 := fun h4 => h ⟨hs, hl, hl2, hm, h1, h2, h3, h4⟩
  refine gives_of Tryz.func7 rfl (Nat.le_of_ble_eq_true rfl) ?_
  (repeat' (first | refine mv ?_ | refine asg ?_ | refine ld ?_ | refine fp ?_ | refine bt ?_ | refine bf ?_ | refine un ?_ | refine pf ?_ | refine ln ?_ | refine la ?_ | refine aops_nil ?_ | refine iar ?_ | refine aw_seq ?_ | refine aw_region ?_ | refine aw_cond_t rfl ?_ | refine aw_ret ?_ | refine bx 0 ?_ | refine bx 1 ?_ | refine cl (fixed13_ok) ?_ | refine cl (cs) ?_ | refine cl (cm) ?_ | refine cl (ca) ?_ | refine cl (cb) ?_ | fail))
  exact fin (sh_bv rfl)
set_option maxRecDepth 100000 in
set_option maxHeartbeats 16000000 in
theorem pslot_yes (H : HHeap) (hi : H.Big) (s p y : Int) (hs : smallH H = true) (hl : H.objs.length ≤ 60) (hl2 : 12 ≤ H.objs.length) (hm : mayH H = true) (h1 : hasB H.objs.length s = true) (h2 : hasB H.objs.length y = true) (h3 : -1000 ≤ p) (h4 : p ≤ 1000) (hw : wrongE H s 0 (p - 1) = 0) : Gives Tryz.prog 7 (slArgs H s p y) (bv true) := by
  have hlo : (encObjs H.objs).length = H.objs.length := len_objs _
  have hin := small_in hi hs
  have cs := (rSmall_ok H hi).to' (congrArg bv hs)
  have cm := (rMay_ok H hin).to' (congrArg bv hm)
  have ca := (rHas_ok H s hin.2.2.2).to' (congrArg bv h1)
  have cb := (rHas_ok H y hin.2.2.2).to' (congrArg bv h2)
  have sm := qSame_id H hin
  have rs := rRef_ok H s hin.2.2.2
  have hp : smallB p = true := by simp [smallB]; omega
  obtain ⟨np, np2⟩ := isN_of hp
  rw [show p * 2 + 1 = 2 * p + 1 by omega] at np np2
  have hnp : hasB H.objs.length (2 * p + 1) = true := by simp [hasB, np]
  have ok8 := okOne hm hl2 h1 hnp
  have ok9 : okV H s [2 * p + 1, y] = true := by simp [okV, hm, hl2, h1, h2, hnp]
  have he : setE H s (p - 1) y = 0 := by rw [setE, if_pos hw, if_pos h2]
  have gin : (setH H s (p - 1) y).In := setH_in hin
  have gm := setH_may he
  have gl := set_len he
  obtain ⟨b1, b2⟩ := set_back he
  have gw : wrongE (setH H s (p - 1) y) s 0 (p - 1) = 0 := by rw [set_wrong he]; exact hw
  have gg := setH_get he
  have ho : hasB (setH H s (p - 1) y).objs.length (getI H s (p - 1)) = true := by
    rw [setE, if_pos gw] at b1
    by_cases hh : hasB (setH H s (p - 1) y).objs.length (getI H s (p - 1)) = true
    · exact hh
    · rw [if_neg hh] at b1; cases b1
  have gs : hasB (setH H s (p - 1) y).objs.length s = true := by rw [gl]; exact h1
  have gp : hasB (setH H s (p - 1) y).objs.length (2 * p + 1) = true := by rw [gl]; exact hnp
  have hw2 := hw
  simp only [wrongE, hm] at hw2
  have hk : 0 ≤ H.ref s ∧ (H.at' s).kind = 0 ∧ 1 ≤ p ∧ p ≤ ((H.at' s).slots.length : Int) + ((H.at' s).text.size : Int) := by
    rw [if_neg (by simp)] at hw2
    by_cases k1 : H.ref s < 0
    · rw [if_pos k1] at hw2; cases hw2
    rw [if_neg k1] at hw2
    by_cases k2 : (H.at' s).kind ≠ 0
    · rw [if_pos k2] at hw2; cases hw2
    rw [if_neg k2] at hw2
    by_cases k3 : p - 1 < 0 ∨ ((H.at' s).slots.length : Int) + ((H.at' s).text.size : Int) ≤ p - 1
    · rw [if_pos k3] at hw2; cases hw2
    · exact ⟨by omega, by omega, by omega, by omega⟩
  obtain ⟨k1, k2, k3, k4⟩ := hk
  have hns : isN s = false := by
    rcases has_cases h1 with ⟨_, e⟩ | ⟨e, _⟩
    · simp only [HHeap.ref, refI, e] at k1; simp at k1
    · exact e
  have c9 := (Do_9 H hin s _ y ok9).to' (show _ = .tup [.agg (encHeap (setH H s (p - 1) y)), iv y, iv 0] by rw [putV, np2, if_pos ⟨np, he⟩]; rfl)
  have c8 := (Do_8 H hin s _ ok8).to' (show _ = .tup [.agg (encHeap H), iv (getI H s (p - 1)), iv 0] by rw [atV, np2, if_pos ⟨np, hw⟩]; rfl)
  have c10 := do_nil ((Do_10 H hin s (okNil hm hl2 h1)).to' (show _ = .tup [.agg (encHeap H), iv (((H.at' s).slots.length + (H.at' s).text.size : Int) * 2 + 1), iv 0] by rw [sizeV, if_pos ⟨hns, by rw [k2]; decide⟩]; rfl))
  have d8 := (Do_8 _ gin s _ (okOne gm (by omega) gs gp)).to' (show _ = .tup [.agg (encHeap (setH H s (p - 1) y)), iv y, iv 0] by rw [atV, np2, if_pos ⟨np, gw⟩, gg]; rfl)
  have d9 := (Do_9 _ gin s (2 * p + 1) (getI H s (p - 1)) (by simp [okV, gm, gs, gp, ho]; omega)).to' (show _ = .tup [.agg (encHeap H), iv (getI H s (p - 1)), iv 0] by rw [putV, np2, if_pos ⟨np, b1⟩, b2]; rfl)
  clear gw gm gl b1 b2 gg ho gs gp hw hw2 he
  generalize setH H s (p - 1) y = G at *
  generalize getI H s (p - 1) = old at *
  generalize ((H.at' s).slots.length + (H.at' s).text.size : Int) = sz at *
  refine gives_of Tryz.func7 rfl (Nat.le_of_ble_eq_true rfl) ?_
  (repeat' (first | refine mv ?_ | refine asg ?_ | refine ld ?_ | refine fp ?_ | refine bt ?_ | refine bf ?_ | refine bw ?_ | refine un ?_ | refine pt ?_ | refine pf ?_ | refine ex ?_ | refine ln ?_ | refine la ?_ | refine so ?_ | refine aops_nil ?_ | refine iar ?_ | refine aw_seq ?_ | refine aw_region ?_ | refine aw_cond_f rfl ?_ | refine aw_skip ?_ | refine aw_ret ?_ | refine bx 0 ?_ | refine bx 1 ?_ | refine al 2 ?_ | refine al 3 ?_ | refine al 4 ?_ | refine al 5 ?_ | refine al 6 ?_ | refine cl (fixed13_ok) ?_ | refine cl (cs) ?_ | refine cl (cm) ?_ | refine cl (ca) ?_ | refine cl (cb) ?_ | refine cl (c9) ?_ | refine cl (c8) ?_ | refine cl (c10) ?_ | refine cl (d8) ?_ | refine cl (d9) ?_ | refine cl (sm) ?_ | refine li 30 ?_ | refine li 31 ?_ | refine li 32 ?_ | refine li 33 ?_ | refine fzs 81 (fun c hc => noOwn_intsc (l := [2 * p + 1, y]) hc) ?_ | refine fzs 90 (fun c hc => noOwn_intsc (l := [2 * p + 1]) hc) ?_ | refine fzs 143 (fun c hc => noOwn_intsc (l := [2 * p + 1]) hc) ?_ | refine fzs 153 (fun c hc => noOwn_intsc (l := [2 * p + 1, old]) hc) ?_ | fail))
  exact fin (sh_bv rfl)
set_option maxRecDepth 100000 in
set_option maxHeartbeats 16000000 in
theorem pslot_no (H : HHeap) (hi : H.Big) (s p y : Int) (hs : smallH H = true) (hl : H.objs.length ≤ 60) (hl2 : 12 ≤ H.objs.length) (hm : mayH H = true) (h1 : hasB H.objs.length s = true) (h2 : hasB H.objs.length y = true) (h3 : -1000 ≤ p) (h4 : p ≤ 1000) (hw : wrongE H s 0 (p - 1) ≠ 0) : Gives Tryz.prog 7 (slArgs H s p y) (bv true) := by
  have hlo : (encObjs H.objs).length = H.objs.length := len_objs _
  have hin := small_in hi hs
  have cs := (rSmall_ok H hi).to' (congrArg bv hs)
  have cm := (rMay_ok H hin).to' (congrArg bv hm)
  have ca := (rHas_ok H s hin.2.2.2).to' (congrArg bv h1)
  have cb := (rHas_ok H y hin.2.2.2).to' (congrArg bv h2)
  have sm := qSame_id H hin
  have rs := rRef_ok H s hin.2.2.2
  have hp : smallB p = true := by simp [smallB]; omega
  obtain ⟨np, np2⟩ := isN_of hp
  rw [show p * 2 + 1 = 2 * p + 1 by omega] at np np2
  have hnp : hasB H.objs.length (2 * p + 1) = true := by simp [hasB, np]
  have ok8 := okOne hm hl2 h1 hnp
  have ok9 : okV H s [2 * p + 1, y] = true := by simp [okV, hm, hl2, h1, h2, hnp]
  have he : setE H s (p - 1) y ≠ 0 := by rw [setE, if_neg hw]; exact hw
  have c9 := (Do_9 H hin s _ y ok9).to' (show _ = .tup [.agg (encHeap H), iv 0, iv 130] by rw [putV, np2, if_neg (fun e => he e.2)]; rfl)
  have c8 := (Do_8 H hin s _ ok8).to' (show _ = .tup [.agg (encHeap H), iv 0, iv 130] by rw [atV, np2, if_neg (fun e => hw e.2)]; rfl)
  have hw2 := hw
  simp only [wrongE, hm] at hw2
  rw [if_neg (by simp)] at hw2
  have c10 := Do_10 H hin s (okNil hm hl2 h1)
  clear he hw
  rcases has_cases h1 with ⟨e1, e2⟩ | ⟨e1, e2⟩
  · have c10 := do_nil (c10.to' (show _ = .tup [.agg (encHeap H), iv 0, iv 130] by rw [sizeV, if_neg (by rw [e1]; simp)]; rfl))
    refine gives_of Tryz.func7 rfl (Nat.le_of_ble_eq_true rfl) ?_
    (repeat' (first | refine mv ?_ | refine asg ?_ | refine ld ?_ | refine fp ?_ | refine bt ?_ | refine bf ?_ | refine bw ?_ | refine un ?_ | refine pf ?_ | refine ex ?_ | refine ln ?_ | refine la ?_ | refine so ?_ | refine aops_nil ?_ | refine iar ?_ | refine aw_seq ?_ | refine aw_region ?_ | refine aw_cond_t rfl ?_ | refine aw_cond_f rfl ?_ | refine aw_skip ?_ | refine bx 0 ?_ | refine bx 1 ?_ | refine al 2 ?_ | refine al 3 ?_ | refine al 4 ?_ | refine cl (fixed13_ok) ?_ | refine cl (cs) ?_ | refine cl (cm) ?_ | refine cl (ca) ?_ | refine cl (cb) ?_ | refine cl (c9) ?_ | refine cl (c8) ?_ | refine cl (c10) ?_ | refine li 30 ?_ | refine li 31 ?_ | refine fzs 81 (fun c hc => noOwn_intsc (l := [2 * p + 1, y]) hc) ?_ | refine fzs 90 (fun c hc => noOwn_intsc (l := [2 * p + 1]) hc) ?_ | fail))
    refine aw_drawP 32 [] ?_
    (repeat' (first | refine dPk ?_ | refine dPn ?_ | refine dP (fun _ => y_move) ?_ | refine dP (fun _ => y_bt) ?_ | refine dP (fun _ => y_pick_t) ?_ | fail))
    (repeat' (first | refine asg ?_ | refine aops_nil ?_ | refine aw_ret ?_ | fail))
    exact fin (sh_bv rfl)
  have e2' : ¬ refI H.objs.length s < 0 := by have := e2; simp only [HHeap.ref] at this; omega
  have hg : (encObjs H.objs)[(H.ref s).toNat]? = some (encObj (H.at' s)) := objs_get (at_get e2)
  have hn : refI H.objs.length s = ((H.ref s).toNat : Int) := (Int.toNat_of_nonneg e2).symm
  rw [if_neg (by omega)] at hw2
  have hko := at_may hm e2
  simp only [mayObj, headB, Bool.and_eq_true, decide_eq_true_eq] at hko
  have hk := hko.1.2.1
  have hk2 := hko.1.2.2.1
  clear hko
  by_cases k2 : (H.at' s).kind = 2
  · have c10 := do_nil (c10.to' (show _ = .tup [.agg (encHeap H), iv 0, iv 130] by rw [sizeV, if_neg (fun e => e.2 k2)]; rfl))
    refine gives_of Tryz.func7 rfl (Nat.le_of_ble_eq_true rfl) ?_
    (repeat' (first | refine mv ?_ | refine asg ?_ | refine ld ?_ | refine fp ?_ | refine bt ?_ | refine bf ?_ | refine bw ?_ | refine un ?_ | refine pf ?_ | refine ex ?_ | refine ln ?_ | refine la ?_ | refine so ?_ | refine aops_nil ?_ | refine iar ?_ | refine aw_seq ?_ | refine aw_region ?_ | refine aw_cond_t rfl ?_ | refine aw_cond_f rfl ?_ | refine aw_skip ?_ | refine bx 0 ?_ | refine bx 1 ?_ | refine al 2 ?_ | refine al 3 ?_ | refine al 4 ?_ | refine cl (fixed13_ok) ?_ | refine cl (cs) ?_ | refine cl (cm) ?_ | refine cl (ca) ?_ | refine cl (cb) ?_ | refine cl (c9) ?_ | refine cl (c8) ?_ | refine cl (c10) ?_ | refine li 30 ?_ | refine li 31 ?_ | refine fzs 81 (fun c hc => noOwn_intsc (l := [2 * p + 1, y]) hc) ?_ | refine fzs 90 (fun c hc => noOwn_intsc (l := [2 * p + 1]) hc) ?_ | fail))
    refine aw_drawP 32 [] ?_
    (repeat' (first | refine dPk ?_ | refine dPn ?_ | refine dP (fun _ => y_move) ?_ | refine dP (fun _ => y_bt) ?_ | refine dP (fun _ => y_pick_t) ?_ | fail))
    (repeat' (first | refine asg ?_ | refine aops_nil ?_ | refine aw_ret ?_ | fail))
    exact fin (sh_bv rfl)
  have c10 := do_nil (c10.to' (show _ = .tup [.agg (encHeap H), iv (((H.at' s).slots.length + (H.at' s).text.size : Int) * 2 + 1), iv 0] by rw [sizeV, if_pos ⟨e1, k2⟩]; rfl))
  by_cases k1 : (H.at' s).kind = 0
  rotate_left
  · generalize ((H.at' s).slots.length + (H.at' s).text.size : Int) = sz at *
    refine gives_of Tryz.func7 rfl (Nat.le_of_ble_eq_true rfl) ?_
    (repeat' (first | refine mv ?_ | refine asg ?_ | refine ld ?_ | refine fp ?_ | refine bt ?_ | refine bf ?_ | refine bw ?_ | refine un ?_ | refine pf ?_ | refine ex ?_ | refine ln ?_ | refine la ?_ | refine so ?_ | refine aops_nil ?_ | refine iar ?_ | refine aw_seq ?_ | refine aw_region ?_ | refine aw_cond_t rfl ?_ | refine aw_cond_f rfl ?_ | refine aw_skip ?_ | refine bx 0 ?_ | refine bx 1 ?_ | refine al 2 ?_ | refine al 3 ?_ | refine al 4 ?_ | refine cl (fixed13_ok) ?_ | refine cl (cs) ?_ | refine cl (cm) ?_ | refine cl (ca) ?_ | refine cl (cb) ?_ | refine cl (c9) ?_ | refine cl (c8) ?_ | refine cl (c10) ?_ | refine li 30 ?_ | refine li 31 ?_ | refine fzs 81 (fun c hc => noOwn_intsc (l := [2 * p + 1, y]) hc) ?_ | refine fzs 90 (fun c hc => noOwn_intsc (l := [2 * p + 1]) hc) ?_ | fail))
    refine aw_drawP 32 [] ?_
    (repeat' (first | refine dPk ?_ | refine dPn ?_ | refine dP (fun _ => y_move) ?_ | refine dP (fun _ => y_load) ?_ | refine dP (fun _ => y_faddr_ptr (hs := Nat.le_of_ble_eq_true rfl)) ?_ | refine dP (fun _ => y_faddr_ip) ?_ | refine dP (fun _ => y_bt) ?_ | refine dP (fun _ => y_bf) ?_ | refine dP (fun _ => y_pick_t) ?_ | refine dP (fun _ => y_pick_f) ?_ | refine dP (fun _ => y_loadsN) ?_ | refine dP (fun _ => y_call (rs)) ?_ | refine dP (fun _ => (y_iaddrN (H.ref s).toNat hg (hn := hn))) ?_ | fail))
    (repeat' (first | refine asg ?_ | refine aops_nil ?_ | refine aw_ret ?_ | fail))
    exact fin (sh_bv rfl)
  exact pslot_no2 H hi s p y hs hl hl2 hm h1 h2 h3 h4 e1 e2 k1 hw2 c9 c8 c10
theorem pslot_ok (H : HHeap) (hi : H.Big) (s : Int) (p y : Int) (_ : In64 p ∧ In64 y) : Gives Tryz.prog 7 [.agg (encHeap H), iv s, .agg [iv p, iv y]] (bv true) := by
  by_cases h : smallH H = true ∧ H.objs.length ≤ 60 ∧ 12 ≤ H.objs.length ∧ mayH H = true ∧ hasB H.objs.length s = true ∧ hasB H.objs.length y = true ∧ -1000 ≤ p ∧ p ≤ 1000
  · obtain ⟨g1, g2, g3, g4, g5, g6, g7, g8⟩ := h
    by_cases hh : wrongE H s 0 (p - 1) = 0
    · exact pslot_yes H hi s p y g1 g2 g3 g4 g5 g6 g7 g8 hh
    · exact pslot_no H hi s p y g1 g2 g3 g4 g5 g6 g7 g8 hh
  · exact pslot_gate H hi s p y h
end Go.Proofs.YtnjihhheiiapnaaGreat
