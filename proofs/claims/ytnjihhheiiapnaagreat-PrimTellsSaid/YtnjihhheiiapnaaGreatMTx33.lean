/- What the statements' walks need. -/
import Derived.Test.YtnjihhheiiapnaaGreatMTa4
import Derived.Test.YtnjihhheiiapnaaGreatMTx25
import Derived.Test.YtnjihhheiiapnaaGreatMTx12
import Derived.Test.YtnjihhheiiapnaaGreatMTx32
set_option linter.unusedVariables false
set_option linter.unusedSimpArgs false
set_option maxRecDepth 100000
namespace Go.Proofs.YtnjihhheiiapnaaGreat
open Go Go.Proofs AW
set_option maxHeartbeats 4000000 in
theorem rpairs_ok (H : HHeap) (hi : H.In) (v : Int) : Gives Tryz.prog 138 [.agg (encHeap H), iv v] (.tup [pairsA H v, bv (pairsB H v)]) := by
  have cr : Gives Tryz.prog 22 [.agg (encHeap H), iv v] (iv (H.ref v)) := rRef_ok H v hi.2.2.2
  by_cases h0 : H.ref v = 0
  · have e1 : pairsA H v = .v (.slice none 0 0) := by rw [pairsA, if_neg (by omega)]
    have e2 : pairsB H v = true := by simp [pairsB]; omega
    rw [e1, e2]
    refine gives_of Tryz.func138 rfl (Nat.le_of_ble_eq_true rfl) ?_
    (repeat' (first | refine mv ?_ | refine asg ?_ | refine bt ?_ | refine la ?_ | refine aops_nil ?_ | refine aw_seq ?_ | refine aw_region ?_ | refine aw_cond_t rfl ?_ | refine aw_ret ?_ | refine bx 0 ?_ | refine cl (cr) ?_ | fail))
    exact fin (.same _ (by simp))
  by_cases h : 0 ≤ H.ref v
  rotate_left
  · have e1 : pairsA H v = .v (.slice none 0 0) := by rw [pairsA, if_neg (by omega)]
    have e2 : pairsB H v = false := by simp [pairsB]; omega
    rw [e1, e2]
    refine gives_of Tryz.func138 rfl (Nat.le_of_ble_eq_true rfl) ?_
    (repeat' (first | refine sk ?_ | refine mv ?_ | refine asg ?_ | refine bt ?_ | refine bf ?_ | refine pt ?_ | refine la ?_ | refine aops_nil ?_ | refine aw_seq ?_ | refine aw_region ?_ | refine aw_cond_t rfl ?_ | refine aw_cond_f rfl ?_ | refine aw_skip ?_ | refine aw_ret ?_ | refine bx 0 ?_ | refine cl (cr) ?_ | fail))
    exact fin (.same _ (by simp))
  have hg : (encObjs H.objs)[(H.ref v).toNat]? = some (encObj (H.at' v)) := objs_get (at_get h)
  have hq : H.ref v = ((H.ref v).toNat : Int) := (Int.toNat_of_nonneg h).symm
  by_cases hk : (H.at' v).kind = 0
  · have e1 : pairsA H v = .sl 1 (encInts (H.at' v).slots) := by rw [pairsA, if_pos ⟨h0, h, hk⟩]
    have e2 : pairsB H v = true := by simp [pairsB, h, hk]
    rw [e1, e2]
    refine gives_of Tryz.func138 rfl (Nat.le_of_ble_eq_true rfl) ?_
    (repeat' (first | refine mv ?_ | refine asg ?_ | refine ld ?_ | refine fp ?_ | refine fi ?_ | refine bf ?_ | refine pf ?_ | refine la ?_ | refine aops_nil ?_ | refine aw_seq ?_ | refine aw_region ?_ | refine aw_cond_f rfl ?_ | refine aw_skip ?_ | refine aw_ret ?_ | refine bx 0 ?_ | refine cl (cr) ?_ | refine ia (H.ref v).toNat hg ?_ (hn := hq) | fail))
    exact fin (.same _ (by simp))
  · have e1 : pairsA H v = .v (.slice none 0 0) := by rw [pairsA, if_neg (by omega)]
    have e2 : pairsB H v = false := by simp [pairsB]; omega
    rw [e1, e2]
    refine gives_of Tryz.func138 rfl (Nat.le_of_ble_eq_true rfl) ?_
    (repeat' (first | refine mv ?_ | refine asg ?_ | refine ld ?_ | refine fp ?_ | refine fi ?_ | refine bt ?_ | refine bf ?_ | refine pf ?_ | refine la ?_ | refine aops_nil ?_ | refine aw_seq ?_ | refine aw_region ?_ | refine aw_cond_t rfl ?_ | refine aw_cond_f rfl ?_ | refine aw_skip ?_ | refine aw_ret ?_ | refine bx 0 ?_ | refine cl (cr) ?_ | refine ia (H.ref v).toNat hg ?_ (hn := hq) | fail))
    exact fin (.same _ (by simp))
set_option maxHeartbeats 4000000 in
theorem rlOf_ok (H : HHeap) (hi : H.In) (v : Int) : Gives Tryz.prog 97 [.agg (encHeap H), iv v] (.tup [iv (ofV H v), iv (ofE H v)]) := by
  have cr : Gives Tryz.prog 22 [.agg (encHeap H), iv v] (iv (H.ref v)) := rRef_ok H v hi.2.2.2
  have cn := rN_ok v
  cases hm : mayH H with
  | false =>
    have cm := (rMay_ok H hi).to' (congrArg bv hm)
    rw [ofV, ofE, if_neg (by rw [hm]; simp), if_neg (by rw [hm]; simp)]
    refine gives_of Tryz.func97 rfl (Nat.le_of_ble_eq_true rfl) ?_
    (repeat' (first | refine asg ?_ | refine un ?_ | refine la ?_ | refine aops_nil ?_ | refine aw_seq ?_ | refine aw_region ?_ | refine aw_cond_t rfl ?_ | refine aw_ret ?_ | refine bx 0 ?_ | refine cl (cm) ?_ | fail))
    exact fin (.same _ (by simp))
  | true =>
    have cm := (rMay_ok H hi).to' (congrArg bv hm)
    rw [ofV, ofE, if_pos hm, if_pos hm]
    cases hn : isN v with
    | true =>
      rw [hn] at cn
      rw [if_pos rfl, if_pos rfl]
      refine gives_of Tryz.func97 rfl (Nat.le_of_ble_eq_true rfl) ?_
      (repeat' (first | refine mv ?_ | refine asg ?_ | refine un ?_ | refine ex ?_ | refine la ?_ | refine aops_nil ?_ | refine aw_seq ?_ | refine aw_region ?_ | refine aw_cond_t rfl ?_ | refine aw_cond_f rfl ?_ | refine aw_skip ?_ | refine aw_ret ?_ | refine bx 0 ?_ | refine cl (cn) ?_ | refine cl (cm) ?_ | fail))
      exact fin (.same _ (by simp))
    | false =>
      rw [hn] at cn
      simp only [Bool.false_eq_true, if_false]
      by_cases h : 0 ≤ H.ref v
      · simp only [if_pos h]
        have hg : (encObjs H.objs)[(H.ref v).toNat]? = some (encObj (H.at' v)) := objs_get (at_get h)
        have hq : H.ref v = ((H.ref v).toNat : Int) := (Int.toNat_of_nonneg h).symm
        refine gives_of Tryz.func97 rfl (Nat.le_of_ble_eq_true rfl) ?_
        (repeat' (first | refine mv ?_ | refine asg ?_ | refine bf ?_ | refine un ?_ | refine ex ?_ | refine la ?_ | refine aops_nil ?_ | refine aw_seq ?_ | refine aw_region ?_ | refine aw_cond_f rfl ?_ | refine aw_skip ?_ | refine bx 0 ?_ | refine cl (cr) ?_ | refine cl (cn) ?_ | refine cl (cm) ?_ | fail))
        refine aw_drawP 8 [] ?_
        (repeat' (first | refine dPn ?_ | refine dP (fun _ => y_move) ?_ | refine dP (fun _ => y_load) ?_ | refine dP (fun _ => y_faddr_ptr (hs := Nat.le_of_ble_eq_true rfl)) ?_ | refine dP (fun _ => y_faddr_ip) ?_ | refine dP (fun _ => y_loadsN) ?_ | refine dP (fun _ => y_call (cr)) ?_ | refine dP (fun _ => (y_iaddrN (H.ref v).toNat hg (hn := hq))) ?_ | fail))
        (repeat' (first | refine asg ?_ | refine aops_nil ?_ | refine aw_ret ?_ | fail))
        exact fin (.same _ (by simp))
      · simp only [if_neg h]
        refine gives_of Tryz.func97 rfl (Nat.le_of_ble_eq_true rfl) ?_
        (repeat' (first | refine mv ?_ | refine asg ?_ | refine bt ?_ | refine un ?_ | refine ex ?_ | refine la ?_ | refine aops_nil ?_ | refine aw_seq ?_ | refine aw_region ?_ | refine aw_cond_t rfl ?_ | refine aw_cond_f rfl ?_ | refine aw_skip ?_ | refine aw_ret ?_ | refine bx 0 ?_ | refine cl (cr) ?_ | refine cl (cn) ?_ | refine cl (cm) ?_ | fail))
        exact fin (.same _ (by simp))
end Go.Proofs.YtnjihhheiiapnaaGreat
namespace Go.Proofs.YtnjihhheiiapnaaGreat
open Go Go.Proofs AW
set_option maxHeartbeats 8000000 in
theorem rlMay_ok (H : HHeap) (hi : H.In) (c : Int) : Gives Tryz.prog 93 [.agg (encHeap H), iv c] (bv (mayH H && clsB H c)) := by
  have cr : Gives Tryz.prog 22 [.agg (encHeap H), iv c] (iv (H.ref c)) := rRef_ok H c hi.2.2.2
  cases hm : mayH H with
  | false =>
    have cm := (rMay_ok H hi).to' (congrArg bv hm)
    refine gives_of Tryz.func93 rfl (Nat.le_of_ble_eq_true rfl) ?_
    (repeat' (first | refine sk ?_ | refine mv ?_ | refine asg ?_ | refine un ?_ | refine pt ?_ | refine la ?_ | refine aops_nil ?_ | refine aw_seq ?_ | refine aw_region ?_ | refine aw_cond_t rfl ?_ | refine aw_ret ?_ | refine bx 0 ?_ | refine cl (cr) ?_ | refine cl (cm) ?_ | fail))
    exact fin (sh_bv rfl)
  | true =>
    have cm := (rMay_ok H hi).to' (congrArg bv hm)
    rw [Bool.true_and]
    by_cases h : 0 ≤ H.ref c
    rotate_left
    · rw [show clsB H c = false by simp [clsB, h]]
      refine gives_of Tryz.func93 rfl (Nat.le_of_ble_eq_true rfl) ?_
      (repeat' (first | refine sk ?_ | refine mv ?_ | refine asg ?_ | refine bt ?_ | refine un ?_ | refine pt ?_ | refine pf ?_ | refine la ?_ | refine aops_nil ?_ | refine aw_seq ?_ | refine aw_region ?_ | refine aw_cond_t rfl ?_ | refine aw_ret ?_ | refine bx 0 ?_ | refine cl (cr) ?_ | refine cl (cm) ?_ | fail))
      exact fin (sh_bv rfl)
    have hg : (encObjs H.objs)[(H.ref c).toNat]? = some (encObj (H.at' c)) := objs_get (at_get h)
    have hq : H.ref c = ((H.ref c).toNat : Int) := (Int.toNat_of_nonneg h).symm
    have hls : (encInts (H.at' c).slots).length = (H.at' c).slots.length := len_ints _
    by_cases hk : (H.at' c).kind = 0
    rotate_left
    · rw [show clsB H c = false by simp [clsB, hk]]
      refine gives_of Tryz.func93 rfl (Nat.le_of_ble_eq_true rfl) ?_
      (repeat' (first | refine sk ?_ | refine mv ?_ | refine asg ?_ | refine ld ?_ | refine fp ?_ | refine fi ?_ | refine bt ?_ | refine bf ?_ | refine un ?_ | refine pt ?_ | refine pf ?_ | refine la ?_ | refine aops_nil ?_ | refine aw_seq ?_ | refine aw_region ?_ | refine aw_cond_t rfl ?_ | refine aw_ret ?_ | refine bx 0 ?_ | refine cl (cr) ?_ | refine cl (cm) ?_ | refine ia (H.ref c).toNat hg ?_ (hn := hq) | fail))
      exact fin (sh_bv rfl)
    by_cases h3 : 3 ≤ (H.at' c).slots.length
    rotate_left
    · rw [show clsB H c = false by simp [clsB, h3]]
      refine gives_of Tryz.func93 rfl (Nat.le_of_ble_eq_true rfl) ?_
      (repeat' (first | refine mv ?_ | refine asg ?_ | refine ld ?_ | refine fp ?_ | refine fi ?_ | refine bt ?_ | refine bf ?_ | refine un ?_ | refine pf ?_ | refine ln ?_ | refine la ?_ | refine aops_nil ?_ | refine aw_seq ?_ | refine aw_region ?_ | refine aw_cond_t rfl ?_ | refine aw_ret ?_ | refine bx 0 ?_ | refine cl (cr) ?_ | refine cl (cm) ?_ | refine ia (H.ref c).toNat hg ?_ (hn := hq) | fail))
      exact fin (sh_bv rfl)
    have g0 := ints_get (sl_get (o := H.at' c) (k := 0) (by omega))
    have g1 := ints_get (sl_get (o := H.at' c) (k := 1) (by omega))
    have g2 := ints_get (sl_get (o := H.at' c) (k := 2) (by omega))
    have cp := rpairs_ok H hi ((H.at' c).sl 1)
    have cn := rN_ok ((H.at' c).sl 2)
    have c0 : Gives Tryz.prog 22 [.agg (encHeap H), iv ((H.at' c).sl 0)] (iv (H.ref ((H.at' c).sl 0))) := rRef_ok H _ hi.2.2.2
    have hE : clsB H c = (decide (0 ≤ H.ref ((H.at' c).sl 0)) && (pairsB H ((H.at' c).sl 1) && (isN ((H.at' c).sl 2) && (decide (0 ≤ nI ((H.at' c).sl 2)) && decide (nI ((H.at' c).sl 2) ≤ 64))))) := by
      simp [clsB, h, hk, h3, Bool.decide_and]
    rw [hE]
    generalize H.ref ((H.at' c).sl 0) = r0 at *
    generalize pairsA H ((H.at' c).sl 1) = pa at *
    generalize pairsB H ((H.at' c).sl 1) = pb at *
    generalize isN ((H.at' c).sl 2) = nb at *
    generalize nI ((H.at' c).sl 2) = n at *
    by_cases q0 : 0 ≤ r0
    rotate_left
    · rw [decide_eq_false q0, Bool.false_and]
      refine gives_of Tryz.func93 rfl (Nat.le_of_ble_eq_true rfl) ?_
      (repeat' (first | refine mv ?_ | refine asg ?_ | refine ld ?_ | refine fp ?_ | refine fi ?_ | refine bf ?_ | refine un ?_ | refine pf ?_ | refine ln ?_ | refine la ?_ | refine aops_nil ?_ | refine aw_seq ?_ | refine aw_region ?_ | refine aw_cond_f rfl ?_ | refine aw_skip ?_ | refine bx 0 ?_ | refine cl (cr) ?_ | refine cl (cm) ?_ | refine ia (H.ref c).toNat hg ?_ (hn := hq) | fail))
      refine aw_drawP 10 [] ?_
      (repeat' (first | refine dPn ?_ | refine dP (fun _ => y_move) ?_ | refine dP (fun _ => y_assign) ?_ | refine dP (fun _ => y_extract) ?_ | refine dP (fun _ => y_load) ?_ | refine dP (fun _ => y_loadsN) ?_ | refine dP (fun _ => y_iaddrN 1 g1) ?_ | refine dP (fun _ => y_call (cp)) ?_ | fail))
      (repeat' (first | refine mv ?_ | refine asg ?_ | refine ld ?_ | refine ex ?_ | refine aops_nil ?_ | refine aw_seq ?_ | refine aw_region ?_ | refine cl (cn) ?_ | refine ia 2 g2 ?_ | fail))
      refine aw_drawP 20 [] ?_
      (repeat' (first | refine dPk ?_ | refine dPn ?_ | refine dP (fun _ => y_move) ?_ | refine dP (fun _ => y_load) ?_ | refine dP (fun _ => y_bf) ?_ | refine dP (fun _ => y_pick_f) ?_ | refine dP (fun _ => y_loadsN) ?_ | refine dP (fun _ => y_iaddrN 0 g0) ?_ | refine dP (fun _ => y_call (c0)) ?_ | fail))
      (repeat' (first | refine asg ?_ | refine aops_nil ?_ | refine aw_ret ?_ | fail))
      exact fin (sh_bv rfl)
    rw [decide_eq_true q0, Bool.true_and]
    cases pb with
    | false =>
      refine gives_of Tryz.func93 rfl (Nat.le_of_ble_eq_true rfl) ?_
      (repeat' (first | refine mv ?_ | refine asg ?_ | refine ld ?_ | refine fp ?_ | refine fi ?_ | refine bf ?_ | refine un ?_ | refine pf ?_ | refine ln ?_ | refine la ?_ | refine aops_nil ?_ | refine aw_seq ?_ | refine aw_region ?_ | refine aw_cond_f rfl ?_ | refine aw_skip ?_ | refine bx 0 ?_ | refine cl (cr) ?_ | refine cl (cm) ?_ | refine ia (H.ref c).toNat hg ?_ (hn := hq) | fail))
      refine aw_drawP 10 [] ?_
      (repeat' (first | refine dPn ?_ | refine dP (fun _ => y_move) ?_ | refine dP (fun _ => y_assign) ?_ | refine dP (fun _ => y_extract) ?_ | refine dP (fun _ => y_load) ?_ | refine dP (fun _ => y_loadsN) ?_ | refine dP (fun _ => y_iaddrN 1 g1) ?_ | refine dP (fun _ => y_call (cp)) ?_ | fail))
      (repeat' (first | refine mv ?_ | refine asg ?_ | refine ld ?_ | refine ex ?_ | refine aops_nil ?_ | refine aw_seq ?_ | refine aw_region ?_ | refine cl (cn) ?_ | refine ia 2 g2 ?_ | fail))
      refine aw_drawP 20 [] ?_
      (repeat' (first | refine dPk ?_ | refine dPn ?_ | refine dP (fun _ => y_move) ?_ | refine dP (fun _ => y_load) ?_ | refine dP (fun _ => y_bt) ?_ | refine dP (fun _ => y_pick_t) ?_ | refine dP (fun _ => y_pick_f) ?_ | refine dP (fun _ => y_loadsN) ?_ | refine dP (fun _ => y_iaddrN 0 g0) ?_ | refine dP (fun _ => y_call (c0)) ?_ | fail))
      (repeat' (first | refine asg ?_ | refine aops_nil ?_ | refine aw_ret ?_ | fail))
      exact fin (sh_bv rfl)
    | true =>
      cases nb with
      | false =>
        refine gives_of Tryz.func93 rfl (Nat.le_of_ble_eq_true rfl) ?_
        (repeat' (first | refine mv ?_ | refine asg ?_ | refine ld ?_ | refine fp ?_ | refine fi ?_ | refine bf ?_ | refine un ?_ | refine pf ?_ | refine ln ?_ | refine la ?_ | refine aops_nil ?_ | refine aw_seq ?_ | refine aw_region ?_ | refine aw_cond_f rfl ?_ | refine aw_skip ?_ | refine bx 0 ?_ | refine cl (cr) ?_ | refine cl (cm) ?_ | refine ia (H.ref c).toNat hg ?_ (hn := hq) | fail))
        refine aw_drawP 10 [] ?_
        (repeat' (first | refine dPn ?_ | refine dP (fun _ => y_move) ?_ | refine dP (fun _ => y_assign) ?_ | refine dP (fun _ => y_extract) ?_ | refine dP (fun _ => y_load) ?_ | refine dP (fun _ => y_loadsN) ?_ | refine dP (fun _ => y_iaddrN 1 g1) ?_ | refine dP (fun _ => y_call (cp)) ?_ | fail))
        (repeat' (first | refine mv ?_ | refine asg ?_ | refine ld ?_ | refine ex ?_ | refine aops_nil ?_ | refine aw_seq ?_ | refine aw_region ?_ | refine cl (cn) ?_ | refine ia 2 g2 ?_ | fail))
        refine aw_drawP 20 [] ?_
        (repeat' (first | refine dPk ?_ | refine dPn ?_ | refine dP (fun _ => y_move) ?_ | refine dP (fun _ => y_load) ?_ | refine dP (fun _ => y_bt) ?_ | refine dP (fun _ => y_pick_t) ?_ | refine dP (fun _ => y_pick_f) ?_ | refine dP (fun _ => y_loadsN) ?_ | refine dP (fun _ => y_iaddrN 0 g0) ?_ | refine dP (fun _ => y_call (c0)) ?_ | fail))
        (repeat' (first | refine asg ?_ | refine aops_nil ?_ | refine aw_ret ?_ | fail))
        exact fin (sh_bv rfl)
      | true =>
        by_cases q1 : 0 ≤ n
        rotate_left
        · rw [decide_eq_false q1]
          refine gives_of Tryz.func93 rfl (Nat.le_of_ble_eq_true rfl) ?_
          (repeat' (first | refine mv ?_ | refine asg ?_ | refine ld ?_ | refine fp ?_ | refine fi ?_ | refine bf ?_ | refine un ?_ | refine pf ?_ | refine ln ?_ | refine la ?_ | refine aops_nil ?_ | refine aw_seq ?_ | refine aw_region ?_ | refine aw_cond_f rfl ?_ | refine aw_skip ?_ | refine bx 0 ?_ | refine cl (cr) ?_ | refine cl (cm) ?_ | refine ia (H.ref c).toNat hg ?_ (hn := hq) | fail))
          refine aw_drawP 10 [] ?_
          (repeat' (first | refine dPn ?_ | refine dP (fun _ => y_move) ?_ | refine dP (fun _ => y_assign) ?_ | refine dP (fun _ => y_extract) ?_ | refine dP (fun _ => y_load) ?_ | refine dP (fun _ => y_loadsN) ?_ | refine dP (fun _ => y_iaddrN 1 g1) ?_ | refine dP (fun _ => y_call (cp)) ?_ | fail))
          (repeat' (first | refine mv ?_ | refine asg ?_ | refine ld ?_ | refine ex ?_ | refine aops_nil ?_ | refine aw_seq ?_ | refine aw_region ?_ | refine cl (cn) ?_ | refine ia 2 g2 ?_ | fail))
          refine aw_drawP 20 [] ?_
          (repeat' (first | refine dPk ?_ | refine dPn ?_ | refine dP (fun _ => y_move) ?_ | refine dP (fun _ => y_load) ?_ | refine dP (fun _ => y_bt) ?_ | refine dP (fun _ => y_bf) ?_ | refine dP (fun _ => y_pick_t) ?_ | refine dP (fun _ => y_pick_f) ?_ | refine dP (fun _ => y_loadsN) ?_ | refine dP (fun _ => y_iaddrN 0 g0) ?_ | refine dP (fun _ => y_call (c0)) ?_ | fail))
          (repeat' (first | refine asg ?_ | refine aops_nil ?_ | refine aw_ret ?_ | fail))
          exact fin (sh_bv rfl)
        by_cases q2 : n ≤ 64
        · rw [decide_eq_true q1, decide_eq_true q2]
          refine gives_of Tryz.func93 rfl (Nat.le_of_ble_eq_true rfl) ?_
          (repeat' (first | refine mv ?_ | refine asg ?_ | refine ld ?_ | refine fp ?_ | refine fi ?_ | refine bf ?_ | refine un ?_ | refine pf ?_ | refine ln ?_ | refine la ?_ | refine aops_nil ?_ | refine aw_seq ?_ | refine aw_region ?_ | refine aw_cond_f rfl ?_ | refine aw_skip ?_ | refine bx 0 ?_ | refine cl (cr) ?_ | refine cl (cm) ?_ | refine ia (H.ref c).toNat hg ?_ (hn := hq) | fail))
          refine aw_drawP 10 [] ?_
          (repeat' (first | refine dPn ?_ | refine dP (fun _ => y_move) ?_ | refine dP (fun _ => y_assign) ?_ | refine dP (fun _ => y_extract) ?_ | refine dP (fun _ => y_load) ?_ | refine dP (fun _ => y_loadsN) ?_ | refine dP (fun _ => y_iaddrN 1 g1) ?_ | refine dP (fun _ => y_call (cp)) ?_ | fail))
          (repeat' (first | refine mv ?_ | refine asg ?_ | refine ld ?_ | refine ex ?_ | refine aops_nil ?_ | refine aw_seq ?_ | refine aw_region ?_ | refine cl (cn) ?_ | refine ia 2 g2 ?_ | fail))
          refine aw_drawP 20 [] ?_
          (repeat' (first | refine dPn ?_ | refine dP (fun _ => y_move) ?_ | refine dP (fun _ => y_load) ?_ | refine dP (fun _ => y_bt) ?_ | refine dP (fun _ => y_pick_t) ?_ | refine dP (fun _ => y_loadsN) ?_ | refine dP (fun _ => y_iaddrN 0 g0) ?_ | refine dP (fun _ => y_call (c0)) ?_ | fail))
          (repeat' (first | refine asg ?_ | refine aops_nil ?_ | refine aw_ret ?_ | fail))
          exact fin (sh_bv rfl)
        · rw [decide_eq_true q1, decide_eq_false q2]
          refine gives_of Tryz.func93 rfl (Nat.le_of_ble_eq_true rfl) ?_
          (repeat' (first | refine mv ?_ | refine asg ?_ | refine ld ?_ | refine fp ?_ | refine fi ?_ | refine bf ?_ | refine un ?_ | refine pf ?_ | refine ln ?_ | refine la ?_ | refine aops_nil ?_ | refine aw_seq ?_ | refine aw_region ?_ | refine aw_cond_f rfl ?_ | refine aw_skip ?_ | refine bx 0 ?_ | refine cl (cr) ?_ | refine cl (cm) ?_ | refine ia (H.ref c).toNat hg ?_ (hn := hq) | fail))
          refine aw_drawP 10 [] ?_
          (repeat' (first | refine dPn ?_ | refine dP (fun _ => y_move) ?_ | refine dP (fun _ => y_assign) ?_ | refine dP (fun _ => y_extract) ?_ | refine dP (fun _ => y_load) ?_ | refine dP (fun _ => y_loadsN) ?_ | refine dP (fun _ => y_iaddrN 1 g1) ?_ | refine dP (fun _ => y_call (cp)) ?_ | fail))
          (repeat' (first | refine mv ?_ | refine asg ?_ | refine ld ?_ | refine ex ?_ | refine aops_nil ?_ | refine aw_seq ?_ | refine aw_region ?_ | refine cl (cn) ?_ | refine ia 2 g2 ?_ | fail))
          refine aw_drawP 20 [] ?_
          (repeat' (first | refine dPn ?_ | refine dP (fun _ => y_move) ?_ | refine dP (fun _ => y_load) ?_ | refine dP (fun _ => y_bt) ?_ | refine dP (fun _ => y_bf) ?_ | refine dP (fun _ => y_pick_t) ?_ | refine dP (fun _ => y_loadsN) ?_ | refine dP (fun _ => y_iaddrN 0 g0) ?_ | refine dP (fun _ => y_call (c0)) ?_ | fail))
          (repeat' (first | refine asg ?_ | refine aops_nil ?_ | refine aw_ret ?_ | fail))
          exact fin (sh_bv rfl)
end Go.Proofs.YtnjihhheiiapnaaGreat
namespace Go.Proofs.YtnjihhheiiapnaaGreat
open Go Go.RowKit Go.Proofs FM
set_option maxHeartbeats 4000000
theorem Trunc_ref (k : Nat) (hk : 70 ≤ k) (s : Bool) (p : Nat) (hp : p < 2 ^ 63) : anamnesisref02_Trunc.f k (toI s p) = flt_Trunc.f (toI s p) := by
  unfold anamnesisref02_Trunc.f
  rw [Kind_eq s p hp, Option.bind_some, Option.bind_some]
  have fc : ∀ m i, dat s p = .number s m i → fcut (Ieee.double.word s p) = Ieee.double.word s (if m * 2 ^ i.toNat / 2 ^ (-i).toNat = 0 then 0 else rung (m * 2 ^ i.toNat / 2 ^ (-i).toNat) 0) := by
    intro m i hd
    unfold fcut
    rw [read_word s p hp, hd]
    show Ieee.double.nearest s (Ieee.Toward.zero.cut s (m <<< i.toNat) (-i).toNat) 0 = _
    rw [nearest_eq, cut_zero, Nat.shiftLeft_eq]
  rcases ways p hp with ⟨h1, k1⟩ | ⟨h1, k1⟩ | ⟨h1, k1⟩ | ⟨h1, h1', k1⟩
  · rw [if_pos (by omega)]
    unfold flt_Trunc.f
    rw [read_toI s p hp, dat_nan s p h1, if_pos (show (Ieee.Datum.nan s (p - 2047 * 2 ^ 52)).isNaN = true from rfl)]
  · rw [if_pos (by omega)]
    subst h1
    unfold flt_Trunc.f
    rw [read_toI s _ hp, fbits_toI s _ hp, dat_inf, if_neg (by simp [Ieee.Datum.isNaN])]
    unfold fcut
    rw [read_word s _ hp, dat_inf]
    cases s <;> decide +kernel
  · rw [if_neg (by omega), if_pos (by omega)]
    subst h1
    have := trunc_of s 0 0 (by omega) (by omega) (by rw [fc 0 (-1074) rfl, Nat.zero_mul, Nat.zero_div])
    rw [this]
    cases s <;> rfl
  · by_cases h2 : p < 2 ^ 52
    · have k3 : kindOf p = 3 := by unfold kindOf; rw [if_pos h1', if_neg h1, if_pos h2]
      rw [if_neg (by omega), if_pos (by omega)]
      have hz : p * 2 ^ (-1074 : Int).toNat / 2 ^ (- (-1074 : Int)).toNat = 0 := by
        apply Nat.div_eq_of_lt
        rw [show (-1074 : Int).toNat = 0 by decide, Nat.pow_zero, Nat.mul_one]
        generalize hE : (- (-1074 : Int)).toNat = E
        exact Nat.lt_of_lt_of_le h2 (Nat.pow_le_pow_right (by omega) (by omega))
      have := trunc_of s p 0 (by omega) (by omega) (by rw [fc p (-1074) (by unfold dat; rw [if_pos h2]), hz])
      rw [this]
      cases s <;> rfl
    · have k4 : kindOf p = 4 := by unfold kindOf; rw [if_pos h1', if_neg h1, if_neg h2]
      rw [if_neg (by omega), if_neg (by omega)]
      obtain ⟨m0, l, e, hd, hpart, hm, hm2, hl, he1, he2, _, hz2⟩ := part_eq s p h1 h1'
      obtain ⟨rfl, hm0, he⟩ := hz2 (by omega)
      rw [hpart k (by omega), Option.bind_some]
      dsimp only
      simp only [Nat.pow_zero, Nat.mul_one] at hd hm hm2 ⊢
      rw [show e + ((0 : Nat) : Int) = e by omega] at hd
      have hfc := fc m0 e hd
      clear hpart fc hm0 k1 k4
      obtain ⟨k, rfl⟩ : ∃ x, k = x + 1 := ⟨k - 1, by omega⟩
      by_cases h3 : e > 0
      · rw [if_pos h3]
        -- too great
        obtain ⟨j, hj⟩ : ∃ j : Nat, e = j := ⟨e.toNat, by omega⟩
        rw [hj, show ((j : Int)).toNat = j by omega, show (-(j : Int)).toNat = 0 by omega, Nat.pow_zero, Nat.div_one] at hfc
        have hne : m0 * 2 ^ j ≠ 0 := by have := Nat.two_pow_pos j; exact Nat.mul_ne_zero (by omega) (by omega)
        have hr : rung (m0 * 2 ^ j) 0 = p := by
          rw [rung_up _ _ _ (by omega), show (0 : Int) + j = e by omega]
          have := rung_dat s p h1'
          rw [hd, told_number, if_neg (by omega)] at this
          exact ((toI_inj s s _ _ (by have := rung_le m0 e; omega) hp).1 this).2
        rw [if_neg hne, hr] at hfc
        unfold flt_Trunc.f
        rw [read_toI s p hp, fbits_toI s p hp, hfc, hd, if_neg (by simp [Ieee.Datum.isNaN])]
        have w1 : (13965662444475908096 : Nat) = Ieee.double.word true 4742290407621132288 := by decide
        have w2' : Ieee.double.order (Ieee.double.word s p) 4742290407621132288 = some (compare (place s p) (place false 4742290407621132288)) := by
          exact order_words s false p 4742290407621132288 (by omega) (by omega)
        rw [w2', w1, order_words s true p _ (by omega) (by omega)]
        simp only [Option.some.injEq, Int.compare_eq_eq, Int.compare_eq_gt, Int.compare_eq_lt]
        unfold place
        simp only [if_true, Bool.false_eq_true, if_false]
        have hbig : 4742290407621132288 < p := by omega
        clear hd hfc he hj hr
        cases s
        · simp only [if_false, Bool.false_eq_true]
          rw [if_pos (by omega), if_neg (by omega)]
        · simp only [if_true]
          rw [if_neg (by omega)]
      · rw [if_neg h3]
        obtain ⟨j, hj⟩ : ∃ j : Nat, e = -(j : Int) := ⟨(-e).toNat, by omega⟩
        subst hj
        rw [show (-(j : Int)).toNat = 0 by omega, show (-(-(j : Int))).toNat = j by omega, Nat.pow_zero, Nat.mul_one] at hfc
        have ht : m0 / 2 ^ j ≤ m0 := Nat.div_le_self _ _
        have := trunc_of s p (m0 / 2 ^ j) (by omega) (by omega) hfc
        rw [this]
        clear this hfc hd he
        have fin : ∀ x : Nat, x < 2 ^ 53 → anamnesisref02_Trunc.j0 (k + 1) (toI s p) (x : Int) = some (if (if s then -(x : Int) else x) < -1073741824 ∨ 1073741824 ≤ (if s then -(x : Int) else (x : Int)) then (0, false) else ((if s then -(x : Int) else (x : Int)), true)) := by
          intro x hx
          rw [anamnesisref02_Trunc.j0, sign_eq s p hp, Option.bind_some, w64i (n := -(x : Int)) (by omega) (by omega)]
          cases s
          · simp only [Bool.false_eq_true, if_false]
            rw [if_neg (by omega)]
            by_cases h : (x : Int) ≥ 1073741824
            · rw [if_pos h, if_pos (by omega)]
            · rw [if_neg h, if_neg (by omega)]
          · simp only [if_true]
            by_cases h : -(x : Int) < -1073741824
            · rw [if_pos h, if_pos (by omega)]
            · rw [if_neg h, if_neg (by omega), if_neg (by omega)]
        by_cases h4 : -(j : Int) < -62
        · rw [if_pos h4]
          have hz : m0 / 2 ^ j = 0 := Nat.div_eq_of_lt (Nat.lt_of_lt_of_le hm2 (Nat.pow_le_pow_right (by omega) (by omega)))
          rw [hz]
          exact fin 0 (by omega)
        · rw [if_neg h4, show -(-(j : Int)) = (j : Int) by omega, w64i (n := (j : Int)) (by omega) (by omega), u64 (n := (j : Int)) (by omega) (by omega), if_pos (by omega)]
          have e3 : shr .i64 (m0 : Int) (j : Int) = ((m0 / 2 ^ j : Nat) : Int) := by
            unfold shr
            rw [show min (j : Int).toNat IntKind.i64.bits = j by show min _ 64 = _; omega]
            push_cast; rfl
          rw [e3]
          exact fin _ (by omega)
end Go.Proofs.YtnjihhheiiapnaaGreat
