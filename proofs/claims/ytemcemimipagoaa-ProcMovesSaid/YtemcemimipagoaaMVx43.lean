/- What the statements' walks need. -/
import Derived.Test.YtemcemimipagoaaMVa4
import Derived.Test.YtemcemimipagoaaMVx26
import Derived.Test.YtemcemimipagoaaMVx30
set_option linter.unusedVariables false
set_option linter.unusedSimpArgs false
set_option maxRecDepth 100000
namespace Go.Proofs.Ytemcemimipagoaa
open Go Go.Proofs AW
def slL (H : HHeap) (v cls : Int) (many : Nat) : List Int := if slB H v cls many = true then (H.at' v).slots else []
set_option maxHeartbeats 8000000 in
theorem rof_ok (H : HHeap) (hi : H.In) (v cls : Int) (many : Nat) (hm : 0 < many) : Gives Try.prog 34 [.agg (encHeap H), iv v, iv cls, iv (many : Int)] (.sl 1 (encInts (slL H v cls many))) := by
  have cs' := rSlots_ok H hi v
  by_cases hl : (slotI H v).length = many
  rotate_left
  · have hle : (encInts (slotI H v)).length = (slotI H v).length := len_ints _
    have e : slL H v cls many = [] := by
      rw [slL, if_neg]
      intro h
      obtain ⟨f1, f2, f3, f4⟩ := slB_facts h
      apply hl; rw [slotI, if_pos ⟨f1, f2⟩, f4]
    rw [e]
    refine gives_of Try.func34 rfl (Nat.le_of_ble_eq_true rfl) ?_
    (repeat' (first | refine mv ?_ | refine asg ?_ | refine la ?_ | refine aops_nil ?_ | refine aw_seq ?_ | refine aw_region ?_ | refine bx 0 ?_ | refine cl (cs') ?_ | fail))
    refine aw_drawP 16 [] ?_
    (repeat' (first | refine dPk ?_ | refine dPn ?_ | refine dP (fun _ => y_move) ?_ | refine dP (fun _ => y_bt) ?_ | refine dP (fun _ => y_pick_t) ?_ | refine dP (fun _ => y_len) ?_ | fail))
    (repeat' (first | refine asg ?_ | refine aops_nil ?_ | refine aw_seq ?_ | refine aw_region ?_ | refine aw_cond_t rfl ?_ | refine aw_ret ?_ | fail))
    exact fin (.nil 1)
  · have hk : H.is v 0 := by
      by_cases h : H.is v 0
      · exact h
      · rw [slotI, if_neg h] at hl; simp at hl; omega
    have es : slotI H v = (H.at' v).slots := by rw [slotI, if_pos hk]
    rw [es] at hl cs'
    obtain ⟨h1, h2⟩ := hk
    have hle : (encInts (H.at' v).slots).length = (H.at' v).slots.length := len_ints _
    have cr : Gives Try.prog 35 [.agg (encHeap H), iv v] (iv (H.ref v)) := rRef_ok H v hi.2.2.2
    have hg : (encObjs H.objs)[(H.ref v).toNat]? = some (encObj (H.at' v)) := objs_get (at_get h1)
    have hq : H.ref v = ((H.ref v).toNat : Int) := (Int.toNat_of_nonneg h1).symm
    by_cases hc : (H.at' v).cls = cls
    · have e : slL H v cls many = (H.at' v).slots := by rw [slL, if_pos (by simp [slB, h1, h2, hc, hl])]
      rw [e]
      refine gives_of Try.func34 rfl (Nat.le_of_ble_eq_true rfl) ?_
      (repeat' (first | refine mv ?_ | refine asg ?_ | refine la ?_ | refine aops_nil ?_ | refine aw_seq ?_ | refine aw_region ?_ | refine bx 0 ?_ | refine cl (cs') ?_ | fail))
      refine aw_drawP 16 [] ?_
      (repeat' (first | refine dPn ?_ | refine dP (fun _ => y_move) ?_ | refine dP (fun _ => y_load) ?_ | refine dP (fun _ => y_faddr_ptr (hs := Nat.le_of_ble_eq_true rfl)) ?_ | refine dP (fun _ => y_faddr_ip) ?_ | refine dP (fun _ => y_bf) ?_ | refine dP (fun _ => y_pick_f) ?_ | refine dP (fun _ => y_len) ?_ | refine dP (fun _ => y_loadsN) ?_ | refine dP (fun _ => y_call (cr)) ?_ | refine dP (fun _ => (y_iaddrN (H.ref v).toNat hg (hn := hq))) ?_ | fail))
      (repeat' (first | refine mv ?_ | refine asg ?_ | refine aops_nil ?_ | refine aw_seq ?_ | refine aw_region ?_ | refine aw_cond_f rfl ?_ | refine aw_skip ?_ | refine aw_ret ?_ | fail))
      exact fin (.same _ (by simp))
    · have e : slL H v cls many = [] := by rw [slL, if_neg (by simp [slB, hc])]
      rw [e]
      refine gives_of Try.func34 rfl (Nat.le_of_ble_eq_true rfl) ?_
      (repeat' (first | refine mv ?_ | refine asg ?_ | refine la ?_ | refine aops_nil ?_ | refine aw_seq ?_ | refine aw_region ?_ | refine bx 0 ?_ | refine cl (cs') ?_ | fail))
      refine aw_drawP 16 [] ?_
      (repeat' (first | refine dPn ?_ | refine dP (fun _ => y_move) ?_ | refine dP (fun _ => y_load) ?_ | refine dP (fun _ => y_faddr_ptr (hs := Nat.le_of_ble_eq_true rfl)) ?_ | refine dP (fun _ => y_faddr_ip) ?_ | refine dP (fun _ => y_bt) ?_ | refine dP (fun _ => y_bf) ?_ | refine dP (fun _ => y_pick_f) ?_ | refine dP (fun _ => y_len) ?_ | refine dP (fun _ => y_loadsN) ?_ | refine dP (fun _ => y_call (cr)) ?_ | refine dP (fun _ => (y_iaddrN (H.ref v).toNat hg (hn := hq))) ?_ | fail))
      (repeat' (first | refine asg ?_ | refine aops_nil ?_ | refine aw_seq ?_ | refine aw_region ?_ | refine aw_cond_t rfl ?_ | refine aw_ret ?_ | fail))
      exact fin (.nil 1)
theorem at_ref {H : HHeap} {v : Int} (h : hasB H.objs.length v = true) : decide (0 ≤ H.ref v) = isAt v := by
  cases ha : isAt v with
  | true => exact decide_eq_true (has_at h ha)
  | false => simp [HHeap.ref, refI, ha]
theorem small7 (v : Int) : decide (0 ≤ smI v 7) = decide (isN v = true ∧ 0 ≤ nI v ∧ nI v ≤ 7) := by
  unfold smI
  split
  · rename_i h; rw [decide_eq_true h]; exact decide_eq_true h.2.1
  · rename_i h; rw [decide_eq_false h]; decide
set_option maxHeartbeats 16000000 in
theorem rpMay_ok (H : HHeap) (hi : H.In) (p : Int) : Gives Try.prog 14 [.agg (encHeap H), iv p] (bv (mayH H && prcB H p)) := by
  have co := rof_ok H hi p 14 4 (by decide)
  cases hm : mayH H with
  | false =>
    have cm := (rMay_ok H hi).to' (congrArg bv hm)
    refine gives_of Try.func14 rfl (Nat.le_of_ble_eq_true rfl) ?_
    (repeat' (first | refine sk ?_ | refine mv ?_ | refine asg ?_ | refine un ?_ | refine pt ?_ | refine la ?_ | refine aops_nil ?_ | refine aw_seq ?_ | refine aw_region ?_ | refine aw_cond_t rfl ?_ | refine aw_ret ?_ | refine bx 0 ?_ | refine cl (co) ?_ | refine cl (cm) ?_ | fail))
    exact fin (sh_bv rfl)
  | true =>
    have cm := (rMay_ok H hi).to' (congrArg bv hm)
    rw [Bool.true_and]
    cases hs : slB H p 14 4 with
    | false =>
      have co := co.to' (show _ = .sl 1 (encInts []) by rw [slL, if_neg (by rw [hs]; simp)])
      rw [show prcB H p = false by simp [prcB, hs]]
      refine gives_of Try.func14 rfl (Nat.le_of_ble_eq_true rfl) ?_
      (repeat' (first | refine sk ?_ | refine mv ?_ | refine asg ?_ | refine bt ?_ | refine un ?_ | refine pt ?_ | refine pf ?_ | refine ln ?_ | refine la ?_ | refine aops_nil ?_ | refine aw_seq ?_ | refine aw_region ?_ | refine aw_cond_t rfl ?_ | refine aw_ret ?_ | refine bx 0 ?_ | refine cl (co) ?_ | refine cl (cm) ?_ | fail))
      exact fin (sh_bv rfl)
    | true =>
      have co := co.to' (show _ = .sl 1 (encInts (H.at' p).slots) by rw [slL, if_pos hs])
      obtain ⟨f1, f2, f3, f4⟩ := slB_facts hs
      have hle : (encInts (H.at' p).slots).length = 4 := by rw [len_ints, f4]
      have hne : ¬ (H.at' p).slots = [] := fun e => by rw [e] at f4; cases f4
      have g0 := ints_get (sl_get (o := H.at' p) (k := 0) (by omega))
      have g1 := ints_get (sl_get (o := H.at' p) (k := 1) (by omega))
      have g2 := ints_get (sl_get (o := H.at' p) (k := 2) (by omega))
      have g3 := ints_get (sl_get (o := H.at' p) (k := 3) (by omega))
      have hb : ∀ k, k < 4 → hasB H.objs.length ((H.at' p).sl k) = true := fun k hk => objslot_has hm f1 _ (List.mem_of_getElem? (sl_get (o := H.at' p) (k := k) (by omega)))
      have c0 : Gives Try.prog 35 [.agg (encHeap H), iv ((H.at' p).sl 0)] (iv (H.ref ((H.at' p).sl 0))) := rRef_ok H _ hi.2.2.2
      have c1 : Gives Try.prog 35 [.agg (encHeap H), iv ((H.at' p).sl 1)] (iv (H.ref ((H.at' p).sl 1))) := rRef_ok H _ hi.2.2.2
      have c3 : Gives Try.prog 35 [.agg (encHeap H), iv ((H.at' p).sl 3)] (iv (H.ref ((H.at' p).sl 3))) := rRef_ok H _ hi.2.2.2
      have c2 := rsmall_ok' ((H.at' p).sl 2) 7
      have hE : prcB H p = (decide (p ≠ 0) && (decide (0 ≤ H.ref ((H.at' p).sl 0)) && (decide (0 ≤ H.ref ((H.at' p).sl 1)) && (decide (0 ≤ smI ((H.at' p).sl 2) 7) && decide (0 ≤ H.ref ((H.at' p).sl 3)))))) := by
        rw [at_ref (hb 0 (by omega)), at_ref (hb 1 (by omega)), at_ref (hb 3 (by omega)), small7, prcB, hs, Bool.true_and, Bool.and_comm (isAt ((H.at' p).sl 3))]
      rw [hE]
      clear hE hb
      generalize H.ref ((H.at' p).sl 0) = r0 at *
      generalize H.ref ((H.at' p).sl 1) = r1 at *
      generalize H.ref ((H.at' p).sl 3) = r3 at *
      generalize smI ((H.at' p).sl 2) 7 = n at *
      by_cases h0 : p = 0
      · subst h0
        refine gives_of Try.func14 rfl (Nat.le_of_ble_eq_true rfl) ?_
        (repeat' (first | refine mv ?_ | refine asg ?_ | refine bt ?_ | refine bf ?_ | refine un ?_ | refine pf ?_ | refine ln ?_ | refine la ?_ | refine aops_nil ?_ | refine aw_seq ?_ | refine aw_region ?_ | refine aw_cond_t rfl ?_ | refine aw_ret ?_ | refine bx 0 ?_ | refine cl (co) ?_ | refine cl (cm) ?_ | fail))
        exact fin (sh_bv rfl)
      · rw [decide_eq_true (show p ≠ 0 from h0), Bool.true_and]
        by_cases q0 : 0 ≤ r0
        rotate_left
        · rw [decide_eq_false q0, Bool.false_and]
          refine gives_of Try.func14 rfl (Nat.le_of_ble_eq_true rfl) ?_
          (repeat' (first | refine mv ?_ | refine asg ?_ | refine bf ?_ | refine un ?_ | refine pf ?_ | refine ln ?_ | refine la ?_ | refine aops_nil ?_ | refine aw_seq ?_ | refine aw_region ?_ | refine aw_cond_f rfl ?_ | refine aw_skip ?_ | refine bx 0 ?_ | refine cl (co) ?_ | refine cl (cm) ?_ | fail))
          refine aw_drawP 29 [] ?_
          (repeat' (first | refine dPk ?_ | refine dPn ?_ | refine dP (fun _ => y_move) ?_ | refine dP (fun _ => y_load) ?_ | refine dP (fun _ => y_bf) ?_ | refine dP (fun _ => y_pick_f) ?_ | refine dP (fun _ => y_loadsN) ?_ | refine dP (fun _ => y_call (c0)) ?_ | refine dP (fun _ => (y_iaddrN 0 g0)) ?_ | fail))
          (repeat' (first | refine asg ?_ | refine aops_nil ?_ | refine aw_ret ?_ | fail))
          exact fin (sh_bv rfl)
        rw [decide_eq_true q0, Bool.true_and]
        by_cases q1 : 0 ≤ r1
        rotate_left
        · rw [decide_eq_false q1, Bool.false_and]
          refine gives_of Try.func14 rfl (Nat.le_of_ble_eq_true rfl) ?_
          (repeat' (first | refine mv ?_ | refine asg ?_ | refine bf ?_ | refine un ?_ | refine pf ?_ | refine ln ?_ | refine la ?_ | refine aops_nil ?_ | refine aw_seq ?_ | refine aw_region ?_ | refine aw_cond_f rfl ?_ | refine aw_skip ?_ | refine bx 0 ?_ | refine cl (co) ?_ | refine cl (cm) ?_ | fail))
          refine aw_drawP 29 [] ?_
          (repeat' (first | refine dPk ?_ | refine dPn ?_ | refine dP (fun _ => y_move) ?_ | refine dP (fun _ => y_load) ?_ | refine dP (fun _ => y_bt) ?_ | refine dP (fun _ => y_bf) ?_ | refine dP (fun _ => y_pick_t) ?_ | refine dP (fun _ => y_pick_f) ?_ | refine dP (fun _ => y_loadsN) ?_ | refine dP (fun _ => y_call (c0)) ?_ | refine dP (fun _ => y_call (c1)) ?_ | refine dP (fun _ => (y_iaddrN 0 g0)) ?_ | refine dP (fun _ => (y_iaddrN 1 g1)) ?_ | fail))
          (repeat' (first | refine asg ?_ | refine aops_nil ?_ | refine aw_ret ?_ | fail))
          exact fin (sh_bv rfl)
        rw [decide_eq_true q1, Bool.true_and]
        by_cases q2 : 0 ≤ n
        rotate_left
        · rw [decide_eq_false q2, Bool.false_and]
          refine gives_of Try.func14 rfl (Nat.le_of_ble_eq_true rfl) ?_
          (repeat' (first | refine mv ?_ | refine asg ?_ | refine bf ?_ | refine un ?_ | refine pf ?_ | refine ln ?_ | refine la ?_ | refine aops_nil ?_ | refine aw_seq ?_ | refine aw_region ?_ | refine aw_cond_f rfl ?_ | refine aw_skip ?_ | refine bx 0 ?_ | refine cl (co) ?_ | refine cl (cm) ?_ | fail))
          refine aw_drawP 29 [] ?_
          (repeat' (first | refine dPk ?_ | refine dPn ?_ | refine dP (fun _ => y_move) ?_ | refine dP (fun _ => y_load) ?_ | refine dP (fun _ => y_bt) ?_ | refine dP (fun _ => y_bf) ?_ | refine dP (fun _ => y_pick_t) ?_ | refine dP (fun _ => y_pick_f) ?_ | refine dP (fun _ => y_loadsN) ?_ | refine dP (fun _ => y_call (c0)) ?_ | refine dP (fun _ => y_call (c1)) ?_ | refine dP (fun _ => y_call (c2)) ?_ | refine dP (fun _ => (y_iaddrN 0 g0)) ?_ | refine dP (fun _ => (y_iaddrN 1 g1)) ?_ | refine dP (fun _ => (y_iaddrN 2 g2)) ?_ | fail))
          (repeat' (first | refine asg ?_ | refine aops_nil ?_ | refine aw_ret ?_ | fail))
          exact fin (sh_bv rfl)
        rw [decide_eq_true q2, Bool.true_and]
        refine gives_of Try.func14 rfl (Nat.le_of_ble_eq_true rfl) ?_
        (repeat' (first | refine mv ?_ | refine asg ?_ | refine bf ?_ | refine un ?_ | refine pf ?_ | refine ln ?_ | refine la ?_ | refine aops_nil ?_ | refine aw_seq ?_ | refine aw_region ?_ | refine aw_cond_f rfl ?_ | refine aw_skip ?_ | refine bx 0 ?_ | refine cl (co) ?_ | refine cl (cm) ?_ | fail))
        refine aw_drawP 29 [] ?_
        (repeat' (first | refine dPn ?_ | refine dP (fun _ => y_move) ?_ | refine dP (fun _ => y_load) ?_ | refine dP (fun _ => y_bt) ?_ | refine dP (fun _ => y_bin) ?_ | refine dP (fun _ => y_pick_t) ?_ | refine dP (fun _ => y_loadsN) ?_ | refine dP (fun _ => y_call (c0)) ?_ | refine dP (fun _ => y_call (c1)) ?_ | refine dP (fun _ => y_call (c2)) ?_ | refine dP (fun _ => y_call (c3)) ?_ | refine dP (fun _ => (y_iaddrN 0 g0)) ?_ | refine dP (fun _ => (y_iaddrN 1 g1)) ?_ | refine dP (fun _ => (y_iaddrN 2 g2)) ?_ | refine dP (fun _ => (y_iaddrN 3 g3)) ?_ | fail))
        (repeat' (first | refine asg ?_ | refine aops_nil ?_ | refine aw_ret ?_ | fail))
        exact fin (sh_bv rfl)
end Go.Proofs.Ytemcemimipagoaa
