/- What the statements' walks need. -/
import Derived.Test.YtbmldjcddpblnaaMQa4
import Derived.Test.YtbmldjcddpblnaaMQx24
import Derived.Test.YtbmldjcddpblnaaMQx30
import Derived.Test.YtbmldjcddpblnaaMQx28
import Derived.Test.YtbmldjcddpblnaaMQa3
set_option linter.unusedVariables false
set_option linter.unusedSimpArgs false
set_option maxRecDepth 100000
namespace Go.Proofs.Ytbmldjcddpblnaa
open Go Go.Proofs AW
theorem meth_no {H : HHeap} {m : Int} {T : Nat → Ob} (h : methB H m = false) : Sh T (.tup [.agg [iv 0, iv 0, iv 0, .v (.slice none 0 0), .v (.slice none 0 0)], iv 120]) (.tup [.agg (encMethod (methM H m)), iv (methE H m)]) :=
  sh_tup (l := [.agg [iv 0, iv 0, iv 0, .v (.slice none 0 0), .v (.slice none 0 0)], iv 120]) ⟨by rw [methM, h]; exact zero_sh _, sh_iv (by rw [methE, h]; rfl), trivial⟩
theorem slotI_is {H : HHeap} {m : Int} (h : H.is m 0) : slotI H m = (H.at' m).slots := by rw [slotI, if_pos h]
theorem slotI_no {H : HHeap} {m : Int} (h : ¬ H.is m 0) : slotI H m = [] := by rw [slotI, if_neg h]
set_option maxHeartbeats 8000000 in
theorem rMethod_ok (H : HHeap) (hi : H.In) (m : Int) : Gives Try.prog 14 [.agg (encHeap H), iv m] (.tup [.agg (encMethod (methM H m)), iv (methE H m)]) := by
  have cs := rSlots_ok H hi m
  have hls : (encInts (slotI H m)).length = (slotI H m).length := len_ints _
  by_cases h0 : mayH H = true
  rotate_left
  · have c0 := (rMay_ok H hi).to' (congrArg bv (eq_false_of_ne_true h0))
    have hb : methB H m = false := by simp [methB, h0]
    refine gives_of Try.func14 rfl (Nat.le_of_ble_eq_true rfl) ?_
    (repeat' (first | refine sk ?_ | refine mv ?_ | refine asg ?_ | refine un ?_ | refine pt ?_ | refine la ?_ | refine so ?_ | refine bd ?_ | refine aops_nil ?_ | refine aw_seq ?_ | refine aw_region ?_ | refine aw_cond_t rfl ?_ | refine aw_ret ?_ | refine bx 0 ?_ | refine al 1 ?_ | refine cl (cs) ?_ | refine cl (c0) ?_ | fail))
    exact fin (meth_no hb)
  have c0 := (rMay_ok H hi).to' (congrArg bv h0)
  by_cases h2 : (slotI H m).length = 5
  rotate_left
  · have hb : methB H m = false := by
      by_cases h1 : H.is m 0
      · rw [slotI_is h1] at h2; simp [methB, mthB, h2]
      · simp [methB, mthB, h1]
    refine gives_of Try.func14 rfl (Nat.le_of_ble_eq_true rfl) ?_
    (repeat' (first | refine mv ?_ | refine asg ?_ | refine bt ?_ | refine un ?_ | refine pf ?_ | refine ln ?_ | refine la ?_ | refine so ?_ | refine bd ?_ | refine aops_nil ?_ | refine aw_seq ?_ | refine aw_region ?_ | refine aw_cond_t rfl ?_ | refine aw_ret ?_ | refine bx 0 ?_ | refine al 1 ?_ | refine cl (cs) ?_ | refine cl (c0) ?_ | fail))
    exact fin (meth_no hb)
  have h1 : H.is m 0 := by
    by_cases h1 : H.is m 0
    · exact h1
    · rw [slotI_no h1] at h2; simp at h2
  rw [slotI_is h1] at cs h2 hls
  have g0 := ints_get (sl_get (o := H.at' m) (k := 0) (by omega))
  have g1 := ints_get (sl_get (o := H.at' m) (k := 1) (by omega))
  have g2 := ints_get (sl_get (o := H.at' m) (k := 2) (by omega))
  have g3 := ints_get (sl_get (o := H.at' m) (k := 3) (by omega))
  have g4 := ints_get (sl_get (o := H.at' m) (k := 4) (by omega))
  by_cases h3 : H.is ((H.at' m).sl 3) 1
  rotate_left
  · have c3 := (rkind_ok H hi ((H.at' m).sl 3) 1).to' (congrArg bv (decide_eq_false h3))
    have hb : methB H m = false := by simp [methB, mthB, h3]
    refine gives_of Try.func14 rfl (Nat.le_of_ble_eq_true rfl) ?_
    (repeat' (first | refine mv ?_ | refine asg ?_ | refine bf ?_ | refine un ?_ | refine pf ?_ | refine ln ?_ | refine la ?_ | refine aops_nil ?_ | refine aw_seq ?_ | refine aw_region ?_ | refine aw_cond_f rfl ?_ | refine aw_skip ?_ | refine bx 0 ?_ | refine al 1 ?_ | refine cl (cs) ?_ | refine cl (c0) ?_ | fail))
    refine aw_drawP 14 [] ?_
    (repeat' (first | refine dPk ?_ | refine dPn ?_ | refine dP (fun _ => y_move) ?_ | refine dP (fun _ => y_load) ?_ | refine dP (fun _ => y_un) ?_ | refine dP (fun _ => y_pick_t) ?_ | refine dP (fun _ => y_loadsN) ?_ | refine dP (fun _ => y_iaddrN 3 g3) ?_ | refine dP (fun _ => y_call (c3)) ?_ | fail))
    (repeat' (first | refine asg ?_ | refine so ?_ | refine bd ?_ | refine aops_nil ?_ | refine aw_seq ?_ | refine aw_region ?_ | refine aw_cond_t rfl ?_ | refine aw_ret ?_ | fail))
    exact fin (meth_no hb)
  have c3 := (rkind_ok H hi ((H.at' m).sl 3) 1).to' (congrArg bv (decide_eq_true h3))
  by_cases h4 : H.is ((H.at' m).sl 4) 0
  rotate_left
  · have c4 := (rkind_ok H hi ((H.at' m).sl 4) 0).to' (congrArg bv (decide_eq_false h4))
    have hb : methB H m = false := by simp [methB, mthB, h4]
    refine gives_of Try.func14 rfl (Nat.le_of_ble_eq_true rfl) ?_
    (repeat' (first | refine mv ?_ | refine asg ?_ | refine bf ?_ | refine un ?_ | refine pf ?_ | refine ln ?_ | refine la ?_ | refine aops_nil ?_ | refine aw_seq ?_ | refine aw_region ?_ | refine aw_cond_f rfl ?_ | refine aw_skip ?_ | refine bx 0 ?_ | refine al 1 ?_ | refine cl (cs) ?_ | refine cl (c0) ?_ | fail))
    refine aw_drawP 14 [] ?_
    (repeat' (first | refine dPn ?_ | refine dP (fun _ => y_move) ?_ | refine dP (fun _ => y_load) ?_ | refine dP (fun _ => y_un) ?_ | refine dP (fun _ => y_pick_f) ?_ | refine dP (fun _ => y_loadsN) ?_ | refine dP (fun _ => y_iaddrN 3 g3) ?_ | refine dP (fun _ => y_iaddrN 4 g4) ?_ | refine dP (fun _ => y_call (c3)) ?_ | refine dP (fun _ => y_call (c4)) ?_ | fail))
    (repeat' (first | refine asg ?_ | refine so ?_ | refine bd ?_ | refine aops_nil ?_ | refine aw_seq ?_ | refine aw_region ?_ | refine aw_cond_t rfl ?_ | refine aw_ret ?_ | fail))
    exact fin (meth_no hb)
  have c4 := (rkind_ok H hi ((H.at' m).sl 4) 0).to' (congrArg bv (decide_eq_true h4))
  have s3 : (H.at' ((H.at' m).sl 3)).text.size < 1099511627776 := (at_in hi h3.1).2.2.2.2.2.2
  have s4 : (H.at' ((H.at' m).sl 4)).slots.length < 1099511627776 := (at_in hi h4.1).2.2.2.2.2.1
  have cr := rRef_ok H ((H.at' m).sl 3) hi.2.2.2
  have hget := at_get h3.1
  have hn : H.ref ((H.at' m).sl 3) = ((H.ref ((H.at' m).sl 3)).toNat : Int) := (Int.toNat_of_nonneg h3.1).symm
  have c5 := rUnpack_ok (H.at' ((H.at' m).sl 3)).text s3
  have c7 : Gives Try.prog 25 [.agg (encHeap H), iv ((H.at' m).sl 4)] (.sl 1 (encInts (H.at' ((H.at' m).sl 4)).slots)) := by
    have := rSlots_ok H hi ((H.at' m).sl 4)
    rwa [slotI_is h4] at this
  have hup : (unpackL (H.at' ((H.at' m).sl 3)).text).length < 1099511627776 := by
    simp only [unpackL]; split
    · simp only [pairsI, len_pairs]; omega
    · simp
  have c6 := rCheck_ok (unpackL (H.at' ((H.at' m).sl 3)).text) hup (H.at' ((H.at' m).sl 4)).slots.length (smI ((H.at' m).sl 2) 8)
  rw [← len_ints (H.at' ((H.at' m).sl 4)).slots] at c6
  have b1 : (([] : List (List AV)).length + (encInts (H.at' ((H.at' m).sl 4)).slots).length) * 8 ≤ 140737488355328 := by rw [len_ints]; show (0 + _) * 8 ≤ _; omega
  have b2 : ([] : List (List AV)).length + (encInts (H.at' ((H.at' m).sl 4)).slots).length ≤ 9223372036854775807 := by rw [len_ints]; show 0 + _ ≤ _; omega
  refine gives_of Try.func14 rfl (Nat.le_of_ble_eq_true rfl) ?_
  (repeat' (first | refine mv ?_ | refine asg ?_ | refine bf ?_ | refine un ?_ | refine pf ?_ | refine ln ?_ | refine la ?_ | refine aops_nil ?_ | refine aw_seq ?_ | refine aw_region ?_ | refine aw_cond_f rfl ?_ | refine aw_skip ?_ | refine bx 0 ?_ | refine al 1 ?_ | refine cl (cs) ?_ | refine cl (c0) ?_ | fail))
  refine aw_drawP 14 [] ?_
  (repeat' (first | refine dPn ?_ | refine dP (fun _ => y_move) ?_ | refine dP (fun _ => y_load) ?_ | refine dP (fun _ => y_un) ?_ | refine dP (fun _ => y_pick_f) ?_ | refine dP (fun _ => y_loadsN) ?_ | refine dP (fun _ => y_iaddrN 3 g3) ?_ | refine dP (fun _ => y_iaddrN 4 g4) ?_ | refine dP (fun _ => y_call (c3)) ?_ | refine dP (fun _ => y_call (c4)) ?_ | fail))
  (repeat' (first | refine aops_nil ?_ | refine aw_seq ?_ | refine aw_cond_f rfl ?_ | refine aw_skip ?_ | fail))
  refine aw_drawP 16 [] ?_
  (repeat' (first | refine dPn ?_ | refine dP (fun _ => y_move) ?_ | refine dP (fun _ => y_assign) ?_ | refine dP (fun _ => y_extract) ?_ | refine dP (fun _ => y_load) ?_ | refine dP (fun _ => y_faddr_ptr (hs := Nat.le_of_ble_eq_true rfl)) ?_ | refine dP (fun _ => y_faddr_ip) ?_ | refine dP (fun _ => y_loadsN) ?_ | refine dP (fun _ => y_iaddrN 3 g3) ?_ | refine dP (fun _ => y_call (cr)) ?_ | refine dP (fun _ => y_iaddrN (H.ref ((H.at' m).sl 3)).toNat (objs_get hget) (hn := hn)) ?_ | refine dP (fun _ => y_call (c5)) ?_ | fail))
  (repeat' (first | refine aops_nil ?_ | refine aw_seq ?_ | fail))
  refine aw_drawP 23 [(13, 5, .live 3 1 [], none), (19, 6, .live 3 1 (encInts (H.at' ((H.at' m).sl 4)).slots), some 5), (21, 3, .live 32 5 [[iv 0, iv 0, iv 0, .v (.slice none 0 0), .v (.slice none 0 0)]], none),
    (22, 3, .live 32 5 [[iv (smI ((H.at' m).sl 0) 63), iv (smI ((H.at' m).sl 1) 4), iv (smI ((H.at' m).sl 2) 8), .sl 2 (encCode (unpackL (H.at' ((H.at' m).sl 3)).text)), .own 6]], none)] ?_
  (repeat' (first | refine dPn ?_ | refine dP (fun _ => y_move) ?_ | refine dP (fun _ => y_load) ?_ | refine dP (fun _ => y_build) ?_ | refine dP (fun _ => y_loadsN) ?_ | refine dPS (fun _ => y_storeV) ?_ | refine dP (fun _ => y_iaddrN 0 g0) ?_ | refine dP (fun _ => y_iaddrN 1 g1) ?_ | refine dP (fun _ => y_iaddrN 2 g2) ?_ | refine dP (fun _ => y_iaddrN 4 g4) ?_ | refine dP (fun _ => y_call (rsmall_ok' _ _)) ?_ | refine dP (fun _ => y_call (c7)) ?_ | refine dPE (fun _ => y_lit0E 5) ?_ | refine dPE (fun _ => y_allocU 3) ?_ | refine dPE2 (fun _ => y_appE 6 b1 b2 (cok_ints _ _)) ?_ | fail))
  by_cases hu : unpackB (H.at' ((H.at' m).sl 3)).text = true
  rotate_left
  · have hE : unpackE (H.at' ((H.at' m).sl 3)).text = 110 := by simp [unpackE, hu]
    have hb : methB H m = false := by simp [methB, mthB, hu]
    (repeat' (first | refine sk ?_ | refine mv ?_ | refine asg ?_ | refine bt ?_ | refine pt ?_ | refine so ?_ | refine bd ?_ | refine aops_nil ?_ | refine aw_seq ?_ | refine aw_region ?_ | refine aw_cond_t rfl ?_ | refine aw_ret ?_ | fail))
    exact fin (meth_no hb)
  have hE : unpackE (H.at' ((H.at' m).sl 3)).text = 0 := by simp [unpackE, hu]
  by_cases q0 : 0 ≤ smI ((H.at' m).sl 0) 63
  rotate_left
  · have hb : methB H m = false := by simp [methB, mthB, mthX, q0]
    (repeat' (first | refine sk ?_ | refine mv ?_ | refine asg ?_ | refine ld ?_ | refine fp ?_ | refine bt ?_ | refine bf ?_ | refine pt ?_ | refine pf ?_ | refine so ?_ | refine bd ?_ | refine aops_nil ?_ | refine aw_seq ?_ | refine aw_region ?_ | refine aw_cond_t rfl ?_ | refine aw_ret ?_ | fail))
    exact fin (meth_no hb)
  by_cases q1 : 0 ≤ smI ((H.at' m).sl 1) 4
  rotate_left
  · have hb : methB H m = false := by simp [methB, mthB, mthX, q1]
    (repeat' (first | refine sk ?_ | refine mv ?_ | refine asg ?_ | refine ld ?_ | refine fp ?_ | refine bt ?_ | refine bf ?_ | refine pt ?_ | refine pf ?_ | refine so ?_ | refine bd ?_ | refine aops_nil ?_ | refine aw_seq ?_ | refine aw_region ?_ | refine aw_cond_t rfl ?_ | refine aw_ret ?_ | fail))
    exact fin (meth_no hb)
  by_cases q2 : smI ((H.at' m).sl 1) 4 ≤ smI ((H.at' m).sl 2) 8
  rotate_left
  · have hb : methB H m = false := by simp [methB, mthB, mthX, q2]
    (repeat' (first | refine sk ?_ | refine mv ?_ | refine asg ?_ | refine ld ?_ | refine fp ?_ | refine bt ?_ | refine bf ?_ | refine pt ?_ | refine pf ?_ | refine so ?_ | refine bd ?_ | refine aops_nil ?_ | refine aw_seq ?_ | refine aw_region ?_ | refine aw_cond_t rfl ?_ | refine aw_ret ?_ | fail))
    exact fin (meth_no hb)
  have hsl : ∀ T, T 6 = .live 3 1 (encInts (H.at' ((H.at' m).sl 4)).slots) → Sh T (.own 6) (.sl 1 (encInts (H.at' ((H.at' m).sl 4)).slots)) := fun T hT => sh_ints hT
  cases q3 : checkB (unpackL (H.at' ((H.at' m).sl 3)).text) ((encInts (H.at' ((H.at' m).sl 4)).slots).length : Int) (smI ((H.at' m).sl 2) 8) with
  | false =>
    rw [show checkE (unpackL (H.at' ((H.at' m).sl 3)).text) ((encInts (H.at' ((H.at' m).sl 4)).slots).length : Int) (smI ((H.at' m).sl 2) 8) = 110 by simp only [checkE, q3]; rfl] at c6
    rw [len_ints] at q3
    have hb : methB H m = false := by simp [methB, mthB, mthX, q3]
    (repeat' (first | refine mv ?_ | refine asg ?_ | refine ld ?_ | refine fp ?_ | refine bt ?_ | refine bf ?_ | refine pf ?_ | refine ln ?_ | refine so ?_ | refine bd ?_ | refine aops_nil ?_ | refine aw_seq ?_ | refine aw_region ?_ | refine aw_cond_t rfl ?_ | refine aw_ret ?_ | refine cl c6 ?_ (hno := ⟨noOwn_code _ _, noOwn_iv _, noOwn_iv _, trivial⟩) | fail))
    exact fin (meth_no hb)
  | true =>
    rw [show checkE (unpackL (H.at' ((H.at' m).sl 3)).text) ((encInts (H.at' ((H.at' m).sl 4)).slots).length : Int) (smI ((H.at' m).sl 2) 8) = 0 by simp only [checkE, q3]; rfl] at c6
    rw [len_ints] at q3
    have hb : methB H m = true := by simp [methB, mthB, mthX, h0, h1, h2, h3, h4, hu, q0, q1, q2, q3]
    (repeat' (first | refine mv ?_ | refine asg ?_ | refine ld ?_ | refine fp ?_ | refine bf ?_ | refine pf ?_ | refine ln ?_ | refine la ?_ | refine so ?_ | refine aops_nil ?_ | refine aw_seq ?_ | refine aw_region ?_ | refine aw_cond_f rfl ?_ | refine aw_skip ?_ | refine aw_ret ?_ | refine cl c6 ?_ (hno := ⟨noOwn_code _ _, noOwn_iv _, noOwn_iv _, trivial⟩) | fail))
    refine fin (sh_tup (l := [.agg [iv (smI ((H.at' m).sl 0) 63), iv (smI ((H.at' m).sl 1) 4), iv (smI ((H.at' m).sl 2) 8), .sl 2 (encCode (unpackL (H.at' ((H.at' m).sl 3)).text)), .own 6], iv 0]) ⟨?_, sh_iv (by rw [methE, hb]; rfl), trivial⟩)
    rw [methM, if_pos hb]
    exact sh_agg ⟨.same _ (.v _), .same _ (.v _), .same _ (.v _), .same _ (noOwn_code _ _), hsl _ rfl, trivial⟩
end Go.Proofs.Ytbmldjcddpblnaa
