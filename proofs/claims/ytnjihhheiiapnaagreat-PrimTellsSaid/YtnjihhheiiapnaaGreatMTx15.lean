/- What the statements' walks need. -/
import Derived.Test.YtnjihhheiiapnaaGreatMTa4
import Derived.Test.YtnjihhheiiapnaaGreatMTx14
set_option linter.unusedVariables false
set_option linter.unusedSimpArgs false
set_option maxRecDepth 100000
namespace Go.Proofs.YtnjihhheiiapnaaGreat
open Go Go.Proofs AW
set_option maxHeartbeats 4000000 in
theorem atPut_f1 (H : HHeap) (hi : H.In) (s x y : Int) (h : isN x = false) : Fails Tryz.prog 64 (cR H s [x, y]) [.ptr 1000 0 0] (failV 130) := by
  have cn := psmall_no x h
  refine okM_of Tryz.func64 rfl (Nat.le_of_ble_eq_true rfl) ?_
  (repeat' (first | refine asg ?_ | refine aops_nil ?_ | refine aw_seq ?_ | refine aw_region ?_ | fail))
  refine aw_drawP 27 [] ?_
  (repeat' (first | refine dPn ?_ | refine dP (fun _ => y_move) ?_ | refine dP (fun _ => y_load) ?_ | refine dP (fun _ => y_faddr_ptr (hs := Nat.le_of_ble_eq_true rfl)) ?_ | refine dP (fun _ => y_nilcP) ?_ | refine dP (fun _ => y_loadsN) ?_ | refine dP (fun _ => y_iaddrN 0 rfl) ?_ | refine dP (fun _ => y_iaddrN 1 rfl) ?_ | refine dP (fun _ => (y_failsB cn (fun _ => panE rfl))) ?_ | refine dP (fun _ => y_bad) ?_ | fail))
  exact aops_bad
set_option maxHeartbeats 4000000 in
theorem atPut_f2 (H : HHeap) (hi : H.In) (s x y : Int) (h : isN x = true) (he : setE H s (nI x - 1) y ≠ 0) (he' : setE H s (nI x - 1) y ≠ 30) : Fails Tryz.prog 64 (cR H s [x, y]) [.ptr 1000 0 0] (failV 130) := by
  have cn := psmall_yes x h
  have := nI_rng h
  have cg := Set_ok H hi s (nI x - 1) y
  have ct := took_no H (setH H s (nI x - 1) y) s [x, y] _ he he'
  refine okM_of Tryz.func64 rfl (Nat.le_of_ble_eq_true rfl) ?_
  (repeat' (first | refine asg ?_ | refine aops_nil ?_ | refine aw_seq ?_ | refine aw_region ?_ | fail))
  refine aw_drawP 27 [] ?_
  (repeat' (first | refine dPn ?_ | refine dP (fun _ => y_move) ?_ | refine dP (fun _ => y_extract) ?_ | refine dP (fun _ => y_load) ?_ | refine dP (fun _ => y_faddr_ptr (hs := Nat.le_of_ble_eq_true rfl)) ?_ | refine dP (fun _ => y_nilcP) ?_ | refine dP (fun _ => y_bw) ?_ | refine dP (fun _ => y_loadsN) ?_ | refine dP (fun _ => y_iaddrN 0 rfl) ?_ | refine dP (fun _ => y_iaddrN 1 rfl) ?_ | refine dP (fun _ => y_call (cn)) ?_ | refine dP (fun _ => y_call (cg)) ?_ | refine dP (fun _ => (y_failsB ct (fun _ => panE rfl))) ?_ | fail))
  exact aops_bad
set_option maxHeartbeats 4000000 in
theorem atPut_y (H : HHeap) (hi : H.In) (s x y : Int) (h : isN x = true) (he : setE H s (nI x - 1) y = 0) : Mut Tryz.prog 64 (cR H s [x, y]) [.ptr 1000 0 0] (iv y) (cR (setH H s (nI x - 1) y) s [x, y]) := by
  have cn := psmall_yes x h
  have := nI_rng h
  have cg := (Set_ok H hi s (nI x - 1) y).to' (by rw [he])
  have ct := took_yes H (setH H s (nI x - 1) y) s [x, y]
  refine okM_of Tryz.func64 rfl (Nat.le_of_ble_eq_true rfl) ?_
  (repeat' (first | refine asg ?_ | refine aops_nil ?_ | refine aw_seq ?_ | refine aw_region ?_ | fail))
  refine aw_drawP 27 [(26, 1000, .live 52 5 [callC (setH H s (nI x - 1) y) s [x, y]], none)] ?_
  (repeat' (first | refine dPn ?_ | refine dP (fun _ => y_move) ?_ | refine dP (fun _ => y_extract) ?_ | refine dP (fun _ => y_load) ?_ | refine dP (fun _ => y_faddr_ptr (hs := Nat.le_of_ble_eq_true rfl)) ?_ | refine dP (fun _ => y_nilcP) ?_ | refine dP (fun _ => y_bw) ?_ | refine dP (fun _ => y_loadsN) ?_ | refine dP (fun _ => y_iaddrN 0 rfl) ?_ | refine dP (fun _ => y_iaddrN 1 rfl) ?_ | refine dP (fun _ => y_call (cn)) ?_ | refine dP (fun _ => y_call (cg)) ?_ | refine dPE (fun _ => (y_mut ct)) ?_ | fail))
  (repeat' (first | refine mv ?_ | refine asg ?_ | refine ld ?_ | refine fp ?_ | refine nkp ?_ | refine aops_nil ?_ | refine aw_seq ?_ | refine aw_region ?_ | refine aw_ret ?_ | refine ia 1 rfl ?_ | fail))
  exact finM (cR (setH H s (nI x - 1) y) s [x, y]) ⟨rfl, rfl⟩ (cR_same _ s [x, y] rfl) (.same _ (.v _))
end Go.Proofs.YtnjihhheiiapnaaGreat
namespace Go.Proofs.YtnjihhheiiapnaaGreat
open Go Go.Proofs AW
set_option maxHeartbeats 4000000 in
theorem bytePut_f1 (H : HHeap) (hi : H.In) (s x y : Int) (h : ¬ (isN x = true ∧ isN y = true)) : Fails Tryz.prog 83 (cR H s [x, y]) [.ptr 1000 0 0] (failV 130) := by
  cases h1 : isN x with
  | false =>
    have cn := psmall_no x h1
    cases h2 : isN y with
    | false =>
      have cm := psmall_no y h2
      refine okM_of Tryz.func83 rfl (Nat.le_of_ble_eq_true rfl) ?_
      (repeat' (first | refine asg ?_ | refine aops_nil ?_ | refine aw_seq ?_ | refine aw_region ?_ | fail))
      refine aw_drawP 28 [] ?_
      (repeat' (first | refine dPn ?_ | refine dP (fun _ => y_move) ?_ | refine dP (fun _ => y_load) ?_ | refine dP (fun _ => y_faddr_ptr (hs := Nat.le_of_ble_eq_true rfl)) ?_ | refine dP (fun _ => y_nilcP) ?_ | refine dP (fun _ => y_loadsN) ?_ | refine dP (fun _ => y_iaddrN 0 rfl) ?_ | refine dP (fun _ => y_iaddrN 1 rfl) ?_ | refine dP (fun _ => (y_failsB cn (fun _ => panE rfl))) ?_ | refine dP (fun _ => (y_failsB cm (fun _ => panE rfl))) ?_ | refine dP (fun _ => y_bad) ?_ | fail))
      exact aops_bad
    | true =>
      have cm := psmall_yes y h2
      refine okM_of Tryz.func83 rfl (Nat.le_of_ble_eq_true rfl) ?_
      (repeat' (first | refine asg ?_ | refine aops_nil ?_ | refine aw_seq ?_ | refine aw_region ?_ | fail))
      refine aw_drawP 28 [] ?_
      (repeat' (first | refine dPn ?_ | refine dP (fun _ => y_move) ?_ | refine dP (fun _ => y_load) ?_ | refine dP (fun _ => y_faddr_ptr (hs := Nat.le_of_ble_eq_true rfl)) ?_ | refine dP (fun _ => y_nilcP) ?_ | refine dP (fun _ => y_loadsN) ?_ | refine dP (fun _ => y_iaddrN 0 rfl) ?_ | refine dP (fun _ => y_iaddrN 1 rfl) ?_ | refine dP (fun _ => (y_failsB cn (fun _ => panE rfl))) ?_ | refine dP (fun _ => y_call (cm)) ?_ | refine dP (fun _ => y_bad) ?_ | fail))
      exact aops_bad
  | true =>
    have h2 : isN y = false := by cases h2 : isN y with | false => rfl | true => exact absurd ⟨h1, h2⟩ h
    have cn := psmall_yes x h1
    have := nI_rng h1
    have cm := psmall_no y h2
    refine okM_of Tryz.func83 rfl (Nat.le_of_ble_eq_true rfl) ?_
    (repeat' (first | refine asg ?_ | refine aops_nil ?_ | refine aw_seq ?_ | refine aw_region ?_ | fail))
    refine aw_drawP 28 [] ?_
    (repeat' (first | refine dPn ?_ | refine dP (fun _ => y_move) ?_ | refine dP (fun _ => y_load) ?_ | refine dP (fun _ => y_faddr_ptr (hs := Nat.le_of_ble_eq_true rfl)) ?_ | refine dP (fun _ => y_nilcP) ?_ | refine dP (fun _ => y_bw) ?_ | refine dP (fun _ => y_loadsN) ?_ | refine dP (fun _ => y_iaddrN 0 rfl) ?_ | refine dP (fun _ => y_iaddrN 1 rfl) ?_ | refine dP (fun _ => (y_failsB cm (fun _ => panE rfl))) ?_ | refine dP (fun _ => y_call (cn)) ?_ | refine dP (fun _ => y_bad) ?_ | fail))
    exact aops_bad
set_option maxHeartbeats 4000000 in
theorem bytePut_f2 (H : HHeap) (hi : H.In) (s x y : Int) (h : isN x = true) (h2 : isN y = true) (he : setByteE H s (nI x - 1) (nI y) ≠ 0) (he' : setByteE H s (nI x - 1) (nI y) ≠ 30) : Fails Tryz.prog 83 (cR H s [x, y]) [.ptr 1000 0 0] (failV 130) := by
  have cn := psmall_yes x h
  have cm := psmall_yes y h2
  have := nI_rng h
  have cg := SetByte_ok H hi s (nI x - 1) (nI y)
  have ct := took_no H (setByteH H s (nI x - 1) (nI y)) s [x, y] _ he he'
  refine okM_of Tryz.func83 rfl (Nat.le_of_ble_eq_true rfl) ?_
  (repeat' (first | refine asg ?_ | refine aops_nil ?_ | refine aw_seq ?_ | refine aw_region ?_ | fail))
  refine aw_drawP 28 [] ?_
  (repeat' (first | refine dPn ?_ | refine dP (fun _ => y_move) ?_ | refine dP (fun _ => y_extract) ?_ | refine dP (fun _ => y_load) ?_ | refine dP (fun _ => y_faddr_ptr (hs := Nat.le_of_ble_eq_true rfl)) ?_ | refine dP (fun _ => y_nilcP) ?_ | refine dP (fun _ => y_bw) ?_ | refine dP (fun _ => y_loadsN) ?_ | refine dP (fun _ => y_iaddrN 0 rfl) ?_ | refine dP (fun _ => y_iaddrN 1 rfl) ?_ | refine dP (fun _ => y_call (cn)) ?_ | refine dP (fun _ => y_call (cm)) ?_ | refine dP (fun _ => y_call (cg)) ?_ | refine dP (fun _ => (y_failsB ct (fun _ => panE rfl))) ?_ | fail))
  exact aops_bad
set_option maxHeartbeats 4000000 in
theorem bytePut_y (H : HHeap) (hi : H.In) (s x y : Int) (h : isN x = true) (h2 : isN y = true) (he : setByteE H s (nI x - 1) (nI y) = 0) : Mut Tryz.prog 83 (cR H s [x, y]) [.ptr 1000 0 0] (iv y) (cR (setByteH H s (nI x - 1) (nI y)) s [x, y]) := by
  have cn := psmall_yes x h
  have cm := psmall_yes y h2
  have := nI_rng h
  have cg := (SetByte_ok H hi s (nI x - 1) (nI y)).to' (by rw [he])
  have ct := took_yes H (setByteH H s (nI x - 1) (nI y)) s [x, y]
  refine okM_of Tryz.func83 rfl (Nat.le_of_ble_eq_true rfl) ?_
  (repeat' (first | refine asg ?_ | refine aops_nil ?_ | refine aw_seq ?_ | refine aw_region ?_ | fail))
  refine aw_drawP 28 [(27, 1000, .live 52 5 [callC (setByteH H s (nI x - 1) (nI y)) s [x, y]], none)] ?_
  (repeat' (first | refine dPn ?_ | refine dP (fun _ => y_move) ?_ | refine dP (fun _ => y_extract) ?_ | refine dP (fun _ => y_load) ?_ | refine dP (fun _ => y_faddr_ptr (hs := Nat.le_of_ble_eq_true rfl)) ?_ | refine dP (fun _ => y_nilcP) ?_ | refine dP (fun _ => y_bw) ?_ | refine dP (fun _ => y_loadsN) ?_ | refine dP (fun _ => y_iaddrN 0 rfl) ?_ | refine dP (fun _ => y_iaddrN 1 rfl) ?_ | refine dP (fun _ => y_call (cn)) ?_ | refine dP (fun _ => y_call (cm)) ?_ | refine dP (fun _ => y_call (cg)) ?_ | refine dPE (fun _ => (y_mut ct)) ?_ | fail))
  (repeat' (first | refine mv ?_ | refine asg ?_ | refine ld ?_ | refine fp ?_ | refine nkp ?_ | refine aops_nil ?_ | refine aw_seq ?_ | refine aw_region ?_ | refine aw_ret ?_ | refine ia 1 rfl ?_ | fail))
  exact finM (cR (setByteH H s (nI x - 1) (nI y)) s [x, y]) ⟨rfl, rfl⟩ (cR_same _ s [x, y] rfl) (.same _ (.v _))
def szF (H : HHeap) (s : Int) : Int := nI ((H.at' s).sl 2)
set_option maxHeartbeats 4000000 in
theorem fresh_f1 (H : HHeap) (hi : H.In) (s : Int) (h : (mayH H && clsB H s) = false) : Fails Tryz.prog 66 (cR H s []) [.ptr 1000 0 0] (failV 130) := by
  have cl' := (lookMay_ok H hi s).to' (congrArg bv h)
  refine okM_of Tryz.func66 rfl (Nat.le_of_ble_eq_true rfl) ?_
  (repeat' (first | refine asg ?_ | refine aops_nil ?_ | refine aw_seq ?_ | refine aw_region ?_ | fail))
  refine aw_drawP 10 [] ?_
  (repeat' (first | refine dPn ?_ | refine dP (fun _ => y_move) ?_ | refine dP (fun _ => y_load) ?_ | refine dP (fun _ => y_faddr_ptr (hs := Nat.le_of_ble_eq_true rfl)) ?_ | refine dP (fun _ => y_nilcP) ?_ | refine dP (fun _ => y_loadsN) ?_ | refine dP (fun _ => y_call (cl')) ?_ | refine dP (fun _ => (y_failsB need_no (fun _ => panE rfl))) ?_ | fail))
  exact aops_bad
theorem cls_facts {H : HHeap} {s : Int} (h : clsB H s = true) : 0 ≤ H.ref s ∧ (H.at' s).kind = 0 ∧ 3 ≤ (H.at' s).slots.length ∧ 0 ≤ H.ref ((H.at' s).sl 0) ∧ isN ((H.at' s).sl 2) = true ∧ 0 ≤ szF H s ∧ szF H s ≤ 64 := by
  simp only [clsB, Bool.and_eq_true, decide_eq_true_eq] at h
  obtain ⟨⟨h1, h2, h3, h4⟩, _, h5, h6, h7⟩ := h
  exact ⟨h1, h2, h3, h4, h5, h6, h7⟩
set_option maxHeartbeats 4000000 in
theorem fresh_f2 (H : HHeap) (hi : H.In) (s : Int) (h : (mayH H && clsB H s) = true) (he : allocE H s 0 (szF H s) = 30) : Fails Tryz.prog 66 (cR H s []) [.ptr 1000 0 0] (failV 30) := by
  have cl' := (lookMay_ok H hi s).to' (congrArg bv h)
  simp only [Bool.and_eq_true] at h
  obtain ⟨f1, f2, f3, f4, f5, f6, f7⟩ := cls_facts h.2
  have co := object_yes H s [] s f1
  have cn := psmall_yes _ f5
  have g2 := ints_get (sl_get (o := H.at' s) (k := 2) (by omega))
  have ca := palloc_full H hi s [] s 0 (szF H s) he
  refine okM_of Tryz.func66 rfl (Nat.le_of_ble_eq_true rfl) ?_
  (repeat' (first | refine asg ?_ | refine aops_nil ?_ | refine aw_seq ?_ | refine aw_region ?_ | fail))
  refine aw_drawP 10 [] ?_
  (repeat' (first | refine dPn ?_ | refine dP (fun _ => y_move) ?_ | refine dP (fun _ => y_load) ?_ | refine dP (fun _ => y_faddr_ptr (hs := Nat.le_of_ble_eq_true rfl)) ?_ | refine dP (fun _ => y_nilcP) ?_ | refine dP (fun _ => y_loadsN) ?_ | refine dP (fun _ => y_call (cl')) ?_ | refine dP (fun _ => y_call (need_yes)) ?_ | fail))
  (repeat' (first | refine aops_nil ?_ | refine aw_seq ?_ | fail))
  refine aw_drawP 18 [] ?_
  (repeat' (first | refine dPn ?_ | refine dP (fun _ => y_move) ?_ | refine dP (fun _ => y_load) ?_ | refine dP (fun _ => y_faddr_ptr (hs := Nat.le_of_ble_eq_true rfl)) ?_ | refine dP (fun _ => y_faddr_ip) ?_ | refine dP (fun _ => y_nilc) ?_ | refine dP (fun _ => y_nilcP) ?_ | refine dPs (fun _ => y_mutS (co)) ?_ | refine dP (fun _ => y_iaddrN 2 g2) ?_ | refine dP (fun _ => y_call (cn)) ?_ | refine dP (fun _ => (y_failsB ca (fun _ => panE rfl))) ?_ | fail))
  exact aops_bad
set_option maxHeartbeats 4000000 in
theorem fresh_y (H : HHeap) (hi : H.In) (s : Int) (h : (mayH H && clsB H s) = true) (he : allocE H s 0 (szF H s) = 0) : Mut Tryz.prog 66 (cR H s []) [.ptr 1000 0 0] (iv (2 * H.objs.length)) (cR (allocH H s 0 (szF H s)) s []) := by
  have cl' := (lookMay_ok H hi s).to' (congrArg bv h)
  simp only [Bool.and_eq_true] at h
  obtain ⟨f1, f2, f3, f4, f5, f6, f7⟩ := cls_facts h.2
  have co := object_yes H s [] s f1
  have cn := psmall_yes _ f5
  have g2 := ints_get (sl_get (o := H.at' s) (k := 2) (by omega))
  have ca := palloc_yes H hi s [] s 0 (szF H s) he
  refine okM_of Tryz.func66 rfl (Nat.le_of_ble_eq_true rfl) ?_
  (repeat' (first | refine asg ?_ | refine aops_nil ?_ | refine aw_seq ?_ | refine aw_region ?_ | fail))
  refine aw_drawP 10 [] ?_
  (repeat' (first | refine dPn ?_ | refine dP (fun _ => y_move) ?_ | refine dP (fun _ => y_load) ?_ | refine dP (fun _ => y_faddr_ptr (hs := Nat.le_of_ble_eq_true rfl)) ?_ | refine dP (fun _ => y_nilcP) ?_ | refine dP (fun _ => y_loadsN) ?_ | refine dP (fun _ => y_call (cl')) ?_ | refine dP (fun _ => y_call (need_yes)) ?_ | fail))
  (repeat' (first | refine aops_nil ?_ | refine aw_seq ?_ | fail))
  refine aw_drawP 18 [(17, 1000, .live 52 5 [callC (allocH H s 0 (szF H s)) s []], none)] ?_
  (repeat' (first | refine dPn ?_ | refine dP (fun _ => y_move) ?_ | refine dP (fun _ => y_load) ?_ | refine dP (fun _ => y_faddr_ptr (hs := Nat.le_of_ble_eq_true rfl)) ?_ | refine dP (fun _ => y_faddr_ip) ?_ | refine dP (fun _ => y_nilc) ?_ | refine dP (fun _ => y_nilcP) ?_ | refine dPs (fun _ => y_mutS (co)) ?_ | refine dP (fun _ => y_iaddrN 2 g2) ?_ | refine dP (fun _ => y_call (cn)) ?_ | refine dPE (fun _ => (y_mut ca)) ?_ | fail))
  (repeat' (first | refine asg ?_ | refine aops_nil ?_ | refine aw_ret ?_ | fail))
  exact finM (cR (allocH H s 0 (szF H s)) s []) ⟨rfl, rfl⟩ (cR_same _ s [] rfl) (.same _ (.v _))
end Go.Proofs.YtnjihhheiiapnaaGreat
