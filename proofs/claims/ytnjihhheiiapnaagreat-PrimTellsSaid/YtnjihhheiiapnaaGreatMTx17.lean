/- What the statements' walks need. -/
import Derived.Test.YtnjihhheiiapnaaGreatMTa4
import Derived.Test.YtnjihhheiiapnaaGreatMTx15
set_option linter.unusedVariables false
set_option linter.unusedSimpArgs false
set_option maxRecDepth 100000
namespace Go.Proofs.YtnjihhheiiapnaaGreat
open Go Go.Proofs AW
set_option maxHeartbeats 4000000 in
theorem sized_f1 (H : HHeap) (hi : H.In) (k s x : Int) (h : (mayH H && clsB H s) = false) : Fails Tryz.prog 68 (cR H s [x]) [.ptr 1000 0 0, iv k] (failV 130) := by
  have cl' := (lookMay_ok H hi s).to' (congrArg bv h)
  refine okM_of Tryz.func68 rfl (Nat.le_of_ble_eq_true rfl) ?_
  (repeat' (first | refine asg ?_ | refine aops_nil ?_ | refine aw_seq ?_ | refine aw_region ?_ | fail))
  refine aw_drawP 10 [] ?_
  (repeat' (first | refine dPn ?_ | refine dP (fun _ => y_move) ?_ | refine dP (fun _ => y_load) ?_ | refine dP (fun _ => y_faddr_ptr (hs := Nat.le_of_ble_eq_true rfl)) ?_ | refine dP (fun _ => y_nilcP) ?_ | refine dP (fun _ => y_loadsN) ?_ | refine dP (fun _ => y_call (cl')) ?_ | refine dP (fun _ => (y_failsB need_no (fun _ => panE rfl))) ?_ | fail))
  exact aops_bad
set_option maxHeartbeats 4000000 in
theorem sized_f2 (H : HHeap) (hi : H.In) (k s x : Int) (h : (mayH H && clsB H s) = true) (hx : isN x = false) : Fails Tryz.prog 68 (cR H s [x]) [.ptr 1000 0 0, iv k] (failV 130) := by
  have cl' := (lookMay_ok H hi s).to' (congrArg bv h)
  have cn := psmall_no x hx
  refine okM_of Tryz.func68 rfl (Nat.le_of_ble_eq_true rfl) ?_
  (repeat' (first | refine asg ?_ | refine aops_nil ?_ | refine aw_seq ?_ | refine aw_region ?_ | fail))
  refine aw_drawP 10 [] ?_
  (repeat' (first | refine dPn ?_ | refine dP (fun _ => y_move) ?_ | refine dP (fun _ => y_load) ?_ | refine dP (fun _ => y_faddr_ptr (hs := Nat.le_of_ble_eq_true rfl)) ?_ | refine dP (fun _ => y_nilcP) ?_ | refine dP (fun _ => y_loadsN) ?_ | refine dP (fun _ => y_call (cl')) ?_ | refine dP (fun _ => y_call (need_yes)) ?_ | fail))
  (repeat' (first | refine aops_nil ?_ | refine aw_seq ?_ | fail))
  refine aw_drawP 14 [] ?_
  (repeat' (first | refine dPn ?_ | refine dP (fun _ => y_move) ?_ | refine dP (fun _ => y_load) ?_ | refine dP (fun _ => y_faddr_ptr (hs := Nat.le_of_ble_eq_true rfl)) ?_ | refine dP (fun _ => y_nilcP) ?_ | refine dP (fun _ => y_iaddrN 0 rfl) ?_ | refine dP (fun _ => (y_failsB cn (fun _ => panE rfl))) ?_ | refine dP (fun _ => y_bad) ?_ | fail))
  exact aops_bad
set_option maxHeartbeats 4000000 in
theorem sized_f (H : HHeap) (hi : H.In) (k s x e : Int) (h : (mayH H && clsB H s) = true) (hx : isN x = true)
    (ca : Fails Tryz.prog 126 (cR H s [x]) [.ptr 1000 0 0, iv s, iv k, iv (nI x)] (failV e)) : Fails Tryz.prog 68 (cR H s [x]) [.ptr 1000 0 0, iv k] (failV e) := by
  have cl' := (lookMay_ok H hi s).to' (congrArg bv h)
  have cn := psmall_yes x hx
  refine okM_of Tryz.func68 rfl (Nat.le_of_ble_eq_true rfl) ?_
  (repeat' (first | refine asg ?_ | refine aops_nil ?_ | refine aw_seq ?_ | refine aw_region ?_ | fail))
  refine aw_drawP 10 [] ?_
  (repeat' (first | refine dPn ?_ | refine dP (fun _ => y_move) ?_ | refine dP (fun _ => y_load) ?_ | refine dP (fun _ => y_faddr_ptr (hs := Nat.le_of_ble_eq_true rfl)) ?_ | refine dP (fun _ => y_nilcP) ?_ | refine dP (fun _ => y_loadsN) ?_ | refine dP (fun _ => y_call (cl')) ?_ | refine dP (fun _ => y_call (need_yes)) ?_ | fail))
  (repeat' (first | refine aops_nil ?_ | refine aw_seq ?_ | fail))
  refine aw_drawP 14 [] ?_
  (repeat' (first | refine dPn ?_ | refine dP (fun _ => y_move) ?_ | refine dP (fun _ => y_load) ?_ | refine dP (fun _ => y_faddr_ptr (hs := Nat.le_of_ble_eq_true rfl)) ?_ | refine dP (fun _ => y_nilcP) ?_ | refine dP (fun _ => y_iaddrN 0 rfl) ?_ | refine dP (fun _ => y_call (cn)) ?_ | refine dP (fun _ => (y_failsB ca (fun _ => panE rfl))) ?_ | fail))
  exact aops_bad
set_option maxHeartbeats 4000000 in
theorem sized_y (H : HHeap) (hi : H.In) (k s x : Int) (h : (mayH H && clsB H s) = true) (hx : isN x = true) (he : allocE H s k (nI x) = 0) : Mut Tryz.prog 68 (cR H s [x]) [.ptr 1000 0 0, iv k] (iv (2 * H.objs.length)) (cR (allocH H s k (nI x)) s [x]) := by
  have cl' := (lookMay_ok H hi s).to' (congrArg bv h)
  have cn := psmall_yes x hx
  have ca := palloc_yes H hi s [x] s k (nI x) he
  refine okM_of Tryz.func68 rfl (Nat.le_of_ble_eq_true rfl) ?_
  (repeat' (first | refine asg ?_ | refine aops_nil ?_ | refine aw_seq ?_ | refine aw_region ?_ | fail))
  refine aw_drawP 10 [] ?_
  (repeat' (first | refine dPn ?_ | refine dP (fun _ => y_move) ?_ | refine dP (fun _ => y_load) ?_ | refine dP (fun _ => y_faddr_ptr (hs := Nat.le_of_ble_eq_true rfl)) ?_ | refine dP (fun _ => y_nilcP) ?_ | refine dP (fun _ => y_loadsN) ?_ | refine dP (fun _ => y_call (cl')) ?_ | refine dP (fun _ => y_call (need_yes)) ?_ | fail))
  (repeat' (first | refine aops_nil ?_ | refine aw_seq ?_ | fail))
  refine aw_drawP 14 [(13, 1000, .live 52 5 [callC (allocH H s k (nI x)) s [x]], none)] ?_
  (repeat' (first | refine dPn ?_ | refine dP (fun _ => y_move) ?_ | refine dP (fun _ => y_load) ?_ | refine dP (fun _ => y_faddr_ptr (hs := Nat.le_of_ble_eq_true rfl)) ?_ | refine dP (fun _ => y_nilcP) ?_ | refine dP (fun _ => y_iaddrN 0 rfl) ?_ | refine dP (fun _ => y_call (cn)) ?_ | refine dPE (fun _ => (y_mut ca)) ?_ | fail))
  (repeat' (first | refine asg ?_ | refine aops_nil ?_ | refine aw_ret ?_ | fail))
  exact finM (cR (allocH H s k (nI x)) s [x]) ⟨rfl, rfl⟩ (cR_same _ s [x] rfl) (.same _ (.v _))
end Go.Proofs.YtnjihhheiiapnaaGreat
