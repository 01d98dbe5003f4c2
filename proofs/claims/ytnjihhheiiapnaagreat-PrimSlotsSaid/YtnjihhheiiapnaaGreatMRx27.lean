/- What the statements' walks need. -/
import Derived.Test.YtnjihhheiiapnaaGreatMRa4
import Derived.Test.YtnjihhheiiapnaaGreatMRx26
set_option linter.unusedVariables false
set_option linter.unusedSimpArgs false
set_option maxRecDepth 100000
namespace Go.Proofs.YtnjihhheiiapnaaGreat
open Go Go.Proofs AW
set_option maxHeartbeats 4000000 in
theorem pr5_f (H : HHeap) (s x : Int) (h : ¬ (isN s = true ∧ isN x = true)) : Fails Tryz.prog 59 (cR H s [x]) [.ptr 1000 0 0] (failV 130) := by
  cases h1 : isN s with
  | false =>
    have cn := psmall_no s h1
    cases h2 : isN x with
    | false =>
      have cm := psmall_no x h2
      refine okM_of Tryz.func59 rfl (Nat.le_of_ble_eq_true rfl) ?_
      (repeat' (first | refine asg ?_ | refine aops_nil ?_ | refine aw_seq ?_ | refine aw_region ?_ | fail))
      refine aw_drawP 14 [] ?_
      (repeat' (first | refine dPn ?_ | refine dP (fun _ => y_move) ?_ | refine dP (fun _ => y_load) ?_ | refine dP (fun _ => y_faddr_ptr (hs := Nat.le_of_ble_eq_true rfl)) ?_ | refine dP (fun _ => y_nilcP) ?_ | refine dP (fun _ => y_iaddrN 0 rfl) ?_ | refine dP (fun _ => (y_failsB cn (fun _ => panE rfl))) ?_ | refine dP (fun _ => (y_failsB cm (fun _ => panE rfl))) ?_ | refine dP (fun _ => y_bad) ?_ | fail))
      exact aops_bad
    | true =>
      have cm := psmall_yes x h2
      refine okM_of Tryz.func59 rfl (Nat.le_of_ble_eq_true rfl) ?_
      (repeat' (first | refine asg ?_ | refine aops_nil ?_ | refine aw_seq ?_ | refine aw_region ?_ | fail))
      refine aw_drawP 14 [] ?_
      (repeat' (first | refine dPn ?_ | refine dP (fun _ => y_move) ?_ | refine dP (fun _ => y_load) ?_ | refine dP (fun _ => y_faddr_ptr (hs := Nat.le_of_ble_eq_true rfl)) ?_ | refine dP (fun _ => y_nilcP) ?_ | refine dP (fun _ => y_iaddrN 0 rfl) ?_ | refine dP (fun _ => (y_failsB cn (fun _ => panE rfl))) ?_ | refine dP (fun _ => y_call (cm)) ?_ | refine dP (fun _ => y_bad) ?_ | fail))
      exact aops_bad
  | true =>
    have h2 : isN x = false := by cases h2 : isN x with | false => rfl | true => exact absurd ⟨h1, h2⟩ h
    have cn := psmall_yes s h1
    have cm := psmall_no x h2
    refine okM_of Tryz.func59 rfl (Nat.le_of_ble_eq_true rfl) ?_
    (repeat' (first | refine asg ?_ | refine aops_nil ?_ | refine aw_seq ?_ | refine aw_region ?_ | fail))
    refine aw_drawP 14 [] ?_
    (repeat' (first | refine dPn ?_ | refine dP (fun _ => y_move) ?_ | refine dP (fun _ => y_load) ?_ | refine dP (fun _ => y_faddr_ptr (hs := Nat.le_of_ble_eq_true rfl)) ?_ | refine dP (fun _ => y_nilcP) ?_ | refine dP (fun _ => y_iaddrN 0 rfl) ?_ | refine dP (fun _ => (y_failsB cm (fun _ => panE rfl))) ?_ | refine dP (fun _ => y_call (cn)) ?_ | refine dP (fun _ => y_bad) ?_ | fail))
    exact aops_bad
set_option maxHeartbeats 4000000 in
theorem pr5_y (H : HHeap) (s x : Int) (h1 : isN s = true) (h2 : isN x = true) : Mut Tryz.prog 59 (cR H s [x]) [.ptr 1000 0 0] (iv (truI (decide (nI s < nI x)))) (cR H s [x]) := by
  have cn := psmall_yes s h1
  have cm := psmall_yes x h2
  have ct := truth_ok (decide (nI s < nI x))
  refine okM_of Tryz.func59 rfl (Nat.le_of_ble_eq_true rfl) ?_
  (repeat' (first | refine asg ?_ | refine aops_nil ?_ | refine aw_seq ?_ | refine aw_region ?_ | fail))
  refine aw_drawP 14 [] ?_
  (repeat' (first | refine dPn ?_ | refine dP (fun _ => y_move) ?_ | refine dP (fun _ => y_load) ?_ | refine dP (fun _ => y_faddr_ptr (hs := Nat.le_of_ble_eq_true rfl)) ?_ | refine dP (fun _ => y_nilcP) ?_ | refine dP (fun _ => y_bin) ?_ | refine dP (fun _ => y_iaddrN 0 rfl) ?_ | refine dP (fun _ => y_call (cn)) ?_ | refine dP (fun _ => y_call (cm)) ?_ | refine dP (fun _ => y_call (ct)) ?_ | fail))
  (repeat' (first | refine asg ?_ | refine aops_nil ?_ | refine aw_ret ?_ | fail))
  exact finM (cR H s [x]) ⟨rfl, rfl⟩ (cR_same H s [x] rfl) (.same _ (.v _))
set_option maxHeartbeats 4000000 in
theorem pr6_f (H : HHeap) (s x : Int) (h : ¬ (isN s = true ∧ isN x = true)) : Fails Tryz.prog 62 (cR H s [x]) [.ptr 1000 0 0] (failV 130) := by
  cases h1 : isN s with
  | false =>
    have cn := psmall_no s h1
    cases h2 : isN x with
    | false =>
      have cm := psmall_no x h2
      refine okM_of Tryz.func62 rfl (Nat.le_of_ble_eq_true rfl) ?_
      (repeat' (first | refine asg ?_ | refine aops_nil ?_ | refine aw_seq ?_ | refine aw_region ?_ | fail))
      refine aw_drawP 14 [] ?_
      (repeat' (first | refine dPn ?_ | refine dP (fun _ => y_move) ?_ | refine dP (fun _ => y_load) ?_ | refine dP (fun _ => y_faddr_ptr (hs := Nat.le_of_ble_eq_true rfl)) ?_ | refine dP (fun _ => y_nilcP) ?_ | refine dP (fun _ => y_iaddrN 0 rfl) ?_ | refine dP (fun _ => (y_failsB cn (fun _ => panE rfl))) ?_ | refine dP (fun _ => (y_failsB cm (fun _ => panE rfl))) ?_ | refine dP (fun _ => y_bad) ?_ | fail))
      exact aops_bad
    | true =>
      have cm := psmall_yes x h2
      refine okM_of Tryz.func62 rfl (Nat.le_of_ble_eq_true rfl) ?_
      (repeat' (first | refine asg ?_ | refine aops_nil ?_ | refine aw_seq ?_ | refine aw_region ?_ | fail))
      refine aw_drawP 14 [] ?_
      (repeat' (first | refine dPn ?_ | refine dP (fun _ => y_move) ?_ | refine dP (fun _ => y_load) ?_ | refine dP (fun _ => y_faddr_ptr (hs := Nat.le_of_ble_eq_true rfl)) ?_ | refine dP (fun _ => y_nilcP) ?_ | refine dP (fun _ => y_iaddrN 0 rfl) ?_ | refine dP (fun _ => (y_failsB cn (fun _ => panE rfl))) ?_ | refine dP (fun _ => y_call (cm)) ?_ | refine dP (fun _ => y_bad) ?_ | fail))
      exact aops_bad
  | true =>
    have h2 : isN x = false := by cases h2 : isN x with | false => rfl | true => exact absurd ⟨h1, h2⟩ h
    have cn := psmall_yes s h1
    have cm := psmall_no x h2
    refine okM_of Tryz.func62 rfl (Nat.le_of_ble_eq_true rfl) ?_
    (repeat' (first | refine asg ?_ | refine aops_nil ?_ | refine aw_seq ?_ | refine aw_region ?_ | fail))
    refine aw_drawP 14 [] ?_
    (repeat' (first | refine dPn ?_ | refine dP (fun _ => y_move) ?_ | refine dP (fun _ => y_load) ?_ | refine dP (fun _ => y_faddr_ptr (hs := Nat.le_of_ble_eq_true rfl)) ?_ | refine dP (fun _ => y_nilcP) ?_ | refine dP (fun _ => y_iaddrN 0 rfl) ?_ | refine dP (fun _ => (y_failsB cm (fun _ => panE rfl))) ?_ | refine dP (fun _ => y_call (cn)) ?_ | refine dP (fun _ => y_bad) ?_ | fail))
    exact aops_bad
set_option maxHeartbeats 4000000 in
theorem pr6_y (H : HHeap) (s x : Int) (h1 : isN s = true) (h2 : isN x = true) : Mut Tryz.prog 62 (cR H s [x]) [.ptr 1000 0 0] (iv (truI (nI s == nI x))) (cR H s [x]) := by
  have cn := psmall_yes s h1
  have cm := psmall_yes x h2
  have ct := truth_ok (nI s == nI x)
  refine okM_of Tryz.func62 rfl (Nat.le_of_ble_eq_true rfl) ?_
  (repeat' (first | refine asg ?_ | refine aops_nil ?_ | refine aw_seq ?_ | refine aw_region ?_ | fail))
  refine aw_drawP 14 [] ?_
  (repeat' (first | refine dPn ?_ | refine dP (fun _ => y_move) ?_ | refine dP (fun _ => y_load) ?_ | refine dP (fun _ => y_faddr_ptr (hs := Nat.le_of_ble_eq_true rfl)) ?_ | refine dP (fun _ => y_nilcP) ?_ | refine dP (fun _ => y_bin) ?_ | refine dP (fun _ => y_iaddrN 0 rfl) ?_ | refine dP (fun _ => y_call (cn)) ?_ | refine dP (fun _ => y_call (cm)) ?_ | refine dP (fun _ => y_call (ct)) ?_ | fail))
  (repeat' (first | refine asg ?_ | refine aops_nil ?_ | refine aw_ret ?_ | fail))
  exact finM (cR H s [x]) ⟨rfl, rfl⟩ (cR_same H s [x] rfl) (.same _ (.v _))
set_option maxHeartbeats 4000000 in
theorem pr8_y (H : HHeap) (s x : Int) : Mut Tryz.prog 70 (cR H s [x]) [.ptr 1000 0 0] (iv (truI (s == x))) (cR H s [x]) := by
  have ct := truth_ok (s == x)
  refine okM_of Tryz.func70 rfl (Nat.le_of_ble_eq_true rfl) ?_
  (repeat' (first | refine asg ?_ | refine aops_nil ?_ | refine aw_seq ?_ | refine aw_region ?_ | fail))
  refine aw_drawP 12 [] ?_
  (repeat' (first | refine dPn ?_ | refine dP (fun _ => y_move) ?_ | refine dP (fun _ => y_load) ?_ | refine dP (fun _ => y_faddr_ptr (hs := Nat.le_of_ble_eq_true rfl)) ?_ | refine dP (fun _ => y_nilcP) ?_ | refine dP (fun _ => y_bin) ?_ | refine dP (fun _ => y_iaddrN 0 rfl) ?_ | refine dP (fun _ => y_call (ct)) ?_ | fail))
  (repeat' (first | refine asg ?_ | refine aops_nil ?_ | refine aw_ret ?_ | fail))
  exact finM (cR H s [x]) ⟨rfl, rfl⟩ (cR_same H s [x] rfl) (.same _ (.v _))
theorem pr7_f (H : HHeap) (s x e : Int) (ca : Fails Tryz.prog 68 (cR H s [x]) [.ptr 1000 0 0, iv 0] (failV e)) : Fails Tryz.prog 67 (cR H s [x]) [.ptr 1000 0 0] (failV e) := by
  refine okM_of Tryz.func67 rfl (Nat.le_of_ble_eq_true rfl) ?_
  (repeat' (first | refine mv ?_ | refine asg ?_ | refine aops_nil ?_ | refine aw_seq ?_ | refine aw_region ?_ | exact cF ca (fun _ => panE rfl) | fail))
theorem pr7_y (H : HHeap) (s x y : Int) (G : HHeap) (ca : Mut Tryz.prog 68 (cR H s [x]) [.ptr 1000 0 0, iv 0] (iv y) (cR G s [x])) : Mut Tryz.prog 67 (cR H s [x]) [.ptr 1000 0 0] (iv y) (cR G s [x]) := by
  refine okM_of Tryz.func67 rfl (Nat.le_of_ble_eq_true rfl) ?_
  (repeat' (first | refine mv ?_ | refine asg ?_ | refine aops_nil ?_ | refine aw_seq ?_ | refine aw_region ?_ | refine aw_ret ?_ | refine cM ca ?_ | fail))
  exact finM (cR G s [x]) ⟨rfl, rfl⟩ (cR_same _ s [x] rfl) (.same _ (.v _))
theorem pr12_f (H : HHeap) (s x e : Int) (ca : Fails Tryz.prog 68 (cR H s [x]) [.ptr 1000 0 0, iv 1] (failV e)) : Fails Tryz.prog 84 (cR H s [x]) [.ptr 1000 0 0] (failV e) := by
  refine okM_of Tryz.func84 rfl (Nat.le_of_ble_eq_true rfl) ?_
  (repeat' (first | refine mv ?_ | refine asg ?_ | refine aops_nil ?_ | refine aw_seq ?_ | refine aw_region ?_ | exact cF ca (fun _ => panE rfl) | fail))
theorem pr12_y (H : HHeap) (s x y : Int) (G : HHeap) (ca : Mut Tryz.prog 68 (cR H s [x]) [.ptr 1000 0 0, iv 1] (iv y) (cR G s [x])) : Mut Tryz.prog 84 (cR H s [x]) [.ptr 1000 0 0] (iv y) (cR G s [x]) := by
  refine okM_of Tryz.func84 rfl (Nat.le_of_ble_eq_true rfl) ?_
  (repeat' (first | refine mv ?_ | refine asg ?_ | refine aops_nil ?_ | refine aw_seq ?_ | refine aw_region ?_ | refine aw_ret ?_ | refine cM ca ?_ | fail))
  exact finM (cR G s [x]) ⟨rfl, rfl⟩ (cR_same _ s [x] rfl) (.same _ (.v _))
def primRows : List (List AV) :=
  [[iv 1, .clo 117 [.ip [.clo 54 []]]], [iv 1, .clo 117 [.ip [.clo 55 []]]],
   [iv 1, .clo 117 [.ip [.clo 56 []]]], [iv 1, .clo 117 [.ip [.clo 57 []]]],
   [iv 1, .clo 117 [.ip [.clo 58 []]]], [iv 1, .clo 59 []], [iv 1, .clo 62 []],
   [iv 1, .clo 63 []], [iv 2, .clo 64 []], [iv 0, .clo 65 []], [iv 0, .clo 66 []],
   [iv 1, .clo 67 []], [iv 0, .clo 69 []], [iv 1, .clo 70 []], [iv 0, .clo 71 []],
   [iv 1, .clo 72 []], [iv 1, .clo 129 [.ip [iv 0]]], [iv 1, .clo 129 [.ip [iv 1]]],
   [iv 1, .clo 129 [.ip [iv 2]]], [iv 1, .clo 129 [.ip [iv 3]]], [iv 1, .clo 74 []], [iv 1, .clo 77 []],
   [iv 0, .clo 79 []], [iv 0, .clo 80 []], [iv 1, .clo 82 []], [iv 2, .clo 83 []],
   [iv 1, .clo 84 []]]
theorem noOwn_prim : ∀ c ∈ primRows, ∀ x ∈ c, NoOwn x := by
  simp [primRows]
set_option maxHeartbeats 8000000 in
theorem primitives_ok : Gives Tryz.prog 27 [] (.sl 2 primRows) := by
  have c1 := two_ok 54
  have c2 := two_ok 55
  have c3 := two_ok 56
  have c4 := two_ok 57
  have c5 := two_ok 58
  have d0 := twoFloats_ok 0
  have d1 := twoFloats_ok 1
  have d2 := twoFloats_ok 2
  have d3 := twoFloats_ok 3
  refine gives_of Tryz.func27 rfl (Nat.le_of_ble_eq_true rfl) ?_
  (repeat' (first | refine asg ?_ | refine bd ?_ | refine aops_nil ?_ | refine aw_seq ?_ | refine aw_region ?_ | refine aw_ret ?_ | refine cl c1 ?_ | refine cl c2 ?_ | refine cl c3 ?_ | refine cl c4 ?_ | refine cl c5 ?_ | refine cl d0 ?_ | refine cl d1 ?_ | refine cl d2 ?_ | refine cl d3 ?_ | refine li 0 ?_ | fail))
  exact fin (sh_own (es := primRows) rfl (by simp [primRows]) noOwn_prim)
end Go.Proofs.YtnjihhheiiapnaaGreat
