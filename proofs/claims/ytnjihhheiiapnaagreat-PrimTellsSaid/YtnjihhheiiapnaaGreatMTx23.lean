/- What the statements' walks need. -/
import Derived.Test.YtnjihhheiiapnaaGreatMTa4
import Derived.Test.YtnjihhheiiapnaaGreatMTx21
import Derived.Test.YtnjihhheiiapnaaGreatMTx22
set_option linter.unusedVariables false
set_option linter.unusedSimpArgs false
set_option maxRecDepth 100000
namespace Go.Proofs.YtnjihhheiiapnaaGreat
open Go Go.Proofs AW
def floB (H : HHeap) (v : Int) : Bool := isN v || decide ((H.at' v).kind = 2)
def flV (H : HHeap) (v : Int) : Int := if isN v = true then ofF (nI v) else (H.at' v).bits
theorem floated_ok (H : HHeap) (s : Int) (a : List Int) (v : Int) (hv : isN v = true ∨ 0 ≤ H.ref v) (h : floB H v = true) : Mut Tryz.prog 76 (cR H s a) [.ptr 1000 0 0, iv v] (iv (flV H v)) (cR H s a) := by
  unfold flV
  cases hn : isN v with
  | true => rw [if_pos rfl]; exact floated_n H s a v hn
  | false =>
    rw [if_neg (by simp)]
    rw [floB, hn] at h
    rw [hn] at hv
    exact floated_y H s a v hn (by simpa using hv) (by simpa using h)
theorem floated_no (H : HHeap) (s : Int) (a : List Int) (v : Int) (hv : isN v = true ∨ 0 ≤ H.ref v) (h : floB H v = false) : Fails Tryz.prog 76 (cR H s a) [.ptr 1000 0 0, iv v] (failV 130) := by
  have hn : isN v = false := by rw [floB, Bool.or_eq_false_iff] at h; exact h.1
  rw [floB, hn] at h
  rw [hn] at hv
  exact floated_f H s a v hn (by simpa using hv) (by simpa using h)
abbrev hasV (H : HHeap) (v : Int) : Prop := isN v = true ∨ 0 ≤ H.ref v
theorem fcan_rng (b : Nat) : In64 (fcan b) := by
  unfold fcan
  split
  · rw [IntKind.wrap_i64]; constructor <;> omega
  · constructor <;> omega
theorem fres_rng (r : Option Nat) : In64 (fres r) := by
  cases r with
  | some r => exact fcan_rng r
  | none => constructor <;> decide
theorem opI_rng (o a b : Int) : In64 (opI o a b) := by
  unfold opI
  repeat' split
  all_goals first | exact fres_rng _ | (constructor <;> decide)
theorem flV_rng (H : HHeap) (hi : H.In) (v : Int) : In64 (flV H v) := by
  unfold flV
  split
  · exact fcan_rng _
  · unfold HHeap.at'
    cases h : H.objs[(H.ref v).toNat]? with
    | none => constructor <;> decide
    | some o => exact (hi.1 o (List.mem_of_getElem? h)).2.2.2.1
set_option maxHeartbeats 4000000 in
theorem pr9_f (H : HHeap) (s x : Int) (vs : hasV H s) (vx : hasV H x) (h : ¬ (floB H s = true ∧ floB H x = true)) : Fails Tryz.prog 74 (cR H s [x]) [.ptr 1000 0 0] (failV 130) := by
  cases h1 : floB H s with
  | false =>
    have cn := floated_no H s [x] s vs h1
    cases h2 : floB H x with
    | false =>
      have cm := floated_no H s [x] x vx h2
      refine okM_of Tryz.func74 rfl (Nat.le_of_ble_eq_true rfl) ?_
      (repeat' (first | refine asg ?_ | refine aops_nil ?_ | refine aw_seq ?_ | refine aw_region ?_ | fail))
      refine aw_drawP 15 [] ?_
      (repeat' (first | refine dPn ?_ | refine dP (fun _ => y_move) ?_ | refine dP (fun _ => y_load) ?_ | refine dP (fun _ => y_faddr_ptr (hs := Nat.le_of_ble_eq_true rfl)) ?_ | refine dP (fun _ => y_nilcP) ?_ | refine dP (fun _ => y_iaddrN 0 rfl) ?_ | refine dP (fun _ => (y_failsB cn (fun _ => panE rfl))) ?_ | refine dP (fun _ => (y_failsB cm (fun _ => panE rfl))) ?_ | refine dP (fun _ => y_bad) ?_ | fail))
      exact aops_bad
    | true =>
      have cm := floated_ok H s [x] x vx h2
      refine okM_of Tryz.func74 rfl (Nat.le_of_ble_eq_true rfl) ?_
      (repeat' (first | refine asg ?_ | refine aops_nil ?_ | refine aw_seq ?_ | refine aw_region ?_ | fail))
      refine aw_drawP 15 [] ?_
      (repeat' (first | refine dPn ?_ | refine dP (fun _ => y_move) ?_ | refine dP (fun _ => y_load) ?_ | refine dP (fun _ => y_faddr_ptr (hs := Nat.le_of_ble_eq_true rfl)) ?_ | refine dP (fun _ => y_nilcP) ?_ | refine dP (fun _ => y_iaddrN 0 rfl) ?_ | refine dP (fun _ => (y_failsB cn (fun _ => panE rfl))) ?_ | refine dPs (fun _ => y_mutS (cm)) ?_ | refine dP (fun _ => y_bad) ?_ | fail))
      exact aops_bad
  | true =>
    have h2 : floB H x = false := by cases h2 : floB H x with | false => rfl | true => exact absurd ⟨h1, h2⟩ h
    have cn := floated_ok H s [x] s vs h1
    have cm := floated_no H s [x] x vx h2
    refine okM_of Tryz.func74 rfl (Nat.le_of_ble_eq_true rfl) ?_
    (repeat' (first | refine asg ?_ | refine aops_nil ?_ | refine aw_seq ?_ | refine aw_region ?_ | fail))
    refine aw_drawP 15 [] ?_
    (repeat' (first | refine dPn ?_ | refine dP (fun _ => y_move) ?_ | refine dP (fun _ => y_load) ?_ | refine dP (fun _ => y_faddr_ptr (hs := Nat.le_of_ble_eq_true rfl)) ?_ | refine dP (fun _ => y_nilcP) ?_ | refine dP (fun _ => y_iaddrN 0 rfl) ?_ | refine dP (fun _ => (y_failsB cm (fun _ => panE rfl))) ?_ | refine dPs (fun _ => y_mutS (cn)) ?_ | refine dP (fun _ => y_bad) ?_ | fail))
    exact aops_bad
set_option maxHeartbeats 4000000 in
theorem pr9_y (H : HHeap) (s x : Int) (vs : hasV H s) (vx : hasV H x) (h1 : floB H s = true) (h2 : floB H x = true) : Mut Tryz.prog 74 (cR H s [x]) [.ptr 1000 0 0] (iv (truI (lessF (flV H s) (flV H x)))) (cR H s [x]) := by
  have cn := floated_ok H s [x] s vs h1
  have cm := floated_ok H s [x] x vx h2
  have cl' := fLess_ok (flV H s) (flV H x)
  have ct := truth_ok (lessF (flV H s) (flV H x))
  refine okM_of Tryz.func74 rfl (Nat.le_of_ble_eq_true rfl) ?_
  (repeat' (first | refine asg ?_ | refine aops_nil ?_ | refine aw_seq ?_ | refine aw_region ?_ | fail))
  refine aw_drawP 16 [] ?_
  (repeat' (first | refine dPn ?_ | refine dP (fun _ => y_move) ?_ | refine dP (fun _ => y_load) ?_ | refine dP (fun _ => y_faddr_ptr (hs := Nat.le_of_ble_eq_true rfl)) ?_ | refine dP (fun _ => y_nilcP) ?_ | refine dP (fun _ => y_iaddrN 0 rfl) ?_ | refine dPs (fun _ => y_mutS (cn)) ?_ | refine dPs (fun _ => y_mutS (cm)) ?_ | refine dP (fun _ => y_call (cl')) ?_ | refine dP (fun _ => y_call (ct)) ?_ | fail))
  (repeat' (first | refine asg ?_ | refine aops_nil ?_ | refine aw_ret ?_ | fail))
  exact finM (cR H s [x]) ⟨rfl, rfl⟩ (cR_same H s [x] rfl) (.same _ (.v _))
set_option maxHeartbeats 4000000 in
theorem pr10_f (H : HHeap) (s x : Int) (vs : hasV H s) (vx : hasV H x) (h : ¬ (floB H s = true ∧ floB H x = true)) : Fails Tryz.prog 77 (cR H s [x]) [.ptr 1000 0 0] (failV 130) := by
  cases h1 : floB H s with
  | false =>
    have cn := floated_no H s [x] s vs h1
    cases h2 : floB H x with
    | false =>
      have cm := floated_no H s [x] x vx h2
      refine okM_of Tryz.func77 rfl (Nat.le_of_ble_eq_true rfl) ?_
      (repeat' (first | refine asg ?_ | refine aops_nil ?_ | refine aw_seq ?_ | refine aw_region ?_ | fail))
      refine aw_drawP 15 [] ?_
      (repeat' (first | refine dPn ?_ | refine dP (fun _ => y_move) ?_ | refine dP (fun _ => y_load) ?_ | refine dP (fun _ => y_faddr_ptr (hs := Nat.le_of_ble_eq_true rfl)) ?_ | refine dP (fun _ => y_nilcP) ?_ | refine dP (fun _ => y_iaddrN 0 rfl) ?_ | refine dP (fun _ => (y_failsB cn (fun _ => panE rfl))) ?_ | refine dP (fun _ => (y_failsB cm (fun _ => panE rfl))) ?_ | refine dP (fun _ => y_bad) ?_ | fail))
      exact aops_bad
    | true =>
      have cm := floated_ok H s [x] x vx h2
      refine okM_of Tryz.func77 rfl (Nat.le_of_ble_eq_true rfl) ?_
      (repeat' (first | refine asg ?_ | refine aops_nil ?_ | refine aw_seq ?_ | refine aw_region ?_ | fail))
      refine aw_drawP 15 [] ?_
      (repeat' (first | refine dPn ?_ | refine dP (fun _ => y_move) ?_ | refine dP (fun _ => y_load) ?_ | refine dP (fun _ => y_faddr_ptr (hs := Nat.le_of_ble_eq_true rfl)) ?_ | refine dP (fun _ => y_nilcP) ?_ | refine dP (fun _ => y_iaddrN 0 rfl) ?_ | refine dP (fun _ => (y_failsB cn (fun _ => panE rfl))) ?_ | refine dPs (fun _ => y_mutS (cm)) ?_ | refine dP (fun _ => y_bad) ?_ | fail))
      exact aops_bad
  | true =>
    have h2 : floB H x = false := by cases h2 : floB H x with | false => rfl | true => exact absurd ⟨h1, h2⟩ h
    have cn := floated_ok H s [x] s vs h1
    have cm := floated_no H s [x] x vx h2
    refine okM_of Tryz.func77 rfl (Nat.le_of_ble_eq_true rfl) ?_
    (repeat' (first | refine asg ?_ | refine aops_nil ?_ | refine aw_seq ?_ | refine aw_region ?_ | fail))
    refine aw_drawP 15 [] ?_
    (repeat' (first | refine dPn ?_ | refine dP (fun _ => y_move) ?_ | refine dP (fun _ => y_load) ?_ | refine dP (fun _ => y_faddr_ptr (hs := Nat.le_of_ble_eq_true rfl)) ?_ | refine dP (fun _ => y_nilcP) ?_ | refine dP (fun _ => y_iaddrN 0 rfl) ?_ | refine dP (fun _ => (y_failsB cm (fun _ => panE rfl))) ?_ | refine dPs (fun _ => y_mutS (cn)) ?_ | refine dP (fun _ => y_bad) ?_ | fail))
    exact aops_bad
set_option maxHeartbeats 4000000 in
theorem pr10_y (H : HHeap) (s x : Int) (vs : hasV H s) (vx : hasV H x) (h1 : floB H s = true) (h2 : floB H x = true) : Mut Tryz.prog 77 (cR H s [x]) [.ptr 1000 0 0] (iv (truI (sameF (flV H s) (flV H x)))) (cR H s [x]) := by
  have cn := floated_ok H s [x] s vs h1
  have cm := floated_ok H s [x] x vx h2
  have cl' := fEqual_ok (flV H s) (flV H x)
  have ct := truth_ok (sameF (flV H s) (flV H x))
  refine okM_of Tryz.func77 rfl (Nat.le_of_ble_eq_true rfl) ?_
  (repeat' (first | refine asg ?_ | refine aops_nil ?_ | refine aw_seq ?_ | refine aw_region ?_ | fail))
  refine aw_drawP 16 [] ?_
  (repeat' (first | refine dPn ?_ | refine dP (fun _ => y_move) ?_ | refine dP (fun _ => y_load) ?_ | refine dP (fun _ => y_faddr_ptr (hs := Nat.le_of_ble_eq_true rfl)) ?_ | refine dP (fun _ => y_nilcP) ?_ | refine dP (fun _ => y_iaddrN 0 rfl) ?_ | refine dPs (fun _ => y_mutS (cn)) ?_ | refine dPs (fun _ => y_mutS (cm)) ?_ | refine dP (fun _ => y_call (cl')) ?_ | refine dP (fun _ => y_call (ct)) ?_ | fail))
  (repeat' (first | refine asg ?_ | refine aops_nil ?_ | refine aw_ret ?_ | fail))
  exact finM (cR H s [x]) ⟨rfl, rfl⟩ (cR_same H s [x] rfl) (.same _ (.v _))
set_option maxHeartbeats 4000000 in
theorem twof_f (o : Int) (H : HHeap) (s x : Int) (vs : hasV H s) (vx : hasV H x) (h : ¬ (floB H s = true ∧ floB H x = true)) : Fails Tryz.prog 129 (cR H s [x]) [.ptr 1000 0 0, .ip [iv o]] (failV 130) := by
  cases h1 : floB H s with
  | false =>
    have cn := floated_no H s [x] s vs h1
    cases h2 : floB H x with
    | false =>
      have cm := floated_no H s [x] x vx h2
      refine okM_of Tryz.func129 rfl (Nat.le_of_ble_eq_true rfl) ?_
      (repeat' (first | refine asg ?_ | refine aops_nil ?_ | refine aw_seq ?_ | refine aw_region ?_ | fail))
      refine aw_drawP 18 [] ?_
      (repeat' (first | refine dPn ?_ | refine dP (fun _ => y_move) ?_ | refine dP (fun _ => y_load) ?_ | refine dP (fun _ => y_faddr_ptr (hs := Nat.le_of_ble_eq_true rfl)) ?_ | refine dP (fun _ => y_nilcP) ?_ | refine dP (fun _ => y_iaddrN 0 rfl) ?_ | refine dP (fun _ => (y_failsB cn (fun _ => panE rfl))) ?_ | refine dP (fun _ => (y_failsB cm (fun _ => panE rfl))) ?_ | refine dP (fun _ => y_bad) ?_ | fail))
      exact aops_bad
    | true =>
      have cm := floated_ok H s [x] x vx h2
      refine okM_of Tryz.func129 rfl (Nat.le_of_ble_eq_true rfl) ?_
      (repeat' (first | refine asg ?_ | refine aops_nil ?_ | refine aw_seq ?_ | refine aw_region ?_ | fail))
      refine aw_drawP 18 [] ?_
      (repeat' (first | refine dPn ?_ | refine dP (fun _ => y_move) ?_ | refine dP (fun _ => y_load) ?_ | refine dP (fun _ => y_faddr_ptr (hs := Nat.le_of_ble_eq_true rfl)) ?_ | refine dP (fun _ => y_nilcP) ?_ | refine dP (fun _ => y_iaddrN 0 rfl) ?_ | refine dP (fun _ => (y_failsB cn (fun _ => panE rfl))) ?_ | refine dPs (fun _ => y_mutS (cm)) ?_ | refine dP (fun _ => y_bad) ?_ | fail))
      exact aops_bad
  | true =>
    have h2 : floB H x = false := by cases h2 : floB H x with | false => rfl | true => exact absurd ⟨h1, h2⟩ h
    have cn := floated_ok H s [x] s vs h1
    have cm := floated_no H s [x] x vx h2
    refine okM_of Tryz.func129 rfl (Nat.le_of_ble_eq_true rfl) ?_
    (repeat' (first | refine asg ?_ | refine aops_nil ?_ | refine aw_seq ?_ | refine aw_region ?_ | fail))
    refine aw_drawP 18 [] ?_
    (repeat' (first | refine dPn ?_ | refine dP (fun _ => y_move) ?_ | refine dP (fun _ => y_load) ?_ | refine dP (fun _ => y_faddr_ptr (hs := Nat.le_of_ble_eq_true rfl)) ?_ | refine dP (fun _ => y_nilcP) ?_ | refine dP (fun _ => y_iaddrN 0 rfl) ?_ | refine dP (fun _ => (y_failsB cm (fun _ => panE rfl))) ?_ | refine dPs (fun _ => y_mutS (cn)) ?_ | refine dP (fun _ => y_bad) ?_ | fail))
    exact aops_bad
set_option maxHeartbeats 4000000 in
theorem twof_full (o : Int) (ho : o = 0 ∨ o = 1 ∨ o = 2 ∨ o = 3) (H : HHeap) (hi : H.In) (s x : Int) (vs : hasV H s) (vx : hasV H x) (h1 : floB H s = true) (h2 : floB H x = true) (he : allocE H 8 2 0 = 30) : Fails Tryz.prog 129 (cR H s [x]) [.ptr 1000 0 0, .ip [iv o]] (failV 30) := by
  have cn := floated_ok H s [x] s vs h1
  have cm := floated_ok H s [x] x vx h2
  have co := fOp_ok o (flV H s) (flV H x) ho
  have cf := float_full H hi s [x] (opI o (flV H s) (flV H x)) he
  refine okM_of Tryz.func129 rfl (Nat.le_of_ble_eq_true rfl) ?_
  (repeat' (first | refine asg ?_ | refine aops_nil ?_ | refine aw_seq ?_ | refine aw_region ?_ | fail))
  refine aw_drawP 18 [] ?_
  (repeat' (first | refine dPn ?_ | refine dP (fun _ => y_move) ?_ | refine dP (fun _ => y_load) ?_ | refine dP (fun _ => y_faddr_ptr (hs := Nat.le_of_ble_eq_true rfl)) ?_ | refine dP (fun _ => y_nilcP) ?_ | refine dP (fun _ => y_iaddrN 0 rfl) ?_ | refine dPs (fun _ => y_mutS (cn)) ?_ | refine dPs (fun _ => y_mutS (cm)) ?_ | refine dP (fun _ => y_call (co)) ?_ | refine dP (fun _ => (y_failsB cf (fun _ => panE rfl))) ?_ | fail))
  exact aops_bad
set_option maxHeartbeats 4000000 in
theorem twof_y (o : Int) (ho : o = 0 ∨ o = 1 ∨ o = 2 ∨ o = 3) (H : HHeap) (hi : H.In) (s x : Int) (vs : hasV H s) (vx : hasV H x) (h1 : floB H s = true) (h2 : floB H x = true) (he : allocE H 8 2 0 = 0) : Mut Tryz.prog 129 (cR H s [x]) [.ptr 1000 0 0, .ip [iv o]] (iv (2 * H.objs.length)) (cR (floH H (opI o (flV H s) (flV H x))) s [x]) := by
  have cn := floated_ok H s [x] s vs h1
  have cm := floated_ok H s [x] x vx h2
  have co := fOp_ok o (flV H s) (flV H x) ho
  have cf := float_y H hi s [x] (opI o (flV H s) (flV H x)) (opI_rng _ _ _) he
  refine okM_of Tryz.func129 rfl (Nat.le_of_ble_eq_true rfl) ?_
  (repeat' (first | refine asg ?_ | refine aops_nil ?_ | refine aw_seq ?_ | refine aw_region ?_ | fail))
  refine aw_drawP 18 [(17, 1000, .live 52 5 [callC (floH H (opI o (flV H s) (flV H x))) s [x]], none)] ?_
  (repeat' (first | refine dPn ?_ | refine dP (fun _ => y_move) ?_ | refine dP (fun _ => y_load) ?_ | refine dP (fun _ => y_faddr_ptr (hs := Nat.le_of_ble_eq_true rfl)) ?_ | refine dP (fun _ => y_nilcP) ?_ | refine dP (fun _ => y_iaddrN 0 rfl) ?_ | refine dPs (fun _ => y_mutS (cn)) ?_ | refine dPs (fun _ => y_mutS (cm)) ?_ | refine dP (fun _ => y_call (co)) ?_ | refine dPE (fun _ => (y_mut cf)) ?_ | fail))
  (repeat' (first | refine asg ?_ | refine aops_nil ?_ | refine aw_ret ?_ | fail))
  exact finM (cR (floH H (opI o (flV H s) (flV H x))) s [x]) ⟨rfl, rfl⟩ (cR_same _ s [x] rfl) (.same _ (.v _))
theorem pr11_f (H : HHeap) (s : Int) (vs : hasV H s) (h : floB H s = false) : Fails Tryz.prog 80 (cR H s []) [.ptr 1000 0 0] (failV 130) := by
  have cn := floated_no H s [] s vs h
  refine okM_of Tryz.func80 rfl (Nat.le_of_ble_eq_true rfl) ?_
  (repeat' (first | refine mv ?_ | refine asg ?_ | refine ld ?_ | refine fp ?_ | refine nkp ?_ | refine aops_nil ?_ | refine aw_seq ?_ | refine aw_region ?_ | exact cF cn (fun _ => panE rfl) | fail))
theorem pr11_full (H : HHeap) (hi : H.In) (s : Int) (vs : hasV H s) (h : floB H s = true) (he : allocE H 8 2 0 = 30) : Fails Tryz.prog 80 (cR H s []) [.ptr 1000 0 0] (failV 30) := by
  have cn := floated_ok H s [] s vs h
  have cf := float_full H hi s [] (flV H s) he
  refine okM_of Tryz.func80 rfl (Nat.le_of_ble_eq_true rfl) ?_
  (repeat' (first | refine mv ?_ | refine asg ?_ | refine ld ?_ | refine fp ?_ | refine nkp ?_ | refine aops_nil ?_ | refine aw_seq ?_ | refine aw_region ?_ | refine cM cn ?_ | exact cF cf (fun _ => panE rfl) | fail))
theorem pr11_y (H : HHeap) (hi : H.In) (s : Int) (vs : hasV H s) (h : floB H s = true) (hb : In64 (flV H s)) (he : allocE H 8 2 0 = 0) : Mut Tryz.prog 80 (cR H s []) [.ptr 1000 0 0] (iv (2 * H.objs.length)) (cR (floH H (flV H s)) s []) := by
  have cn := floated_ok H s [] s vs h
  have cf := float_y H hi s [] (flV H s) hb he
  refine okM_of Tryz.func80 rfl (Nat.le_of_ble_eq_true rfl) ?_
  (repeat' (first | refine mv ?_ | refine asg ?_ | refine ld ?_ | refine fp ?_ | refine nkp ?_ | refine aops_nil ?_ | refine aw_seq ?_ | refine aw_region ?_ | refine aw_ret ?_ | refine cM cn ?_ | refine cM cf ?_ | fail))
  exact finM (cR (floH H (flV H s)) s []) ⟨rfl, rfl⟩ (cR_same _ s [] rfl) (.same _ (.v _))
theorem trunc_f1 (H : HHeap) (s : Int) (vs : hasV H s) (h : floB H s = false) : Fails Tryz.prog 79 (cR H s []) [.ptr 1000 0 0] (failV 130) := by
  have cn := floated_no H s [] s vs h
  refine okM_of Tryz.func79 rfl (Nat.le_of_ble_eq_true rfl) ?_
  (repeat' (first | refine mv ?_ | refine asg ?_ | refine ld ?_ | refine fp ?_ | refine nkp ?_ | refine aops_nil ?_ | refine aw_seq ?_ | refine aw_region ?_ | exact cF cn (fun _ => panE rfl) | fail))
theorem trunc_f2 (H : HHeap) (s : Int) (vs : hasV H s) (h : floB H s = true) (n : Int) (hf : flt_Trunc.f (flV H s) = some (n, false)) : Fails Tryz.prog 79 (cR H s []) [.ptr 1000 0 0] (failV 130) := by
  have cn := floated_ok H s [] s vs h
  have ct := fTrunc_ok (flV H s) n false hf
  refine okM_of Tryz.func79 rfl (Nat.le_of_ble_eq_true rfl) ?_
  (repeat' (first | refine mv ?_ | refine asg ?_ | refine ld ?_ | refine fp ?_ | refine ex ?_ | refine nkp ?_ | refine aops_nil ?_ | refine aw_seq ?_ | refine aw_region ?_ | refine cM cn ?_ | refine cl ct ?_ | exact cF need_no (fun _ => panE rfl) | fail))
theorem trunc_y (H : HHeap) (s : Int) (vs : hasV H s) (h : floB H s = true) (n : Int) (hf : flt_Trunc.f (flV H s) = some (n, true)) (hs : smallB n = true) : Mut Tryz.prog 79 (cR H s []) [.ptr 1000 0 0] (iv (n * 2 + 1)) (cR H s []) := by
  have cn := floated_ok H s [] s vs h
  have ct := fTrunc_ok (flV H s) n true hf
  have ci := pint_yes n hs
  refine okM_of Tryz.func79 rfl (Nat.le_of_ble_eq_true rfl) ?_
  (repeat' (first | refine mv ?_ | refine asg ?_ | refine ld ?_ | refine fp ?_ | refine ex ?_ | refine nkp ?_ | refine aops_nil ?_ | refine aw_seq ?_ | refine aw_region ?_ | refine aw_ret ?_ | refine cM cn ?_ | refine cl ct ?_ | refine cl need_yes ?_ | refine cl ci ?_ | fail))
  exact finM (cR H s []) ⟨rfl, rfl⟩ (cR_same H s [] rfl) (.same _ (.v _))
end Go.Proofs.YtnjihhheiiapnaaGreat
