/- What the statements' walks need. -/
import Derived.Test.YtnjihhheiiapnaaGreatMTa4
import Derived.Test.YtnjihhheiiapnaaGreatMTx16
import Derived.Test.YtnjihhheiiapnaaGreatMTx17
set_option linter.unusedVariables false
set_option linter.unusedSimpArgs false
set_option maxRecDepth 100000
namespace Go.Proofs.YtnjihhheiiapnaaGreat
open Go Go.Proofs AW
def truI (b : Bool) : Int := if b then 2 else 4
theorem truth_ok (b : Bool) : Gives Tryz.prog 60 [bv b] (iv (truI b)) := by
  have c1 := (Ref_ok 1).to' (show AV.tup [iv (refV 1), bv (refB 1)] = .tup [iv 2, bv true] from rfl)
  have c2 := (Ref_ok 2).to' (show AV.tup [iv (refV 2), bv (refB 2)] = .tup [iv 4, bv true] from rfl)
  cases b with
  | true =>
    refine gives_of Tryz.func60 rfl (Nat.le_of_ble_eq_true rfl) ?_
    (repeat' (first | refine mv ?_ | refine asg ?_ | refine ex ?_ | refine aops_nil ?_ | refine aw_seq ?_ | refine aw_region ?_ | refine aw_cond_t rfl ?_ | refine aw_ret ?_ | refine cl c1 ?_ | fail))
    exact fin (sh_iv rfl)
  | false =>
    refine gives_of Tryz.func60 rfl (Nat.le_of_ble_eq_true rfl) ?_
    (repeat' (first | refine mv ?_ | refine asg ?_ | refine ex ?_ | refine aops_nil ?_ | refine aw_seq ?_ | refine aw_region ?_ | refine aw_cond_f rfl ?_ | refine aw_skip ?_ | refine aw_ret ?_ | refine cl c2 ?_ | fail))
    exact fin (sh_iv rfl)
def overI (a b : Int) : Int := if a.tmod b ≠ 0 ∧ ¬ (a < 0 ↔ b < 0) then a.tdiv b - 1 else a.tdiv b
def In30 (a : Int) : Prop := -1073741824 ≤ a ∧ a ≤ 1073741823
theorem tdiv_rng {a b : Int} (h : In30 a) : -1073741824 ≤ a.tdiv b ∧ a.tdiv b ≤ 1073741824 := by
  have h1 := Int.natAbs_tdiv a b
  have h2 : a.natAbs.div b.natAbs ≤ a.natAbs := Nat.div_le_self _ _
  unfold In30 at h
  omega
theorem over_f (a : Int) : Fails Tryz.prog 57 [] [iv a, iv 0] (failV 130) := by
  refine okM_of Tryz.func57 rfl (Nat.le_of_ble_eq_true rfl) ?_
  (repeat' (first | refine mv ?_ | refine asg ?_ | refine bf ?_ | refine aops_nil ?_ | refine aw_seq ?_ | refine aw_region ?_ | exact cF need_no (fun _ => panE rfl) | fail))
set_option maxHeartbeats 4000000 in
theorem over_ok (a b : Int) (ha : In30 a) (hb : In30 b) (h0 : b ≠ 0) : Gives Tryz.prog 57 [iv a, iv b] (iv (overI a b)) := by
  have hr := tdiv_rng (b := b) ha
  have q1 : IntKind.i64.wrap (a.tdiv b) = a.tdiv b := wrap_id (by omega)
  refine gives_of Tryz.func57 rfl (Nat.le_of_ble_eq_true rfl) ?_
  (repeat' (first | refine sk ?_ | refine mv ?_ | refine asg ?_ | refine rm ?_ | refine qu ?_ | refine bt ?_ | refine bw ?_ | refine bi ?_ | refine pt ?_ | refine pf ?_ | refine aops_nil ?_ | refine aw_seq ?_ | refine aw_region ?_ | refine aw_cond_f rfl ?_ | refine aw_skip ?_ | refine aw_ret ?_ | refine cl need_yes ?_ | refine gs (fun h => ?_) (fun h => ?_) | refine aw_cond rfl (fun h => ?_) (fun h => ?_) | fail))
  all_goals refine fin (sh_iv ?_)
  all_goals rw [q1, overI]
  · rename_i h1; have h2 := h; simp at h1 h2; rw [if_pos ⟨h1, by omega⟩]
  · rename_i h1; have h2 := h; simp at h1 h2; rw [if_neg]; rintro ⟨_, h3⟩; apply h3; by_cases h4 : a < 0 <;> by_cases h5 : b < 0 <;> simp_all
  · have h1 := h; simp at h1; rw [if_neg (fun h => h.1 h1)]
theorem pr1_ok (a b : Int) (ha : In30 a) (hb : In30 b) : Gives Tryz.prog 54 [iv a, iv b] (iv (a + b)) := by
  obtain ⟨a1, a2⟩ := ha
  obtain ⟨b1, b2⟩ := hb
  refine gives_of Tryz.func54 rfl (Nat.le_of_ble_eq_true rfl) ?_
  (repeat' (first | refine mv ?_ | refine asg ?_ | refine bw ?_ | refine aops_nil ?_ | refine aw_seq ?_ | refine aw_region ?_ | refine aw_ret ?_ | fail))
  exact fin (sh_iv rfl)
theorem pr2_ok (a b : Int) (ha : In30 a) (hb : In30 b) : Gives Tryz.prog 55 [iv a, iv b] (iv (a - b)) := by
  obtain ⟨a1, a2⟩ := ha
  obtain ⟨b1, b2⟩ := hb
  refine gives_of Tryz.func55 rfl (Nat.le_of_ble_eq_true rfl) ?_
  (repeat' (first | refine mv ?_ | refine asg ?_ | refine bw ?_ | refine aops_nil ?_ | refine aw_seq ?_ | refine aw_region ?_ | refine aw_ret ?_ | fail))
  exact fin (sh_iv rfl)
theorem mul_rng {a b : Int} (ha : In30 a) (hb : In30 b) : -1152921504606846976 ≤ a * b ∧ a * b ≤ 1152921504606846976 := by
  have h1 : (a * b).natAbs = a.natAbs * b.natAbs := Int.natAbs_mul a b
  obtain ⟨a1, a2⟩ := ha
  obtain ⟨b1, b2⟩ := hb
  have h2 : a.natAbs * b.natAbs ≤ 1073741824 * 1073741824 := Nat.mul_le_mul (by omega) (by omega)
  omega
theorem pr3_ok (a b : Int) (ha : In30 a) (hb : In30 b) : Gives Tryz.prog 56 [iv a, iv b] (iv (a * b)) := by
  have hm := mul_rng ha hb
  have q1 : IntKind.i64.wrap (a * b) = a * b := wrap_id (by omega)
  refine gives_of Tryz.func56 rfl (Nat.le_of_ble_eq_true rfl) ?_
  (repeat' (first | refine mv ?_ | refine asg ?_ | refine bw ?_ | refine aops_nil ?_ | refine aw_seq ?_ | refine aw_region ?_ | refine aw_ret ?_ | fail))
  exact fin (sh_iv (by first | rfl | exact q1))
theorem over_rng {a b : Int} (ha : In30 a) : -1073741825 ≤ overI a b ∧ overI a b ≤ 1073741824 := by
  have := tdiv_rng (b := b) ha
  unfold overI
  split <;> omega
theorem bo_rng {a b : Int} (ha : In30 a) (hb : In30 b) : -2305843009213693952 ≤ b * overI a b ∧ b * overI a b ≤ 2305843009213693952 := by
  have h1 : (b * overI a b).natAbs = b.natAbs * (overI a b).natAbs := Int.natAbs_mul _ _
  have := over_rng (b := b) ha
  obtain ⟨b1, b2⟩ := hb
  have h2 : b.natAbs * (overI a b).natAbs ≤ 1073741824 * 1073741825 := Nat.mul_le_mul (by omega) (by omega)
  omega
theorem pr4_ok (a b : Int) (ha : In30 a) (hb : In30 b) (h0 : b ≠ 0) : Gives Tryz.prog 58 [iv a, iv b] (iv (a - b * overI a b)) := by
  have hm := bo_rng ha hb
  have co := over_ok a b ha hb h0
  have q1 : IntKind.i64.wrap (b * overI a b) = b * overI a b := wrap_id (by omega)
  obtain ⟨a1, a2⟩ := ha
  refine gives_of Tryz.func58 rfl (Nat.le_of_ble_eq_true rfl) ?_
  (repeat' (first | refine mv ?_ | refine asg ?_ | refine bw ?_ | refine aops_nil ?_ | refine aw_seq ?_ | refine aw_region ?_ | refine aw_ret ?_ | refine cl co ?_ | fail))
  exact fin (sh_iv (by first | rfl | rw [q1]))
theorem pr4_f (a : Int) : Fails Tryz.prog 58 [] [iv a, iv 0] (failV 130) := by
  refine okM_of Tryz.func58 rfl (Nat.le_of_ble_eq_true rfl) ?_
  (repeat' (first | refine mv ?_ | refine asg ?_ | refine aops_nil ?_ | refine aw_seq ?_ | refine aw_region ?_ | exact cF (over_f a) (fun _ => panE rfl) | fail))
end Go.Proofs.YtnjihhheiiapnaaGreat
namespace Go.Proofs.YtnjihhheiiapnaaGreat
open Go Go.Proofs AW
abbrev twoC (g : Nat) : List AV := [.ptr 1000 0 0, .ip [.clo g []]]
set_option maxHeartbeats 4000000 in
theorem two_f1 (g : Nat) (H : HHeap) (s x : Int) (h : ¬ (isN s = true ∧ isN x = true)) : Fails Tryz.prog 117 (cR H s [x]) (twoC g) (failV 130) := by
  cases h1 : isN s with
  | false =>
    have cn := psmall_no s h1
    cases h2 : isN x with
    | false =>
      have cm := psmall_no x h2
      refine okM_of Tryz.func117 rfl (Nat.le_of_ble_eq_true rfl) ?_
      (repeat' (first | refine asg ?_ | refine aops_nil ?_ | refine aw_seq ?_ | refine aw_region ?_ | fail))
      refine aw_drawP 15 [] ?_
      (repeat' (first | refine dPn ?_ | refine dP (fun _ => y_move) ?_ | refine dP (fun _ => y_load) ?_ | refine dP (fun _ => y_faddr_ptr (hs := Nat.le_of_ble_eq_true rfl)) ?_ | refine dP (fun _ => y_nilcP) ?_ | refine dP (fun _ => y_iaddrN 0 rfl) ?_ | refine dP (fun _ => (y_failsB cn (fun _ => panE rfl))) ?_ | refine dP (fun _ => (y_failsB cm (fun _ => panE rfl))) ?_ | refine dP (fun _ => y_bad) ?_ | fail))
      exact aops_bad
    | true =>
      have cm := psmall_yes x h2
      refine okM_of Tryz.func117 rfl (Nat.le_of_ble_eq_true rfl) ?_
      (repeat' (first | refine asg ?_ | refine aops_nil ?_ | refine aw_seq ?_ | refine aw_region ?_ | fail))
      refine aw_drawP 15 [] ?_
      (repeat' (first | refine dPn ?_ | refine dP (fun _ => y_move) ?_ | refine dP (fun _ => y_load) ?_ | refine dP (fun _ => y_faddr_ptr (hs := Nat.le_of_ble_eq_true rfl)) ?_ | refine dP (fun _ => y_nilcP) ?_ | refine dP (fun _ => y_iaddrN 0 rfl) ?_ | refine dP (fun _ => (y_failsB cn (fun _ => panE rfl))) ?_ | refine dP (fun _ => y_call (cm)) ?_ | refine dP (fun _ => y_bad) ?_ | fail))
      exact aops_bad
  | true =>
    have h2 : isN x = false := by cases h2 : isN x with | false => rfl | true => exact absurd ⟨h1, h2⟩ h
    have cn := psmall_yes s h1
    have cm := psmall_no x h2
    refine okM_of Tryz.func117 rfl (Nat.le_of_ble_eq_true rfl) ?_
    (repeat' (first | refine asg ?_ | refine aops_nil ?_ | refine aw_seq ?_ | refine aw_region ?_ | fail))
    refine aw_drawP 15 [] ?_
    (repeat' (first | refine dPn ?_ | refine dP (fun _ => y_move) ?_ | refine dP (fun _ => y_load) ?_ | refine dP (fun _ => y_faddr_ptr (hs := Nat.le_of_ble_eq_true rfl)) ?_ | refine dP (fun _ => y_nilcP) ?_ | refine dP (fun _ => y_iaddrN 0 rfl) ?_ | refine dP (fun _ => (y_failsB cm (fun _ => panE rfl))) ?_ | refine dP (fun _ => y_call (cn)) ?_ | refine dP (fun _ => y_bad) ?_ | fail))
    exact aops_bad
set_option maxHeartbeats 4000000 in
theorem two_f2 (g : Nat) (hg : goFn Tryz.prog g = true) (H : HHeap) (s x : Int) (h1 : isN s = true) (h2 : isN x = true)
    (cg : Fails Tryz.prog g [] [iv (nI s), iv (nI x)] (failV 130)) : Fails Tryz.prog 117 (cR H s [x]) (twoC g) (failV 130) := by
  have cn := psmall_yes s h1
  have cm := psmall_yes x h2
  refine okM_of Tryz.func117 rfl (Nat.le_of_ble_eq_true rfl) ?_
  (repeat' (first | refine asg ?_ | refine aops_nil ?_ | refine aw_seq ?_ | refine aw_region ?_ | fail))
  refine aw_drawP 15 [] ?_
  (repeat' (first | refine dPn ?_ | refine dP (fun _ => y_move) ?_ | refine dP (fun _ => y_load) ?_ | refine dP (fun _ => y_faddr_ptr (hs := Nat.le_of_ble_eq_true rfl)) ?_ | refine dP (fun _ => y_nilcP) ?_ | refine dP (fun _ => y_iaddrN 0 rfl) ?_ | refine dP (fun _ => y_call (cn)) ?_ | refine dP (fun _ => y_call (cm)) ?_ | refine dP (fun _ => (y_failsB cg (fun _ => panE rfl) (hg := hg))) ?_ | refine dP (fun _ => y_bad) ?_ | fail))
  exact aops_bad
set_option maxHeartbeats 4000000 in
theorem two_f3 (g : Nat) (hg : goFn Tryz.prog g = true) (H : HHeap) (s x c : Int) (h1 : isN s = true) (h2 : isN x = true)
    (cg : Gives Tryz.prog g [iv (nI s), iv (nI x)] (iv c)) (hc : smallB c = false) : Fails Tryz.prog 117 (cR H s [x]) (twoC g) (failV 130) := by
  have cn := psmall_yes s h1
  have cm := psmall_yes x h2
  have ci := pint_no c hc
  refine okM_of Tryz.func117 rfl (Nat.le_of_ble_eq_true rfl) ?_
  (repeat' (first | refine asg ?_ | refine aops_nil ?_ | refine aw_seq ?_ | refine aw_region ?_ | fail))
  refine aw_drawP 15 [] ?_
  (repeat' (first | refine dPn ?_ | refine dP (fun _ => y_move) ?_ | refine dP (fun _ => y_load) ?_ | refine dP (fun _ => y_faddr_ptr (hs := Nat.le_of_ble_eq_true rfl)) ?_ | refine dP (fun _ => y_nilcP) ?_ | refine dP (fun _ => y_iaddrN 0 rfl) ?_ | refine dP (fun _ => y_call (cn)) ?_ | refine dP (fun _ => y_call (cm)) ?_ | refine dP (fun _ => (y_call cg (hg := hg))) ?_ | refine dP (fun _ => (y_failsB ci (fun _ => panE rfl))) ?_ | fail))
  exact aops_bad
set_option maxHeartbeats 4000000 in
theorem two_y (g : Nat) (hg : goFn Tryz.prog g = true) (H : HHeap) (s x c : Int) (h1 : isN s = true) (h2 : isN x = true)
    (cg : Gives Tryz.prog g [iv (nI s), iv (nI x)] (iv c)) (hc : smallB c = true) : Mut Tryz.prog 117 (cR H s [x]) (twoC g) (iv (c * 2 + 1)) (cR H s [x]) := by
  have cn := psmall_yes s h1
  have cm := psmall_yes x h2
  have ci := pint_yes c hc
  refine okM_of Tryz.func117 rfl (Nat.le_of_ble_eq_true rfl) ?_
  (repeat' (first | refine asg ?_ | refine aops_nil ?_ | refine aw_seq ?_ | refine aw_region ?_ | fail))
  refine aw_drawP 15 [] ?_
  (repeat' (first | refine dPn ?_ | refine dP (fun _ => y_move) ?_ | refine dP (fun _ => y_load) ?_ | refine dP (fun _ => y_faddr_ptr (hs := Nat.le_of_ble_eq_true rfl)) ?_ | refine dP (fun _ => y_nilcP) ?_ | refine dP (fun _ => y_iaddrN 0 rfl) ?_ | refine dP (fun _ => y_call (cn)) ?_ | refine dP (fun _ => y_call (cm)) ?_ | refine dP (fun _ => (y_call cg (hg := hg))) ?_ | refine dP (fun _ => y_call (ci)) ?_ | fail))
  (repeat' (first | refine asg ?_ | refine aops_nil ?_ | refine aw_ret ?_ | fail))
  exact finM (cR H s [x]) ⟨rfl, rfl⟩ (cR_same H s [x] rfl) (.same _ (.v _))
theorem two_ok (g : Nat) : Gives Tryz.prog 53 [.clo g []] (.clo 117 [.ip [.clo g []]]) := by
  refine gives_of Tryz.func53 rfl (Nat.le_of_ble_eq_true rfl) ?_
  (repeat' (first | refine asg ?_ | refine mf ?_ | refine aops_nil ?_ | refine aw_seq ?_ | refine aw_region ?_ | refine aw_ret ?_ | refine bx 0 ?_ | fail))
  exact fin (sh_clo (l := [.ptr 0 0 0]) ⟨sh_box rfl ⟨.same _ (by simp), trivial⟩, trivial⟩)
theorem twoFloats_ok (d : Int) : Gives Tryz.prog 73 [iv d] (.clo 129 [.ip [iv d]]) := by
  refine gives_of Tryz.func73 rfl (Nat.le_of_ble_eq_true rfl) ?_
  (repeat' (first | refine asg ?_ | refine mf ?_ | refine aops_nil ?_ | refine aw_seq ?_ | refine aw_region ?_ | refine aw_ret ?_ | refine bx 0 ?_ | fail))
  exact fin (sh_clo (l := [.ptr 0 0 0]) ⟨sh_box rfl ⟨.same _ (by simp), trivial⟩, trivial⟩)
end Go.Proofs.YtnjihhheiiapnaaGreat
namespace Go.Proofs.YtnjihhheiiapnaaGreat
open Go Go.Proofs AW
set_option maxHeartbeats 4000000 in
theorem pr5_f (H : HHeap) (s x : Int) (h : ¬ (isN s = true ∧ isN x = true)) : Fails Tryz.prog 59 (cR H s [x]) [.ptr 1000 0 0] (failV 130) := by
  cases h1 : isN s with
  | false =>
    have cn := psmall_no s h1
    cases h2 : isN x with
    | false =>
      have cm := psmall_no x h2
      refine okM_of Tryz.func59 rfl (Nat.le_of_ble_eq_true rfl) ?_
      (repeat' (first | refine asg ?_ | refine aops_nil ?_ | refine aw_seq ?_ | refine aw_region ?_ | fail))
      refine aw_drawP 14 [] ?_
      (repeat' (first | refine dPn ?_ | refine dP (fun _ => y_move) ?_ | refine dP (fun _ => y_load) ?_ | refine dP (fun _ => y_faddr_ptr (hs := Nat.le_of_ble_eq_true rfl)) ?_ | refine dP (fun _ => y_nilcP) ?_ | refine dP (fun _ => y_iaddrN 0 rfl) ?_ | refine dP (fun _ => (y_failsB cn (fun _ => panE rfl))) ?_ | refine dP (fun _ => (y_failsB cm (fun _ => panE rfl))) ?_ | refine dP (fun _ => y_bad) ?_ | fail))
      exact aops_bad
    | true =>
      have cm := psmall_yes x h2
      refine okM_of Tryz.func59 rfl (Nat.le_of_ble_eq_true rfl) ?_
      (repeat' (first | refine asg ?_ | refine aops_nil ?_ | refine aw_seq ?_ | refine aw_region ?_ | fail))
      refine aw_drawP 14 [] ?_
      (repeat' (first | refine dPn ?_ | refine dP (fun _ => y_move) ?_ | refine dP (fun _ => y_load) ?_ | refine dP (fun _ => y_faddr_ptr (hs := Nat.le_of_ble_eq_true rfl)) ?_ | refine dP (fun _ => y_nilcP) ?_ | refine dP (fun _ => y_iaddrN 0 rfl) ?_ | refine dP (fun _ => (y_failsB cn (fun _ => panE rfl))) ?_ | refine dP (fun _ => y_call (cm)) ?_ | refine dP (fun _ => y_bad) ?_ | fail))
      exact aops_bad
  | true =>
    have h2 : isN x = false := by cases h2 : isN x with | false => rfl | true => exact absurd ⟨h1, h2⟩ h
    have cn := psmall_yes s h1
    have cm := psmall_no x h2
    refine okM_of Tryz.func59 rfl (Nat.le_of_ble_eq_true rfl) ?_
    (repeat' (first | refine asg ?_ | refine aops_nil ?_ | refine aw_seq ?_ | refine aw_region ?_ | fail))
    refine aw_drawP 14 [] ?_
    (repeat' (first | refine dPn ?_ | refine dP (fun _ => y_move) ?_ | refine dP (fun _ => y_load) ?_ | refine dP (fun _ => y_faddr_ptr (hs := Nat.le_of_ble_eq_true rfl)) ?_ | refine dP (fun _ => y_nilcP) ?_ | refine dP (fun _ => y_iaddrN 0 rfl) ?_ | refine dP (fun _ => (y_failsB cm (fun _ => panE rfl))) ?_ | refine dP (fun _ => y_call (cn)) ?_ | refine dP (fun _ => y_bad) ?_ | fail))
    exact aops_bad
set_option maxHeartbeats 4000000 in
theorem pr5_y (H : HHeap) (s x : Int) (h1 : isN s = true) (h2 : isN x = true) : Mut Tryz.prog 59 (cR H s [x]) [.ptr 1000 0 0] (iv (truI (decide (nI s < nI x)))) (cR H s [x]) := by
  have cn := psmall_yes s h1
  have cm := psmall_yes x h2
  have ct := truth_ok (decide (nI s < nI x))
  refine okM_of Tryz.func59 rfl (Nat.le_of_ble_eq_true rfl) ?_
  (repeat' (first | refine asg ?_ | refine aops_nil ?_ | refine aw_seq ?_ | refine aw_region ?_ | fail))
  refine aw_drawP 14 [] ?_
  (repeat' (first | refine dPn ?_ | refine dP (fun _ => y_move) ?_ | refine dP (fun _ => y_load) ?_ | refine dP (fun _ => y_faddr_ptr (hs := Nat.le_of_ble_eq_true rfl)) ?_ | refine dP (fun _ => y_nilcP) ?_ | refine dP (fun _ => y_bin) ?_ | refine dP (fun _ => y_iaddrN 0 rfl) ?_ | refine dP (fun _ => y_call (cn)) ?_ | refine dP (fun _ => y_call (cm)) ?_ | refine dP (fun _ => y_call (ct)) ?_ | fail))
  (repeat' (first | refine asg ?_ | refine aops_nil ?_ | refine aw_ret ?_ | fail))
  exact finM (cR H s [x]) ⟨rfl, rfl⟩ (cR_same H s [x] rfl) (.same _ (.v _))
set_option maxHeartbeats 4000000 in
theorem pr6_f (H : HHeap) (s x : Int) (h : ¬ (isN s = true ∧ isN x = true)) : Fails Tryz.prog 62 (cR H s [x]) [.ptr 1000 0 0] (failV 130) := by
  cases h1 : isN s with
  | false =>
    have cn := psmall_no s h1
    cases h2 : isN x with
    | false =>
      have cm := psmall_no x h2
      refine okM_of Tryz.func62 rfl (Nat.le_of_ble_eq_true rfl) ?_
      (repeat' (first | refine asg ?_ | refine aops_nil ?_ | refine aw_seq ?_ | refine aw_region ?_ | fail))
      refine aw_drawP 14 [] ?_
      (repeat' (first | refine dPn ?_ | refine dP (fun _ => y_move) ?_ | refine dP (fun _ => y_load) ?_ | refine dP (fun _ => y_faddr_ptr (hs := Nat.le_of_ble_eq_true rfl)) ?_ | refine dP (fun _ => y_nilcP) ?_ | refine dP (fun _ => y_iaddrN 0 rfl) ?_ | refine dP (fun _ => (y_failsB cn (fun _ => panE rfl))) ?_ | refine dP (fun _ => (y_failsB cm (fun _ => panE rfl))) ?_ | refine dP (fun _ => y_bad) ?_ | fail))
      exact aops_bad
    | true =>
      have cm := psmall_yes x h2
      refine okM_of Tryz.func62 rfl (Nat.le_of_ble_eq_true rfl) ?_
      (repeat' (first | refine asg ?_ | refine aops_nil ?_ | refine aw_seq ?_ | refine aw_region ?_ | fail))
      refine aw_drawP 14 [] ?_
      (repeat' (first | refine dPn ?_ | refine dP (fun _ => y_move) ?_ | refine dP (fun _ => y_load) ?_ | refine dP (fun _ => y_faddr_ptr (hs := Nat.le_of_ble_eq_true rfl)) ?_ | refine dP (fun _ => y_nilcP) ?_ | refine dP (fun _ => y_iaddrN 0 rfl) ?_ | refine dP (fun _ => (y_failsB cn (fun _ => panE rfl))) ?_ | refine dP (fun _ => y_call (cm)) ?_ | refine dP (fun _ => y_bad) ?_ | fail))
      exact aops_bad
  | true =>
    have h2 : isN x = false := by cases h2 : isN x with | false => rfl | true => exact absurd ⟨h1, h2⟩ h
    have cn := psmall_yes s h1
    have cm := psmall_no x h2
    refine okM_of Tryz.func62 rfl (Nat.le_of_ble_eq_true rfl) ?_
    (repeat' (first | refine asg ?_ | refine aops_nil ?_ | refine aw_seq ?_ | refine aw_region ?_ | fail))
    refine aw_drawP 14 [] ?_
    (repeat' (first | refine dPn ?_ | refine dP (fun _ => y_move) ?_ | refine dP (fun _ => y_load) ?_ | refine dP (fun _ => y_faddr_ptr (hs := Nat.le_of_ble_eq_true rfl)) ?_ | refine dP (fun _ => y_nilcP) ?_ | refine dP (fun _ => y_iaddrN 0 rfl) ?_ | refine dP (fun _ => (y_failsB cm (fun _ => panE rfl))) ?_ | refine dP (fun _ => y_call (cn)) ?_ | refine dP (fun _ => y_bad) ?_ | fail))
    exact aops_bad
set_option maxHeartbeats 4000000 in
theorem pr6_y (H : HHeap) (s x : Int) (h1 : isN s = true) (h2 : isN x = true) : Mut Tryz.prog 62 (cR H s [x]) [.ptr 1000 0 0] (iv (truI (nI s == nI x))) (cR H s [x]) := by
  have cn := psmall_yes s h1
  have cm := psmall_yes x h2
  have ct := truth_ok (nI s == nI x)
  refine okM_of Tryz.func62 rfl (Nat.le_of_ble_eq_true rfl) ?_
  (repeat' (first | refine asg ?_ | refine aops_nil ?_ | refine aw_seq ?_ | refine aw_region ?_ | fail))
  refine aw_drawP 14 [] ?_
  (repeat' (first | refine dPn ?_ | refine dP (fun _ => y_move) ?_ | refine dP (fun _ => y_load) ?_ | refine dP (fun _ => y_faddr_ptr (hs := Nat.le_of_ble_eq_true rfl)) ?_ | refine dP (fun _ => y_nilcP) ?_ | refine dP (fun _ => y_bin) ?_ | refine dP (fun _ => y_iaddrN 0 rfl) ?_ | refine dP (fun _ => y_call (cn)) ?_ | refine dP (fun _ => y_call (cm)) ?_ | refine dP (fun _ => y_call (ct)) ?_ | fail))
  (repeat' (first | refine asg ?_ | refine aops_nil ?_ | refine aw_ret ?_ | fail))
  exact finM (cR H s [x]) ⟨rfl, rfl⟩ (cR_same H s [x] rfl) (.same _ (.v _))
set_option maxHeartbeats 4000000 in
theorem pr8_y (H : HHeap) (s x : Int) : Mut Tryz.prog 70 (cR H s [x]) [.ptr 1000 0 0] (iv (truI (s == x))) (cR H s [x]) := by
  have ct := truth_ok (s == x)
  refine okM_of Tryz.func70 rfl (Nat.le_of_ble_eq_true rfl) ?_
  (repeat' (first | refine asg ?_ | refine aops_nil ?_ | refine aw_seq ?_ | refine aw_region ?_ | fail))
  refine aw_drawP 12 [] ?_
  (repeat' (first | refine dPn ?_ | refine dP (fun _ => y_move) ?_ | refine dP (fun _ => y_load) ?_ | refine dP (fun _ => y_faddr_ptr (hs := Nat.le_of_ble_eq_true rfl)) ?_ | refine dP (fun _ => y_nilcP) ?_ | refine dP (fun _ => y_bin) ?_ | refine dP (fun _ => y_iaddrN 0 rfl) ?_ | refine dP (fun _ => y_call (ct)) ?_ | fail))
  (repeat' (first | refine asg ?_ | refine aops_nil ?_ | refine aw_ret ?_ | fail))
  exact finM (cR H s [x]) ⟨rfl, rfl⟩ (cR_same H s [x] rfl) (.same _ (.v _))
theorem pr7_f (H : HHeap) (s x e : Int) (ca : Fails Tryz.prog 68 (cR H s [x]) [.ptr 1000 0 0, iv 0] (failV e)) : Fails Tryz.prog 67 (cR H s [x]) [.ptr 1000 0 0] (failV e) := by
  refine okM_of Tryz.func67 rfl (Nat.le_of_ble_eq_true rfl) ?_
  (repeat' (first | refine mv ?_ | refine asg ?_ | refine aops_nil ?_ | refine aw_seq ?_ | refine aw_region ?_ | exact cF ca (fun _ => panE rfl) | fail))
theorem pr7_y (H : HHeap) (s x y : Int) (G : HHeap) (ca : Mut Tryz.prog 68 (cR H s [x]) [.ptr 1000 0 0, iv 0] (iv y) (cR G s [x])) : Mut Tryz.prog 67 (cR H s [x]) [.ptr 1000 0 0] (iv y) (cR G s [x]) := by
  refine okM_of Tryz.func67 rfl (Nat.le_of_ble_eq_true rfl) ?_
  (repeat' (first | refine mv ?_ | refine asg ?_ | refine aops_nil ?_ | refine aw_seq ?_ | refine aw_region ?_ | refine aw_ret ?_ | refine cM ca ?_ | fail))
  exact finM (cR G s [x]) ⟨rfl, rfl⟩ (cR_same _ s [x] rfl) (.same _ (.v _))
theorem pr12_f (H : HHeap) (s x e : Int) (ca : Fails Tryz.prog 68 (cR H s [x]) [.ptr 1000 0 0, iv 1] (failV e)) : Fails Tryz.prog 84 (cR H s [x]) [.ptr 1000 0 0] (failV e) := by
  refine okM_of Tryz.func84 rfl (Nat.le_of_ble_eq_true rfl) ?_
  (repeat' (first | refine mv ?_ | refine asg ?_ | refine aops_nil ?_ | refine aw_seq ?_ | refine aw_region ?_ | exact cF ca (fun _ => panE rfl) | fail))
theorem pr12_y (H : HHeap) (s x y : Int) (G : HHeap) (ca : Mut Tryz.prog 68 (cR H s [x]) [.ptr 1000 0 0, iv 1] (iv y) (cR G s [x])) : Mut Tryz.prog 84 (cR H s [x]) [.ptr 1000 0 0] (iv y) (cR G s [x]) := by
  refine okM_of Tryz.func84 rfl (Nat.le_of_ble_eq_true rfl) ?_
  (repeat' (first | refine mv ?_ | refine asg ?_ | refine aops_nil ?_ | refine aw_seq ?_ | refine aw_region ?_ | refine aw_ret ?_ | refine cM ca ?_ | fail))
  exact finM (cR G s [x]) ⟨rfl, rfl⟩ (cR_same _ s [x] rfl) (.same _ (.v _))
def primRows : List (List AV) :=
  [[iv 1, .clo 117 [.ip [.clo 54 []]]], [iv 1, .clo 117 [.ip [.clo 55 []]]],
   [iv 1, .clo 117 [.ip [.clo 56 []]]], [iv 1, .clo 117 [.ip [.clo 57 []]]],
   [iv 1, .clo 117 [.ip [.clo 58 []]]], [iv 1, .clo 59 []], [iv 1, .clo 62 []],
   [iv 1, .clo 63 []], [iv 2, .clo 64 []], [iv 0, .clo 65 []], [iv 0, .clo 66 []],
   [iv 1, .clo 67 []], [iv 0, .clo 69 []], [iv 1, .clo 70 []], [iv 0, .clo 71 []],
   [iv 1, .clo 72 []], [iv 1, .clo 129 [.ip [iv 0]]], [iv 1, .clo 129 [.ip [iv 1]]],
   [iv 1, .clo 129 [.ip [iv 2]]], [iv 1, .clo 129 [.ip [iv 3]]], [iv 1, .clo 74 []], [iv 1, .clo 77 []],
   [iv 0, .clo 79 []], [iv 0, .clo 80 []], [iv 1, .clo 82 []], [iv 2, .clo 83 []],
   [iv 1, .clo 84 []]]
theorem noOwn_prim : ∀ c ∈ primRows, ∀ x ∈ c, NoOwn x := by
  simp [primRows]
set_option maxHeartbeats 8000000 in
theorem primitives_ok : Gives Tryz.prog 27 [] (.sl 2 primRows) := by
  have c1 := two_ok 54
  have c2 := two_ok 55
  have c3 := two_ok 56
  have c4 := two_ok 57
  have c5 := two_ok 58
  have d0 := twoFloats_ok 0
  have d1 := twoFloats_ok 1
  have d2 := twoFloats_ok 2
  have d3 := twoFloats_ok 3
  refine gives_of Tryz.func27 rfl (Nat.le_of_ble_eq_true rfl) ?_
  (repeat' (first | refine asg ?_ | refine bd ?_ | refine aops_nil ?_ | refine aw_seq ?_ | refine aw_region ?_ | refine aw_ret ?_ | refine cl c1 ?_ | refine cl c2 ?_ | refine cl c3 ?_ | refine cl c4 ?_ | refine cl c5 ?_ | refine cl d0 ?_ | refine cl d1 ?_ | refine cl d2 ?_ | refine cl d3 ?_ | refine li 0 ?_ | fail))
  exact fin (sh_own (es := primRows) rfl (by simp [primRows]) noOwn_prim)
end Go.Proofs.YtnjihhheiiapnaaGreat
