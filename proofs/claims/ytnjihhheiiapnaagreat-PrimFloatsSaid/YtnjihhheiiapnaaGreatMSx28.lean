/- What the statements' walks need. -/
import Derived.Test.YtnjihhheiiapnaaGreatMSa4
import Derived.Test.YtnjihhheiiapnaaGreatMSx27
import Derived.Test.YtnjihhheiiapnaaGreatMSx26
set_option linter.unusedVariables false
set_option linter.unusedSimpArgs false
set_option maxRecDepth 100000
namespace Go.Proofs.YtnjihhheiiapnaaGreat
open Go Go.Proofs AW
def overI (a b : Int) : Int := if a.tmod b ≠ 0 ∧ ¬ (a < 0 ↔ b < 0) then a.tdiv b - 1 else a.tdiv b
def In30 (a : Int) : Prop := -1073741824 ≤ a ∧ a ≤ 1073741823
theorem tdiv_rng {a b : Int} (h : In30 a) : -1073741824 ≤ a.tdiv b ∧ a.tdiv b ≤ 1073741824 := by
  have h1 := Int.natAbs_tdiv a b
  have h2 : a.natAbs.div b.natAbs ≤ a.natAbs := Nat.div_le_self _ _
  unfold In30 at h
  omega
theorem over_f (a : Int) : Fails Tryz.prog 57 [] [iv a, iv 0] (failV 130) := by
  refine okM_of Tryz.func57 rfl (Nat.le_of_ble_eq_true rfl) ?_
  (repeat' (first | refine mv ?_ | refine asg ?_ | refine bf ?_ | refine aops_nil ?_ | refine aw_seq ?_ | refine aw_region ?_ | exact cF need_no (fun _ => panE rfl) | fail))
set_option maxHeartbeats 4000000 in
theorem over_ok (a b : Int) (ha : In30 a) (hb : In30 b) (h0 : b ≠ 0) : Gives Tryz.prog 57 [iv a, iv b] (iv (overI a b)) := by
  have hr := tdiv_rng (b := b) ha
  have q1 : IntKind.i64.wrap (a.tdiv b) = a.tdiv b := wrap_id (by omega)
  refine gives_of Tryz.func57 rfl (Nat.le_of_ble_eq_true rfl) ?_
  (repeat' (first | refine sk ?_ | refine mv ?_ | refine asg ?_ | refine rm ?_ | refine qu ?_ | refine bt ?_ | refine bw ?_ | refine bi ?_ | refine pt ?_ | refine pf ?_ | refine aops_nil ?_ | refine aw_seq ?_ | refine aw_region ?_ | refine aw_cond_f rfl ?_ | refine aw_skip ?_ | refine aw_ret ?_ | refine cl need_yes ?_ | refine gs (fun h => ?_) (fun h => ?_) | refine aw_cond rfl (fun h => ?_) (fun h => ?_) | fail))
  all_goals refine fin (sh_iv ?_)
  all_goals rw [q1, overI]
  · rename_i h1; have h2 := h; simp at h1 h2; rw [if_pos ⟨h1, by omega⟩]
  · rename_i h1; have h2 := h; simp at h1 h2; rw [if_neg]; rintro ⟨_, h3⟩; apply h3; by_cases h4 : a < 0 <;> by_cases h5 : b < 0 <;> simp_all
  · have h1 := h; simp at h1; rw [if_neg (fun h => h.1 h1)]
theorem pr1_ok (a b : Int) (ha : In30 a) (hb : In30 b) : Gives Tryz.prog 54 [iv a, iv b] (iv (a + b)) := by
  obtain ⟨a1, a2⟩ := ha
  obtain ⟨b1, b2⟩ := hb
  refine gives_of Tryz.func54 rfl (Nat.le_of_ble_eq_true rfl) ?_
  (repeat' (first | refine mv ?_ | refine asg ?_ | refine bw ?_ | refine aops_nil ?_ | refine aw_seq ?_ | refine aw_region ?_ | refine aw_ret ?_ | fail))
  exact fin (sh_iv rfl)
theorem mul_rng {a b : Int} (ha : In30 a) (hb : In30 b) : -1152921504606846976 ≤ a * b ∧ a * b ≤ 1152921504606846976 := by
  have h1 : (a * b).natAbs = a.natAbs * b.natAbs := Int.natAbs_mul a b
  obtain ⟨a1, a2⟩ := ha
  obtain ⟨b1, b2⟩ := hb
  have h2 : a.natAbs * b.natAbs ≤ 1073741824 * 1073741824 := Nat.mul_le_mul (by omega) (by omega)
  omega
theorem pr3_ok (a b : Int) (ha : In30 a) (hb : In30 b) : Gives Tryz.prog 56 [iv a, iv b] (iv (a * b)) := by
  have hm := mul_rng ha hb
  have q1 : IntKind.i64.wrap (a * b) = a * b := wrap_id (by omega)
  refine gives_of Tryz.func56 rfl (Nat.le_of_ble_eq_true rfl) ?_
  (repeat' (first | refine mv ?_ | refine asg ?_ | refine bw ?_ | refine aops_nil ?_ | refine aw_seq ?_ | refine aw_region ?_ | refine aw_ret ?_ | fail))
  exact fin (sh_iv (by first | rfl | exact q1))
end Go.Proofs.YtnjihhheiiapnaaGreat
namespace Go.Proofs.YtnjihhheiiapnaaGreat
open Go Go.Proofs AW
abbrev twoC (g : Nat) : List AV := [.ptr 1000 0 0, .ip [.clo g []]]
set_option maxHeartbeats 4000000 in
theorem two_f1 (g : Nat) (H : HHeap) (s x : Int) (h : ¬ (isN s = true ∧ isN x = true)) : Fails Tryz.prog 117 (cR H s [x]) (twoC g) (failV 130) := by
  cases h1 : isN s with
  | false =>
    have cn := psmall_no s h1
    cases h2 : isN x with
    | false =>
      have cm := psmall_no x h2
      refine okM_of Tryz.func117 rfl (Nat.le_of_ble_eq_true rfl) ?_
      (repeat' (first | refine asg ?_ | refine aops_nil ?_ | refine aw_seq ?_ | refine aw_region ?_ | fail))
      refine aw_drawP 15 [] ?_
      (repeat' (first | refine dPn ?_ | refine dP (fun _ => y_move) ?_ | refine dP (fun _ => y_load) ?_ | refine dP (fun _ => y_faddr_ptr (hs := Nat.le_of_ble_eq_true rfl)) ?_ | refine dP (fun _ => y_nilcP) ?_ | refine dP (fun _ => y_iaddrN 0 rfl) ?_ | refine dP (fun _ => (y_failsB cn (fun _ => panE rfl))) ?_ | refine dP (fun _ => (y_failsB cm (fun _ => panE rfl))) ?_ | refine dP (fun _ => y_bad) ?_ | fail))
      exact aops_bad
    | true =>
      have cm := psmall_yes x h2
      refine okM_of Tryz.func117 rfl (Nat.le_of_ble_eq_true rfl) ?_
      (repeat' (first | refine asg ?_ | refine aops_nil ?_ | refine aw_seq ?_ | refine aw_region ?_ | fail))
      refine aw_drawP 15 [] ?_
      (repeat' (first | refine dPn ?_ | refine dP (fun _ => y_move) ?_ | refine dP (fun _ => y_load) ?_ | refine dP (fun _ => y_faddr_ptr (hs := Nat.le_of_ble_eq_true rfl)) ?_ | refine dP (fun _ => y_nilcP) ?_ | refine dP (fun _ => y_iaddrN 0 rfl) ?_ | refine dP (fun _ => (y_failsB cn (fun _ => panE rfl))) ?_ | refine dP (fun _ => y_call (cm)) ?_ | refine dP (fun _ => y_bad) ?_ | fail))
      exact aops_bad
  | true =>
    have h2 : isN x = false := by cases h2 : isN x with | false => rfl | true => exact absurd ⟨h1, h2⟩ h
    have cn := psmall_yes s h1
    have cm := psmall_no x h2
    refine okM_of Tryz.func117 rfl (Nat.le_of_ble_eq_true rfl) ?_
    (repeat' (first | refine asg ?_ | refine aops_nil ?_ | refine aw_seq ?_ | refine aw_region ?_ | fail))
    refine aw_drawP 15 [] ?_
    (repeat' (first | refine dPn ?_ | refine dP (fun _ => y_move) ?_ | refine dP (fun _ => y_load) ?_ | refine dP (fun _ => y_faddr_ptr (hs := Nat.le_of_ble_eq_true rfl)) ?_ | refine dP (fun _ => y_nilcP) ?_ | refine dP (fun _ => y_iaddrN 0 rfl) ?_ | refine dP (fun _ => (y_failsB cm (fun _ => panE rfl))) ?_ | refine dP (fun _ => y_call (cn)) ?_ | refine dP (fun _ => y_bad) ?_ | fail))
    exact aops_bad
set_option maxHeartbeats 4000000 in
theorem two_f2 (g : Nat) (hg : goFn Tryz.prog g = true) (H : HHeap) (s x : Int) (h1 : isN s = true) (h2 : isN x = true)
    (cg : Fails Tryz.prog g [] [iv (nI s), iv (nI x)] (failV 130)) : Fails Tryz.prog 117 (cR H s [x]) (twoC g) (failV 130) := by
  have cn := psmall_yes s h1
  have cm := psmall_yes x h2
  refine okM_of Tryz.func117 rfl (Nat.le_of_ble_eq_true rfl) ?_
  (repeat' (first | refine asg ?_ | refine aops_nil ?_ | refine aw_seq ?_ | refine aw_region ?_ | fail))
  refine aw_drawP 15 [] ?_
  (repeat' (first | refine dPn ?_ | refine dP (fun _ => y_move) ?_ | refine dP (fun _ => y_load) ?_ | refine dP (fun _ => y_faddr_ptr (hs := Nat.le_of_ble_eq_true rfl)) ?_ | refine dP (fun _ => y_nilcP) ?_ | refine dP (fun _ => y_iaddrN 0 rfl) ?_ | refine dP (fun _ => y_call (cn)) ?_ | refine dP (fun _ => y_call (cm)) ?_ | refine dP (fun _ => (y_failsB cg (fun _ => panE rfl) (hg := hg))) ?_ | refine dP (fun _ => y_bad) ?_ | fail))
  exact aops_bad
set_option maxHeartbeats 4000000 in
theorem two_f3 (g : Nat) (hg : goFn Tryz.prog g = true) (H : HHeap) (s x c : Int) (h1 : isN s = true) (h2 : isN x = true)
    (cg : Gives Tryz.prog g [iv (nI s), iv (nI x)] (iv c)) (hc : smallB c = false) : Fails Tryz.prog 117 (cR H s [x]) (twoC g) (failV 130) := by
  have cn := psmall_yes s h1
  have cm := psmall_yes x h2
  have ci := pint_no c hc
  refine okM_of Tryz.func117 rfl (Nat.le_of_ble_eq_true rfl) ?_
  (repeat' (first | refine asg ?_ | refine aops_nil ?_ | refine aw_seq ?_ | refine aw_region ?_ | fail))
  refine aw_drawP 15 [] ?_
  (repeat' (first | refine dPn ?_ | refine dP (fun _ => y_move) ?_ | refine dP (fun _ => y_load) ?_ | refine dP (fun _ => y_faddr_ptr (hs := Nat.le_of_ble_eq_true rfl)) ?_ | refine dP (fun _ => y_nilcP) ?_ | refine dP (fun _ => y_iaddrN 0 rfl) ?_ | refine dP (fun _ => y_call (cn)) ?_ | refine dP (fun _ => y_call (cm)) ?_ | refine dP (fun _ => (y_call cg (hg := hg))) ?_ | refine dP (fun _ => (y_failsB ci (fun _ => panE rfl))) ?_ | fail))
  exact aops_bad
set_option maxHeartbeats 4000000 in
theorem two_y (g : Nat) (hg : goFn Tryz.prog g = true) (H : HHeap) (s x c : Int) (h1 : isN s = true) (h2 : isN x = true)
    (cg : Gives Tryz.prog g [iv (nI s), iv (nI x)] (iv c)) (hc : smallB c = true) : Mut Tryz.prog 117 (cR H s [x]) (twoC g) (iv (c * 2 + 1)) (cR H s [x]) := by
  have cn := psmall_yes s h1
  have cm := psmall_yes x h2
  have ci := pint_yes c hc
  refine okM_of Tryz.func117 rfl (Nat.le_of_ble_eq_true rfl) ?_
  (repeat' (first | refine asg ?_ | refine aops_nil ?_ | refine aw_seq ?_ | refine aw_region ?_ | fail))
  refine aw_drawP 15 [] ?_
  (repeat' (first | refine dPn ?_ | refine dP (fun _ => y_move) ?_ | refine dP (fun _ => y_load) ?_ | refine dP (fun _ => y_faddr_ptr (hs := Nat.le_of_ble_eq_true rfl)) ?_ | refine dP (fun _ => y_nilcP) ?_ | refine dP (fun _ => y_iaddrN 0 rfl) ?_ | refine dP (fun _ => y_call (cn)) ?_ | refine dP (fun _ => y_call (cm)) ?_ | refine dP (fun _ => (y_call cg (hg := hg))) ?_ | refine dP (fun _ => y_call (ci)) ?_ | fail))
  (repeat' (first | refine asg ?_ | refine aops_nil ?_ | refine aw_ret ?_ | fail))
  exact finM (cR H s [x]) ⟨rfl, rfl⟩ (cR_same H s [x] rfl) (.same _ (.v _))
theorem two_ok (g : Nat) : Gives Tryz.prog 53 [.clo g []] (.clo 117 [.ip [.clo g []]]) := by
  refine gives_of Tryz.func53 rfl (Nat.le_of_ble_eq_true rfl) ?_
  (repeat' (first | refine asg ?_ | refine mf ?_ | refine aops_nil ?_ | refine aw_seq ?_ | refine aw_region ?_ | refine aw_ret ?_ | refine bx 0 ?_ | fail))
  exact fin (sh_clo (l := [.ptr 0 0 0]) ⟨sh_box rfl ⟨.same _ (by simp), trivial⟩, trivial⟩)
theorem twoFloats_ok (d : Int) : Gives Tryz.prog 73 [iv d] (.clo 129 [.ip [iv d]]) := by
  refine gives_of Tryz.func73 rfl (Nat.le_of_ble_eq_true rfl) ?_
  (repeat' (first | refine asg ?_ | refine mf ?_ | refine aops_nil ?_ | refine aw_seq ?_ | refine aw_region ?_ | refine aw_ret ?_ | refine bx 0 ?_ | fail))
  exact fin (sh_clo (l := [.ptr 0 0 0]) ⟨sh_box rfl ⟨.same _ (by simp), trivial⟩, trivial⟩)
end Go.Proofs.YtnjihhheiiapnaaGreat
