/- What the statements' walks need. -/
import Derived.Test.YtnjihhheiiapnaaGreatMTa4
import Derived.Test.YtnjihhheiiapnaaGreatMTx15
import Derived.Test.YtnjihhheiiapnaaGreatMTx13
set_option linter.unusedVariables false
set_option linter.unusedSimpArgs false
set_option maxRecDepth 100000
namespace Go.Proofs.YtnjihhheiiapnaaGreat
open Go Go.Proofs AW
def hiB (v : Int) : Bool := isAt v && decide (12 ≤ atI v)
theorem be0 (s x : Int) : 0 < ([[iv s], [iv x]] : List (List AV)).length := by simp
theorem be1 (s x : Int) : 1 < ([[iv s], [iv x]] : List (List AV)).length := by simp
def beJ (k : Nat) : List (Nat × AV) := [(19, iv k), (18, iv 2), (17, .own 20), (0, .ptr 1000 0 0)]
set_option maxHeartbeats 4000000 in
theorem become_f1 (H : HHeap) (s x : Int) (h : hiB s = false) : Fails Tryz.prog 72 (cR H s [x]) [.ptr 1000 0 0] (failV 130) := by
  cases h1 : isAt s with
  | false =>
    have ca := (At_ok s).to' (by rw [h1])
    refine okM_of Tryz.func72 rfl (Nat.le_of_ble_eq_true rfl) ?_
    (repeat' (first | refine asg ?_ | refine aops_nil ?_ | refine aw_seq ?_ | refine aw_region ?_ | fail))
    refine aw_drawP 13 [(10, 20, .live 3 1 [[iv s], [iv x]], none)] ?_
    (repeat' (first | refine dPn ?_ | refine dP (fun _ => y_move) ?_ | refine dP (fun _ => y_load) ?_ | refine dP (fun _ => y_faddr_ptr (hs := Nat.le_of_ble_eq_true rfl)) ?_ | refine dP (fun _ => y_nilcP) ?_ | refine dP (fun _ => y_len) ?_ | refine dP (fun _ => y_iaddrN 0 rfl) ?_ | refine dPE (fun _ => y_litU 20) ?_ | fail))
    (repeat' (first | refine aops_nil ?_ | refine aw_block ?_ | fail))
    refine aw_forE 2 (fun k => k = 0) beJ 0 rfl ⟨rfl, rfl, rfl, rfl, trivial⟩ ?_
    rintro k rfl
    (repeat' (first | refine sk ?_ | refine mv ?_ | refine asg ?_ | refine ld ?_ | refine bt ?_ | refine pf ?_ | refine ex ?_ | refine aops_nil ?_ | refine aw_seq ?_ | refine aw_region ?_ | refine aw_cond_t rfl ?_ | refine aw_block ?_ | refine aw_skip ?_ | refine iao 0 (be0 s x) ?_ | refine cl ca ?_ | exact cF need_no (fun _ => panE rfl) | fail))
  | true =>
    have h2 : ¬ 12 ≤ atI s := by intro h2; simp [hiB, h1, h2] at h
    have ca := (At_ok s).to' (by rw [h1])
    refine okM_of Tryz.func72 rfl (Nat.le_of_ble_eq_true rfl) ?_
    (repeat' (first | refine asg ?_ | refine aops_nil ?_ | refine aw_seq ?_ | refine aw_region ?_ | fail))
    refine aw_drawP 13 [(10, 20, .live 3 1 [[iv s], [iv x]], none)] ?_
    (repeat' (first | refine dPn ?_ | refine dP (fun _ => y_move) ?_ | refine dP (fun _ => y_load) ?_ | refine dP (fun _ => y_faddr_ptr (hs := Nat.le_of_ble_eq_true rfl)) ?_ | refine dP (fun _ => y_nilcP) ?_ | refine dP (fun _ => y_len) ?_ | refine dP (fun _ => y_iaddrN 0 rfl) ?_ | refine dPE (fun _ => y_litU 20) ?_ | fail))
    (repeat' (first | refine aops_nil ?_ | refine aw_block ?_ | fail))
    refine aw_forE 2 (fun k => k = 0) beJ 0 rfl ⟨rfl, rfl, rfl, rfl, trivial⟩ ?_
    rintro k rfl
    (repeat' (first | refine mv ?_ | refine asg ?_ | refine ld ?_ | refine bt ?_ | refine bf ?_ | refine pt ?_ | refine ex ?_ | refine aops_nil ?_ | refine aw_seq ?_ | refine aw_region ?_ | refine aw_cond_t rfl ?_ | refine aw_block ?_ | refine aw_skip ?_ | refine iao 0 (be0 s x) ?_ | refine cl ca ?_ | exact cF need_no (fun _ => panE rfl) | fail))
set_option maxHeartbeats 4000000 in
theorem become_f2 (H : HHeap) (s x : Int) (h : hiB s = true) (hx : hiB x = false) : Fails Tryz.prog 72 (cR H s [x]) [.ptr 1000 0 0] (failV 130) := by
  simp only [hiB, Bool.and_eq_true, decide_eq_true_eq] at h
  obtain ⟨h1, h2⟩ := h
  have ca := (At_ok s).to' (by rw [h1])
  cases h3 : isAt x with
  | false =>
    have cb := (At_ok x).to' (by rw [h3])
    refine okM_of Tryz.func72 rfl (Nat.le_of_ble_eq_true rfl) ?_
    (repeat' (first | refine asg ?_ | refine aops_nil ?_ | refine aw_seq ?_ | refine aw_region ?_ | fail))
    refine aw_drawP 13 [(10, 20, .live 3 1 [[iv s], [iv x]], none)] ?_
    (repeat' (first | refine dPn ?_ | refine dP (fun _ => y_move) ?_ | refine dP (fun _ => y_load) ?_ | refine dP (fun _ => y_faddr_ptr (hs := Nat.le_of_ble_eq_true rfl)) ?_ | refine dP (fun _ => y_nilcP) ?_ | refine dP (fun _ => y_len) ?_ | refine dP (fun _ => y_iaddrN 0 rfl) ?_ | refine dPE (fun _ => y_litU 20) ?_ | fail))
    (repeat' (first | refine aops_nil ?_ | refine aw_block ?_ | fail))
    refine aw_forE 2 (fun k => k ≤ 1) beJ 0 (by decide) ⟨rfl, rfl, rfl, rfl, trivial⟩ ?_
    intro k hk
    rcases k with _ | _ | k
    · (repeat' (first | refine mv ?_ | refine asg ?_ | refine ld ?_ | refine bt ?_ | refine bw ?_ | refine pt ?_ | refine ex ?_ | refine aops_nil ?_ | refine aw_seq ?_ | refine aw_region ?_ | refine aw_cond_t rfl ?_ | refine aw_block ?_ | refine aw_skip ?_ | refine iao 0 (be0 s x) ?_ | refine cl ca ?_ | refine cl need_yes ?_ | fail))
      exact ⟨by omega, by omega, rfl, rfl, rfl, rfl, rfl, trivial⟩
    · (repeat' (first | refine sk ?_ | refine mv ?_ | refine asg ?_ | refine ld ?_ | refine bt ?_ | refine pf ?_ | refine ex ?_ | refine aops_nil ?_ | refine aw_seq ?_ | refine aw_region ?_ | refine aw_cond_t rfl ?_ | refine aw_block ?_ | refine aw_skip ?_ | refine iao 1 (be1 s x) ?_ | refine cl cb ?_ | exact cF need_no (fun _ => panE rfl) | fail))
    · omega
  | true =>
    have h4 : ¬ 12 ≤ atI x := by intro h2; simp [hiB, h3, h2] at hx
    have cb := (At_ok x).to' (by rw [h3])
    refine okM_of Tryz.func72 rfl (Nat.le_of_ble_eq_true rfl) ?_
    (repeat' (first | refine asg ?_ | refine aops_nil ?_ | refine aw_seq ?_ | refine aw_region ?_ | fail))
    refine aw_drawP 13 [(10, 20, .live 3 1 [[iv s], [iv x]], none)] ?_
    (repeat' (first | refine dPn ?_ | refine dP (fun _ => y_move) ?_ | refine dP (fun _ => y_load) ?_ | refine dP (fun _ => y_faddr_ptr (hs := Nat.le_of_ble_eq_true rfl)) ?_ | refine dP (fun _ => y_nilcP) ?_ | refine dP (fun _ => y_len) ?_ | refine dP (fun _ => y_iaddrN 0 rfl) ?_ | refine dPE (fun _ => y_litU 20) ?_ | fail))
    (repeat' (first | refine aops_nil ?_ | refine aw_block ?_ | fail))
    refine aw_forE 2 (fun k => k ≤ 1) beJ 0 (by decide) ⟨rfl, rfl, rfl, rfl, trivial⟩ ?_
    intro k hk
    rcases k with _ | _ | k
    · (repeat' (first | refine mv ?_ | refine asg ?_ | refine ld ?_ | refine bt ?_ | refine bw ?_ | refine pt ?_ | refine ex ?_ | refine aops_nil ?_ | refine aw_seq ?_ | refine aw_region ?_ | refine aw_cond_t rfl ?_ | refine aw_block ?_ | refine aw_skip ?_ | refine iao 0 (be0 s x) ?_ | refine cl ca ?_ | refine cl need_yes ?_ | fail))
      exact ⟨by omega, by omega, rfl, rfl, rfl, rfl, rfl, trivial⟩
    · (repeat' (first | refine mv ?_ | refine asg ?_ | refine ld ?_ | refine bt ?_ | refine bf ?_ | refine pt ?_ | refine ex ?_ | refine aops_nil ?_ | refine aw_seq ?_ | refine aw_region ?_ | refine aw_cond_t rfl ?_ | refine aw_block ?_ | refine aw_skip ?_ | refine iao 1 (be1 s x) ?_ | refine cl cb ?_ | exact cF need_no (fun _ => panE rfl) | fail))
    · omega
set_option maxHeartbeats 4000000 in
theorem become_y (H : HHeap) (hi : H.In) (s x : Int) (h : hiB s = true) (hx : hiB x = true) (he : becomeE H s x = 0) : Mut Tryz.prog 72 (cR H s [x]) [.ptr 1000 0 0] (iv s) (cR (becomeH H s x) s [x]) := by
  simp only [hiB, Bool.and_eq_true, decide_eq_true_eq] at h hx
  obtain ⟨h1, h2⟩ := h
  obtain ⟨h3, h4⟩ := hx
  have ca := (At_ok s).to' (by rw [h1])
  have cb := (At_ok x).to' (by rw [h3])
  have cg := (Become_ok H hi s x).to' (by rw [he])
  have ct := took_yes H (becomeH H s x) s [x]
  refine okM_of Tryz.func72 rfl (Nat.le_of_ble_eq_true rfl) ?_
  (repeat' (first | refine asg ?_ | refine aops_nil ?_ | refine aw_seq ?_ | refine aw_region ?_ | fail))
  refine aw_drawP 13 [(10, 20, .live 3 1 [[iv s], [iv x]], none)] ?_
  (repeat' (first | refine dPn ?_ | refine dP (fun _ => y_move) ?_ | refine dP (fun _ => y_load) ?_ | refine dP (fun _ => y_faddr_ptr (hs := Nat.le_of_ble_eq_true rfl)) ?_ | refine dP (fun _ => y_nilcP) ?_ | refine dP (fun _ => y_len) ?_ | refine dP (fun _ => y_iaddrN 0 rfl) ?_ | refine dPE (fun _ => y_litU 20) ?_ | fail))
  (repeat' (first | refine aops_nil ?_ | refine aw_block ?_ | fail))
  refine aw_forE 2 (fun k => k ≤ 2) beJ 0 (by decide) ⟨rfl, rfl, rfl, rfl, trivial⟩ ?_
  intro k hk
  rcases k with _ | _ | _ | k
  · (repeat' (first | refine mv ?_ | refine asg ?_ | refine ld ?_ | refine bt ?_ | refine bw ?_ | refine pt ?_ | refine ex ?_ | refine aops_nil ?_ | refine aw_seq ?_ | refine aw_region ?_ | refine aw_cond_t rfl ?_ | refine aw_block ?_ | refine aw_skip ?_ | refine iao 0 (be0 s x) ?_ | refine cl ca ?_ | refine cl need_yes ?_ | fail))
    exact ⟨by omega, by omega, rfl, rfl, rfl, rfl, rfl, trivial⟩
  · (repeat' (first | refine mv ?_ | refine asg ?_ | refine ld ?_ | refine bt ?_ | refine bw ?_ | refine pt ?_ | refine ex ?_ | refine aops_nil ?_ | refine aw_seq ?_ | refine aw_region ?_ | refine aw_cond_t rfl ?_ | refine aw_block ?_ | refine aw_skip ?_ | refine iao 1 (be1 s x) ?_ | refine cl cb ?_ | refine cl need_yes ?_ | fail))
    exact ⟨by omega, by omega, rfl, rfl, rfl, rfl, rfl, trivial⟩
  · (repeat' (first | refine bf ?_ | refine aops_nil ?_ | refine aw_seq ?_ | refine aw_region ?_ | refine aw_cond_f rfl ?_ | refine aw_exit ?_ | fail))
    refine aw_drawP 19 [(18, 1000, .live 52 5 [callC (becomeH H s x) s [x]], none)] ?_
    (repeat' (first | refine dPn ?_ | refine dP (fun _ => y_move) ?_ | refine dP (fun _ => y_extract) ?_ | refine dP (fun _ => y_load) ?_ | refine dP (fun _ => y_faddr_ptr (hs := Nat.le_of_ble_eq_true rfl)) ?_ | refine dP (fun _ => y_nilcP) ?_ | refine dP (fun _ => y_loadsN) ?_ | refine dP (fun _ => y_iaddrN 0 rfl) ?_ | refine dP (fun _ => y_call (cg)) ?_ | refine dPE (fun _ => (y_mut ct)) ?_ | fail))
    (repeat' (first | refine mv ?_ | refine asg ?_ | refine ld ?_ | refine fp ?_ | refine nkp ?_ | refine aops_nil ?_ | refine aw_seq ?_ | refine aw_region ?_ | refine aw_ret ?_ | fail))
    exact finM (cR (becomeH H s x) s [x]) ⟨rfl, rfl⟩ (cR_same _ s [x] rfl) (.same _ (.v _))
  · omega
end Go.Proofs.YtnjihhheiiapnaaGreat
