/- What the statements' walks need. -/
import Derived.Test.YtnjihhheiiapnaaGreatMSa4
import Derived.Test.YtnjihhheiiapnaaGreatMSx28
import Derived.Test.YtnjihhheiiapnaaGreatMSa3
set_option linter.unusedVariables false
set_option linter.unusedSimpArgs false
set_option maxRecDepth 100000
namespace Go.Proofs.YtnjihhheiiapnaaGreat
open Go Go.Proofs AW
def primRows : List (List AV) :=
  [[iv 1, .clo 117 [.ip [.clo 54 []]]], [iv 1, .clo 117 [.ip [.clo 55 []]]],
   [iv 1, .clo 117 [.ip [.clo 56 []]]], [iv 1, .clo 117 [.ip [.clo 57 []]]],
   [iv 1, .clo 117 [.ip [.clo 58 []]]], [iv 1, .clo 59 []], [iv 1, .clo 62 []],
   [iv 1, .clo 63 []], [iv 2, .clo 64 []], [iv 0, .clo 65 []], [iv 0, .clo 66 []],
   [iv 1, .clo 67 []], [iv 0, .clo 69 []], [iv 1, .clo 70 []], [iv 0, .clo 71 []],
   [iv 1, .clo 72 []], [iv 1, .clo 129 [.ip [iv 0]]], [iv 1, .clo 129 [.ip [iv 1]]],
   [iv 1, .clo 129 [.ip [iv 2]]], [iv 1, .clo 129 [.ip [iv 3]]], [iv 1, .clo 74 []], [iv 1, .clo 77 []],
   [iv 0, .clo 79 []], [iv 0, .clo 80 []], [iv 1, .clo 82 []], [iv 2, .clo 83 []],
   [iv 1, .clo 84 []]]
theorem noOwn_prim : ∀ c ∈ primRows, ∀ x ∈ c, NoOwn x := by
  simp [primRows]
set_option maxHeartbeats 8000000 in
theorem primitives_ok : Gives Tryz.prog 27 [] (.sl 2 primRows) := by
  have c1 := two_ok 54
  have c2 := two_ok 55
  have c3 := two_ok 56
  have c4 := two_ok 57
  have c5 := two_ok 58
  have d0 := twoFloats_ok 0
  have d1 := twoFloats_ok 1
  have d2 := twoFloats_ok 2
  have d3 := twoFloats_ok 3
  refine gives_of Tryz.func27 rfl (Nat.le_of_ble_eq_true rfl) ?_
  (repeat' (first | refine asg ?_ | refine bd ?_ | refine aops_nil ?_ | refine aw_seq ?_ | refine aw_region ?_ | refine aw_ret ?_ | refine cl c1 ?_ | refine cl c2 ?_ | refine cl c3 ?_ | refine cl c4 ?_ | refine cl c5 ?_ | refine cl d0 ?_ | refine cl d1 ?_ | refine cl d2 ?_ | refine cl d3 ?_ | refine li 0 ?_ | fail))
  exact fin (sh_own (es := primRows) rfl (by simp [primRows]) noOwn_prim)
end Go.Proofs.YtnjihhheiiapnaaGreat
namespace Go.Proofs.YtnjihhheiiapnaaGreat
open Go Go.Proofs AW
def argsL : List Int := [1, 1, 1, 1, 1, 1, 1, 1, 2, 0, 0, 1, 0, 1, 0, 1, 1, 1, 1, 1, 1, 1, 0, 0, 1, 2, 1]
def argsI (n : Int) : Int := if n < 1 ∨ n > 27 then 0 else argsL.getD (n - 1).toNat 0
def argsB (n : Int) : Bool := !decide (n < 1 ∨ n > 27)
theorem prim_args {k : Nat} (h : k < 27) : ∃ c, primRows[k]? = some c ∧ ∃ r, c = iv (argsL.getD k 0) :: r := by
  have : ∀ k < 27, ∃ c, primRows[k]? = some c ∧ ∃ r, c = iv (argsL.getD k 0) :: r := by
    intro k hk
    match k, hk with
    | 0, _ | 1, _ | 2, _ | 3, _ | 4, _ | 5, _ | 6, _ | 7, _ | 8, _ | 9, _ | 10, _ | 11, _ | 12, _ | 13, _ | 14, _ | 15, _ | 16, _ | 17, _ | 18, _ | 19, _ | 20, _ | 21, _ | 22, _ | 23, _ | 24, _ | 25, _ | 26, _ => exact ⟨_, rfl, _, rfl⟩
    | k + 27, hk => omega
  exact this k h
theorem Args_ok (n : Int) (hn : In64 n) : Gives Tryz.prog 13 [iv n] (.tup [iv (argsI n), bv (argsB n)]) := by
  have hl : primRows.length = 27 := rfl
  obtain ⟨n1, n2⟩ := hn
  by_cases h : n < 1 ∨ n > 27
  · refine gives_of Tryz.func13 rfl (Nat.le_of_ble_eq_true rfl) ?_
    (repeat' (first | refine sk ?_ | refine mv ?_ | refine asg ?_ | refine bi ?_ | refine pt ?_ | refine pf ?_ | refine ln ?_ | refine aops_nil ?_ | refine aw_seq ?_ | refine aw_region ?_ | refine aw_cond_t rfl ?_ | refine aw_skip ?_ | refine aw_ret ?_ | refine cl primitives_ok ?_ | refine gs (fun h => ?_) (fun h => ?_) | refine aw_cond rfl (fun h => ?_) (fun h => ?_) | fail))
    all_goals first
      | ((have h9 : n < 1 ∨ n > 27 := by assumption); refine fin (sh_ib ?_ ?_); (rw [argsI, if_pos h9]); (rw [argsB, decide_eq_true h9]; rfl))
      | (exfalso; simp_all; omega)
  · obtain ⟨c, hc, r, rfl⟩ := prim_args (k := (n - 1).toNat) (by omega)
    refine gives_of Tryz.func13 rfl (Nat.le_of_ble_eq_true rfl) ?_
    (repeat' (first | refine mv ?_ | refine asg ?_ | refine ld ?_ | refine fi ?_ | refine bf ?_ | refine bw ?_ | refine pf ?_ | refine ln ?_ | refine aops_nil ?_ | refine aw_seq ?_ | refine aw_region ?_ | refine aw_cond_f rfl ?_ | refine aw_skip ?_ | refine aw_ret ?_ | refine cl primitives_ok ?_ | refine ia (n - 1).toNat hc ?_ (hn := by omega) | fail))
    refine fin (sh_ib ?_ ?_)
    · rw [argsI, if_neg h]
    · simp [argsB, h]
theorem vMay_ok (v : Int) : Gives Tryz.prog 52 [iv v] (bv (isN v || isAt v)) := by
  refine gives_of Tryz.func52 rfl (Nat.le_of_ble_eq_true rfl) ?_
  (repeat' (first | refine sk ?_ | refine mv ?_ | refine asg ?_ | refine pt ?_ | refine pf ?_ | refine ex ?_ | refine aops_nil ?_ | refine aw_seq ?_ | refine aw_region ?_ | refine aw_ret ?_ | refine cl (N_ok v) ?_ | refine cl (At_ok v) ?_ | refine gs (fun h => ?_) (fun h => ?_) | fail))
  all_goals (refine fin (sh_bv ?_); simp_all)
theorem phas_ok (H : HHeap) (v : Int) : Gives Tryz.prog 25 [.agg (encHeap H), iv v] (bv (hasB H.objs.length v)) := by
  refine gives_of Tryz.func25 rfl (Nat.le_of_ble_eq_true rfl) ?_
  (repeat' (first | refine sk ?_ | refine mv ?_ | refine asg ?_ | refine ld ?_ | refine fp ?_ | refine bi ?_ | refine un ?_ | refine pt ?_ | refine pf ?_ | refine ex ?_ | refine ln ?_ | refine aops_nil ?_ | refine aw_seq ?_ | refine aw_region ?_ | refine aw_ret ?_ | refine bx 0 ?_ | refine cl (vMay_ok v) ?_ | refine cl (At_ok v) ?_ | refine gs (fun h => ?_) (fun h => ?_) | fail))
  all_goals (refine fin (sh_bv ?_); simp [hasB, refI, atI, isAt, isN] at *; first | omega | grind)
end Go.Proofs.YtnjihhheiiapnaaGreat
namespace Go.Proofs.YtnjihhheiiapnaaGreat
open Go Go.Proofs AW
def doL (H G : HHeap) (x y : Int) : List (Nat × Ob) := [(0, .live 24 3 [encHeap H]), (1, .live 24 3 [encHeap G]), (2, .live 3 1 [[iv x]]), (3, .live 30 1 [[iv y]])]
theorem doL_same (H G : HHeap) (x y : Int) {T : Nat → Ob} (h0 : T 0 = tb (doL H G x y) 0) (h1 : T 1 = tb (doL H G x y) 1) (h2 : T 2 = tb (doL H G x y) 2) (h3 : T 3 = tb (doL H G x y) 3) : FzAll id T (tb (doL H G x y)) ((doL H G x y).map (·.1)) :=
  ⟨.same _ _ _ h0 rfl (by simp), .same _ _ _ h1 rfl (by simp), .same _ _ _ h2 rfl (by simp), .same _ _ _ h3 rfl (by simp), trivial⟩
set_option maxHeartbeats 4000000 in
theorem do1_ret (H G : HHeap) (x y : Int) : OkD Tryz.prog 26 (doL H G x y) (boxesA [0, 1, 2, 3]) .returning fun u L' => u = .returning ∧ ∃ z, z = AV.tup [] ∧ L' = doL H G x y := by
  refine okD_of (R := fun z L' => z = AV.tup [] ∧ L' = doL H G x y) .ret Tryz.func26 rfl (Nat.le_of_ble_eq_true rfl) ?_
  (repeat' (first | refine mv ?_ | refine bf ?_ | refine aops_nil ?_ | refine aw_seq ?_ | refine aw_region ?_ | refine aw_cond_f rfl ?_ | refine aw_skip ?_ | fail))
  exact finMn (doL H G x y) ⟨rfl, rfl⟩ (doL_same H G x y rfl rfl rfl rfl) (.same _ (.tup [] (by simp)))
def doZ (H : HHeap) : List (Nat × Ob) := [(0, .live 24 3 [encHeap H]), (1, .live 24 3 [[.v (.slice none 0 0), iv 0, iv 0]]), (2, .live 3 1 [[iv 0]]), (3, .live 30 1 [[iv 0]])]
set_option maxHeartbeats 4000000 in
theorem do1_pan (H : HHeap) (e : Int) : OkD Tryz.prog 26 (doZ H) (boxesA [0, 1, 2, 3]) (.panicking (raisedA (failV e))) fun u L' => u = .panicking [{ v := failV e, recovered := true }] ∧ ∃ z, z = AV.tup [] ∧ L' = doL H H 0 e := by
  refine okD_of (R := fun z L' => z = AV.tup [] ∧ L' = doL H H 0 e) (.pan _) Tryz.func26 rfl (Nat.le_of_ble_eq_true rfl) ?_
  (repeat' (first | refine mv ?_ | refine asg ?_ | refine bt ?_ | refine un ?_ | refine ex ?_ | refine so ?_ | refine aops_nil ?_ | refine aw_seq ?_ | refine aw_region ?_ | refine aw_cond_t rfl ?_ | refine aw_cond_f rfl ?_ | refine aw_skip ?_ | refine al 4 ?_ | refine ta ?_ | fail))
  refine aw_drawP 6 [(3, 1, .live 24 3 [encHeap H], none), (4, 2, .live 3 1 [[iv 0]], none), (5, 3, .live 30 1 [[iv e]], none)] ?_
  (repeat' (first | refine dPn ?_ | refine dP (fun _ => y_load) ?_ | refine dP (fun _ => y_faddr_ptr (hs := Nat.le_of_ble_eq_true rfl)) ?_ | refine dP (fun _ => y_loadsN) ?_ | refine dPS (fun _ => y_storeV) ?_ | fail))
  (repeat' (first | refine aops_nil ?_ | fail))
  exact finMn (doL H H 0 e) ⟨rfl, rfl⟩ (doL_same H H 0 e rfl rfl rfl rfl) (.same _ (.tup [] (by simp)))
end Go.Proofs.YtnjihhheiiapnaaGreat
