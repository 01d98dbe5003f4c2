/- What the statements' walks need. -/
import Derived.Test.YtnjihhheiiapnaaGreatMTa4
import Derived.Test.YtnjihhheiiapnaaGreatMTx38
import Derived.Test.YtnjihhheiiapnaaGreatMTx37
set_option linter.unusedVariables false
set_option linter.unusedSimpArgs false
set_option maxRecDepth 100000
namespace Go.Proofs.YtnjihhheiiapnaaGreat
open Go Go.Proofs AW
def outI (c : Int) : Int := if smallB c = true then c * 2 + 1 else 0
def outE (c : Int) : Int := if smallB c = true then 0 else 130
theorem outV_tup (H : HHeap) (c : Int) : outV H (some c) = .tup [.agg (encHeap H), iv (outI c), iv (outE c)] := by
  rw [outV, outI, outE]
  by_cases h : smallB c = true
  · rw [if_pos h, if_pos h, if_pos h]; rfl
  · rw [if_neg h, if_neg h, if_neg h]; rfl
theorem integer13' (H : HHeap) (n : Int) : Gives Tryz.prog 85 [.agg (encHeap H), iv n] (.tup [.agg (encHeap H), iv (outI n), iv (outE n)]) := (integer13 H n).to' (outV_tup H n)
theorem sh_out {T : Nat → Ob} {H : HHeap} {v e : Int} : Sh T (.tup [.agg (encHeap H), iv v, iv e]) (.tup [.agg (encHeap H), iv v, iv e]) := .same _ (by simp)
def sevenV (H : HHeap) (num s x : Int) : AV := if num = 6 then lessV H s x else if num = 7 then sameV H s x else wholeV H num s x
set_option maxHeartbeats 16000000 in
theorem whole13_no (H : HHeap) (num s x : Int) (h : ¬ (isN s = true ∧ isN x = true)) : Gives Tryz.prog 29 [.agg (encHeap H), iv num, iv s, iv x] (doV H 0 130) := by
  have cf := fail13' H
  have c1 := rN_ok s
  have c2 := rN_ok x
  cases h1 : isN s with
  | false =>
    rw [h1] at c1
    refine gives_of Tryz.func29 rfl (Nat.le_of_ble_eq_true rfl) ?_
    (repeat' (first | refine sk ?_ | refine mv ?_ | refine asg ?_ | refine un ?_ | refine pt ?_ | refine ex ?_ | refine la ?_ | refine so ?_ | refine aops_nil ?_ | refine aw_seq ?_ | refine aw_region ?_ | refine aw_cond_t rfl ?_ | refine aw_ret ?_ | refine bx 0 ?_ | refine al 1 ?_ | refine cl (c1) ?_ | refine cl (c2) ?_ | refine cl (cf) ?_ | fail))
    exact fin sh_do
  | true =>
    have h2 : isN x = false := by cases h2 : isN x with | false => rfl | true => exact absurd ⟨h1, h2⟩ h
    rw [h1] at c1
    rw [h2] at c2
    refine gives_of Tryz.func29 rfl (Nat.le_of_ble_eq_true rfl) ?_
    (repeat' (first | refine sk ?_ | refine mv ?_ | refine asg ?_ | refine un ?_ | refine pt ?_ | refine pf ?_ | refine ex ?_ | refine la ?_ | refine so ?_ | refine aops_nil ?_ | refine aw_seq ?_ | refine aw_region ?_ | refine aw_cond_t rfl ?_ | refine aw_ret ?_ | refine bx 0 ?_ | refine al 1 ?_ | refine cl (c1) ?_ | refine cl (c2) ?_ | refine cl (cf) ?_ | fail))
    exact fin sh_do
set_option maxHeartbeats 16000000 in
theorem whole13_0 (H : HHeap) (num s x : Int) (h1 : isN s = true) (h2 : isN x = true) (h0 : nI x = 0) (hn : num = 4 ∨ num = 5) : Gives Tryz.prog 29 [.agg (encHeap H), iv num, iv s, iv x] (doV H 0 130) := by
  have cf := fail13' H
  have c1 := (rN_ok s).to' (by rw [h1])
  have c2 := (rN_ok x).to' (by rw [h2])
  rcases hn with rfl | rfl
  all_goals refine gives_of Tryz.func29 rfl (Nat.le_of_ble_eq_true rfl) ?_
  all_goals (repeat' (first | refine sk ?_ | refine mv ?_ | refine asg ?_ | refine bt ?_ | refine bf ?_ | refine un ?_ | refine pt ?_ | refine pf ?_ | refine ex ?_ | refine la ?_ | refine so ?_ | refine aops_nil ?_ | refine aw_seq ?_ | refine aw_region ?_ | refine aw_cond_t rfl ?_ | refine aw_ret ?_ | refine bx 0 ?_ | refine al 1 ?_ | refine cl (c1) ?_ | refine cl (c2) ?_ | refine cl (cf) ?_ | fail))
  all_goals exact fin sh_do
set_option maxHeartbeats 16000000 in
theorem whole13_y (H : HHeap) (num s x : Int) (h1 : isN s = true) (h2 : isN x = true) (hn : 1 ≤ num ∧ num ≤ 7) (h0 : ¬ (nI x = 0 ∧ (num = 4 ∨ num = 5))) : Gives Tryz.prog 29 [.agg (encHeap H), iv num, iv s, iv x] (sevenV H num s x) := by
  have c1 := (rN_ok s).to' (by rw [h1])
  have c2 := (rN_ok x).to' (by rw [h2])
  have r1 := in30 h1
  have r2 := in30 h2
  have hw : ∀ k, wholeV H k s x = outV H (arithI k (nI s) (nI x)) := fun k => by rw [wholeV, if_pos ⟨h1, h2⟩]
  have hl : lessV H s x = doV H (truI (decide (nI s < nI x))) 0 := by rw [lessV, if_pos ⟨h1, h2⟩]
  have hm : sameV H s x = doV H (truI (nI s == nI x)) 0 := by rw [sameV, if_pos ⟨h1, h2⟩]
  clear h1 h2
  generalize nI s = a at *
  generalize nI x = b at *
  obtain ⟨a1, a2⟩ := r1
  obtain ⟨b1, b2⟩ := r2
  have hn7 : num = 1 ∨ num = 2 ∨ num = 3 ∨ num = 4 ∨ num = 5 ∨ num = 6 ∨ num = 7 := by omega
  rcases hn7 with rfl | rfl | rfl | rfl | rfl | rfl | rfl
  · have ci := integer13' H (a + b)
    rw [sevenV, if_neg (by decide), if_neg (by decide), hw, show arithI 1 a b = some (a + b) from rfl, outV_tup]
    by_cases hb0 : b = 0
    all_goals refine gives_of Tryz.func29 rfl (Nat.le_of_ble_eq_true rfl) ?_
    all_goals (repeat' (first | refine sk ?_ | refine mv ?_ | refine asg ?_ | refine bt ?_ | refine bf ?_ | refine bw ?_ | refine un ?_ | refine pt ?_ | refine pf ?_ | refine ex ?_ | refine la ?_ | refine so ?_ | refine aops_nil ?_ | refine aw_seq ?_ | refine aw_region ?_ | refine aw_cond_t rfl ?_ | refine aw_cond_f rfl ?_ | refine aw_block ?_ | refine aw_skip ?_ | refine aw_ret ?_ | refine bx 0 ?_ | refine al 1 ?_ | refine cl (c1) ?_ | refine cl (c2) ?_ | refine cl (ci) ?_ | fail))
    all_goals exact fin sh_out
  · have ci := integer13' H (a - b)
    rw [sevenV, if_neg (by decide), if_neg (by decide), hw, show arithI 2 a b = some (a - b) from rfl, outV_tup]
    by_cases hb0 : b = 0
    all_goals refine gives_of Tryz.func29 rfl (Nat.le_of_ble_eq_true rfl) ?_
    all_goals (repeat' (first | refine sk ?_ | refine mv ?_ | refine asg ?_ | refine bt ?_ | refine bf ?_ | refine bw ?_ | refine un ?_ | refine pt ?_ | refine pf ?_ | refine ex ?_ | refine la ?_ | refine so ?_ | refine aops_nil ?_ | refine aw_seq ?_ | refine aw_region ?_ | refine aw_cond_t rfl ?_ | refine aw_cond_f rfl ?_ | refine aw_block ?_ | refine aw_skip ?_ | refine aw_ret ?_ | refine bx 0 ?_ | refine al 1 ?_ | refine cl (c1) ?_ | refine cl (c2) ?_ | refine cl (ci) ?_ | fail))
    all_goals exact fin sh_out
  · have ci := integer13' H (a * b)
    have hmul := mul_rng (a := a) (b := b) ⟨a1, a2⟩ ⟨b1, b2⟩
    rw [sevenV, if_neg (by decide), if_neg (by decide), hw, show arithI 3 a b = some (a * b) from rfl, outV_tup]
    by_cases hb0 : b = 0
    all_goals refine gives_of Tryz.func29 rfl (Nat.le_of_ble_eq_true rfl) ?_
    all_goals (repeat' (first | refine sk ?_ | refine mv ?_ | refine asg ?_ | refine bt ?_ | refine bf ?_ | refine bw ?_ | refine un ?_ | refine pt ?_ | refine pf ?_ | refine ex ?_ | refine la ?_ | refine so ?_ | refine aops_nil ?_ | refine aw_seq ?_ | refine aw_region ?_ | refine aw_cond_t rfl ?_ | refine aw_cond_f rfl ?_ | refine aw_block ?_ | refine aw_skip ?_ | refine aw_ret ?_ | refine bx 0 ?_ | refine al 1 ?_ | refine cl (c1) ?_ | refine cl (c2) ?_ | refine cl (ci) ?_ | fail))
    all_goals exact fin sh_out
  · have hb0 : ¬ b = 0 := fun e => h0 ⟨e, .inl rfl⟩
    have co := over13 a b ⟨a1, a2⟩ ⟨b1, b2⟩ hb0
    have ci := integer13' H (overI a b)
    rw [sevenV, if_neg (by decide), if_neg (by decide), hw, arith4, if_neg hb0, outV_tup]
    refine gives_of Tryz.func29 rfl (Nat.le_of_ble_eq_true rfl) ?_
    (repeat' (first | refine sk ?_ | refine mv ?_ | refine asg ?_ | refine bt ?_ | refine bf ?_ | refine un ?_ | refine pf ?_ | refine ex ?_ | refine aops_nil ?_ | refine aw_seq ?_ | refine aw_region ?_ | refine aw_cond_t rfl ?_ | refine aw_cond_f rfl ?_ | refine aw_block ?_ | refine aw_skip ?_ | refine bx 0 ?_ | refine al 1 ?_ | refine cl (c1) ?_ | refine cl (c2) ?_ | fail))
    refine aw_drawP 8 [] ?_
    (repeat' (first | refine dPn ?_ | refine dP (fun _ => y_move) ?_ | refine dP (fun _ => y_extract) ?_ | refine dP (fun _ => y_loadsN) ?_ | refine dP (fun _ => y_call (co)) ?_ | refine dP (fun _ => y_call (ci)) ?_ | fail))
    (repeat' (first | refine asg ?_ | refine so ?_ | refine aops_nil ?_ | refine aw_ret ?_ | fail))
    exact fin sh_out
  · have hb0 : ¬ b = 0 := fun e => h0 ⟨e, .inr rfl⟩
    have co := over13 a b ⟨a1, a2⟩ ⟨b1, b2⟩ hb0
    have hbo := bo_rng (a := a) (b := b) ⟨a1, a2⟩ ⟨b1, b2⟩
    have q1 : IntKind.i64.wrap (b * overI a b) = b * overI a b := wrap_id (by omega)
    have q2 : IntKind.i64.wrap (a - b * overI a b) = a - b * overI a b := wrap_id (by omega)
    have ci := integer13' H (a - b * overI a b)
    rw [sevenV, if_neg (by decide), if_neg (by decide), hw, arith5, if_neg hb0, outV_tup]
    refine gives_of Tryz.func29 rfl (Nat.le_of_ble_eq_true rfl) ?_
    (repeat' (first | refine sk ?_ | refine mv ?_ | refine asg ?_ | refine bt ?_ | refine bf ?_ | refine un ?_ | refine pf ?_ | refine ex ?_ | refine aops_nil ?_ | refine aw_seq ?_ | refine aw_region ?_ | refine aw_cond_t rfl ?_ | refine aw_cond_f rfl ?_ | refine aw_block ?_ | refine aw_skip ?_ | refine bx 0 ?_ | refine al 1 ?_ | refine cl (c1) ?_ | refine cl (c2) ?_ | fail))
    refine aw_drawP 12 [] ?_
    (repeat' (first | refine dPn ?_ | refine dP (fun _ => y_move) ?_ | refine dP (fun _ => y_extract) ?_ | refine dP (fun _ => y_bw) ?_ | refine dP (fun _ => y_loadsN) ?_ | refine dP (fun _ => y_call (co)) ?_ | refine dP (fun _ => y_call (ci)) ?_ | fail))
    (repeat' (first | refine asg ?_ | refine so ?_ | refine aops_nil ?_ | refine aw_ret ?_ | fail))
    exact fin sh_out
  · have ct := truth13 H (decide (a < b))
    rw [sevenV, if_pos rfl, hl]
    by_cases hb0 : b = 0
    all_goals refine gives_of Tryz.func29 rfl (Nat.le_of_ble_eq_true rfl) ?_
    all_goals (repeat' (first | refine sk ?_ | refine mv ?_ | refine asg ?_ | refine bt ?_ | refine bf ?_ | refine bi ?_ | refine un ?_ | refine pt ?_ | refine pf ?_ | refine ex ?_ | refine la ?_ | refine so ?_ | refine aops_nil ?_ | refine aw_seq ?_ | refine aw_region ?_ | refine aw_cond_t rfl ?_ | refine aw_cond_f rfl ?_ | refine aw_block ?_ | refine aw_skip ?_ | refine aw_ret ?_ | refine bx 0 ?_ | refine al 1 ?_ | refine cl (c1) ?_ | refine cl (c2) ?_ | refine cl (ct) ?_ | fail))
    all_goals exact fin sh_do
  · have ct := truth13 H (a == b)
    rw [sevenV, if_neg (by decide), if_pos rfl, hm]
    by_cases hb0 : b = 0
    all_goals refine gives_of Tryz.func29 rfl (Nat.le_of_ble_eq_true rfl) ?_
    all_goals (repeat' (first | refine sk ?_ | refine mv ?_ | refine asg ?_ | refine bt ?_ | refine bf ?_ | refine bi ?_ | refine un ?_ | refine pt ?_ | refine pf ?_ | refine ex ?_ | refine la ?_ | refine so ?_ | refine aops_nil ?_ | refine aw_seq ?_ | refine aw_region ?_ | refine aw_cond_f rfl ?_ | refine aw_block ?_ | refine aw_skip ?_ | refine aw_ret ?_ | refine bx 0 ?_ | refine al 1 ?_ | refine cl (c1) ?_ | refine cl (c2) ?_ | refine cl (ct) ?_ | fail))
    all_goals exact fin sh_do
end Go.Proofs.YtnjihhheiiapnaaGreat
