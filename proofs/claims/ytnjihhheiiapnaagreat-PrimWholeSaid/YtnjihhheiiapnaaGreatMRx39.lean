/- What the statements' walks need. -/
import Derived.Test.YtnjihhheiiapnaaGreatMRa4
import Derived.Test.YtnjihhheiiapnaaGreatMRx36
import Derived.Test.YtnjihhheiiapnaaGreatMRx37
import Derived.Test.YtnjihhheiiapnaaGreatMRx38
set_option linter.unusedVariables false
set_option linter.unusedSimpArgs false
set_option maxRecDepth 100000
namespace Go.Proofs.YtnjihhheiiapnaaGreat
open Go Go.Proofs AW
theorem quo_r (H : HHeap) (hin : H.In) (m n : Int) (h1 : smallB m = true) (h2 : smallB n = true) (hl2 : 12 ≤ H.objs.length) (hm : mayH H = true) : ∃ v4 e4 v5 e5, QuoR m n v4 e4 v5 e5 ∧
    Gives Tryz.prog 11 [.agg (encHeap H), iv 4, iv (m * 2 + 1), .sl 1 (encInts [n * 2 + 1])] (.tup [.agg (encHeap H), iv v4, iv e4]) ∧
    Gives Tryz.prog 11 [.agg (encHeap H), iv 5, iv (m * 2 + 1), .sl 1 (encInts [n * 2 + 1])] (.tup [.agg (encHeap H), iv v5, iv e5]) := by
  obtain ⟨am, am2⟩ := isN_of h1
  obtain ⟨an, an2⟩ := isN_of h2
  have ok1 := okN1 hm hl2 am an
  have c4 := Do_4 H hin _ _ ok1
  have c5 := Do_5 H hin _ _ ok1
  by_cases h0 : n = 0
  · rw [whole_non am an (by rw [am2, an2, arith4, if_pos h0])] at c4
    rw [whole_non am an (by rw [am2, an2, arith5, if_pos h0])] at c5
    exact ⟨_, _, _, _, .inl ⟨h0, rfl, rfl⟩, c4, c5⟩
  · obtain ⟨f1, f2, f3, f4⟩ := over_facts m n h1 h2 h0
    obtain ⟨n1, n2⟩ := smallB_of h2
    have hb := bo_rng (a := m) (b := n) (smallB_of h1) (smallB_of h2)
    have x4 : arithI 4 (nI (m * 2 + 1)) (nI (n * 2 + 1)) = some (overI m n) := by rw [am2, an2, arith4, if_neg h0]
    have x5 : arithI 5 (nI (m * 2 + 1)) (nI (n * 2 + 1)) = some (m - n * overI m n) := by rw [am2, an2, arith5, if_neg h0]
    have hr : smallB (m - n * overI m n) = true := by simp [smallB]; omega
    rw [whole_yes am an x5 hr] at c5
    cases hq : smallB (overI m n) with
    | false =>
      rw [whole_no am an x4 hq] at c4
      obtain ⟨g1, g2⟩ := f4 hq
      exact ⟨_, _, _, _, .inr (.inl ⟨h0, rfl, rfl, g1, g2⟩), c4, c5⟩
    | true =>
      rw [whole_yes am an x4 hq] at c4
      have e : overI m n * n = n * overI m n := Int.mul_comm _ _
      exact ⟨_, _, _, _, .inr (.inr ⟨h0, rfl, rfl, overI m n, m - n * overI m n, hq, hr, rfl, rfl, by omega, by omega, f1, f2, f3⟩), c4, c5⟩
set_option maxRecDepth 100000 in
set_option maxHeartbeats 16000000 in
theorem pwhole_ok (H : HHeap) (hi : H.Big) (m n : Int) : Gives Tryz.prog 5 [.agg (encHeap H), iv m, iv n] (bv true) := by
  have hlo : (encObjs H.objs).length = H.objs.length := len_objs _
  by_cases hs : smallH H = true
  rotate_left
  · simp only [Bool.not_eq_true] at hs
    have cs := (rSmall_ok H hi).to' (congrArg bv hs)
    refine gives_of Tryz.func5 rfl (Nat.le_of_ble_eq_true rfl) ?_
    (repeat' (first | refine sk ?_ | refine mv ?_ | refine asg ?_ | refine un ?_ | refine pt ?_ | refine pf ?_ | refine la ?_ | refine aops_nil ?_ | refine aw_seq ?_ | refine aw_region ?_ | refine aw_cond_t rfl ?_ | refine aw_ret ?_ | refine bx 0 ?_ | refine cl (fixed13_ok) ?_ | refine cl (cs) ?_ | fail))
    exact fin (sh_bv rfl)
  have hin := small_in hi hs
  have cs := (rSmall_ok H hi).to' (congrArg bv hs)
  by_cases hl : H.objs.length ≤ 60
  rotate_left
  · refine gives_of Tryz.func5 rfl (Nat.le_of_ble_eq_true rfl) ?_
    (repeat' (first | refine sk ?_ | refine mv ?_ | refine asg ?_ | refine ld ?_ | refine fp ?_ | refine bt ?_ | refine un ?_ | refine pt ?_ | refine pf ?_ | refine ln ?_ | refine la ?_ | refine aops_nil ?_ | refine aw_seq ?_ | refine aw_region ?_ | refine aw_cond_t rfl ?_ | refine aw_ret ?_ | refine bx 0 ?_ | refine cl (fixed13_ok) ?_ | refine cl (cs) ?_ | fail))
    exact fin (sh_bv rfl)
  by_cases hl2 : 12 ≤ H.objs.length
  rotate_left
  · refine gives_of Tryz.func5 rfl (Nat.le_of_ble_eq_true rfl) ?_
    (repeat' (first | refine sk ?_ | refine mv ?_ | refine asg ?_ | refine ld ?_ | refine fp ?_ | refine bt ?_ | refine bf ?_ | refine un ?_ | refine pt ?_ | refine pf ?_ | refine ln ?_ | refine la ?_ | refine aops_nil ?_ | refine aw_seq ?_ | refine aw_region ?_ | refine aw_cond_t rfl ?_ | refine aw_ret ?_ | refine bx 0 ?_ | refine cl (fixed13_ok) ?_ | refine cl (cs) ?_ | fail))
    exact fin (sh_bv rfl)
  by_cases hm : mayH H = true
  rotate_left
  · simp only [Bool.not_eq_true] at hm
    have cm := (rMay_ok H hin).to' (congrArg bv hm)
    refine gives_of Tryz.func5 rfl (Nat.le_of_ble_eq_true rfl) ?_
    (repeat' (first | refine mv ?_ | refine asg ?_ | refine ld ?_ | refine fp ?_ | refine bf ?_ | refine un ?_ | refine pf ?_ | refine ln ?_ | refine la ?_ | refine aops_nil ?_ | refine aw_seq ?_ | refine aw_region ?_ | refine aw_cond_t rfl ?_ | refine aw_ret ?_ | refine bx 0 ?_ | refine cl (fixed13_ok) ?_ | refine cl (cs) ?_ | refine cl (cm) ?_ | fail))
    exact fin (sh_bv rfl)
  have cm := (rMay_ok H hin).to' (congrArg bv hm)
  by_cases h1 : smallB m = true
  rotate_left
  · have ca := (rInt_ok m).to' (by rw [if_neg h1, eq_false_of_ne_true h1])
    have cb := rInt_ok n
    refine gives_of Tryz.func5 rfl (Nat.le_of_ble_eq_true rfl) ?_
    (repeat' (first | refine sk ?_ | refine mv ?_ | refine asg ?_ | refine ld ?_ | refine fp ?_ | refine bf ?_ | refine un ?_ | refine pt ?_ | refine pf ?_ | refine ex ?_ | refine ln ?_ | refine la ?_ | refine aops_nil ?_ | refine aw_seq ?_ | refine aw_region ?_ | refine aw_cond_t rfl ?_ | refine aw_cond_f rfl ?_ | refine aw_skip ?_ | refine aw_ret ?_ | refine bx 0 ?_ | refine cl (fixed13_ok) ?_ | refine cl (cs) ?_ | refine cl (cm) ?_ | refine cl (ca) ?_ | refine cl (cb) ?_ | fail))
    exact fin (sh_bv rfl)
  have ca := (rInt_ok m).to' (by rw [if_pos h1, h1])
  by_cases h2 : smallB n = true
  rotate_left
  · have cb := (rInt_ok n).to' (by rw [if_neg h2, eq_false_of_ne_true h2])
    refine gives_of Tryz.func5 rfl (Nat.le_of_ble_eq_true rfl) ?_
    (repeat' (first | refine mv ?_ | refine asg ?_ | refine ld ?_ | refine fp ?_ | refine bf ?_ | refine un ?_ | refine pf ?_ | refine ex ?_ | refine ln ?_ | refine la ?_ | refine aops_nil ?_ | refine aw_seq ?_ | refine aw_region ?_ | refine aw_cond_t rfl ?_ | refine aw_cond_f rfl ?_ | refine aw_skip ?_ | refine aw_ret ?_ | refine bx 0 ?_ | refine cl (fixed13_ok) ?_ | refine cl (cs) ?_ | refine cl (cm) ?_ | refine cl (ca) ?_ | refine cl (cb) ?_ | fail))
    exact fin (sh_bv rfl)
  obtain ⟨am, am2⟩ := isN_of h1
  obtain ⟨an, an2⟩ := isN_of h2
  have ok1 := okN1 hm hl2 am an
  have c1 := Do_1 H hin _ _ ok1
  have x1 : arithI 1 (nI (m * 2 + 1)) (nI (n * 2 + 1)) = some (m + n) := by rw [am2, an2]; rfl
  obtain ⟨v4, e4, v5, e5, d4, c4, c5⟩ := quo_r H hin m n h1 h2 hl2 hm
  by_cases h3 : smallB (m + n) = true
  · rw [whole_yes am an x1 h3] at c1
    exact pw_s H hi m n h1 h2 hs hl hl2 hm v4 e4 v5 e5 h3 c1 c4 c5 d4
  · have s3 := eq_false_of_ne_true h3
    rw [whole_no am an x1 s3] at c1
    have s4 : ¬ (-1073741824 ≤ m + n ∧ m + n ≤ 1073741823) := by simpa [smallB] using s3
    by_cases h4 : m + n < -1073741824
    · exact pw_l H hi m n h1 h2 hs hl hl2 hm v4 e4 v5 e5 h4 c1 c4 c5 d4
    · exact pw_h H hi m n h1 h2 hs hl hl2 hm v4 e4 v5 e5 (by omega) c1 c4 c5 d4
end Go.Proofs.YtnjihhheiiapnaaGreat
