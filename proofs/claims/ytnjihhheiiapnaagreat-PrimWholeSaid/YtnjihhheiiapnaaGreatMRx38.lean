/- What the statements' walks need. -/
import Derived.Test.YtnjihhheiiapnaaGreatMRa4
import Derived.Test.YtnjihhheiiapnaaGreatMRx35
set_option linter.unusedVariables false
set_option linter.unusedSimpArgs false
set_option maxRecDepth 100000
namespace Go.Proofs.YtnjihhheiiapnaaGreat
open Go Go.Proofs AW
set_option maxRecDepth 100000 in
set_option maxHeartbeats 16000000 in
theorem pw_h (H : HHeap) (hi : H.Big) (m n : Int) (h1 : smallB m = true) (h2 : smallB n = true) (hs : smallH H = true) (hl : H.objs.length ≤ 60) (hl2 : 12 ≤ H.objs.length) (hm : mayH H = true)
    (v4 e4 v5 e5 : Int) (d1 : m + n > 1073741823) (c1 : Gives Tryz.prog 11 [.agg (encHeap H), iv 1, iv (m * 2 + 1), .sl 1 (encInts [n * 2 + 1])] (.tup [.agg (encHeap H), iv 0, iv 130]))
    (c4 : Gives Tryz.prog 11 [.agg (encHeap H), iv 4, iv (m * 2 + 1), .sl 1 (encInts [n * 2 + 1])] (.tup [.agg (encHeap H), iv v4, iv e4]))
    (c5 : Gives Tryz.prog 11 [.agg (encHeap H), iv 5, iv (m * 2 + 1), .sl 1 (encInts [n * 2 + 1])] (.tup [.agg (encHeap H), iv v5, iv e5]))
    (d4 : QuoR m n v4 e4 v5 e5) :
    Gives Tryz.prog 5 [.agg (encHeap H), iv m, iv n] (bv true) := by
  have hlo : (encObjs H.objs).length = H.objs.length := len_objs _
  have hin := small_in hi hs
  have cs := (rSmall_ok H hi).to' (congrArg bv hs)
  have cm := (rMay_ok H hin).to' (congrArg bv hm)
  have ca := (rInt_ok m).to' (by rw [if_pos h1, h1])
  have cb := (rInt_ok n).to' (by rw [if_pos h2, h2])
  obtain ⟨m1, m2⟩ := smallB_of h1
  obtain ⟨n1, n2⟩ := smallB_of h2
  obtain ⟨am, am2⟩ := isN_of h1
  obtain ⟨an, an2⟩ := isN_of h2
  have hw : IntKind.i64.wrap (0 - n) = -n := by rw [IntKind.wrap_i64]; omega
  have hw2 : IntKind.i64.wrap (0 - (n.natAbs : Int)) = -(n.natAbs : Int) := by rw [IntKind.wrap_i64]; omega
  have hN : (if IntKind.i64.wrap (0 - n) > n then IntKind.i64.wrap (0 - n) else n) = (n.natAbs : Int) := by rw [hw]; split <;> omega
  rcases d4 with ⟨h0, rfl, rfl⟩ | ⟨h0, rfl, rfl, g1, g2⟩ | ⟨h0, rfl, rfl, q, r, hq, hr, rfl, rfl, e, b, k1, k2, k3⟩
  · refine gives_of Tryz.func5 rfl (Nat.le_of_ble_eq_true rfl) ?_
    (repeat' (first | refine sk ?_ | refine mv ?_ | refine asg ?_ | refine ld ?_ | refine fp ?_ | refine bt ?_ | refine un ?_ | refine pt ?_ | refine pf ?_ | refine ln ?_ | refine la ?_ | refine aops_nil ?_ | refine aw_seq ?_ | refine aw_region ?_ | refine aw_cond_t rfl ?_ | refine aw_ret ?_ | refine bx 0 ?_ | refine cl (fixed13_ok) ?_ | refine cl (cs) ?_ | fail))
    exact fin (sh_bv rfl)
  · refine gives_of Tryz.func5 rfl (Nat.le_of_ble_eq_true rfl) ?_
    (repeat' (first | refine sk ?_ | refine mv ?_ | refine asg ?_ | refine ld ?_ | refine fp ?_ | refine bt ?_ | refine un ?_ | refine pt ?_ | refine pf ?_ | refine ln ?_ | refine la ?_ | refine aops_nil ?_ | refine aw_seq ?_ | refine aw_region ?_ | refine aw_cond_t rfl ?_ | refine aw_ret ?_ | refine bx 0 ?_ | refine cl (fixed13_ok) ?_ | refine cl (cs) ?_ | fail))
    exact fin (sh_bv rfl)
  · obtain ⟨a5, b5⟩ := isN_of hq
    obtain ⟨a6, b6⟩ := isN_of hr
    obtain ⟨q1, q2⟩ := smallB_of hq
    obtain ⟨r1, r2⟩ := smallB_of hr
    have cq := (rN_ok (q * 2 + 1)).to' (by rw [a5, b5])
    have cr := (rN_ok (r * 2 + 1)).to' (by rw [a6, b6])
    have hcase : r = 0 ∨ (¬ r = 0 ∧ r < 0 ∧ n < 0) ∨ (¬ r = 0 ∧ ¬ r < 0 ∧ ¬ n < 0) := by omega
    clear k1
    rcases hcase with hr0 | ⟨hr0, hr1, hn1⟩ | ⟨hr0, hr1, hn1⟩
    all_goals refine gives_of Tryz.func5 rfl (Nat.le_of_ble_eq_true rfl) ?_
    · (repeat' (first | refine sk ?_ | refine mv ?_ | refine asg ?_ | refine ld ?_ | refine fp ?_ | refine bt ?_ | refine bf ?_ | refine bw ?_ | refine bi ?_ | refine un ?_ | refine pt ?_ | refine pf ?_ | refine ex ?_ | refine ln ?_ | refine la ?_ | refine so ?_ | refine aops_nil ?_ | refine aw_seq ?_ | refine aw_region ?_ | refine aw_cond_f rfl ?_ | refine aw_skip ?_ | refine aw_ret ?_ | refine bx 0 ?_ | refine al 1 ?_ | refine al 2 ?_ | refine al 3 ?_ | refine cl (fixed13_ok) ?_ | refine cl (cs) ?_ | refine cl (cm) ?_ | refine cl (ca) ?_ | refine cl (cb) ?_ | refine cl (c1) ?_ | refine cl (c4) ?_ | refine cl (c5) ?_ | refine cl (cq) ?_ | refine cl (cr) ?_ | refine mx hN ?_ | refine li 30 ?_ | refine li 31 ?_ | refine li 32 ?_ | refine fzs 72 (fun c hc => noOwn_intsc (l := [n * 2 + 1]) hc) ?_ | refine fzs 125 (fun c hc => noOwn_intsc (l := [n * 2 + 1]) hc) ?_ | refine fzs 134 (fun c hc => noOwn_intsc (l := [n * 2 + 1]) hc) ?_ | fail))
      refine fin (sh_bv ?_)
      first | rfl | (rw [hw2]; exact decide_eq_true k3)
    · (repeat' (first | refine sk ?_ | refine mv ?_ | refine asg ?_ | refine ld ?_ | refine fp ?_ | refine bt ?_ | refine un ?_ | refine pt ?_ | refine pf ?_ | refine ln ?_ | refine la ?_ | refine aops_nil ?_ | refine aw_seq ?_ | refine aw_region ?_ | refine aw_cond_t rfl ?_ | refine aw_ret ?_ | refine bx 0 ?_ | refine cl (fixed13_ok) ?_ | refine cl (cs) ?_ | fail))
      refine fin (sh_bv ?_)
      first | rfl | (rw [hw2]; exact decide_eq_true k3)
    · (repeat' (first | refine sk ?_ | refine mv ?_ | refine asg ?_ | refine ld ?_ | refine fp ?_ | refine bt ?_ | refine bf ?_ | refine bw ?_ | refine bi ?_ | refine un ?_ | refine pt ?_ | refine pf ?_ | refine ex ?_ | refine ln ?_ | refine la ?_ | refine so ?_ | refine aops_nil ?_ | refine aw_seq ?_ | refine aw_region ?_ | refine aw_cond_f rfl ?_ | refine aw_skip ?_ | refine aw_ret ?_ | refine bx 0 ?_ | refine al 1 ?_ | refine al 2 ?_ | refine al 3 ?_ | refine cl (fixed13_ok) ?_ | refine cl (cs) ?_ | refine cl (cm) ?_ | refine cl (ca) ?_ | refine cl (cb) ?_ | refine cl (c1) ?_ | refine cl (c4) ?_ | refine cl (c5) ?_ | refine cl (cq) ?_ | refine cl (cr) ?_ | refine mx hN ?_ | refine li 30 ?_ | refine li 31 ?_ | refine li 32 ?_ | refine fzs 72 (fun c hc => noOwn_intsc (l := [n * 2 + 1]) hc) ?_ | refine fzs 125 (fun c hc => noOwn_intsc (l := [n * 2 + 1]) hc) ?_ | refine fzs 134 (fun c hc => noOwn_intsc (l := [n * 2 + 1]) hc) ?_ | fail))
      refine fin (sh_bv ?_)
      first | rfl | (rw [hw2]; exact decide_eq_true k3)
end Go.Proofs.YtnjihhheiiapnaaGreat
