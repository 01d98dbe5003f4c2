/- What the statements' walks need. -/
import Derived.Test.YtnjihhheiiapnaaGreatMSa4
import Derived.Test.YtnjihhheiiapnaaGreatMSx40
import Derived.Test.YtnjihhheiiapnaaGreatMSx44
import Derived.Test.YtnjihhheiiapnaaGreatMSx45
import Derived.Test.YtnjihhheiiapnaaGreatMSx15
set_option linter.unusedVariables false
set_option linter.unusedSimpArgs false
set_option maxRecDepth 100000
namespace Go.Proofs.YtnjihhheiiapnaaGreat
open Go Go.Proofs AW FM
theorem flt_Op_eq (o a b : Int) : flt_Op.f o a b = some (opI o a b) := rfl
theorem split64 (a : Int) (h : In64 a) : ∃ (s : Bool) (p : Nat), p < 2 ^ 63 ∧ a = toI s p := split a (by obtain ⟨h1, h2⟩ := h; simp only [Lit.wf, IntKind.min, IntKind.max, IntKind.signed, IntKind.bits, Bool.and_eq_true, decide_eq_true_eq, if_true]; omega)
theorem rOp_eq (o a b : Int) (ha : In64 a) (hb : In64 b) : Gives Tryz.prog 20 [iv o, iv a, iv b] (iv (opI o a b)) := by
  obtain ⟨s, p, hp, rfl⟩ := split64 a ha
  obtain ⟨t, q, hq, rfl⟩ := split64 b hb
  exact rOp_ok 197 o _ _ _ (by rw [Op_told 200 o s t p q (by omega) hp hq, flt_Op_eq])
theorem rOf_eq (n : Int) (h1 : -9007199254740992 ≤ n) (h2 : n ≤ 9007199254740992) : Gives Tryz.prog 21 [iv n] (iv (ofF n)) := by
  refine rOf_ok 199 n _ ?_
  rw [Of_ref 200 (by omega) n]
  unfold flt_Of.f
  rw [if_neg (by omega), if_neg (by omega)]
  rfl
theorem ofF_told (n : Int) (h1 : -9007199254740992 ≤ n) (h2 : n ≤ 9007199254740992) : ofF n = toI (decide (n < 0)) (if n.natAbs = 0 then 0 else rung n.natAbs 0) := by
  have := Of_flt n h1 h2
  unfold flt_Of.f at this
  rw [if_neg (by omega), if_neg (by omega)] at this
  exact Option.some.inj this
theorem trunc_whole (n : Int) (h : n.natAbs ≤ 1073741824) (h2 : -1073741824 ≤ n ∧ n ≤ 1073741823) : flt_Trunc.f (ofF n) = some (n, true) := by
  rw [ofF_told n (by omega) (by omega)]
  have key : fcut (Ieee.double.word (decide (n < 0)) (if n.natAbs = 0 then 0 else rung n.natAbs 0)) = Ieee.double.word (decide (n < 0)) (if n.natAbs = 0 then 0 else rung n.natAbs 0) ∧ (if n.natAbs = 0 then 0 else rung n.natAbs 0) ≤ 2047 * 2 ^ 52 := by
    by_cases h0 : n.natAbs = 0
    · rw [if_pos h0]
      refine ⟨?_, by omega⟩
      rw [fcut_of (decide (n < 0)) 0 (by omega) 0 (-1074) rfl, Nat.zero_mul, Nat.zero_div, if_pos rfl]
    · rw [if_neg h0]
      obtain ⟨k, hk, hd, hlt, _⟩ := whole_dat n.natAbs h0 (by omega)
      refine ⟨?_, by omega⟩
      have hc := fcut_of (decide (n < 0)) _ (by omega) _ _ (hd (decide (n < 0)))
      rw [show (-(k : Int)).toNat = 0 by omega, show (-(-(k : Int))).toNat = k by omega, Nat.pow_zero, Nat.mul_one, Nat.mul_div_cancel _ (Nat.two_pow_pos k), if_neg h0] at hc
      exact hc
  have := trunc_of (decide (n < 0)) _ n.natAbs key.2 (by omega) key.1
  rw [this]
  have hv : (if decide (n < 0) then -((n.natAbs : Nat) : Int) else ((n.natAbs : Nat) : Int)) = n := by
    by_cases h1 : n < 0
    · rw [decide_eq_true h1, if_pos rfl]; omega
    · rw [decide_eq_false h1, if_neg (by decide)]; omega
  rw [hv, if_neg (by omega)]
theorem canI_fcan (b : Nat) : canI (fcan b) = fcan b := by
  unfold fcan canI
  by_cases h : b % 2 ^ 63 ≤ 2047 * 2 ^ 52
  · rw [if_pos h, if_pos]
    rw [IntKind.wrap_i64]; omega
  · rw [if_neg h]; decide
theorem canI_fres (r : Option Nat) : canI (fres r) = fres r := by
  cases r with
  | some r => exact canI_fcan r
  | none => decide
theorem canI_op (o a b : Int) : canI (opI o a b) = opI o a b := by
  unfold opI
  repeat' split
  all_goals first | exact canI_fres _ | decide
theorem flo_may {H : HHeap} (hi : H.In) {b : Int} (hb : In64 b) (he : allocE H 8 2 0 = 0) : mayH (floH H b) = true ∧ (floH H b).In := by
  obtain ⟨hm, _, _, _, _, hne, h3⟩ := alloc0 he
  have hl := mayH_len hm
  have ha := allocH_may he
  have hin := allocH_in (cls := 8) (kind := 2) (size := 0) hi
  rw [h3] at ha hin
  constructor
  · rw [mayH_iff] at ha ⊢
    simp only [floH, List.length_append, List.length_singleton, Int.natCast_add, Int.natCast_one] at ha ⊢
    refine ⟨ha.1, fun o ho => ?_⟩
    rcases List.mem_append.1 ho with ho | ho
    · exact ha.2 o (List.mem_append.2 (.inl ho))
    · simp only [List.mem_singleton] at ho; subst ho
      have hn := ha.2 (newObj H 8 2 0) (by simp)
      simp only [mayObj, headB, kindB, restB, Bool.and_eq_true, decide_eq_true_eq] at hn ⊢
      refine ⟨hn.1, ⟨hn.2.1.1, hn.2.1.2.1, fun h => absurd rfl h⟩, ⟨hn.2.2.1.1, hn.2.2.1.2.1, canI_idem b⟩, hn.2.2.2⟩
  · refine ⟨fun o ho => ?_, hin.2.1, hin.2.2.1, by simp [floH]; omega⟩
    rcases List.mem_append.1 ho with ho | ho
    · exact hi.1 o ho
    · simp only [List.mem_singleton] at ho; subst ho
      have hn := hin.1 (newObj H 8 2 0) (by simp)
      exact ⟨hn.1, hn.2.1, hn.2.2.1, canI_rng hb, hn.2.2.2.2⟩
theorem falloc_yes {H : HHeap} (hm : mayH H = true) (hl : 12 ≤ H.objs.length) (hc : (H.objs.length : Int) < H.cap) : allocE H 8 2 0 = 0 := by
  rcases falloc_cases hm hl with h | h
  · exact h
  · have := alloc_len h; omega
theorem flo_at (H : HHeap) (b : Int) (hl : H.objs.length < 1048575) : (floH H b).ref (2 * H.objs.length) = H.objs.length ∧ (floH H b).at' (2 * H.objs.length) = floO H b := by
  have h1 : (floH H b).ref (2 * H.objs.length) = H.objs.length := by
    unfold HHeap.ref refI
    rw [if_pos ⟨by simp [isAt]; omega, by simp [floH]; omega⟩]; omega
  refine ⟨h1, ?_⟩
  unfold HHeap.at'
  rw [h1]
  simp [floH]
end Go.Proofs.YtnjihhheiiapnaaGreat
namespace Go.Proofs.YtnjihhheiiapnaaGreat
open Go Go.Proofs AW
abbrev flArgs (H : HHeap) (o m n : Int) : List AV := [.agg (encHeap H), iv o, .agg [iv m, iv n]]
set_option maxRecDepth 100000 in
set_option maxHeartbeats 16000000 in
theorem pflo_gate (H : HHeap) (hi : H.Big) (o m n : Int) (h : ¬ (smallH H = true ∧ H.objs.length ≤ 60 ∧ 12 ≤ H.objs.length ∧ mayH H = true ∧ (H.objs.length : Int) + 2 ≤ H.cap ∧ 0 ≤ o ∧ o ≤ 3 ∧ smallB m = true ∧ smallB n = true)) : Gives Tryz.prog 6 (flArgs H o m n) (bv true) := by
  have hlo : (encObjs H.objs).length = H.objs.length := len_objs _
  by_cases hs : smallH H = true
  rotate_left
  · simp only [Bool.not_eq_true] at hs
    have csm := (rSmall_ok H hi).to' (congrArg bv hs)
    refine gives_of Tryz.func6 rfl (Nat.le_of_ble_eq_true rfl) ?_
    (repeat' (first | refine asg ?_ | refine aops_nil ?_ | refine aw_seq ?_ | refine aw_region ?_ | refine bx 0 ?_ | refine bx 1 ?_ | fail))
    refine aw_drawP 6 [] ?_
    (repeat' (first | refine dPn ?_ | refine dP (fun _ => y_assign) ?_ | refine dP (fun _ => y_load) ?_ | refine dP (fun _ => y_iarN) ?_ | fail))
    (repeat' (first | refine sk ?_ | refine mv ?_ | refine asg ?_ | refine un ?_ | refine pt ?_ | refine pf ?_ | refine la ?_ | refine aops_nil ?_ | refine aw_seq ?_ | refine aw_region ?_ | refine aw_cond_t rfl ?_ | refine aw_ret ?_ | refine cl (fixed13_ok) ?_ | refine cl (csm) ?_ | fail))
    exact fin (sh_bv rfl)
  have hin := small_in hi hs
  have csm := (rSmall_ok H hi).to' (congrArg bv hs)
  by_cases hl : H.objs.length ≤ 60
  rotate_left
  · skip
    refine gives_of Tryz.func6 rfl (Nat.le_of_ble_eq_true rfl) ?_
    (repeat' (first | refine asg ?_ | refine aops_nil ?_ | refine aw_seq ?_ | refine aw_region ?_ | refine bx 0 ?_ | refine bx 1 ?_ | fail))
    refine aw_drawP 6 [] ?_
    (repeat' (first | refine dPn ?_ | refine dP (fun _ => y_assign) ?_ | refine dP (fun _ => y_load) ?_ | refine dP (fun _ => y_iarN) ?_ | fail))
    (repeat' (first | refine sk ?_ | refine mv ?_ | refine asg ?_ | refine ld ?_ | refine fp ?_ | refine bt ?_ | refine un ?_ | refine pt ?_ | refine pf ?_ | refine ln ?_ | refine la ?_ | refine aops_nil ?_ | refine aw_seq ?_ | refine aw_region ?_ | refine aw_cond_t rfl ?_ | refine aw_ret ?_ | refine cl (fixed13_ok) ?_ | refine cl (csm) ?_ | fail))
    exact fin (sh_bv rfl)
  by_cases hl2 : 12 ≤ H.objs.length
  rotate_left
  · skip
    refine gives_of Tryz.func6 rfl (Nat.le_of_ble_eq_true rfl) ?_
    (repeat' (first | refine asg ?_ | refine aops_nil ?_ | refine aw_seq ?_ | refine aw_region ?_ | refine bx 0 ?_ | refine bx 1 ?_ | fail))
    refine aw_drawP 6 [] ?_
    (repeat' (first | refine dPn ?_ | refine dP (fun _ => y_assign) ?_ | refine dP (fun _ => y_load) ?_ | refine dP (fun _ => y_iarN) ?_ | fail))
    (repeat' (first | refine sk ?_ | refine mv ?_ | refine asg ?_ | refine ld ?_ | refine fp ?_ | refine bt ?_ | refine bf ?_ | refine un ?_ | refine pt ?_ | refine pf ?_ | refine ln ?_ | refine la ?_ | refine aops_nil ?_ | refine aw_seq ?_ | refine aw_region ?_ | refine aw_cond_t rfl ?_ | refine aw_ret ?_ | refine cl (fixed13_ok) ?_ | refine cl (csm) ?_ | fail))
    exact fin (sh_bv rfl)
  by_cases hm : mayH H = true
  rotate_left
  · simp only [Bool.not_eq_true] at hm
    have cm := (rMay_ok H hin).to' (congrArg bv hm)
    refine gives_of Tryz.func6 rfl (Nat.le_of_ble_eq_true rfl) ?_
    (repeat' (first | refine asg ?_ | refine aops_nil ?_ | refine aw_seq ?_ | refine aw_region ?_ | refine bx 0 ?_ | refine bx 1 ?_ | fail))
    refine aw_drawP 6 [] ?_
    (repeat' (first | refine dPn ?_ | refine dP (fun _ => y_assign) ?_ | refine dP (fun _ => y_load) ?_ | refine dP (fun _ => y_iarN) ?_ | fail))
    (repeat' (first | refine sk ?_ | refine mv ?_ | refine asg ?_ | refine ld ?_ | refine fp ?_ | refine bf ?_ | refine un ?_ | refine pt ?_ | refine pf ?_ | refine ln ?_ | refine la ?_ | refine aops_nil ?_ | refine aw_seq ?_ | refine aw_region ?_ | refine aw_cond_t rfl ?_ | refine aw_ret ?_ | refine cl (fixed13_ok) ?_ | refine cl (csm) ?_ | refine cl (cm) ?_ | fail))
    exact fin (sh_bv rfl)
  have cm := (rMay_ok H hin).to' (congrArg bv hm)
  by_cases hc : (H.objs.length : Int) + 2 ≤ H.cap
  rotate_left
  · skip
    refine gives_of Tryz.func6 rfl (Nat.le_of_ble_eq_true rfl) ?_
    (repeat' (first | refine asg ?_ | refine aops_nil ?_ | refine aw_seq ?_ | refine aw_region ?_ | refine bx 0 ?_ | refine bx 1 ?_ | fail))
    refine aw_drawP 6 [] ?_
    (repeat' (first | refine dPn ?_ | refine dP (fun _ => y_assign) ?_ | refine dP (fun _ => y_load) ?_ | refine dP (fun _ => y_iarN) ?_ | fail))
    (repeat' (first | refine sk ?_ | refine mv ?_ | refine asg ?_ | refine ld ?_ | refine fp ?_ | refine bt ?_ | refine bf ?_ | refine bw ?_ | refine un ?_ | refine pt ?_ | refine pf ?_ | refine ln ?_ | refine la ?_ | refine aops_nil ?_ | refine aw_seq ?_ | refine aw_region ?_ | refine aw_cond_t rfl ?_ | refine aw_ret ?_ | refine cl (fixed13_ok) ?_ | refine cl (csm) ?_ | refine cl (cm) ?_ | fail))
    exact fin (sh_bv rfl)
  by_cases h1 : 0 ≤ o
  rotate_left
  · skip
    refine gives_of Tryz.func6 rfl (Nat.le_of_ble_eq_true rfl) ?_
    (repeat' (first | refine asg ?_ | refine aops_nil ?_ | refine aw_seq ?_ | refine aw_region ?_ | refine bx 0 ?_ | refine bx 1 ?_ | fail))
    refine aw_drawP 6 [] ?_
    (repeat' (first | refine dPn ?_ | refine dP (fun _ => y_assign) ?_ | refine dP (fun _ => y_load) ?_ | refine dP (fun _ => y_iarN) ?_ | fail))
    (repeat' (first | refine sk ?_ | refine mv ?_ | refine asg ?_ | refine ld ?_ | refine fp ?_ | refine bt ?_ | refine bf ?_ | refine bw ?_ | refine un ?_ | refine pt ?_ | refine pf ?_ | refine ln ?_ | refine la ?_ | refine aops_nil ?_ | refine aw_seq ?_ | refine aw_region ?_ | refine aw_cond_t rfl ?_ | refine aw_ret ?_ | refine cl (fixed13_ok) ?_ | refine cl (csm) ?_ | refine cl (cm) ?_ | fail))
    exact fin (sh_bv rfl)
  by_cases h2 : o ≤ 3
  rotate_left
  · skip
    refine gives_of Tryz.func6 rfl (Nat.le_of_ble_eq_true rfl) ?_
    (repeat' (first | refine asg ?_ | refine aops_nil ?_ | refine aw_seq ?_ | refine aw_region ?_ | refine bx 0 ?_ | refine bx 1 ?_ | fail))
    refine aw_drawP 6 [] ?_
    (repeat' (first | refine dPn ?_ | refine dP (fun _ => y_assign) ?_ | refine dP (fun _ => y_load) ?_ | refine dP (fun _ => y_iarN) ?_ | fail))
    (repeat' (first | refine mv ?_ | refine asg ?_ | refine ld ?_ | refine fp ?_ | refine bt ?_ | refine bf ?_ | refine bw ?_ | refine un ?_ | refine pf ?_ | refine ln ?_ | refine la ?_ | refine aops_nil ?_ | refine aw_seq ?_ | refine aw_region ?_ | refine aw_cond_t rfl ?_ | refine aw_ret ?_ | refine cl (fixed13_ok) ?_ | refine cl (csm) ?_ | refine cl (cm) ?_ | fail))
    exact fin (sh_bv rfl)
  by_cases h3 : smallB m = true
  rotate_left
  · have ca := (rInt_ok m).to' (by rw [if_neg h3, eq_false_of_ne_true h3])
    have cb := rInt_ok n
    refine gives_of Tryz.func6 rfl (Nat.le_of_ble_eq_true rfl) ?_
    (repeat' (first | refine asg ?_ | refine aops_nil ?_ | refine aw_seq ?_ | refine aw_region ?_ | refine bx 0 ?_ | refine bx 1 ?_ | fail))
    refine aw_drawP 6 [] ?_
    (repeat' (first | refine dPn ?_ | refine dP (fun _ => y_assign) ?_ | refine dP (fun _ => y_load) ?_ | refine dP (fun _ => y_iarN) ?_ | fail))
    (repeat' (first | refine sk ?_ | refine mv ?_ | refine asg ?_ | refine ld ?_ | refine fp ?_ | refine bf ?_ | refine bw ?_ | refine un ?_ | refine pt ?_ | refine pf ?_ | refine ex ?_ | refine ln ?_ | refine la ?_ | refine aops_nil ?_ | refine aw_seq ?_ | refine aw_region ?_ | refine aw_cond_t rfl ?_ | refine aw_cond_f rfl ?_ | refine aw_skip ?_ | refine aw_ret ?_ | refine cl (fixed13_ok) ?_ | refine cl (csm) ?_ | refine cl (cm) ?_ | refine cl (ca) ?_ | refine cl (cb) ?_ | fail))
    exact fin (sh_bv rfl)
  have ca := (rInt_ok m).to' (by rw [if_pos h3, h3])
  have h4 : ¬ smallB n = true := fun h4 => h ⟨hs, hl, hl2, hm, hc, h1, h2, h3, h4⟩
  have cb := (rInt_ok n).to' (by rw [if_neg h4, eq_false_of_ne_true h4])
  refine gives_of Tryz.func6 rfl (Nat.le_of_ble_eq_true rfl) ?_
  (repeat' (first | refine asg ?_ | refine aops_nil ?_ | refine aw_seq ?_ | refine aw_region ?_ | refine bx 0 ?_ | refine bx 1 ?_ | fail))
  refine aw_drawP 6 [] ?_
  (repeat' (first | refine dPn ?_ | refine dP (fun _ => y_assign) ?_ | refine dP (fun _ => y_load) ?_ | refine dP (fun _ => y_iarN) ?_ | fail))
  (repeat' (first | refine mv ?_ | refine asg ?_ | refine ld ?_ | refine fp ?_ | refine bf ?_ | refine bw ?_ | refine un ?_ | refine pf ?_ | refine ex ?_ | refine ln ?_ | refine la ?_ | refine aops_nil ?_ | refine aw_seq ?_ | refine aw_region ?_ | refine aw_cond_t rfl ?_ | refine aw_cond_f rfl ?_ | refine aw_skip ?_ | refine aw_ret ?_ | refine cl (fixed13_ok) ?_ | refine cl (csm) ?_ | refine cl (cm) ?_ | refine cl (ca) ?_ | refine cl (cb) ?_ | fail))
  exact fin (sh_bv rfl)
end Go.Proofs.YtnjihhheiiapnaaGreat
namespace Go.Proofs.YtnjihhheiiapnaaGreat
open Go Go.Proofs AW
set_option maxRecDepth 100000 in
set_option maxHeartbeats 16000000 in
theorem pflo_yes (H : HHeap) (hi : H.Big) (o m n : Int) (hs : smallH H = true) (hl : H.objs.length ≤ 60) (hl2 : 12 ≤ H.objs.length) (hm : mayH H = true) (hc : (H.objs.length : Int) + 2 ≤ H.cap) (h1 : 0 ≤ o) (h2 : o ≤ 3) (h3 : smallB m = true) (h4 : smallB n = true) : Gives Tryz.prog 6 (flArgs H o m n) (bv true) := by
  have hlo : (encObjs H.objs).length = H.objs.length := len_objs _
  have hin := small_in hi hs
  have csm := (rSmall_ok H hi).to' (congrArg bv hs)
  have cm := (rMay_ok H hin).to' (congrArg bv hm)
  have ca := (rInt_ok m).to' (by rw [if_pos h3, h3])
  have cb := (rInt_ok n).to' (by rw [if_pos h4, h4])
  obtain ⟨am, am2⟩ := isN_of h3
  obtain ⟨an, an2⟩ := isN_of h4
  obtain ⟨m1, m2⟩ := smallB_of h3
  obtain ⟨n1, n2⟩ := smallB_of h4
  have ho : o = 0 ∨ o = 1 ∨ o = 2 ∨ o = 3 := by omega
  have fm : flV H (m * 2 + 1) = ofF m := by rw [flV, if_pos am, am2]
  have fn : flV H (n * 2 + 1) = ofF n := by rw [flV, if_pos an, an2]
  have bm : floB H (m * 2 + 1) = true := by simp [floB, am]
  have bn : floB H (n * 2 + 1) = true := by simp [floB, an]
  have ok1 := okN1 hm hl2 am an
  have he := falloc_yes hm hl2 (by omega)
  have cd : Gives Tryz.prog 11 [.agg (encHeap H), iv (17 + o), iv (m * 2 + 1), .sl 1 (encInts [n * 2 + 1])] (fopV H o (m * 2 + 1) (n * 2 + 1)) := by
    rcases ho with rfl | rfl | rfl | rfl
    · exact Do_17 H hin _ _ ok1
    · exact Do_18 H hin _ _ ok1
    · exact Do_19 H hin _ _ ok1
    · exact Do_20 H hin _ _ ok1
  rw [fopV, if_pos ⟨bm, bn⟩, newF, if_pos he, fm, fn] at cd
  have hB : In64 (opI o (ofF m) (ofF n)) := opI_rng _ _ _
  have hcB : canI (opI o (ofF m) (ofF n)) = opI o (ofF m) (ofF n) := canI_op _ _ _
  have oO := rOp_eq o (ofF m) (ofF n) (fcan_rng _) (fcan_rng _)
  have oM := rOf_eq m (by omega) (by omega)
  have oN := rOf_eq n (by omega) (by omega)
  generalize opI o (ofF m) (ofF n) = B at *
  obtain ⟨gm, gin⟩ := flo_may hin hB he
  have gl : (floH H B).objs.length = H.objs.length + 1 := by simp [floH]
  have gc : (floH H B).cap = H.cap := rfl
  have gg : (encObjs (floH H B).objs)[H.objs.length]? = some [iv 8, iv 2, .sl 1 [], sv ⟨#[]⟩, iv B, iv (nextI H.last)] := by
    have : (floH H B).objs[H.objs.length]? = some (floO H B) := by simp [floH]
    rw [objs_get this]
    show some [iv 8, iv 2, .sl 1 [], sv ⟨#[]⟩, iv (canI B), iv (nextI H.last)] = _
    rw [hcB]
  have he2 := falloc_yes gm (by omega) (by omega)
  have fg : flV (floH H B) (m * 2 + 1) = ofF m := by rw [flV, if_pos am, am2]
  have bg : floB (floH H B) (m * 2 + 1) = true := by simp [floB, am]
  have c24 := do_nil ((Do_24 _ gin (m * 2 + 1) (okNil gm (by omega) (by simp [hasB, am]))).to' (show _ = .tup [.agg (encHeap (floH (floH H B) (ofF m))), iv (2 * (floH H B).objs.length), iv 0] by rw [floatV, if_pos bg, newF, if_pos he2, fg]; rfl))
  obtain ⟨km, kin⟩ := flo_may gin (show In64 (ofF m) from fcan_rng _) he2
  obtain ⟨kr, ka⟩ := flo_at (floH H B) (ofF m) (by omega)
  have kn : isN (2 * ((floH H B).objs.length : Int)) = false := by simp [isN] <;> omega
  have kf : flV (floH (floH H B) (ofF m)) (2 * (floH H B).objs.length) = ofF m := by
    rw [flV, if_neg (by rw [kn]; simp), ka]
    exact canI_fcan _
  have kb : floB (floH (floH H B) (ofF m)) (2 * (floH H B).objs.length) = true := by
    rw [floB, ka]; simp [floO, newObj]
  have kl : (floH (floH H B) (ofF m)).objs.length = H.objs.length + 2 := by simp [floH]
  have kh : hasB (floH (floH H B) (ofF m)).objs.length (2 * (floH H B).objs.length) = true := by
    have := kr; simp only [HHeap.ref] at this
    simp [hasB, this]
  have c23 := do_nil ((Do_23 _ kin (2 * (floH H B).objs.length) m true (by rw [kf]; exact trunc_whole m (by omega) ⟨m1, m2⟩) (fun _ => h3) (okNil km (by omega) kh)).to' (show _ = .tup [.agg (encHeap (floH (floH H B) (ofF m))), iv (m * 2 + 1), iv 0] by rw [ftruncV, if_pos ⟨kb, rfl⟩]; rfl))
  have hlg : (encObjs (floH H B).objs).length = H.objs.length + 1 := by rw [len_objs, gl]
  clear km kin kr ka kn kf kb kl kh he2 fg bg gm gin he fm fn bm bn ok1 hB hcB gc
  generalize hG : floH H B = G at *
  generalize floH G (ofF m) = K at *
  refine gives_of Tryz.func6 rfl (Nat.le_of_ble_eq_true rfl) ?_
  (repeat' (first | refine asg ?_ | refine aops_nil ?_ | refine aw_seq ?_ | refine aw_region ?_ | refine bx 0 ?_ | refine bx 1 ?_ | fail))
  refine aw_drawP 6 [] ?_
  (repeat' (first | refine dPn ?_ | refine dP (fun _ => y_assign) ?_ | refine dP (fun _ => y_load) ?_ | refine dP (fun _ => y_iarN) ?_ | fail))
  (repeat' (first | refine mv ?_ | refine asg ?_ | refine ld ?_ | refine fp ?_ | refine bf ?_ | refine bw ?_ | refine un ?_ | refine pf ?_ | refine ex ?_ | refine ln ?_ | refine la ?_ | refine so ?_ | refine aops_nil ?_ | refine aw_seq ?_ | refine aw_region ?_ | refine aw_cond_f rfl ?_ | refine aw_skip ?_ | refine al 2 ?_ | refine al 3 ?_ | refine al 4 ?_ | refine al 5 ?_ | refine cl (fixed13_ok) ?_ | refine cl (csm) ?_ | refine cl (cm) ?_ | refine cl (ca) ?_ | refine cl (cb) ?_ | refine cl (cd) ?_ | refine cl (c24) ?_ | refine cl (c23) ?_ | refine li 30 ?_ | refine fzs 91 (fun c hc => noOwn_intsc (l := [n * 2 + 1]) hc) ?_ | refine ia H.objs.length gg ?_ (hn := by rw [hlo]) | fail))
  refine aw_drawP 32 [] ?_
  (repeat' (first | refine dPn ?_ | refine dP (fun _ => y_move) ?_ | refine dP (fun _ => y_load) ?_ | refine dP (fun _ => y_faddr_ptr (hs := Nat.le_of_ble_eq_true rfl)) ?_ | refine dP (fun _ => y_bt) ?_ | refine dP (fun _ => y_pick_t) ?_ | refine dP (fun _ => y_call (oM)) ?_ | refine dP (fun _ => y_call (oN)) ?_ | refine dP (fun _ => y_call (oO)) ?_ | fail))
  (repeat' (first | refine asg ?_ | refine aops_nil ?_ | refine aw_ret ?_ | fail))
  exact fin (sh_bv rfl)
theorem pfloat_ok (H : HHeap) (hi : H.Big) (o : Int) (m n : Int) (_ : In64 m ∧ In64 n) : Gives Tryz.prog 6 [.agg (encHeap H), iv o, .agg [iv m, iv n]] (bv true) := by
  by_cases h : smallH H = true ∧ H.objs.length ≤ 60 ∧ 12 ≤ H.objs.length ∧ mayH H = true ∧ (H.objs.length : Int) + 2 ≤ H.cap ∧ 0 ≤ o ∧ o ≤ 3 ∧ smallB m = true ∧ smallB n = true
  · obtain ⟨g1, g2, g3, g4, g5, g6, g7, g8, g9⟩ := h
    exact pflo_yes H hi o m n g1 g2 g3 g4 g5 g6 g7 g8 g9
  · exact pflo_gate H hi o m n h
end Go.Proofs.YtnjihhheiiapnaaGreat
