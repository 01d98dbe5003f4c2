/- What the statements' walks need. -/
import Derived.Test.YtnjihhheiiapnaaGreatMTa4
import Derived.Test.YtnjihhheiiapnaaGreatMTx32
import Derived.Test.YtnjihhheiiapnaaGreatMTx36
import Derived.Test.YtnjihhheiiapnaaGreatMTx37
set_option linter.unusedVariables false
set_option linter.unusedSimpArgs false
set_option maxRecDepth 100000
namespace Go.Proofs.YtnjihhheiiapnaaGreat
open Go Go.Proofs AW FM
theorem flt_Op_eq (o a b : Int) : flt_Op.f o a b = some (opI o a b) := rfl
theorem split64 (a : Int) (h : In64 a) : ∃ (s : Bool) (p : Nat), p < 2 ^ 63 ∧ a = toI s p := split a (by obtain ⟨h1, h2⟩ := h; simp only [Lit.wf, IntKind.min, IntKind.max, IntKind.signed, IntKind.bits, Bool.and_eq_true, decide_eq_true_eq, if_true]; omega)
theorem rOp_eq (o a b : Int) (ha : In64 a) (hb : In64 b) : Gives Tryz.prog 20 [iv o, iv a, iv b] (iv (opI o a b)) := by
  obtain ⟨s, p, hp, rfl⟩ := split64 a ha
  obtain ⟨t, q, hq, rfl⟩ := split64 b hb
  exact rOp_ok 197 o _ _ _ (by rw [Op_told 200 o s t p q (by omega) hp hq, flt_Op_eq])
theorem rOf_eq (n : Int) (h1 : -9007199254740992 ≤ n) (h2 : n ≤ 9007199254740992) : Gives Tryz.prog 21 [iv n] (iv (ofF n)) := by
  refine rOf_ok 199 n _ ?_
  rw [Of_ref 200 (by omega) n]
  unfold flt_Of.f
  rw [if_neg (by omega), if_neg (by omega)]
  rfl
theorem flo_may {H : HHeap} (hi : H.In) {b : Int} (hb : In64 b) (he : allocE H 8 2 0 = 0) : mayH (floH H b) = true ∧ (floH H b).In := by
  obtain ⟨hm, _, _, _, _, hne, h3⟩ := alloc0 he
  have hl := mayH_len hm
  have ha := allocH_may he
  have hin := allocH_in (cls := 8) (kind := 2) (size := 0) hi
  rw [h3] at ha hin
  constructor
  · rw [mayH_iff] at ha ⊢
    simp only [floH, List.length_append, List.length_singleton, Int.natCast_add, Int.natCast_one] at ha ⊢
    refine ⟨ha.1, fun o ho => ?_⟩
    rcases List.mem_append.1 ho with ho | ho
    · exact ha.2 o (List.mem_append.2 (.inl ho))
    · simp only [List.mem_singleton] at ho; subst ho
      have hn := ha.2 (newObj H 8 2 0) (by simp)
      simp only [mayObj, headB, kindB, restB, Bool.and_eq_true, decide_eq_true_eq] at hn ⊢
      refine ⟨hn.1, ⟨hn.2.1.1, hn.2.1.2.1, fun h => absurd rfl h⟩, ⟨hn.2.2.1.1, hn.2.2.1.2.1, canI_idem b⟩, hn.2.2.2⟩
  · refine ⟨fun o ho => ?_, hin.2.1, hin.2.2.1, by simp [floH]; omega⟩
    rcases List.mem_append.1 ho with ho | ho
    · exact hi.1 o ho
    · simp only [List.mem_singleton] at ho; subst ho
      have hn := hin.1 (newObj H 8 2 0) (by simp)
      exact ⟨hn.1, hn.2.1, hn.2.2.1, canI_rng hb, hn.2.2.2.2⟩
end Go.Proofs.YtnjihhheiiapnaaGreat
namespace Go.Proofs.YtnjihhheiiapnaaGreat
open Go Go.Proofs AW
theorem fail13 (H : HHeap) : Gives Tryz.prog 28 [.agg (encHeap H)] (doV H 0 130) := by
  refine gives_of Tryz.func28 rfl (Nat.le_of_ble_eq_true rfl) ?_
  (repeat' (first | refine asg ?_ | refine la ?_ | refine so ?_ | refine aops_nil ?_ | refine aw_seq ?_ | refine aw_region ?_ | refine aw_ret ?_ | refine bx 0 ?_ | refine al 1 ?_ | fail))
  exact fin sh_do
theorem fail13' (H : HHeap) : Gives Tryz.prog 28 [.agg (encHeap H)] (.tup [.agg (encHeap H), iv 0, iv 130]) := fail13 H
theorem integer13 (H : HHeap) (n : Int) : Gives Tryz.prog 85 [.agg (encHeap H), iv n] (outV H (some n)) := by
  have cf := fail13' H
  by_cases h : smallB n = true
  · have ci := (rInt_ok n).to' (by rw [if_pos h, h])
    rw [outV, if_pos h]
    refine gives_of Tryz.func85 rfl (Nat.le_of_ble_eq_true rfl) ?_
    (repeat' (first | refine mv ?_ | refine asg ?_ | refine un ?_ | refine ex ?_ | refine la ?_ | refine so ?_ | refine aops_nil ?_ | refine aw_seq ?_ | refine aw_region ?_ | refine aw_cond_f rfl ?_ | refine aw_skip ?_ | refine aw_ret ?_ | refine bx 0 ?_ | refine al 1 ?_ | refine cl (ci) ?_ | fail))
    exact fin sh_do
  · have ci := (rInt_ok n).to' (by rw [if_neg h, eq_false_of_ne_true h])
    rw [outV, if_neg h]
    refine gives_of Tryz.func85 rfl (Nat.le_of_ble_eq_true rfl) ?_
    (repeat' (first | refine mv ?_ | refine asg ?_ | refine un ?_ | refine ex ?_ | refine la ?_ | refine so ?_ | refine aops_nil ?_ | refine aw_seq ?_ | refine aw_region ?_ | refine aw_cond_t rfl ?_ | refine aw_ret ?_ | refine bx 0 ?_ | refine al 1 ?_ | refine cl (ci) ?_ | refine cl (cf) ?_ | fail))
    exact fin sh_do
theorem truth13 (H : HHeap) (b : Bool) : Gives Tryz.prog 87 [.agg (encHeap H), bv b] (doV H (truI b) 0) := by
  cases b
  all_goals refine gives_of Tryz.func87 rfl (Nat.le_of_ble_eq_true rfl) ?_
  all_goals (repeat' (first | refine mv ?_ | refine asg ?_ | refine la ?_ | refine so ?_ | refine aops_nil ?_ | refine aw_seq ?_ | refine aw_region ?_ | refine aw_cond_t rfl ?_ | refine aw_cond_f rfl ?_ | refine aw_skip ?_ | refine aw_ret ?_ | refine bx 0 ?_ | refine al 1 ?_ | fail))
  all_goals exact fin sh_do
def tookV (H G : HHeap) (e v : Int) : AV := if e = 0 then doV G v 0 else doV H 0 130
theorem took13 (H G : HHeap) (e v : Int) : Gives Tryz.prog 89 [.agg (encHeap H), .agg (encHeap G), iv e, iv v] (tookV H G e v) := by
  have cf := fail13' H
  by_cases h : e = 0
  · rw [tookV, if_pos h]
    refine gives_of Tryz.func89 rfl (Nat.le_of_ble_eq_true rfl) ?_
    (repeat' (first | refine mv ?_ | refine asg ?_ | refine bf ?_ | refine la ?_ | refine so ?_ | refine aops_nil ?_ | refine aw_seq ?_ | refine aw_region ?_ | refine aw_cond_f rfl ?_ | refine aw_skip ?_ | refine aw_ret ?_ | refine bx 0 ?_ | refine bx 1 ?_ | refine al 2 ?_ | fail))
    exact fin sh_do
  · rw [tookV, if_neg h]
    refine gives_of Tryz.func89 rfl (Nat.le_of_ble_eq_true rfl) ?_
    (repeat' (first | refine mv ?_ | refine asg ?_ | refine bt ?_ | refine ex ?_ | refine la ?_ | refine so ?_ | refine aops_nil ?_ | refine aw_seq ?_ | refine aw_region ?_ | refine aw_cond_t rfl ?_ | refine aw_ret ?_ | refine bx 0 ?_ | refine bx 1 ?_ | refine al 2 ?_ | refine cl (cf) ?_ | fail))
    exact fin sh_do
def newA (H : HHeap) (cls kind size : Int) : AV := if allocE H cls kind size = 0 then doV (allocH H cls kind size) (2 * H.objs.length) 0 else if allocE H cls kind size = 30 then doV H 0 30 else doV H 0 130
theorem alloc13 (H : HHeap) (hi : H.In) (cls kind size : Int) : Gives Tryz.prog 96 [.agg (encHeap H), iv cls, iv kind, iv size] (newA H cls kind size) := by
  have cf := fail13' H
  have ca := rAlloc_ok H hi cls kind size
  by_cases h : allocE H cls kind size = 0
  · have e2 : allocV H cls kind size = 2 * H.objs.length := by rw [allocV, if_pos h]
    rw [h, e2] at ca
    rw [newA, if_pos h]
    refine gives_of Tryz.func96 rfl (Nat.le_of_ble_eq_true rfl) ?_
    (repeat' (first | refine mv ?_ | refine asg ?_ | refine bf ?_ | refine ex ?_ | refine la ?_ | refine so ?_ | refine aops_nil ?_ | refine aw_seq ?_ | refine aw_region ?_ | refine aw_cond_f rfl ?_ | refine aw_skip ?_ | refine aw_ret ?_ | refine bx 0 ?_ | refine al 1 ?_ | refine al 2 ?_ | refine cl (ca) ?_ | fail))
    exact fin sh_do
  · by_cases h2 : allocE H cls kind size = 30
    · rw [newA, if_neg h, if_pos h2]
      rw [h2] at ca
      refine gives_of Tryz.func96 rfl (Nat.le_of_ble_eq_true rfl) ?_
      (repeat' (first | refine mv ?_ | refine asg ?_ | refine bt ?_ | refine ex ?_ | refine la ?_ | refine so ?_ | refine aops_nil ?_ | refine aw_seq ?_ | refine aw_region ?_ | refine aw_cond_t rfl ?_ | refine aw_ret ?_ | refine bx 0 ?_ | refine al 1 ?_ | refine al 2 ?_ | refine cl (ca) ?_ | fail))
      exact fin sh_do
    · rw [newA, if_neg h, if_neg h2]
      generalize allocE H cls kind size = e at *
      refine gives_of Tryz.func96 rfl (Nat.le_of_ble_eq_true rfl) ?_
      (repeat' (first | refine mv ?_ | refine asg ?_ | refine bt ?_ | refine bf ?_ | refine ex ?_ | refine la ?_ | refine so ?_ | refine aops_nil ?_ | refine aw_seq ?_ | refine aw_region ?_ | refine aw_cond_t rfl ?_ | refine aw_cond_f rfl ?_ | refine aw_skip ?_ | refine aw_ret ?_ | refine bx 0 ?_ | refine al 1 ?_ | refine al 2 ?_ | refine cl (cf) ?_ | refine cl (ca) ?_ | fail))
      exact fin sh_do
theorem floated13 (H : HHeap) (hi : H.In) (v : Int) (hv : hasV H v) : Gives Tryz.prog 99 [.agg (encHeap H), iv v] (.tup [iv (flV H v), bv (floB H v)]) := by
  have cn := rN_ok v
  cases hn : isN v with
  | true =>
    have hr := nI_rng hn
    have cn := cn.to' (by rw [hn])
    have co := rOf_eq (nI v) (by omega) (by omega)
    have e1 : flV H v = ofF (nI v) := by rw [flV, if_pos hn]
    have e2 : floB H v = true := by simp [floB, hn]
    rw [e1, e2]
    refine gives_of Tryz.func99 rfl (Nat.le_of_ble_eq_true rfl) ?_
    (repeat' (first | refine mv ?_ | refine asg ?_ | refine ex ?_ | refine aops_nil ?_ | refine aw_seq ?_ | refine aw_region ?_ | refine aw_cond_t rfl ?_ | refine aw_ret ?_ | refine bx 0 ?_ | refine cl (cn) ?_ | refine cl (co) ?_ | fail))
    refine fin (sh_ib ?_ ?_) <;> rfl
  | false =>
    have cn := cn.to' (by rw [hn])
    have h0 : 0 ≤ H.ref v := by rcases hv with h | h; · rw [hn] at h; cases h
                                · exact h
    have cr := rRef_ok H v hi.2.2.2
    have hg : (encObjs H.objs)[(H.ref v).toNat]? = some (encObj (H.at' v)) := objs_get (at_get h0)
    have hq : refI H.objs.length v = ((H.ref v).toNat : Int) := (Int.toNat_of_nonneg h0).symm
    have e1 : flV H v = (H.at' v).bits := by rw [flV, if_neg (by rw [hn]; simp)]
    have e2 : floB H v = ((H.at' v).kind == 2) := by simp [floB, hn]; rfl
    rw [e1, e2]
    refine gives_of Tryz.func99 rfl (Nat.le_of_ble_eq_true rfl) ?_
    (repeat' (first | refine mv ?_ | refine asg ?_ | refine ex ?_ | refine la ?_ | refine aops_nil ?_ | refine aw_seq ?_ | refine aw_region ?_ | refine aw_cond_f rfl ?_ | refine aw_skip ?_ | refine bx 0 ?_ | refine cl (cn) ?_ | refine cl (cr) ?_ | fail))
    refine aw_wipe 4 ?_
    refine aw_wipe 5 ?_
    refine aw_drawP 15 [] ?_
    (repeat' (first | refine dPn ?_ | refine dP (fun _ => y_move) ?_ | refine dP (fun _ => y_assign) ?_ | refine dP (fun _ => y_load) ?_ | refine dP (fun _ => y_faddr_ptr (hs := Nat.le_of_ble_eq_true rfl)) ?_ | refine dP (fun _ => y_faddr_ip) ?_ | refine dP (fun _ => y_bin) ?_ | refine dP (fun _ => (y_iaddrN (H.ref v).toNat hg (hn := hq))) ?_ | fail))
    (repeat' (first | refine aops_nil ?_ | refine aw_ret ?_ | fail))
    refine fin (sh_ib ?_ ?_) <;> rfl
end Go.Proofs.YtnjihhheiiapnaaGreat
