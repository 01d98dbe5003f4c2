/- What the statements' walks need. -/
import Derived.Test.YtnjihhheiiapnaaGreatMTa4
import Derived.Test.YtnjihhheiiapnaaGreatMTx44
import Derived.Test.YtnjihhheiiapnaaGreatMTx41
import Derived.Test.YtnjihhheiiapnaaGreatMTx43
import Derived.Test.YtnjihhheiiapnaaGreatMTx37
set_option linter.unusedVariables false
set_option linter.unusedSimpArgs false
set_option maxRecDepth 100000
namespace Go.Proofs.YtnjihhheiiapnaaGreat
open Go Go.Proofs AW
theorem hi_no {H : HHeap} {s : Int} (hs : hasB H.objs.length s = true) (h : hiB s = false) : H.ref s < 12 := by
  have := hi_ref hs
  rw [h] at this
  have := of_decide_eq_false this.symm
  omega
theorem hi_yes {H : HHeap} {s : Int} (hs : hasB H.objs.length s = true) (h : hiB s = true) : 12 ≤ H.ref s := by
  have := hi_ref hs
  rw [h] at this
  exact of_decide_eq_true this.symm
set_option maxHeartbeats 16000000 in
theorem id13_16 (H : HHeap) (hi : H.In) (hm : mayH H = true) (s x : Int) (hs : hasB H.objs.length s = true) (hx : hasB H.objs.length x = true) : Gives Tryz.prog 32 [.agg (encHeap H), iv 16, iv s, .sl 1 (encInts [x])] (becV H s x) := by
  have cf := fail13' H
  have c1 : Gives Tryz.prog 22 [.agg (encHeap H), iv s] (iv (H.ref s)) := rRef_ok H s hi.2.2.2
  have c2 : Gives Tryz.prog 22 [.agg (encHeap H), iv x] (iv (H.ref x)) := rRef_ok H x hi.2.2.2
  cases h1 : hiB s with
  | false =>
    rw [becV, if_neg (by rw [h1]; simp)]
    have := hi_no hs h1
    refine gives_of Tryz.func32 rfl (Nat.le_of_ble_eq_true rfl) ?_
    (repeat' (first | refine mv ?_ | refine asg ?_ | refine bf ?_ | refine la ?_ | refine aops_nil ?_ | refine aw_seq ?_ | refine aw_region ?_ | refine aw_cond_f rfl ?_ | refine aw_block ?_ | refine aw_skip ?_ | refine bx 0 ?_ | refine al 1 ?_ | refine cl (c1) ?_ | fail))
    refine aw_drawP 10 [] ?_
    (repeat' (first | refine dPk ?_ | refine dPn ?_ | refine dP (fun _ => y_move) ?_ | refine dP (fun _ => y_bt) ?_ | refine dP (fun _ => y_pick_t) ?_ | fail))
    (repeat' (first | refine asg ?_ | refine ex ?_ | refine la ?_ | refine so ?_ | refine aops_nil ?_ | refine aw_seq ?_ | refine aw_region ?_ | refine aw_cond_t rfl ?_ | refine aw_ret ?_ | refine cl (cf) ?_ | fail))
    exact fin sh_do
  | true =>
  have g1 := hi_yes hs h1
  cases h2 : hiB x with
  | false =>
    rw [becV, if_neg (by rw [h2]; simp)]
    have := hi_no hx h2
    refine gives_of Tryz.func32 rfl (Nat.le_of_ble_eq_true rfl) ?_
    (repeat' (first | refine mv ?_ | refine asg ?_ | refine bf ?_ | refine la ?_ | refine aops_nil ?_ | refine aw_seq ?_ | refine aw_region ?_ | refine aw_cond_f rfl ?_ | refine aw_block ?_ | refine aw_skip ?_ | refine bx 0 ?_ | refine al 1 ?_ | refine cl (c1) ?_ | fail))
    refine aw_drawP 10 [] ?_
    (repeat' (first | refine dPn ?_ | refine dP (fun _ => y_move) ?_ | refine dP (fun _ => y_load) ?_ | refine dP (fun _ => y_bt) ?_ | refine dP (fun _ => y_bf) ?_ | refine dP (fun _ => y_pick_f) ?_ | refine dP (fun _ => y_loadsN) ?_ | refine dP (fun _ => (y_iaddrN 0 rfl)) ?_ | refine dP (fun _ => y_call (c2)) ?_ | fail))
    (repeat' (first | refine asg ?_ | refine ex ?_ | refine la ?_ | refine so ?_ | refine aops_nil ?_ | refine aw_seq ?_ | refine aw_region ?_ | refine aw_cond_t rfl ?_ | refine aw_ret ?_ | refine cl (cf) ?_ | fail))
    exact fin sh_do
  | true =>
    have g2 := hi_yes hx h2
    rw [becV, if_pos ⟨h1, h2⟩]
    have cb := rBecome_ok H hi s x
    refine gives_of Tryz.func32 rfl (Nat.le_of_ble_eq_true rfl) ?_
    (repeat' (first | refine mv ?_ | refine asg ?_ | refine bf ?_ | refine la ?_ | refine aops_nil ?_ | refine aw_seq ?_ | refine aw_region ?_ | refine aw_cond_f rfl ?_ | refine aw_block ?_ | refine aw_skip ?_ | refine bx 0 ?_ | refine al 1 ?_ | refine cl (c1) ?_ | fail))
    refine aw_drawP 10 [] ?_
    (repeat' (first | refine dPn ?_ | refine dP (fun _ => y_move) ?_ | refine dP (fun _ => y_load) ?_ | refine dP (fun _ => y_bf) ?_ | refine dP (fun _ => y_pick_f) ?_ | refine dP (fun _ => y_loadsN) ?_ | refine dP (fun _ => (y_iaddrN 0 rfl)) ?_ | refine dP (fun _ => y_call (c2)) ?_ | fail))
    (repeat' (first | refine aops_nil ?_ | refine aw_seq ?_ | refine aw_cond_f rfl ?_ | refine aw_skip ?_ | fail))
    refine aw_drawP 11 [(9, 5, .live 24 3 [[.v (.slice none 0 0), iv 0, iv 0]], none), (10, 5, .live 24 3 [encHeap (becomeH H s x)], none)] ?_
    (repeat' (first | refine dPn ?_ | refine dP (fun _ => y_move) ?_ | refine dP (fun _ => y_extract) ?_ | refine dP (fun _ => y_load) ?_ | refine dP (fun _ => y_loadsN) ?_ | refine dPS (fun _ => y_storeV) ?_ | refine dP (fun _ => (y_iaddrN 0 rfl)) ?_ | refine dP (fun _ => y_call (cb)) ?_ | refine dPE (fun _ => y_allocU 5) ?_ | fail))
    (repeat' (first | refine mv ?_ | refine asg ?_ | refine la ?_ | refine so ?_ | refine aops_nil ?_ | refine aw_seq ?_ | refine aw_region ?_ | refine aw_ret ?_ | fail))
    exact fin sh_do
end Go.Proofs.YtnjihhheiiapnaaGreat
namespace Go.Proofs.YtnjihhheiiapnaaGreat
open Go Go.Proofs AW
def okA (H : HHeap) (s : Int) : Bool := mayH H && decide (12 ≤ H.objs.length) && hasB H.objs.length s
def okT (H : HHeap) (s : Int) (a : List Int) (k : Nat) : Bool := okA H s && (a.take k).all (hasB H.objs.length)
theorem okT_all (H : HHeap) (s : Int) (a : List Int) : okT H s a a.length = okV H s a := by rw [okT, okA, okV, List.take_length]
theorem okT_step (H : HHeap) (s : Int) (a : List Int) (k : Nat) (x : Int) (h : a[k]? = some x) : okT H s a (k + 1) = (okT H s a k && hasB H.objs.length x) := by
  rw [okT, okT, List.take_add_one, h]
  simp [Bool.and_assoc]
def doE (num s : Int) (a : List Int) (k : Nat) (b : Bool) : List (Nat × AV) := [(12, iv (k : Int)), (11, bv b), (4, .ptr 0 0 0), (8, .ptr 1 0 0), (1, iv num), (2, iv s), (3, .sl 1 (encInts a))]
def Part (H : HHeap) (num s : Int) (a : List Int) (G : HHeap) (v e : Int) : Prop :=
  (num ≤ 7 ∧ ∃ x, a = [x] ∧ Gives Tryz.prog 29 [.agg (encHeap H), iv num, iv s, iv x] (doV G v e)) ∨
  (7 < num ∧ (num ≤ 10 ∨ num = 25 ∨ num = 26) ∧ Gives Tryz.prog 30 [.agg (encHeap H), iv num, iv s, .sl 1 (encInts a)] (doV G v e)) ∨
  (10 < num ∧ (num ≤ 12 ∨ num = 27) ∧ Gives Tryz.prog 31 [.agg (encHeap H), iv num, iv s, .sl 1 (encInts a)] (doV G v e)) ∨
  (12 < num ∧ num ≤ 16 ∧ Gives Tryz.prog 32 [.agg (encHeap H), iv num, iv s, .sl 1 (encInts a)] (doV G v e)) ∨
  (16 < num ∧ num < 25 ∧ Gives Tryz.prog 33 [.agg (encHeap H), iv num, iv s, .sl 1 (encInts a)] (doV G v e))
set_option maxHeartbeats 16000000 in
theorem rDo_ok (H : HHeap) (hi : H.In) (num s : Int) (a : List Int) (hn : In64 num) (hl : a.length < 1099511627776) (G : HHeap) (v e : Int) (h1 : okV H s a = false → doV G v e = doV emptyH 0 1)
    (h2 : okV H s a = true → ¬ (argsB num = true ∧ argsI num = a.length) → doV G v e = doV H 0 130) (h3 : okV H s a = true → (argsB num = true ∧ argsI num = a.length) → Part H num s a G v e) :
    Gives Tryz.prog 12 [.agg (encHeap H), iv num, iv s, .sl 1 (encInts a)] (doV G v e) := by
  have hla : (encInts a).length = a.length := len_ints _
  have hlo : (encObjs H.objs).length = H.objs.length := len_objs _
  have cm := rMay_ok H hi
  have cs' := rHas_ok H s hi.2.2.2
  have cf := fail13' H
  have hah := fun x => rHas_ok H x hi.2.2.2
  obtain ⟨n1, n2⟩ := hn
  refine gives_of Tryz.func12 rfl (Nat.le_of_ble_eq_true rfl) ?_
  refine aw_seq (aw_region ?_)
  (repeat' (first | refine asg ?_ | refine aops_nil ?_ | refine bx 0 ?_ | refine al 1 ?_ | fail))
  refine aw_cutE (ι := {b : Bool // b = okA H s}) (fun b => [(11, bv b.1), (4, .ptr 0 0 0), (8, .ptr 1 0 0), (1, iv num), (2, iv s), (3, .sl 1 (encInts a))]) ?_ ?_
  · cases hm : mayH H <;> cases hs : hasB H.objs.length s <;> by_cases h12 : 12 ≤ H.objs.length
    all_goals rw [hm] at cm
    all_goals rw [hs] at cs'
    all_goals (repeat' (first | refine sk ?_ | refine mv ?_ | refine asg ?_ | refine ld ?_ | refine fp ?_ | refine bt ?_ | refine bf ?_ | refine pt ?_ | refine pf ?_ | refine ln ?_ | refine la ?_ | refine aops_nil ?_ | refine aw_region ?_ | refine cl (cm) ?_ | refine cl (cs') ?_ | fail))
    all_goals (refine ⟨⟨_, ?_⟩, rfl, rfl, rfl, rfl, rfl, rfl, rfl, trivial⟩; simp [okA, hm, hs, h12])
  rintro ⟨b, rfl⟩
  (repeat' (first | refine asg ?_ | refine aops_nil ?_ | refine aw_seq ?_ | refine aw_region ?_ | refine aw_block ?_ | fail))
  refine aw_forE a.length (fun k => k ≤ a.length) (fun k => doE num s a k (okT H s a k)) 0 (by omega) ⟨rfl, congrArg (fun b => some (bv b)) (by simp [okT] : okA H s = okT H s a 0), rfl, rfl, rfl, rfl, rfl, trivial⟩ ?_
  intro k hk
  (repeat' (first | refine mv ?_ | refine bi ?_ | refine ln ?_ | refine aops_nil ?_ | refine aw_seq ?_ | refine aw_region ?_ | fail))
  refine aw_cond rfl (fun h => ?_) (fun h => ?_) <;> simp at h
  · have g1 : a[k]? = some a[k] := List.getElem?_eq_getElem h
    generalize hx : a[k] = x at g1
    have c1 := hah x
    have es := okT_step H s a k x g1
    cases hb : okT H s a k with
    | false =>
      rw [hb, Bool.false_and] at es
      (repeat' (first | refine aw_seq ?_ | refine aw_block ?_ | refine aw_skip ?_ | fail))
      refine aw_drawP 9 [] ?_
      (repeat' (first | refine dPk ?_ | refine dPn ?_ | refine dP (fun _ => y_move) ?_ | refine dP (fun _ => y_pick_f) ?_ | fail))
      (repeat' (first | refine mv ?_ | refine asg ?_ | refine bw ?_ | refine aops_nil ?_ | refine aw_region ?_ | fail))
      refine ⟨h, by omega, rfl, rfl, congrArg (fun b => some (bv b)) es.symm, rfl, rfl, rfl, rfl, rfl, trivial⟩
    | true =>
      rw [hb, Bool.true_and] at es
      (repeat' (first | refine aw_seq ?_ | refine aw_block ?_ | refine aw_skip ?_ | fail))
      refine aw_drawP 9 [] ?_
      (repeat' (first | refine dPn ?_ | refine dP (fun _ => y_move) ?_ | refine dP (fun _ => y_load) ?_ | refine dP (fun _ => y_pick_t) ?_ | refine dP (fun _ => y_loadsN) ?_ | refine dP (fun _ => y_iaddrN k (ints_get g1)) ?_ | refine dP (fun _ => y_call (c1)) ?_ | fail))
      (repeat' (first | refine mv ?_ | refine asg ?_ | refine bw ?_ | refine aops_nil ?_ | refine aw_region ?_ | fail))
      refine ⟨h, by omega, rfl, rfl, congrArg (fun b => some (bv b)) es.symm, rfl, rfl, rfl, rfl, rfl, trivial⟩
  · have hks : k = a.length := by omega
    subst hks
    rw [okT_all]
    cases hok : okV H s a with
    | false =>
      have e0 := h1 hok
      (repeat' (first | refine mv ?_ | refine asg ?_ | refine un ?_ | refine so ?_ | refine bd ?_ | refine aops_nil ?_ | refine aw_seq ?_ | refine aw_region ?_ | refine aw_cond_t rfl ?_ | refine aw_exit ?_ | refine aw_ret ?_ | fail))
      refine fin ?_
      rw [e0]
      exact sh_doE
    | true =>
      have ca := args13 num ⟨n1, n2⟩
      by_cases hA : argsB num = true ∧ argsI num = a.length
      · obtain ⟨hA1, hA2⟩ := hA
        have hp := h3 hok ⟨hA1, hA2⟩
        have h27 : 1 ≤ num ∧ num ≤ 27 := by simp [argsB] at hA1; omega
        rw [hA1, hA2] at ca
        rcases hp with ⟨p1, x, rfl, p2⟩ | ⟨p1, p2, p3⟩ | ⟨p1, p2, p3⟩ | ⟨p1, p2, p3⟩ | ⟨p1, p2, p3⟩
        · have cp : Gives Tryz.prog 29 [.agg (encHeap H), iv num, iv s, iv x] (.tup [.agg (encHeap G), iv v, iv e]) := p2
          (repeat' (first | refine mv ?_ | refine asg ?_ | refine bt ?_ | refine bf ?_ | refine un ?_ | refine pf ?_ | refine ex ?_ | refine ln ?_ | refine aops_nil ?_ | refine aw_seq ?_ | refine aw_region ?_ | refine aw_cond_t rfl ?_ | refine aw_cond_f rfl ?_ | refine aw_exit ?_ | refine aw_skip ?_ | refine cl (ca) ?_ | fail))
          refine aw_drawP 10 [] ?_
          (repeat' (first | refine dPn ?_ | refine dP (fun _ => y_move) ?_ | refine dP (fun _ => y_extract) ?_ | refine dP (fun _ => y_load) ?_ | refine dP (fun _ => y_loadsN) ?_ | refine dP (fun _ => y_iaddrN 0 rfl) ?_ | refine dP (fun _ => y_call (cp)) ?_ | fail))
          (repeat' (first | refine asg ?_ | refine so ?_ | refine aops_nil ?_ | refine aw_ret ?_ | fail))
          exact fin sh_do
        · have cp : Gives Tryz.prog 30 [.agg (encHeap H), iv num, iv s, .sl 1 (encInts a)] (.tup [.agg (encHeap G), iv v, iv e]) := p3
          rcases p2 with p2 | p2 | p2
          all_goals (repeat' (first | refine sk ?_ | refine mv ?_ | refine asg ?_ | refine bt ?_ | refine bf ?_ | refine un ?_ | refine pt ?_ | refine pf ?_ | refine ex ?_ | refine ln ?_ | refine la ?_ | refine so ?_ | refine aops_nil ?_ | refine aw_seq ?_ | refine aw_region ?_ | refine aw_cond_t rfl ?_ | refine aw_cond_f rfl ?_ | refine aw_exit ?_ | refine aw_skip ?_ | refine aw_ret ?_ | refine cl (ca) ?_ | refine cl (cp) ?_ | fail))
          all_goals exact fin sh_do
        · have cp : Gives Tryz.prog 31 [.agg (encHeap H), iv num, iv s, .sl 1 (encInts a)] (.tup [.agg (encHeap G), iv v, iv e]) := p3
          rcases p2 with p2 | p2
          all_goals (repeat' (first | refine sk ?_ | refine mv ?_ | refine asg ?_ | refine bt ?_ | refine bf ?_ | refine un ?_ | refine pt ?_ | refine pf ?_ | refine ex ?_ | refine ln ?_ | refine la ?_ | refine so ?_ | refine aops_nil ?_ | refine aw_seq ?_ | refine aw_region ?_ | refine aw_cond_t rfl ?_ | refine aw_cond_f rfl ?_ | refine aw_exit ?_ | refine aw_skip ?_ | refine aw_ret ?_ | refine cl (ca) ?_ | refine cl (cp) ?_ | fail))
          all_goals exact fin sh_do
        · have cp : Gives Tryz.prog 32 [.agg (encHeap H), iv num, iv s, .sl 1 (encInts a)] (.tup [.agg (encHeap G), iv v, iv e]) := p3
          (repeat' (first | refine mv ?_ | refine asg ?_ | refine bt ?_ | refine bf ?_ | refine un ?_ | refine pf ?_ | refine ex ?_ | refine ln ?_ | refine la ?_ | refine so ?_ | refine aops_nil ?_ | refine aw_seq ?_ | refine aw_region ?_ | refine aw_cond_t rfl ?_ | refine aw_cond_f rfl ?_ | refine aw_exit ?_ | refine aw_skip ?_ | refine aw_ret ?_ | refine cl (ca) ?_ | refine cl (cp) ?_ | fail))
          exact fin sh_do
        · have cp : Gives Tryz.prog 33 [.agg (encHeap H), iv num, iv s, .sl 1 (encInts a)] (.tup [.agg (encHeap G), iv v, iv e]) := p3
          (repeat' (first | refine mv ?_ | refine asg ?_ | refine bf ?_ | refine un ?_ | refine pf ?_ | refine ex ?_ | refine ln ?_ | refine la ?_ | refine so ?_ | refine aops_nil ?_ | refine aw_seq ?_ | refine aw_region ?_ | refine aw_cond_f rfl ?_ | refine aw_exit ?_ | refine aw_skip ?_ | refine aw_ret ?_ | refine cl (ca) ?_ | refine cl (cp) ?_ | fail))
          exact fin sh_do
      · have e0 := h2 hok hA
        have hq : argsB num = false ∨ (argsB num = true ∧ argsI num ≠ a.length) := by
          cases hb : argsB num with
          | false => exact .inl rfl
          | true => exact .inr ⟨rfl, fun e => hA ⟨hb, e⟩⟩
        rcases hq with hq | ⟨hq, hq2⟩
        · rw [hq] at ca
          (repeat' (first | refine sk ?_ | refine mv ?_ | refine asg ?_ | refine un ?_ | refine pt ?_ | refine ex ?_ | refine la ?_ | refine so ?_ | refine aops_nil ?_ | refine aw_seq ?_ | refine aw_region ?_ | refine aw_cond_t rfl ?_ | refine aw_cond_f rfl ?_ | refine aw_exit ?_ | refine aw_skip ?_ | refine aw_ret ?_ | refine cl (ca) ?_ | refine cl (cf) ?_ | fail))
          refine fin ?_
          rw [e0]
          exact sh_do
        · rw [hq] at ca
          (repeat' (first | refine mv ?_ | refine asg ?_ | refine bt ?_ | refine un ?_ | refine pf ?_ | refine ex ?_ | refine ln ?_ | refine la ?_ | refine so ?_ | refine aops_nil ?_ | refine aw_seq ?_ | refine aw_region ?_ | refine aw_cond_t rfl ?_ | refine aw_cond_f rfl ?_ | refine aw_exit ?_ | refine aw_skip ?_ | refine aw_ret ?_ | refine cl (ca) ?_ | refine cl (cf) ?_ | fail))
          refine fin ?_
          rw [e0]
          exact sh_do
end Go.Proofs.YtnjihhheiiapnaaGreat
