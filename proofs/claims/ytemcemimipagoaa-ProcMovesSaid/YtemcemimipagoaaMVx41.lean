/- What the statements' walks need. -/
import Derived.Test.YtemcemimipagoaaMVa4
import Derived.Test.YtemcemimipagoaaMVx40
set_option linter.unusedVariables false
set_option linter.unusedSimpArgs false
set_option maxRecDepth 100000
namespace Go.Proofs.Ytemcemimipagoaa
open Go Go.Proofs AW
def takeR (H : HHeap) (first : Int) : AV := .tup [.agg (encHeap (takeHp H first)), iv (takeP H first), iv (takeV H first), iv (takeE H first)]
def dropR (H : HHeap) (first p : Int) : AV := .tup [.agg (encHeap (dropHp H first p)), iv (dropV H first p), iv (dropE H first p)]
set_option maxHeartbeats 16000000 in
theorem Take_ok (H : HHeap) (hi : H.In) (first : Int) : Gives Try.prog 10 [.agg (encHeap H), iv first] (takeR H first) := by
  cases hm : mayH H with
  | false =>
    have cl' := plist_arg H hi hm first
    have ck := pkept_ok H 1
    have e1 : takeE H first = 1 := by simp [takeE, lstE, hm]
    rw [takeR, takeHp, takeP, takeV, e1]
    refine gives_of Try.func10 rfl (Nat.le_of_ble_eq_true rfl) ?_
    (repeat' (first | refine sk ?_ | refine mv ?_ | refine asg ?_ | refine bt ?_ | refine bf ?_ | refine pf ?_ | refine ex ?_ | refine la ?_ | refine so ?_ | refine aops_nil ?_ | refine aw_seq ?_ | refine aw_region ?_ | refine aw_cond_t rfl ?_ | refine aw_cond_f rfl ?_ | refine aw_skip ?_ | refine aw_ret ?_ | refine bx 0 ?_ | refine al 1 ?_ | refine al 2 ?_ | refine cl (cl') ?_ | refine cl (ck) ?_ | fail))
    exact fin (.same _ (by simp))
  | true =>
    have hlen := mayH_len hm
    have cl' := plist_ok H hi hm first
    by_cases h0 : (lstI H first).2 = 0
    rotate_left
    · have ck := pkept_ok H 141
      have e0 : (lstI H first).2 = 141 := by rcases lstI_err H first with h | h; exact absurd h h0; rw [h]
      have e1 : takeE H first = 141 := by simp [takeE, lstE, hm, e0]
      have cl' := plist_err H hi hm first h0
      rw [takeR, takeHp, takeP, takeV, e1]
      refine gives_of Try.func10 rfl (Nat.le_of_ble_eq_true rfl) ?_
      (repeat' (first | refine sk ?_ | refine mv ?_ | refine asg ?_ | refine bt ?_ | refine bf ?_ | refine pf ?_ | refine ex ?_ | refine la ?_ | refine so ?_ | refine aops_nil ?_ | refine aw_seq ?_ | refine aw_region ?_ | refine aw_cond_t rfl ?_ | refine aw_cond_f rfl ?_ | refine aw_skip ?_ | refine aw_ret ?_ | refine bx 0 ?_ | refine al 1 ?_ | refine al 2 ?_ | refine cl (cl') ?_ | refine cl (ck) ?_ | fail))
      exact fin (.same _ (by simp))
    have hll := lst_len h0
    obtain ⟨hch, hnd⟩ := lstI_ok h0
    have hlE : lstE H first = 0 := by simp [lstE, hm, h0]
    have hlL : lstL H first = (lstI H first).1 := by simp [lstL, hm]
    have hle : (encInts (lstI H first).1).length = (lstI H first).1.length := len_ints _
    rw [h0] at cl'
    by_cases hne : (lstI H first).1.length = 0
    · have hni : (lstI H first).1 = [] := List.eq_nil_of_length_eq_zero hne
      have ck := pkept_ok H 141
      have e1 : takeE H first = 141 := by rw [takeE, if_pos hlE, hlL, if_pos (List.eq_nil_of_length_eq_zero hne)]
      rw [takeR, takeHp, takeP, takeV, e1]
      refine gives_of Try.func10 rfl (Nat.le_of_ble_eq_true rfl) ?_
      (repeat' (first | refine mv ?_ | refine asg ?_ | refine bt ?_ | refine pt ?_ | refine ex ?_ | refine ln ?_ | refine la ?_ | refine so ?_ | refine aops_nil ?_ | refine aw_seq ?_ | refine aw_region ?_ | refine aw_cond_t rfl ?_ | refine aw_ret ?_ | refine bx 0 ?_ | refine al 1 ?_ | refine al 2 ?_ | refine cl (cl') ?_ | refine cl (ck) ?_ | fail))
      exact fin (.same _ (by simp))
    · have hni : ¬ (lstI H first).1 = [] := fun e => hne (by rw [e]; rfl)
      have e1 : takeE H first = 0 := by rw [takeE, if_pos hlE, hlL, if_neg (fun e => hne (by rw [e]; rfl))]
      have cw := without_ok H hi hm _ (chn_prc hch) hnd (by omega) 0 (by omega)
      have e2 : (lstI H first).1.eraseIdx 0 = (lstI H first).1.tail := by simp
      unfold woR at cw
      rw [takeR, takeHp, takeP, takeV, e1, if_pos rfl, if_pos rfl, if_pos rfl, hlL, ← e2]
      refine gives_of Try.func10 rfl (Nat.le_of_ble_eq_true rfl) ?_
      (repeat' (first | refine mv ?_ | refine asg ?_ | refine bt ?_ | refine bf ?_ | refine pt ?_ | refine ex ?_ | refine ln ?_ | refine la ?_ | refine so ?_ | refine aops_nil ?_ | refine aw_seq ?_ | refine aw_region ?_ | refine aw_cond_f rfl ?_ | refine aw_skip ?_ | refine aw_ret ?_ | refine bx 0 ?_ | refine al 1 ?_ | refine al 2 ?_ | refine cl (cl') ?_ | refine cl (cw) ?_ | fail))
      exact fin (.same _ (by simp))
theorem find_idx {l : List Int} {p : Int} (h : l.contains p = true) : findI (fun y => y == p) l = (l.idxOf p : Nat) ∧ l.idxOf p < l.length := by
  have hm : p ∈ l := by simpa using h
  have hlt := List.idxOf_lt_length_iff.2 hm
  refine ⟨?_, hlt⟩
  refine findI_at (x := p) (by rw [List.getElem?_eq_getElem hlt, List.getElem_idxOf hlt]) (by simp) fun j y hj hy => ?_
  have := List.not_of_lt_findIdx (p := fun y => y == p) (xs := l) (i := j) hj
  have hjl : j < l.length := (List.getElem?_eq_some_iff.1 hy).1
  rw [(List.getElem?_eq_some_iff.1 hy).2] at this
  simpa using this
theorem find_no {l : List Int} {p : Int} (h : l.contains p = false) : findI (fun y => y == p) l = -1 := by
  have := find_cont l p
  rw [h] at this
  have h1 := of_decide_eq_false this
  unfold findI at h1 ⊢
  cases hc : l.findIdx? (fun y => y == p) with
  | none => rfl
  | some i => rw [hc] at h1; simp at h1
set_option maxHeartbeats 16000000 in
theorem Drop_ok (H : HHeap) (hi : H.In) (first p : Int) : Gives Try.prog 18 [.agg (encHeap H), iv first, iv p] (dropR H first p) := by
  cases hm : mayH H with
  | false =>
    have cl' := plist_arg H hi hm first
    have ck := pkept_ok H 1
    have e1 : dropE H first p = 1 := by simp [dropE, lstE, hm]
    rw [dropR, dropHp, dropV, e1]
    refine gives_of Try.func18 rfl (Nat.le_of_ble_eq_true rfl) ?_
    (repeat' (first | refine mv ?_ | refine asg ?_ | refine bt ?_ | refine ex ?_ | refine la ?_ | refine so ?_ | refine aops_nil ?_ | refine aw_seq ?_ | refine aw_region ?_ | refine aw_cond_t rfl ?_ | refine aw_ret ?_ | refine bx 0 ?_ | refine al 1 ?_ | refine cl (cl') ?_ | refine cl (ck) ?_ | fail))
    exact fin (.same _ (by simp))
  | true =>
    have hlen := mayH_len hm
    have cl' := plist_ok H hi hm first
    by_cases h0 : (lstI H first).2 = 0
    rotate_left
    · have ck := pkept_ok H 141
      have e0 : (lstI H first).2 = 141 := by rcases lstI_err H first with h | h; exact absurd h h0; rw [h]
      have e1 : dropE H first p = 141 := by simp [dropE, lstE, hm, e0]
      have cl' := plist_err H hi hm first h0
      rw [dropR, dropHp, dropV, e1]
      refine gives_of Try.func18 rfl (Nat.le_of_ble_eq_true rfl) ?_
      (repeat' (first | refine mv ?_ | refine asg ?_ | refine bt ?_ | refine ex ?_ | refine la ?_ | refine so ?_ | refine aops_nil ?_ | refine aw_seq ?_ | refine aw_region ?_ | refine aw_cond_t rfl ?_ | refine aw_ret ?_ | refine bx 0 ?_ | refine al 1 ?_ | refine cl (cl') ?_ | refine cl (ck) ?_ | fail))
      exact fin (.same _ (by simp))
    have hll := lst_len h0
    obtain ⟨hch, hnd⟩ := lstI_ok h0
    have hlE : lstE H first = 0 := by simp [lstE, hm, h0]
    have hlL : lstL H first = (lstI H first).1 := by simp [lstL, hm]
    have cx := idx_ok (lstI H first).1 p (by omega)
    rw [h0] at cl'
    cases hc : (lstI H first).1.contains p with
    | false =>
      rw [find_no hc] at cx
      have e1 : dropE H first p = 140 := by rw [dropE, if_pos hlE, hlL, if_neg (by rw [hc]; simp)]
      rw [dropR, dropHp, dropV, e1]
      refine gives_of Try.func18 rfl (Nat.le_of_ble_eq_true rfl) ?_
      (repeat' (first | refine mv ?_ | refine asg ?_ | refine bt ?_ | refine bf ?_ | refine ex ?_ | refine la ?_ | refine so ?_ | refine aops_nil ?_ | refine aw_seq ?_ | refine aw_region ?_ | refine aw_cond_t rfl ?_ | refine aw_cond_f rfl ?_ | refine aw_skip ?_ | refine aw_ret ?_ | refine bx 0 ?_ | refine al 1 ?_ | refine cl (cl') ?_ | refine cl (cx) ?_ | fail))
      exact fin (.same _ (by simp [keptH]))
    | true =>
      obtain ⟨f1, f2⟩ := find_idx hc
      rw [f1] at cx
      have e1 : dropE H first p = 0 := by rw [dropE, if_pos hlE, hlL, if_pos hc]
      have cw := without_ok H hi hm _ (chn_prc hch) hnd (by omega) _ f2
      unfold woR at cw
      rw [dropR, dropHp, dropV, e1, if_pos rfl, if_pos rfl, dropAt, hlL]
      refine gives_of Try.func18 rfl (Nat.le_of_ble_eq_true rfl) ?_
      (repeat' (first | refine mv ?_ | refine asg ?_ | refine bf ?_ | refine ex ?_ | refine la ?_ | refine so ?_ | refine aops_nil ?_ | refine aw_seq ?_ | refine aw_region ?_ | refine aw_cond_f rfl ?_ | refine aw_skip ?_ | refine aw_ret ?_ | refine bx 0 ?_ | refine al 1 ?_ | refine cl (cl') ?_ | refine cl (cx) ?_ | refine cl (cw) ?_ | fail))
      exact fin (.same _ (by simp))
end Go.Proofs.Ytemcemimipagoaa
