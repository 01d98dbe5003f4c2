/- What the statements' walks need. -/
import Derived.Test.YtemcemimipagoaaMVa4
import Derived.Test.YtemcemimipagoaaMVx29
import Derived.Test.YtemcemimipagoaaMVx38
set_option linter.unusedVariables false
set_option linter.unusedSimpArgs false
set_option maxRecDepth 100000
namespace Go.Proofs.Ytemcemimipagoaa
open Go Go.Proofs AW
theorem pkept_ok (H : HHeap) (e : Int) : Gives Try.prog 25 [.agg (encHeap H), iv e] (.tup [.agg (encHeap (keptH H e)), iv 0, iv e]) := by
  by_cases h : e = 1
  · rw [keptH, if_pos h]
    refine gives_of Try.func25 rfl (Nat.le_of_ble_eq_true rfl) ?_
    (repeat' (first | refine mv ?_ | refine asg ?_ | refine bt ?_ | refine la ?_ | refine so ?_ | refine bd ?_ | refine aops_nil ?_ | refine aw_seq ?_ | refine aw_region ?_ | refine aw_cond_t rfl ?_ | refine aw_ret ?_ | refine bx 0 ?_ | refine al 1 ?_ | fail))
    exact fin (sh_empty3 rfl rfl rfl)
  · rw [keptH, if_neg h]
    refine gives_of Try.func25 rfl (Nat.le_of_ble_eq_true rfl) ?_
    (repeat' (first | refine mv ?_ | refine asg ?_ | refine bf ?_ | refine la ?_ | refine so ?_ | refine aops_nil ?_ | refine aw_seq ?_ | refine aw_region ?_ | refine aw_cond_f rfl ?_ | refine aw_skip ?_ | refine aw_ret ?_ | refine bx 0 ?_ | refine al 1 ?_ | fail))
    exact fin (.same _ (by simp))
theorem upd3 {T : Nat → Ob} {i j k : Nat} {o d o' : Ob} (h : T j = o) : upd (upd (upd T j o) i d) k o' = upd (upd T i d) k o' := by
  funext q
  simp only [upd]
  by_cases h1 : q = k
  · simp [h1]
  · by_cases h2 : q = i
    · simp [h2]
    · by_cases h3 : q = j
      · simp [h1, h2, h3, ← h]
      · simp [h1, h2, h3]
theorem lst_len {H : HHeap} {p : Int} (h : (lstI H p).2 = 0) : (lstI H p).1.length ≤ H.objs.length := by
  obtain ⟨h1, h2⟩ := lstI_ok h
  exact room h2 fun x hx => (prc_facts (chn_prc h1 x hx)).1.1
def pinR (H : HHeap) (first p : Int) (l : List Int) : AV := .tup [.agg (encHeap (pinHp H first p l)), iv (pinV H first p l), iv (pinE H first p)]
set_option maxHeartbeats 16000000 in
theorem insert_ok (H : HHeap) (hi : H.In) (first p : Int) (g : Nat) (caps : List AV) (at' : Nat) (hc : NoOwnL caps) (hg : goFn Try.prog g = true)
    (hpl : mayH H = true → (lstI H first).2 = 0 → prcB H p = true → at' ≤ (lstI H first).1.length ∧ Gives Try.prog g ([.sl 1 (encInts (lstI H first).1)] ++ caps) (iv (at' : Int))) :
    Gives Try.prog 27 [.agg (encHeap H), iv first, iv p, .clo g caps] (pinR H first p (pinAt H (lstI H first).1 at' p)) := by
  have hno : NoOwnL [AV.agg (encHeap H), iv first, iv p, .clo g caps] := ⟨by simp, .v _, .v _, .clo _ _ hc.mem, trivial⟩
  cases hm : mayH H with
  | false =>
    have cl' := plist_arg H hi hm first
    have ck := pkept_ok H 1
    have e1 : pinE H first p = 1 := by simp [pinE, lstE, hm]
    rw [pinR, pinHp, pinV, e1]
    refine gives_of Try.func27 rfl (Nat.le_of_ble_eq_true rfl) ?_
    (repeat' (first | refine mv ?_ | refine asg ?_ | refine bt ?_ | refine ex ?_ | refine la ?_ | refine so ?_ | refine aops_nil ?_ | refine aw_seq ?_ | refine aw_region ?_ | refine aw_cond_t rfl ?_ | refine aw_ret ?_ | refine bx 0 ?_ | refine al 1 ?_ | refine cl (cl') ?_ | refine cl (ck) ?_ | fail))
    exact fin (.same _ (by simp))
  | true =>
    have hlen := mayH_len hm
    by_cases h0 : (lstI H first).2 = 0
    rotate_left
    · have cl' := plist_err H hi hm first h0
      have ck := pkept_ok H 141
      have e0 : (lstI H first).2 = 141 := by rcases lstI_err H first with h | h; exact absurd h h0; rw [h]
      have e1 : pinE H first p = 141 := by simp [pinE, lstE, hm, e0]
      rw [pinR, pinHp, pinV, e1]
      refine gives_of Try.func27 rfl (Nat.le_of_ble_eq_true rfl) ?_
      (repeat' (first | refine mv ?_ | refine asg ?_ | refine bt ?_ | refine ex ?_ | refine la ?_ | refine so ?_ | refine aops_nil ?_ | refine aw_seq ?_ | refine aw_region ?_ | refine aw_cond_t rfl ?_ | refine aw_ret ?_ | refine bx 0 ?_ | refine al 1 ?_ | refine cl (cl') ?_ | refine cl (ck) ?_ | fail))
      exact fin (.same _ (by simp))
    have co := plist_own H hi hm first h0
    have hll := lst_len h0
    obtain ⟨hch, hnd⟩ := lstI_ok h0
    have hlE : lstE H first = 0 := by simp [lstE, hm, h0]
    have hlL : lstL H first = (lstI H first).1 := by simp [lstL, hm]
    cases hp : prcB H p with
    | false =>
      have cp := (process_ok H hi p).to' (prcA_no hp)
      have e1 : pinE H first p = 140 := by simp [pinE, hlE, hp]
      rw [pinR, pinHp, pinV, e1]
      refine gives_of Try.func27 rfl (Nat.le_of_ble_eq_true rfl) ?_
      (repeat' (first | refine sk ?_ | refine mv ?_ | refine asg ?_ | refine bt ?_ | refine bf ?_ | refine pt ?_ | refine ex ?_ | refine la ?_ | refine so ?_ | refine aops_nil ?_ | refine aw_seq ?_ | refine aw_region ?_ | refine aw_cond_t rfl ?_ | refine aw_cond_f rfl ?_ | refine aw_skip ?_ | refine aw_ret ?_ | refine bx 0 ?_ | refine al 1 ?_ | refine cm1 co ?_ | refine cl (cp) ?_ | fail))
      exact fin (.same _ (by simp [keptH]))
    | true =>
      obtain ⟨hat, hpl⟩ := hpl hm h0 hp
      have cp := (process_ok H hi p).to' (prcA_yes hp)
      have hne := prc_ne hp
      have g0 := prc_slot hp (k := 0) (by omega)
      have hnx : nxt H p = (H.at' p).sl 0 := rfl
      have cc := cont_ok (lstI H first).1 p (by omega)
      by_cases hn0 : (H.at' p).sl 0 = 0
      rotate_left
      · have e1 : pinE H first p = 140 := by simp [pinE, hlE, hnx, hn0]
        rw [pinR, pinHp, pinV, e1]
        refine gives_of Try.func27 rfl (Nat.le_of_ble_eq_true rfl) ?_
        (repeat' (first | refine sk ?_ | refine mv ?_ | refine asg ?_ | refine ld ?_ | refine bt ?_ | refine bf ?_ | refine pt ?_ | refine pf ?_ | refine ex ?_ | refine la ?_ | refine so ?_ | refine aops_nil ?_ | refine aw_seq ?_ | refine aw_region ?_ | refine aw_cond_t rfl ?_ | refine aw_cond_f rfl ?_ | refine aw_skip ?_ | refine aw_ret ?_ | refine bx 0 ?_ | refine al 1 ?_ | refine cm1 co ?_ | refine cl (cp) ?_ | refine nle ?_ hne | refine ia 0 g0 ?_ | fail))
        exact fin (.same _ (by simp [keptH]))
      cases hcn : (lstI H first).1.contains p with
      | true =>
        have cc := cc.to' (congrArg bv hcn)
        have e1 : pinE H first p = 140 := by rw [pinE, if_pos hlE, if_neg (by rw [hlL, hcn]; simp)]
        rw [pinR, pinHp, pinV, e1]
        refine gives_of Try.func27 rfl (Nat.le_of_ble_eq_true rfl) ?_
        (repeat' (first | refine mv ?_ | refine asg ?_ | refine ld ?_ | refine bf ?_ | refine pf ?_ | refine ex ?_ | refine la ?_ | refine so ?_ | refine aops_nil ?_ | refine aw_seq ?_ | refine aw_region ?_ | refine aw_cond_t rfl ?_ | refine aw_cond_f rfl ?_ | refine aw_skip ?_ | refine aw_ret ?_ | refine bx 0 ?_ | refine al 1 ?_ | refine cm1 co ?_ | refine cl (cp) ?_ | refine nle ?_ hne | refine ia 0 g0 ?_ | refine cs cc ?_ (hsh := by exact ⟨sh_ints rfl, .same _ (.v _), trivial⟩) | fail))
        exact fin (.same _ (by simp [keptH]))
      | false =>
        have cc := cc.to' (congrArg bv hcn)
        have e1 : pinE H first p = 0 := by rw [pinE, if_pos hlE, if_pos ⟨hp, by rw [hnx]; exact hn0, by rw [hlL]; exact hcn⟩]
        have hall : ∀ x ∈ pinAt H (lstI H first).1 at' p, prcB H x = true := by
          intro x hx
          simp only [pinAt, List.mem_append, List.mem_cons] at hx
          rcases hx with hx | rfl | hx
          · exact chn_prc hch x (List.mem_of_mem_take hx)
          · exact hp
          · exact chn_prc hch x (List.mem_of_mem_drop hx)
        have hpn : (pinAt H (lstI H first).1 at' p).length = (lstI H first).1.length + 1 := by simp [pinAt]; omega
        have ck := linked_ok H hi hm (by have := ref_lt (prc_facts hp).1.1; omega) _ hall (by omega)
        have ci := ins_ok (lstI H first).1 at' p 9 13 14 (by decide) (by decide) (by decide) hat (by omega)
        rw [pinR, pinHp, pinV, e1, if_pos rfl, if_pos rfl]
        refine gives_of Try.func27 rfl (Nat.le_of_ble_eq_true rfl) ?_
        (repeat' (first | refine mv ?_ | refine asg ?_ | refine ld ?_ | refine bf ?_ | refine pf ?_ | refine ex ?_ | refine la ?_ | refine aops_nil ?_ | refine aw_seq ?_ | refine aw_region ?_ | refine aw_cond_f rfl ?_ | refine aw_skip ?_ | refine bx 0 ?_ | refine al 1 ?_ | refine cm1 co ?_ | refine cl (cp) ?_ | refine nle ?_ hne | refine ia 0 g0 ?_ | refine cs cc ?_ (hsh := by exact ⟨sh_ints rfl, .same _ (.v _), trivial⟩) | fail))
        refine aw_drawP 13 [(6, 13, .live 3 1 [[iv p]], none), (7, 14, .live 3 1 (encInts (pinAt H (lstI H first).1 at' p)), some 9), (8, 14, .dead, none), (12, 0, .live 24 3 [encHeap (lnkH H (pinAt H (lstI H first).1 at' p))], none)] ?_
        (repeat' (first | refine dPn ?_ | refine dP (fun _ => y_move) ?_ | refine dP (fun _ => y_extract) ?_ | refine dP (fun _ => y_loadsN) ?_ | refine dPS (fun _ => y_storeV) ?_ | refine dP (fun _ => (y_callS (hok := hpl) (ho := rfl) (hz := rfl) (hl := rfl) (hg := hg) (hfl := rfl) (hsh := ⟨sh_ints rfl, shL_same hc⟩))) ?_ | refine dPE (fun _ => y_litU 13) ?_ | refine dPE2 (fun _ => (y_mut ci (hT1 := upd3 rfl))) ?_ | refine dPE (fun _ => (AEff.frz 53 (fun c hc => noOwn_intsc hc) (y_call ck))) ?_ | fail))
        (repeat' (first | refine mv ?_ | refine asg ?_ | refine la ?_ | refine so ?_ | refine aops_nil ?_ | refine aw_seq ?_ | refine aw_region ?_ | refine aw_ret ?_ | fail))
        exact fin (.same _ (by simp))
end Go.Proofs.Ytemcemimipagoaa
