/- What the statements' walks need. -/
import Derived.Test.YtemcemimipagoaaMUa4
import Derived.Test.YtemcemimipagoaaMUx43
import Derived.Test.YtemcemimipagoaaMUx45
import Derived.Test.YtemcemimipagoaaMUx36
set_option linter.unusedVariables false
set_option linter.unusedSimpArgs false
set_option maxRecDepth 100000
namespace Go.Proofs.Ytemcemimipagoaa
open Go Go.Proofs AW
section
variable {H : HHeap} {first p : Int}
theorem has_one (hp : prcB H p = true) : 1 ≤ H.objs.length := by
  have := (ref_val (H := H) (v := p) (prc_facts hp).1.1).2; omega
theorem lstE_0 (hm : mayH H = true) (h0 : (lstI H first).2 = 0) : lstE H first = 0 := by rw [lstE, if_pos hm, h0]
theorem lstL_l (hm : mayH H = true) : lstL H first = (lstI H first).1 := by rw [lstL, if_pos hm]
theorem pinE_c (hm : mayH H = true) (h0 : (lstI H first).2 = 0) : pinE H first p = 0 ∧ prcB H p = true ∨ pinE H first p = 140 := by
  rw [pinE, if_pos (lstE_0 hm h0)]
  split
  · rename_i h; exact .inl ⟨rfl, h.1⟩
  · exact .inr rfl
theorem pin_all {at' : Nat} {l : List Int} (hl : ∀ x ∈ l, prcB H x = true) (hp : prcB H p = true) : ∀ x ∈ pinAt H l at' p, prcB H x = true := by
  intro x hx
  rcases List.mem_append.1 hx with h | h
  · exact hl x (List.mem_of_mem_take h)
  · rcases List.mem_cons.1 h with rfl | h
    · exact hp
    · exact hl x (List.mem_of_mem_drop h)
theorem pinHp_in (hi : H.In) (hm : mayH H = true) (h0 : (lstI H first).2 = 0) {at' : Nat} : (pinHp H first p (pinAt H (lstL H first) at' p)).In := by
  rcases pinE_c (p := p) hm h0 with ⟨h, hp⟩ | h
  · rw [pinHp, if_pos h, lstL_l hm]
    exact (lnk_facts hm (has_one hp) _ (pin_all (chn_prc (lstI_ok h0).1) hp)).2.2.2.2 hi
  · rw [pinHp, if_neg (by rw [h]; decide), h, keptH, if_neg (by decide)]; exact hi
theorem ins_app (h : ∀ q ∈ lstL H first, (H.at' p).sl 2 ≤ (H.at' q).sl 2) : insL H first p = appL H first p := by
  have : insAt H (lstL H first) p = (lstL H first).length := by
    unfold insAt
    rw [List.findIdx?_eq_none_iff.2 fun q hq => decide_eq_false (by have := h q hq; omega)]
  rw [insL, this, appL, pinAt, List.take_length, List.drop_length]
theorem woH_in (hi : H.In) (hm : mayH H = true) {l : List Int} (h1 : 1 ≤ H.objs.length) (hl : ∀ x ∈ l, prcB H x = true) {k : Nat} : (woH H l k).In :=
  setH_in ((lnk_facts hm h1 _ fun x hx => hl x (List.mem_of_mem_eraseIdx hx)).2.2.2.2 hi)
end
def leB (H : HHeap) (p : Int) (l : List Int) : Bool := l.all fun q => decide ((H.at' p).sl 2 ≤ (H.at' q).sl 2)
theorem leB_take {H : HHeap} {p : Int} {l : List Int} {k : Nat} {x : Int} (h : l[k]? = some x) : leB H p (l.take (k + 1)) = (leB H p (l.take k) && decide ((H.at' p).sl 2 ≤ (H.at' x).sl 2)) := by
  rw [List.take_add_one, h]; simp [leB]
def pstE (l : List Int) (H : HHeap) (first p : Int) (k : Nat) : List (Nat × AV) := [(10, iv (k : Int)), (9, bv (leB H p (l.take k))), (7, .sl 1 (encInts l)), (3, .ptr 0 0 0), (1, iv first), (2, iv p)]
set_option maxRecDepth 100000 in
set_option maxHeartbeats 16000000 in
theorem psame_ok (H : HHeap) (hi : H.Big) (first p : Int) : Gives Try.prog 4 [.agg (encHeap H), iv first, iv p] (bv true) := by
  have hlo : (encObjs H.objs).length = H.objs.length := len_objs _
  by_cases hs : smallH H = true
  rotate_left
  · simp only [Bool.not_eq_true] at hs
    have csm := (rSmall_ok H hi).to' (congrArg bv hs)
    refine gives_of Try.func4 rfl (Nat.le_of_ble_eq_true rfl) ?_
    (repeat' (first | refine sk ?_ | refine mv ?_ | refine asg ?_ | refine un ?_ | refine pt ?_ | refine pf ?_ | refine la ?_ | refine aops_nil ?_ | refine aw_seq ?_ | refine aw_region ?_ | refine aw_cond_t rfl ?_ | refine aw_ret ?_ | refine bx 0 ?_ | refine cl (fixed14_ok) ?_ | refine cl (csm) ?_ | fail))
    exact fin (sh_bv rfl)
  have hin := small_in hi hs
  have csm := (rSmall_ok H hi).to' (congrArg bv hs)
  by_cases hl : H.objs.length ≤ 60
  rotate_left
  · skip
    refine gives_of Try.func4 rfl (Nat.le_of_ble_eq_true rfl) ?_
    (repeat' (first | refine sk ?_ | refine mv ?_ | refine asg ?_ | refine ld ?_ | refine fp ?_ | refine bt ?_ | refine un ?_ | refine pt ?_ | refine pf ?_ | refine ln ?_ | refine la ?_ | refine aops_nil ?_ | refine aw_seq ?_ | refine aw_region ?_ | refine aw_cond_t rfl ?_ | refine aw_ret ?_ | refine bx 0 ?_ | refine cl (fixed14_ok) ?_ | refine cl (csm) ?_ | fail))
    exact fin (sh_bv rfl)
  by_cases hm : mayH H = true
  rotate_left
  · simp only [Bool.not_eq_true] at hm
    have cm := (rMay_ok H hin).to' (congrArg bv hm)
    refine gives_of Try.func4 rfl (Nat.le_of_ble_eq_true rfl) ?_
    (repeat' (first | refine mv ?_ | refine asg ?_ | refine ld ?_ | refine fp ?_ | refine bf ?_ | refine un ?_ | refine pf ?_ | refine ln ?_ | refine la ?_ | refine aops_nil ?_ | refine aw_seq ?_ | refine aw_region ?_ | refine aw_cond_t rfl ?_ | refine aw_ret ?_ | refine bx 0 ?_ | refine cl (fixed14_ok) ?_ | refine cl (csm) ?_ | refine cl (cm) ?_ | fail))
    exact fin (sh_bv rfl)
  have cm := (rMay_ok H hin).to' (congrArg bv hm)
  have cl' := rplist_ok H hin hm first
  by_cases h0 : (lstI H first).2 = 0
  rotate_left
  · refine gives_of Try.func4 rfl (Nat.le_of_ble_eq_true rfl) ?_
    (repeat' (first | refine sk ?_ | refine mv ?_ | refine asg ?_ | refine ld ?_ | refine fp ?_ | refine bt ?_ | refine bf ?_ | refine un ?_ | refine pt ?_ | refine pf ?_ | refine ex ?_ | refine ln ?_ | refine la ?_ | refine aops_nil ?_ | refine aw_seq ?_ | refine aw_region ?_ | refine aw_cond_t rfl ?_ | refine aw_cond_f rfl ?_ | refine aw_skip ?_ | refine aw_ret ?_ | refine bx 0 ?_ | refine cl (fixed14_ok) ?_ | refine cl (csm) ?_ | refine cl (cm) ?_ | refine cl (cl') ?_ | fail))
    exact fin (sh_bv rfl)
  rw [h0] at cl'
  cases hp : prcB H p with
  | false =>
    have cp := (rpMay_ok H hin p).to' (show bv (mayH H && prcB H p) = bv false by rw [hp, Bool.and_false])
    refine gives_of Try.func4 rfl (Nat.le_of_ble_eq_true rfl) ?_
    (repeat' (first | refine mv ?_ | refine asg ?_ | refine ld ?_ | refine fp ?_ | refine bf ?_ | refine un ?_ | refine pf ?_ | refine ex ?_ | refine ln ?_ | refine la ?_ | refine aops_nil ?_ | refine aw_seq ?_ | refine aw_region ?_ | refine aw_cond_t rfl ?_ | refine aw_cond_f rfl ?_ | refine aw_skip ?_ | refine aw_ret ?_ | refine bx 0 ?_ | refine cl (fixed14_ok) ?_ | refine cl (csm) ?_ | refine cl (cm) ?_ | refine cl (cl') ?_ | refine cl (cp) ?_ | fail))
    exact fin (sh_bv rfl)
  | true =>
    have cp := (rpMay_ok H hin p).to' (show bv (mayH H && prcB H p) = bv true by rw [hm, hp]; rfl)
    obtain ⟨hch, hnd⟩ := lstI_ok h0
    have hlE := lstE_0 hm h0
    have hlL := lstL_l (first := first) hm
    have hall := chn_prc hch
    have hi1 : (pinHp H first p (insL H first p)).In := pinHp_in hin hm h0
    have hw := woH_in hin hm (has_one hp) hall (k := 0)
    have hia := ins_app (H := H) (first := first) (p := p)
    have e5 : lstL H first = [] → takeE H first = 141 ∧ dropE H first first = 140 := fun h => by rw [takeE, dropE, if_pos hlE, if_pos hlE, h]; simp
    have e6 : lstL H first ≠ [] → takeE H first = 0 ∧ dropE H first first = 0 ∧ takeHp H first = woH H (lstL H first) 0 ∧ dropHp H first first = woH H (lstL H first) 0 ∧ takeP H first = first ∧ dropV H first first = takeV H first := by
      intro h
      have e1 : takeE H first = 0 := by rw [takeE, if_pos hlE, if_neg h]
      have hf : ∃ r, lstL H first = first :: r := by
        rw [hlL] at h ⊢
        cases hx : (lstI H first).1 with
        | nil => exact absurd hx h
        | cons q r => rw [hx] at hch; exact ⟨r, by rw [hch.1]⟩
      obtain ⟨r, hr⟩ := hf
      have e2 : dropE H first first = 0 := by rw [dropE, if_pos hlE, hr]; simp
      have e3 : dropAt H first first = 0 := by rw [dropAt, hr]; simp
      refine ⟨e1, e2, by rw [takeHp, if_pos e1], by rw [dropHp, if_pos e2, e3], by rw [takeP, if_pos e1], by rw [dropV, if_pos e2, e3, takeV, if_pos e1]; simp⟩
    rw [hlL] at e5 e6 hia
    have cs0 := (rSlots_ok H hin p).to' (show _ = .sl 1 (encInts (H.at' p).slots) by obtain ⟨⟨f1, f2, _⟩, _⟩ := prc_facts hp; rw [slotI, if_pos ⟨f1, f2⟩])
    have g0 := prc_slot hp (k := 2) (by omega)
    have hst : ∀ q, prcB H q = true → Gives Try.prog 15 [.agg (encHeap H), iv q] (.sl 1 (encInts (H.at' q).slots)) := fun q hq => (rSlots_ok H hin q).to' (by obtain ⟨⟨f1, f2, _⟩, _⟩ := prc_facts hq; rw [slotI, if_pos ⟨f1, f2⟩])
    have cI := Insert_ok H hin first p
    have cA := Append_ok H hin first p
    have cT := Take_ok H hin first
    have cD := Drop_ok H hin first first
    have hle : (encInts (lstI H first).1).length = (lstI H first).1.length := len_ints _
    have hll := lst_len h0
    generalize (lstI H first).1 = l at *
    refine gives_of Try.func4 rfl (Nat.le_of_ble_eq_true rfl) ?_
    (repeat' (first | refine mv ?_ | refine asg ?_ | refine ld ?_ | refine fp ?_ | refine bf ?_ | refine un ?_ | refine pf ?_ | refine ex ?_ | refine ln ?_ | refine la ?_ | refine aops_nil ?_ | refine aw_seq ?_ | refine aw_region ?_ | refine aw_cond_f rfl ?_ | refine aw_block ?_ | refine aw_skip ?_ | refine bx 0 ?_ | refine cl (fixed14_ok) ?_ | refine cl (csm) ?_ | refine cl (cm) ?_ | refine cl (cl') ?_ | refine cl (cp) ?_ | fail))
    refine aw_forE l.length (fun k => k ≤ l.length) (pstE l H first p) 0 (Nat.zero_le _) ⟨rfl, rfl, rfl, rfl, rfl, rfl, trivial⟩ ?_
    intro k hk
    (repeat' (first | refine mv ?_ | refine bi ?_ | refine ln ?_ | refine aops_nil ?_ | refine aw_seq ?_ | refine aw_region ?_ | fail))
    refine aw_cond rfl (fun h => ?_) (fun h => ?_) <;> simp at h
    · have g1 : l[k]? = some l[k] := List.getElem?_eq_getElem h
      have hq := hall l[k] (List.getElem_mem h)
      generalize hx : l[k] = q at g1 hq
      have gi := ints_get g1
      have gq := prc_slot hq (k := 2) (by omega)
      have cq := hst q hq
      have et := leB_take (H := H) (p := p) g1
      unfold pstE
      rw [et]
      generalize leB H p (l.take k) = b
      generalize (H.at' p).sl 2 = y0 at *
      generalize (H.at' q).sl 2 = y1 at *
      cases b with
      | false =>
        rw [Bool.false_and]
        (repeat' (first | refine aw_seq ?_ | refine aw_block ?_ | refine aw_skip ?_ | fail))
        refine aw_drawP 17 [] ?_
        (repeat' (first | refine dPk ?_ | refine dPn ?_ | refine dP (fun _ => y_move) ?_ | refine dP (fun _ => y_pick_f) ?_ | fail))
        (repeat' (first | refine mv ?_ | refine asg ?_ | refine bw ?_ | refine aops_nil ?_ | refine aw_region ?_ | fail))
        exact ⟨h, by omega, rfl, rfl, rfl, rfl, rfl, rfl, rfl, trivial⟩
      | true =>
        rw [Bool.true_and]
        by_cases hc : y0 ≤ y1
        · rw [decide_eq_true hc]
          (repeat' (first | refine aw_seq ?_ | refine aw_block ?_ | refine aw_skip ?_ | fail))
          refine aw_drawP 17 [] ?_
          (repeat' (first | refine dPn ?_ | refine dP (fun _ => y_move) ?_ | refine dP (fun _ => y_load) ?_ | refine dP (fun _ => y_bt) ?_ | refine dP (fun _ => y_pick_t) ?_ | refine dP (fun _ => y_loadsN) ?_ | refine dP (fun _ => y_call (cq)) ?_ | refine dP (fun _ => y_call (cs0)) ?_ | refine dP (fun _ => (y_iaddrN k gi)) ?_ | refine dP (fun _ => (y_iaddrN 2 gq)) ?_ | refine dP (fun _ => (y_iaddrN 2 g0)) ?_ | fail))
          (repeat' (first | refine mv ?_ | refine asg ?_ | refine bw ?_ | refine aops_nil ?_ | refine aw_region ?_ | fail))
          exact ⟨h, by omega, rfl, rfl, rfl, rfl, rfl, rfl, rfl, trivial⟩
        · rw [decide_eq_false hc]
          (repeat' (first | refine aw_seq ?_ | refine aw_block ?_ | refine aw_skip ?_ | fail))
          refine aw_drawP 17 [] ?_
          (repeat' (first | refine dPn ?_ | refine dP (fun _ => y_move) ?_ | refine dP (fun _ => y_load) ?_ | refine dP (fun _ => y_bf) ?_ | refine dP (fun _ => y_pick_t) ?_ | refine dP (fun _ => y_loadsN) ?_ | refine dP (fun _ => y_call (cq)) ?_ | refine dP (fun _ => y_call (cs0)) ?_ | refine dP (fun _ => (y_iaddrN k gi)) ?_ | refine dP (fun _ => (y_iaddrN 2 gq)) ?_ | refine dP (fun _ => (y_iaddrN 2 g0)) ?_ | fail))
          (repeat' (first | refine mv ?_ | refine asg ?_ | refine bw ?_ | refine aops_nil ?_ | refine aw_region ?_ | fail))
          exact ⟨h, by omega, rfl, rfl, rfl, rfl, rfl, rfl, rfl, trivial⟩
    · have hk2 : k = l.length := by omega
      subst hk2
      unfold pstE
      rw [List.take_length]
      have sW := qSame_id _ hw
      have hsel : (leB H p l = true ∧ insL H first p = appL H first p) ∨ leB H p l = false := by
        cases hb : leB H p l with
        | false => exact .inr rfl
        | true => exact .inl ⟨rfl, hia fun q hq => by have := List.all_eq_true.1 hb q hq; simpa using this⟩
      have hsel2 : (l = [] ∧ takeE H first = 141 ∧ dropE H first first = 140) ∨ (l ≠ [] ∧ takeR H first = .tup [.agg (encHeap (woH H l 0)), iv first, iv (takeV H first), iv 0] ∧ dropR H first first = .tup [.agg (encHeap (woH H l 0)), iv (takeV H first), iv 0]) := by
        by_cases h : l = []
        · exact .inl ⟨h, e5 h⟩
        · obtain ⟨a1, a2, a3, a4, a5, a6⟩ := e6 h
          exact .inr ⟨h, by rw [takeR, a1, a3, a5], by rw [dropR, a2, a4, a6]⟩
      clear e5 e6 hia
      rcases hsel with ⟨hb, hc⟩ | hb <;> rw [hb]
      · rw [hc] at cI hi1
        have sI := qSame_id _ hi1
        unfold pinR at cI cA
        rcases hsel2 with ⟨h1, h2, h3⟩ | ⟨h1, h2, h3⟩
        · unfold takeR at cT
          unfold dropR at cD
          rw [h2] at cT
          rw [h3] at cD
          (repeat' (first | refine mv ?_ | refine asg ?_ | refine bt ?_ | refine bf ?_ | refine un ?_ | refine pt ?_ | refine pf ?_ | refine ex ?_ | refine ln ?_ | refine la ?_ | refine so ?_ | refine aops_nil ?_ | refine aw_seq ?_ | refine aw_region ?_ | refine aw_cond_t rfl ?_ | refine aw_cond_f rfl ?_ | refine aw_exit ?_ | refine aw_skip ?_ | refine aw_ret ?_ | refine al 1 ?_ | refine al 2 ?_ | refine al 3 ?_ | refine al 4 ?_ | refine cl (cI) ?_ | refine cl (cA) ?_ | refine cl (sI) ?_ | refine cl (cT) ?_ | refine cl (cD) ?_ | fail))
          exact fin (sh_bv rfl)
        · rw [h2] at cT
          rw [h3] at cD
          (repeat' (first | refine mv ?_ | refine asg ?_ | refine bt ?_ | refine bf ?_ | refine un ?_ | refine pt ?_ | refine pf ?_ | refine ex ?_ | refine ln ?_ | refine la ?_ | refine so ?_ | refine aops_nil ?_ | refine aw_seq ?_ | refine aw_region ?_ | refine aw_cond_f rfl ?_ | refine aw_exit ?_ | refine aw_skip ?_ | refine aw_ret ?_ | refine al 1 ?_ | refine al 2 ?_ | refine al 3 ?_ | refine al 4 ?_ | refine cl (cI) ?_ | refine cl (cA) ?_ | refine cl (sI) ?_ | refine cl (cT) ?_ | refine cl (cD) ?_ | refine cl (sW) ?_ | fail))
          exact fin (sh_bv rfl)
      · unfold pinR at cI cA
        rcases hsel2 with ⟨h1, h2, h3⟩ | ⟨h1, h2, h3⟩
        · unfold takeR at cT
          unfold dropR at cD
          rw [h2] at cT
          rw [h3] at cD
          (repeat' (first | refine sk ?_ | refine mv ?_ | refine asg ?_ | refine bt ?_ | refine bf ?_ | refine pt ?_ | refine pf ?_ | refine ex ?_ | refine ln ?_ | refine la ?_ | refine so ?_ | refine aops_nil ?_ | refine aw_seq ?_ | refine aw_region ?_ | refine aw_cond_t rfl ?_ | refine aw_cond_f rfl ?_ | refine aw_exit ?_ | refine aw_skip ?_ | refine aw_ret ?_ | refine al 1 ?_ | refine al 2 ?_ | refine al 3 ?_ | refine al 4 ?_ | refine cl (cI) ?_ | refine cl (cA) ?_ | refine cl (cT) ?_ | refine cl (cD) ?_ | fail))
          exact fin (sh_bv rfl)
        · rw [h2] at cT
          rw [h3] at cD
          (repeat' (first | refine sk ?_ | refine mv ?_ | refine asg ?_ | refine bt ?_ | refine bf ?_ | refine pt ?_ | refine pf ?_ | refine ex ?_ | refine ln ?_ | refine la ?_ | refine so ?_ | refine aops_nil ?_ | refine aw_seq ?_ | refine aw_region ?_ | refine aw_cond_f rfl ?_ | refine aw_exit ?_ | refine aw_skip ?_ | refine aw_ret ?_ | refine al 1 ?_ | refine al 2 ?_ | refine al 3 ?_ | refine al 4 ?_ | refine cl (cI) ?_ | refine cl (cA) ?_ | refine cl (cT) ?_ | refine cl (cD) ?_ | refine cl (sW) ?_ | fail))
          exact fin (sh_bv rfl)
end Go.Proofs.Ytemcemimipagoaa
