/- What the statements' walks need. -/
import Derived.Test.YtemcemimipagoaaMVa4
import Derived.Test.YtemcemimipagoaaMVx39
set_option linter.unusedVariables false
set_option linter.unusedSimpArgs false
set_option maxRecDepth 100000
namespace Go.Proofs.Ytemcemimipagoaa
open Go Go.Proofs AW
set_option maxHeartbeats 8000000 in
theorem ins11_ok (H : HHeap) (hi : H.In) (q x : Int) (hq : prcB H q = true) : Gives Try.prog 31 [iv q, .ip (encHeap H), .ip [iv x]] (bv (decide ((H.at' q).sl 2 < x))) := by
  have cp := (process_ok H hi q).to' (prcA_yes hq)
  have g2 := prc_slot hq (k := 2) (by omega)
  generalize (H.at' q).sl 2 = y at *
  by_cases h : y < x
  · rw [decide_eq_true h]
    refine gives_of Try.func31 rfl (Nat.le_of_ble_eq_true rfl) ?_
    (repeat' (first | refine asg ?_ | refine aops_nil ?_ | refine aw_seq ?_ | refine aw_region ?_ | fail))
    refine aw_drawP 7 [] ?_
    (repeat' (first | refine dPn ?_ | refine dP (fun _ => y_move) ?_ | refine dP (fun _ => y_load) ?_ | refine dP (fun _ => y_bt) ?_ | refine dP (fun _ => y_loadsN) ?_ | refine dP (fun _ => (y_iaddrN 2 g2)) ?_ | refine dP (fun _ => y_call (cp)) ?_ | fail))
    (repeat' (first | refine asg ?_ | refine aops_nil ?_ | refine aw_ret ?_ | fail))
    exact fin (sh_bv rfl)
  · rw [decide_eq_false h]
    refine gives_of Try.func31 rfl (Nat.le_of_ble_eq_true rfl) ?_
    (repeat' (first | refine asg ?_ | refine aops_nil ?_ | refine aw_seq ?_ | refine aw_region ?_ | fail))
    refine aw_drawP 7 [] ?_
    (repeat' (first | refine dPn ?_ | refine dP (fun _ => y_move) ?_ | refine dP (fun _ => y_load) ?_ | refine dP (fun _ => y_bf) ?_ | refine dP (fun _ => y_loadsN) ?_ | refine dP (fun _ => (y_iaddrN 2 g2)) ?_ | refine dP (fun _ => y_call (cp)) ?_ | fail))
    (repeat' (first | refine asg ?_ | refine aops_nil ?_ | refine aw_ret ?_ | fail))
    exact fin (sh_bv rfl)
set_option maxHeartbeats 8000000 in
theorem ins1_ok (H : HHeap) (hi : H.In) (p : Int) (hp : prcB H p = true) (l : List Int) (hl : ∀ q ∈ l, prcB H q = true) (hll : l.length < 1099511627776) :
    Gives Try.prog 28 [.sl 1 (encInts l), .ip (encHeap H), .ip [iv p]] (iv (insAt H l p : Nat)) := by
  have cp := (process_ok H hi p).to' (prcA_yes hp)
  have g2 := prc_slot hp (k := 2) (by omega)
  have hle : (encInts l).length = l.length := len_ints l
  have ci := indexFunc_int l 31 [.ip (encHeap H), .ip [iv ((H.at' p).sl 2)]] (fun q => decide ((H.at' q).sl 2 < (H.at' p).sl 2)) rfl ⟨by simp, by simp, trivial⟩ (fun q hq => ins11_ok H hi q _ (hl q hq)) hll
  have hE : (insAt H l p : Int) = if findI (fun q => decide ((H.at' q).sl 2 < (H.at' p).sl 2)) l < 0 then (l.length : Int) else findI (fun q => decide ((H.at' q).sl 2 < (H.at' p).sl 2)) l := by
    unfold insAt findI
    cases h : l.findIdx? (fun q => decide ((H.at' q).sl 2 < (H.at' p).sl 2)) with
    | none => rfl
    | some i => rw [if_neg (by simp)]
  rw [hE]
  generalize findI (fun q => decide ((H.at' q).sl 2 < (H.at' p).sl 2)) l = n at *
  by_cases h : n < 0
  · rw [if_pos h]
    refine gives_of Try.func28 rfl (Nat.le_of_ble_eq_true rfl) ?_
    (repeat' (first | refine mv ?_ | refine asg ?_ | refine ld ?_ | refine bt ?_ | refine ln ?_ | refine la ?_ | refine so ?_ | refine mf ?_ | refine aops_nil ?_ | refine aw_seq ?_ | refine aw_region ?_ | refine aw_cond_t rfl ?_ | refine aw_ret ?_ | refine al 0 ?_ | refine cl (cp) ?_ | refine ia 2 g2 ?_ | refine cs ci ?_ (hsh := by exact ⟨.same _ (by simp), sh_clo ⟨.same _ (by simp), sh_box rfl ⟨.same _ (.v _), trivial⟩, trivial⟩, trivial⟩) | fail))
    exact fin (sh_iv (show ((encInts l).length : Int) = (l.length : Int) by rw [hle]))
  · rw [if_neg h]
    refine gives_of Try.func28 rfl (Nat.le_of_ble_eq_true rfl) ?_
    (repeat' (first | refine mv ?_ | refine asg ?_ | refine ld ?_ | refine bf ?_ | refine la ?_ | refine so ?_ | refine mf ?_ | refine aops_nil ?_ | refine aw_seq ?_ | refine aw_region ?_ | refine aw_cond_f rfl ?_ | refine aw_skip ?_ | refine aw_ret ?_ | refine al 0 ?_ | refine cl (cp) ?_ | refine ia 2 g2 ?_ | refine cs ci ?_ (hsh := by exact ⟨.same _ (by simp), sh_clo ⟨.same _ (by simp), sh_box rfl ⟨.same _ (.v _), trivial⟩, trivial⟩, trivial⟩) | fail))
    exact fin (sh_iv rfl)
theorem insAt_le (H : HHeap) (l : List Int) (p : Int) : insAt H l p ≤ l.length := by
  unfold insAt
  cases h : l.findIdx? (fun q => decide ((H.at' q).sl 2 < (H.at' p).sl 2)) with
  | none => exact Nat.le_refl _
  | some i =>
    rw [List.findIdx?_eq_some_iff_getElem] at h
    obtain ⟨hi, _⟩ := h
    exact Nat.le_of_lt hi
theorem pinR_l {H : HHeap} {first p : Int} {l l' : List Int} (h : mayH H = true → l = l') : pinR H first p l = pinR H first p l' := by
  cases hm : mayH H with
  | true => rw [h hm]
  | false =>
    have e1 : pinE H first p ≠ 0 := by simp [pinE, lstE, hm]
    rw [pinR, pinR, pinHp, pinHp, pinV, pinV, if_neg e1, if_neg e1, if_neg e1, if_neg e1]
set_option maxHeartbeats 8000000 in
theorem Insert_ok (H : HHeap) (hi : H.In) (first p : Int) : Gives Try.prog 11 [.agg (encHeap H), iv first, iv p] (pinR H first p (insL H first p)) := by
  have hs : ∀ (hm : mayH H = true), (lstI H first).2 = 0 → ∀ q ∈ (lstI H first).1, prcB H q = true := fun hm h0 => chn_prc (lstI_ok h0).1
  have cI := insert_ok H hi first p 28 [.ip (encHeap H), .ip [iv p]] (insAt H (lstI H first).1 p) ⟨by simp, by simp, trivial⟩ rfl
    (fun hm h0 hp => ⟨insAt_le _ _ _, ins1_ok H hi p hp _ (hs hm h0) (by have := lst_len h0; have := mayH_len hm; omega)⟩)
  have cI := cI.to' (pinR_l (l' := insL H first p) (fun hm => by rw [insL, lstL, if_pos hm]))
  unfold pinR at cI ⊢
  refine gives_of Try.func11 rfl (Nat.le_of_ble_eq_true rfl) ?_
  refine aw_seq (aw_region ?_)
  (repeat' (first | refine asg ?_ | refine aops_nil ?_ | refine bx 0 ?_ | refine bx 1 ?_ | refine al 2 ?_ | fail))
  refine fzpW 3 (cs := encHeap H) (noOwn_heapc H) ?_
  refine fzpW 5 (cs := [iv p]) (by simp) ?_
  (repeat' (first | refine mv ?_ | refine asg ?_ | refine ld ?_ | refine ex ?_ | refine la ?_ | refine so ?_ | refine mf ?_ | refine aops_nil ?_ | refine aw_seq ?_ | refine aw_region ?_ | refine aw_ret ?_ | refine cl (cI) ?_ | fail))
  exact fin (.same _ (by simp))
end Go.Proofs.Ytemcemimipagoaa
