/- What the statements' walks need. -/
import Derived.Test.YtemcemimipagoaaMVa4
import Derived.Test.YtemcemimipagoaaMVx39
import Derived.Test.YtemcemimipagoaaMVx13
set_option linter.unusedVariables false
set_option linter.unusedSimpArgs false
set_option maxRecDepth 100000
namespace Go.Proofs.Ytemcemimipagoaa
open Go Go.Proofs AW
theorem y_call1 {P : Program} {N : Fr} {Q : Exit → ASt → Prop} {st : ASt} {o : Oper} {x : AV} {g : Nat} {caps : List AV} {z : Operand} {xs : Array Operand} {ts : Array TypeId} {l l' : List AV} {m e s : Nat} {es : List (List AV)} (hok : Ok P g l' fun y T => y = x ∧ T = upd noT m (.live e s es))
    (hm : st.T m = .no := by rfl) (ho : o.op = .call ⟨.value z, xs, ts⟩ := by rfl) (hz : ev st z = some (.clo g caps) := by rfl) (hl : evs st xs.toList = some l := by rfl) (hl' : l ++ caps = l' := by rfl) (hg : goFn P g = true := by rfl) (hno : NoOwnL l' := by simp [NoOwnL]) :
    AEff P N Q o st x (upd st.T m (.live e s es)) :=
  y_callE (by rw [merge_upd, merge_noT]) hok (fun j hj => by
    by_cases h : j = m
    · rw [h]; exact hm
    · simp [upd, noT, h] at hj) ho hz hl hl' hg hno
theorem erase_prc {H : HHeap} {l : List Int} (hl : ∀ x ∈ l, prcB H x = true) (k : Nat) : ∀ x ∈ l.eraseIdx k, prcB H x = true := fun x hx => hl x (List.mem_of_mem_eraseIdx hx)
def woR (H : HHeap) (l : List Int) (k : Nat) : AV := .tup [.agg (encHeap (woH H l k)), iv ((l.eraseIdx k).headD 0)]
set_option maxHeartbeats 16000000 in
theorem without_ok (H : HHeap) (hi : H.In) (hm : mayH H = true) (l : List Int) (hl : ∀ x ∈ l, prcB H x = true) (hn : l.Nodup) (hll : l.length < 1099511627776) (k : Nat) (hk : k < l.length) :
    Gives Try.prog 26 [.agg (encHeap H), .sl 1 (encInts l), iv (k : Int)] (woR H l k) := by
  have g1 : l[k]? = some l[k] := List.getElem?_eq_getElem hk
  generalize hx : l[k] = p at g1
  have hp : prcB H p = true := hl p (List.mem_of_getElem? g1)
  have h1 : 1 ≤ H.objs.length := by have := ref_lt (prc_facts hp).1.1; omega
  obtain ⟨i1, i2, i3, i4, i5⟩ := lnk_facts hm h1 (l.eraseIdx k) (erase_prc hl k)
  have hel : (l.eraseIdx k).length < 1099511627776 := by rw [List.length_eraseIdx]; split <;> omega
  have ck := linked_ok H hi hm h1 (l.eraseIdx k) (erase_prc hl k) hel
  have cd := del_ok l k 12 14 (by decide) hk
  have cc := clone_int 12 l hll
  have hpG : prcB (lnkH H (l.eraseIdx k)) p = true := by rw [i4]; exact hp
  have cp := (process_ok (lnkH H (l.eraseIdx k)) (i5 hi) p).to' (prcA_yes hpG)
  have g0 := prc_slot hpG (k := 0) (by omega)
  have hnx : nxt (lnkH H (l.eraseIdx k)) p = HObj.sl ((lnkH H (l.eraseIdx k)).at' p) 0 := rfl
  have hw : woH H l k = setH (lnkH H (l.eraseIdx k)) p 0 0 := by rw [woH, g1]; rfl
  unfold woR
  rw [hw]
  by_cases h0 : HObj.sl ((lnkH H (l.eraseIdx k)).at' p) 0 = 0
  · have hs : setH (lnkH H (l.eraseIdx k)) p 0 0 = lnkH H (l.eraseIdx k) := by
      have := set_same i1 hpG
      rw [hnx, h0] at this; exact this
    rw [hs]
    refine gives_of Try.func26 rfl (Nat.le_of_ble_eq_true rfl) ?_
    (repeat' (first | refine mv ?_ | refine asg ?_ | refine ld ?_ | refine aops_nil ?_ | refine aw_seq ?_ | refine aw_region ?_ | refine bx 0 ?_ | refine al 1 ?_ | refine ia k (ints_get g1) ?_ | fail))
    refine aw_drawP 12 [(2, 12, .live 3 1 (encInts l), none), (6, 14, .live 3 1 (encInts (l.eraseIdx k)), some 12), (7, 14, .dead, none), (11, 0, .live 24 3 [encHeap (lnkH H (l.eraseIdx k))], none)] ?_
    (repeat' (first | refine dPn ?_ | refine dP (fun _ => y_move) ?_ | refine dP (fun _ => y_extract) ?_ | refine dP (fun _ => y_bw) ?_ | refine dP (fun _ => y_loadsN) ?_ | refine dPS (fun _ => y_storeV) ?_ | refine dPE (fun _ => (y_call1 cc)) ?_ | refine dPE2 (fun _ => (y_mut cd)) ?_ | refine dPE (fun _ => (AEff.frz 21 (fun c hc => noOwn_intsc hc) (y_call ck))) ?_ | fail))
    (repeat' (first | refine mv ?_ | refine asg ?_ | refine ld ?_ | refine bf ?_ | refine la ?_ | refine so ?_ | refine aops_nil ?_ | refine aw_seq ?_ | refine aw_region ?_ | refine aw_cond_f rfl ?_ | refine aw_skip ?_ | refine aw_ret ?_ | refine cl (cp) ?_ | refine ia 0 g0 ?_ | fail))
    exact fin (.same _ (by simp))
  · have he : setE (lnkH H (l.eraseIdx k)) p 0 0 = 0 := prc_setE i1 hpG (k := 0) (by omega) (at0 (by rw [i2]; exact h1))
    have cs' := (Set_ok (lnkH H (l.eraseIdx k)) (i5 hi) p 0 0).to' (show _ = .tup [.agg (encHeap (setH (lnkH H (l.eraseIdx k)) p 0 0)), iv 0] by rw [he])
    refine gives_of Try.func26 rfl (Nat.le_of_ble_eq_true rfl) ?_
    (repeat' (first | refine mv ?_ | refine asg ?_ | refine ld ?_ | refine aops_nil ?_ | refine aw_seq ?_ | refine aw_region ?_ | refine bx 0 ?_ | refine al 1 ?_ | refine ia k (ints_get g1) ?_ | fail))
    refine aw_drawP 12 [(2, 12, .live 3 1 (encInts l), none), (6, 14, .live 3 1 (encInts (l.eraseIdx k)), some 12), (7, 14, .dead, none), (11, 0, .live 24 3 [encHeap (lnkH H (l.eraseIdx k))], none)] ?_
    (repeat' (first | refine dPn ?_ | refine dP (fun _ => y_move) ?_ | refine dP (fun _ => y_extract) ?_ | refine dP (fun _ => y_bw) ?_ | refine dP (fun _ => y_loadsN) ?_ | refine dPS (fun _ => y_storeV) ?_ | refine dPE (fun _ => (y_call1 cc)) ?_ | refine dPE2 (fun _ => (y_mut cd)) ?_ | refine dPE (fun _ => (AEff.frz 21 (fun c hc => noOwn_intsc hc) (y_call ck))) ?_ | fail))
    (repeat' (first | refine mv ?_ | refine asg ?_ | refine ld ?_ | refine bt ?_ | refine ex ?_ | refine la ?_ | refine so ?_ | refine aops_nil ?_ | refine aw_seq ?_ | refine aw_region ?_ | refine aw_cond_t rfl ?_ | refine aw_ret ?_ | refine cl (cp) ?_ | refine ia 0 g0 ?_ | refine cl (cs') ?_ | fail))
    exact fin (.same _ (by simp))
end Go.Proofs.Ytemcemimipagoaa
