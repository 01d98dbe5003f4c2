/- What the statements' walks need. -/
import Derived.Test.YtnjihhheiiapnaaGreatMRa4
import Derived.Test.YtnjihhheiiapnaaGreatMRx41
set_option linter.unusedVariables false
set_option linter.unusedSimpArgs false
set_option maxRecDepth 100000
namespace Go.Proofs.YtnjihhheiiapnaaGreat
open Go Go.Proofs AW
abbrev slArgs (H : HHeap) (s p y : Int) : List AV := [.agg (encHeap H), iv s, .agg [iv p, iv y]]
theorem y_iarN {P : Program} {N : Fr} {Q : Exit → ASt → Prop} {st : ASt} {o : Oper} {z ix : Operand} {t n e s j e' s' q r : Nat} {b : Bool} {es : List (List AV)} {kk : IntKind} {i : Int} (ho : o.op = .indexAddr t z ix := by rfl) (hz : ev st z = some (.ptr j q r) := by rfl) (hT : st.T j = .live e' s' es := by rfl)
    (hix : ev st ix = some (.v (.int kk i)) := by rfl) (ht : arrOf P t = some (n, e, s, b) := by rfl) (hs : Nat.ble (r + i.toNat * s) s' = true := by rfl) (hi : 0 ≤ i ∧ i < n := by decide) : AYield P N Q o st (.ptr j q (r + i.toNat * s)) := y_iarr hi ho hz hT hix ht hs
set_option maxRecDepth 100000 in
set_option maxHeartbeats 16000000 in
theorem pslot_no2 (H : HHeap) (hi : H.Big) (s p y : Int) (hs : smallH H = true) (hl : H.objs.length ≤ 60) (hl2 : 12 ≤ H.objs.length) (hm : mayH H = true) (h1 : hasB H.objs.length s = true) (h2 : hasB H.objs.length y = true) (h3 : -1000 ≤ p) (h4 : p ≤ 1000) (e1 : isN s = false) (e2 : 0 ≤ H.ref s) (k1 : (H.at' s).kind = 0)
    (hw2 : (if (H.at' s).kind ≠ 0 then (33 : Int) else if p - 1 < 0 ∨ ((H.at' s).slots.length : Int) + ((H.at' s).text.size : Int) ≤ p - 1 then 32 else 0) ≠ 0)
    (c9 : Gives Tryz.prog 11 [.agg (encHeap H), iv 9, iv s, .sl 1 (encInts [2 * p + 1, y])] (.tup [.agg (encHeap H), iv 0, iv 130]))
    (c8 : Gives Tryz.prog 11 [.agg (encHeap H), iv 8, iv s, .sl 1 (encInts [2 * p + 1])] (.tup [.agg (encHeap H), iv 0, iv 130]))
    (c10 : Gives Tryz.prog 11 [.agg (encHeap H), iv 10, iv s, .v (.slice none 0 0)] (.tup [.agg (encHeap H), iv (((H.at' s).slots.length + (H.at' s).text.size : Int) * 2 + 1), iv 0])) :
    Gives Tryz.prog 7 (slArgs H s p y) (bv true) := by
  have hlo : (encObjs H.objs).length = H.objs.length := len_objs _
  have hin := small_in hi hs
  have cs := (rSmall_ok H hi).to' (congrArg bv hs)
  have cm := (rMay_ok H hin).to' (congrArg bv hm)
  have ca := (rHas_ok H s hin.2.2.2).to' (congrArg bv h1)
  have cb := (rHas_ok H y hin.2.2.2).to' (congrArg bv h2)
  have sm := qSame_id H hin
  have rs := rRef_ok H s hin.2.2.2
  have hp : smallB p = true := by simp [smallB]; omega
  obtain ⟨np, np2⟩ := isN_of hp
  rw [show p * 2 + 1 = 2 * p + 1 by omega] at np np2
  have hnp : hasB H.objs.length (2 * p + 1) = true := by simp [hasB, np]
  have ok8 := okOne hm hl2 h1 hnp
  have ok9 : okV H s [2 * p + 1, y] = true := by simp [okV, hm, hl2, h1, h2, hnp]
  have e2' : ¬ refI H.objs.length s < 0 := by have := e2; simp only [HHeap.ref] at this; omega
  have hg : (encObjs H.objs)[(H.ref s).toNat]? = some (encObj (H.at' s)) := objs_get (at_get e2)
  have hn : refI H.objs.length s = ((H.ref s).toNat : Int) := (Int.toNat_of_nonneg e2).symm
  rw [if_neg (by rw [k1]; decide)] at hw2
  generalize ((H.at' s).slots.length + (H.at' s).text.size : Int) = sz at *
  by_cases k3 : p < 1
  · refine gives_of Tryz.func7 rfl (Nat.le_of_ble_eq_true rfl) ?_
    (repeat' (first | refine mv ?_ | refine asg ?_ | refine ld ?_ | refine fp ?_ | refine bt ?_ | refine bf ?_ | refine bw ?_ | refine un ?_ | refine pf ?_ | refine ex ?_ | refine ln ?_ | refine la ?_ | refine so ?_ | refine aops_nil ?_ | refine iar ?_ | refine aw_seq ?_ | refine aw_region ?_ | refine aw_cond_t rfl ?_ | refine aw_cond_f rfl ?_ | refine aw_skip ?_ | refine bx 0 ?_ | refine bx 1 ?_ | refine al 2 ?_ | refine al 3 ?_ | refine al 4 ?_ | refine cl (fixed13_ok) ?_ | refine cl (cs) ?_ | refine cl (cm) ?_ | refine cl (ca) ?_ | refine cl (cb) ?_ | refine cl (c9) ?_ | refine cl (c8) ?_ | refine cl (c10) ?_ | refine li 30 ?_ | refine li 31 ?_ | refine fzs 81 (fun c hc => noOwn_intsc (l := [2 * p + 1, y]) hc) ?_ | refine fzs 90 (fun c hc => noOwn_intsc (l := [2 * p + 1]) hc) ?_ | fail))
    refine aw_drawP 32 [] ?_
    (repeat' (first | refine dPk ?_ | refine dPn ?_ | refine dP (fun _ => y_move) ?_ | refine dP (fun _ => y_load) ?_ | refine dP (fun _ => y_faddr_ptr (hs := Nat.le_of_ble_eq_true rfl)) ?_ | refine dP (fun _ => y_faddr_ip) ?_ | refine dP (fun _ => y_bt) ?_ | refine dP (fun _ => y_bf) ?_ | refine dP (fun _ => y_pick_t) ?_ | refine dP (fun _ => y_pick_f) ?_ | refine dP (fun _ => y_loadsN) ?_ | refine dP (fun _ => y_call (rs)) ?_ | refine dP (fun _ => (y_iaddrN (H.ref s).toNat hg (hn := hn))) ?_ | refine dP (fun _ => y_iarN) ?_ | fail))
    (repeat' (first | refine asg ?_ | refine aops_nil ?_ | refine aw_ret ?_ | fail))
    exact fin (sh_bv rfl)
  have k4 : sz < p := by
    by_cases k5 : p - 1 < 0 ∨ sz ≤ p - 1
    · omega
    · rw [if_neg k5] at hw2; exact absurd rfl hw2
  clear hw2
  refine gives_of Tryz.func7 rfl (Nat.le_of_ble_eq_true rfl) ?_
  (repeat' (first | refine mv ?_ | refine asg ?_ | refine ld ?_ | refine fp ?_ | refine bt ?_ | refine bf ?_ | refine bw ?_ | refine un ?_ | refine pf ?_ | refine ex ?_ | refine ln ?_ | refine la ?_ | refine so ?_ | refine aops_nil ?_ | refine iar ?_ | refine aw_seq ?_ | refine aw_region ?_ | refine aw_cond_t rfl ?_ | refine aw_cond_f rfl ?_ | refine aw_skip ?_ | refine bx 0 ?_ | refine bx 1 ?_ | refine al 2 ?_ | refine al 3 ?_ | refine al 4 ?_ | refine cl (fixed13_ok) ?_ | refine cl (cs) ?_ | refine cl (cm) ?_ | refine cl (ca) ?_ | refine cl (cb) ?_ | refine cl (c9) ?_ | refine cl (c8) ?_ | refine cl (c10) ?_ | refine li 30 ?_ | refine li 31 ?_ | refine fzs 81 (fun c hc => noOwn_intsc (l := [2 * p + 1, y]) hc) ?_ | refine fzs 90 (fun c hc => noOwn_intsc (l := [2 * p + 1]) hc) ?_ | fail))
  refine aw_drawP 32 [] ?_
  (repeat' (first | refine dPn ?_ | refine dP (fun _ => y_move) ?_ | refine dP (fun _ => y_load) ?_ | refine dP (fun _ => y_faddr_ptr (hs := Nat.le_of_ble_eq_true rfl)) ?_ | refine dP (fun _ => y_faddr_ip) ?_ | refine dP (fun _ => y_bt) ?_ | refine dP (fun _ => y_bf) ?_ | refine dP (fun _ => y_bw) ?_ | refine dP (fun _ => y_pick_f) ?_ | refine dP (fun _ => y_loadsN) ?_ | refine dP (fun _ => y_call (rs)) ?_ | refine dP (fun _ => (y_iaddrN (H.ref s).toNat hg (hn := hn))) ?_ | refine dP (fun _ => y_iarN) ?_ | fail))
  (repeat' (first | refine asg ?_ | refine aops_nil ?_ | refine aw_ret ?_ | fail))
  exact fin (sh_bv rfl)
end Go.Proofs.YtnjihhheiiapnaaGreat
