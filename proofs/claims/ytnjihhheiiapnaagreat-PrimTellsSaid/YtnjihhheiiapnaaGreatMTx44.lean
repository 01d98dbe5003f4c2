/- What the statements' walks need. -/
import Derived.Test.YtnjihhheiiapnaaGreatMTa4
import Derived.Test.YtnjihhheiiapnaaGreatMTx33
import Derived.Test.YtnjihhheiiapnaaGreatMTx39
import Derived.Test.YtnjihhheiiapnaaGreatMTx38
import Derived.Test.YtnjihhheiiapnaaGreatMTx20
import Derived.Test.YtnjihhheiiapnaaGreatMTx19
set_option linter.unusedVariables false
set_option linter.unusedSimpArgs false
set_option maxRecDepth 100000
namespace Go.Proofs.YtnjihhheiiapnaaGreat
open Go Go.Proofs AW
set_option maxHeartbeats 8000000 in
theorem id13_13 (H : HHeap) (hi : H.In) (s : Int) : Gives Tryz.prog 32 [.agg (encHeap H), iv 13, iv s, .sl 1 (encInts [])] (doV H (ofV H s) 0) := by
  have cr := rRef_ok H s hi.2.2.2
  have co := rlOf_ok H hi s
  refine gives_of Tryz.func32 rfl (Nat.le_of_ble_eq_true rfl) ?_
  (repeat' (first | refine mv ?_ | refine asg ?_ | refine bt ?_ | refine ex ?_ | refine la ?_ | refine so ?_ | refine aops_nil ?_ | refine aw_seq ?_ | refine aw_region ?_ | refine aw_cond_t rfl ?_ | refine aw_block ?_ | refine aw_ret ?_ | refine bx 0 ?_ | refine al 1 ?_ | refine cl (cr) ?_ | refine cl (co) ?_ | fail))
  exact fin sh_do
set_option maxHeartbeats 8000000 in
theorem id13_14 (H : HHeap) (hi : H.In) (s x : Int) : Gives Tryz.prog 32 [.agg (encHeap H), iv 14, iv s, .sl 1 (encInts [x])] (doV H (truI (s == x)) 0) := by
  have cr := rRef_ok H s hi.2.2.2
  have ct := truth13 H (s == x)
  refine gives_of Tryz.func32 rfl (Nat.le_of_ble_eq_true rfl) ?_
  (repeat' (first | refine mv ?_ | refine asg ?_ | refine bt ?_ | refine bf ?_ | refine la ?_ | refine aops_nil ?_ | refine aw_seq ?_ | refine aw_region ?_ | refine aw_cond_t rfl ?_ | refine aw_cond_f rfl ?_ | refine aw_block ?_ | refine bx 0 ?_ | refine al 1 ?_ | refine cl (cr) ?_ | fail))
  refine aw_drawP 10 [] ?_
  (repeat' (first | refine dPn ?_ | refine dP (fun _ => y_move) ?_ | refine dP (fun _ => y_extract) ?_ | refine dP (fun _ => y_load) ?_ | refine dP (fun _ => y_bin) ?_ | refine dP (fun _ => y_loadsN) ?_ | refine dP (fun _ => y_iaddrN 0 rfl) ?_ | refine dP (fun _ => y_call (ct)) ?_ | fail))
  (repeat' (first | refine asg ?_ | refine so ?_ | refine aops_nil ?_ | refine aw_ret ?_ | fail))
  exact fin sh_do
set_option maxHeartbeats 8000000 in
theorem id13_15 (H : HHeap) (hi : H.In) (hm : mayH H = true) (s : Int) (hs : hasB H.objs.length s = true) : Gives Tryz.prog 32 [.agg (encHeap H), iv 15, iv s, .sl 1 (encInts [])] (hashV H s) := by
  have cr : Gives Tryz.prog 22 [.agg (encHeap H), iv s] (iv (H.ref s)) := rRef_ok H s hi.2.2.2
  rcases has_cases hs with ⟨h1, h2⟩ | ⟨h1, h2⟩
  · rw [hashV, if_pos h1]
    have h3 : H.ref s < 0 := by simp only [HHeap.ref, refI, h2]; simp
    refine gives_of Tryz.func32 rfl (Nat.le_of_ble_eq_true rfl) ?_
    (repeat' (first | refine mv ?_ | refine asg ?_ | refine bt ?_ | refine bf ?_ | refine la ?_ | refine so ?_ | refine aops_nil ?_ | refine aw_seq ?_ | refine aw_region ?_ | refine aw_cond_t rfl ?_ | refine aw_cond_f rfl ?_ | refine aw_block ?_ | refine aw_ret ?_ | refine bx 0 ?_ | refine al 1 ?_ | refine cl (cr) ?_ | fail))
    exact fin sh_do
  · rw [hashV, if_neg (by rw [h1]; simp)]
    have hg : (encObjs H.objs)[(H.ref s).toNat]? = some (encObj (H.at' s)) := objs_get (at_get h2)
    have hq : H.ref s = ((H.ref s).toNat : Int) := (Int.toNat_of_nonneg h2).symm
    have hko := at_may hm h2
    simp only [mayObj, headB, Bool.and_eq_true, decide_eq_true_eq] at hko
    have hsm : smallB (H.at' s).hash = true := by simp [smallB]; omega
    have ci := (integer13' H (H.at' s).hash).to' (show _ = .tup [.agg (encHeap H), iv ((H.at' s).hash * 2 + 1), iv 0] by rw [outI, outE, if_pos hsm, if_pos hsm])
    clear hko
    refine gives_of Tryz.func32 rfl (Nat.le_of_ble_eq_true rfl) ?_
    (repeat' (first | refine mv ?_ | refine asg ?_ | refine bt ?_ | refine bf ?_ | refine la ?_ | refine aops_nil ?_ | refine aw_seq ?_ | refine aw_region ?_ | refine aw_cond_t rfl ?_ | refine aw_cond_f rfl ?_ | refine aw_block ?_ | refine aw_skip ?_ | refine bx 0 ?_ | refine al 1 ?_ | refine cl (cr) ?_ | fail))
    refine aw_drawP 11 [] ?_
    (repeat' (first | refine dPn ?_ | refine dP (fun _ => y_move) ?_ | refine dP (fun _ => y_extract) ?_ | refine dP (fun _ => y_load) ?_ | refine dP (fun _ => y_faddr_ptr (hs := Nat.le_of_ble_eq_true rfl)) ?_ | refine dP (fun _ => y_faddr_ip) ?_ | refine dP (fun _ => y_loadsN) ?_ | refine dP (fun _ => (y_iaddrN (H.ref s).toNat hg (hn := hq))) ?_ | refine dP (fun _ => y_call (ci)) ?_ | fail))
    (repeat' (first | refine asg ?_ | refine so ?_ | refine aops_nil ?_ | refine aw_ret ?_ | fail))
    exact fin sh_do
end Go.Proofs.YtnjihhheiiapnaaGreat
namespace Go.Proofs.YtnjihhheiiapnaaGreat
open Go Go.Proofs AW
theorem slot_cls {H : HHeap} {s : Int} (h : clsB H s = true) : slotI H s = (H.at' s).slots := by
  obtain ⟨f1, f2, _⟩ := cls_facts h
  rw [slotI, if_pos ⟨f1, f2⟩]
set_option maxHeartbeats 16000000 in
theorem fresh_no (H : HHeap) (hi : H.In) (num s : Int) (l : List Int) (h : clsB H s = false) : Gives Tryz.prog 31 [.agg (encHeap H), iv num, iv s, .sl 1 (encInts l)] (doV H 0 130) := by
  have cf := fail13' H
  have cm := (rlMay_ok H hi s).to' (show bv (mayH H && clsB H s) = bv false by rw [h, Bool.and_false])
  refine gives_of Tryz.func31 rfl (Nat.le_of_ble_eq_true rfl) ?_
  (repeat' (first | refine mv ?_ | refine asg ?_ | refine un ?_ | refine ex ?_ | refine la ?_ | refine so ?_ | refine aops_nil ?_ | refine aw_seq ?_ | refine aw_region ?_ | refine aw_cond_t rfl ?_ | refine aw_ret ?_ | refine bx 0 ?_ | refine al 1 ?_ | refine cl (cf) ?_ | refine cl (cm) ?_ | fail))
  exact fin sh_do
set_option maxHeartbeats 16000000 in
theorem fresh11 (H : HHeap) (hi : H.In) (hm : mayH H = true) (s : Int) : Gives Tryz.prog 31 [.agg (encHeap H), iv 11, iv s, .sl 1 (encInts [])] (freshV H s) := by
  cases h : clsB H s with
  | false => rw [freshV, if_neg (by rw [h]; simp)]; exact fresh_no H hi 11 s [] h
  | true =>
    obtain ⟨f1, f2, f3, f4, f5, f6, f7⟩ := cls_facts h
    have cm := (rlMay_ok H hi s).to' (show bv (mayH H && clsB H s) = bv true by rw [h, hm]; rfl)
    have cs' := (rSlots_ok H hi s).to' (show _ = .sl 1 (encInts (H.at' s).slots) by rw [slot_cls h])
    have g2 := ints_get (sl_get (o := H.at' s) (k := 2) (by omega))
    have cz := (rsmall_ok' ((H.at' s).sl 2) 64).to' (show _ = iv (szF H s) by rw [smI, if_pos ⟨f5, f6, f7⟩]; rfl)
    rw [freshV, if_pos h]
    rcases alloc_cases hm f1 (.inl rfl) ⟨f6, f7⟩ with he | he
    · rw [newV, if_pos he]
      have ca := (alloc13 H hi s 0 (szF H s)).to' (show newA H s 0 (szF H s) = .tup [.agg (encHeap (allocH H s 0 (szF H s))), iv (2 * H.objs.length), iv 0] by rw [newA, if_pos he]; rfl)
      refine gives_of Tryz.func31 rfl (Nat.le_of_ble_eq_true rfl) ?_
      (repeat' (first | refine mv ?_ | refine asg ?_ | refine ld ?_ | refine bf ?_ | refine un ?_ | refine ex ?_ | refine la ?_ | refine so ?_ | refine aops_nil ?_ | refine aw_seq ?_ | refine aw_region ?_ | refine aw_cond_f rfl ?_ | refine aw_skip ?_ | refine aw_ret ?_ | refine bx 0 ?_ | refine al 1 ?_ | refine cl (cm) ?_ | refine cl (cs') ?_ | refine cl (cz) ?_ | refine cl (ca) ?_ | refine ia 2 g2 ?_ | fail))
      exact fin sh_do
    · rw [newV, if_neg (by rw [he]; decide)]
      have ca := (alloc13 H hi s 0 (szF H s)).to' (show newA H s 0 (szF H s) = .tup [.agg (encHeap H), iv 0, iv 30] by rw [newA, if_neg (by rw [he]; decide), if_pos he]; rfl)
      refine gives_of Tryz.func31 rfl (Nat.le_of_ble_eq_true rfl) ?_
      (repeat' (first | refine mv ?_ | refine asg ?_ | refine ld ?_ | refine bf ?_ | refine un ?_ | refine ex ?_ | refine la ?_ | refine so ?_ | refine aops_nil ?_ | refine aw_seq ?_ | refine aw_region ?_ | refine aw_cond_f rfl ?_ | refine aw_skip ?_ | refine aw_ret ?_ | refine bx 0 ?_ | refine al 1 ?_ | refine cl (cm) ?_ | refine cl (cs') ?_ | refine cl (cz) ?_ | refine cl (ca) ?_ | refine ia 2 g2 ?_ | fail))
      exact fin sh_do
set_option maxHeartbeats 16000000 in
theorem fresh_sized (H : HHeap) (hi : H.In) (hm : mayH H = true) (num kind s x : Int) (hk : (num = 27 ∧ kind = 1) ∨ (num = 12 ∧ kind = 0)) : Gives Tryz.prog 31 [.agg (encHeap H), iv num, iv s, .sl 1 (encInts [x])] (sizedV H kind s x) := by
  cases h : clsB H s with
  | false => rw [sizedV, if_neg (by rw [h]; simp)]; exact fresh_no H hi num s [x] h
  | true =>
    obtain ⟨f1, f2, f3, f4, f5, f6, f7⟩ := cls_facts h
    have cf := fail13' H
    have cm := (rlMay_ok H hi s).to' (show bv (mayH H && clsB H s) = bv true by rw [h, hm]; rfl)
    have cs' := (rSlots_ok H hi s).to' (show _ = .sl 1 (encInts (H.at' s).slots) by rw [slot_cls h])
    have g2 := ints_get (sl_get (o := H.at' s) (k := 2) (by omega))
    have cz := (rsmall_ok' ((H.at' s).sl 2) 64).to' (show _ = iv (szF H s) by rw [smI, if_pos ⟨f5, f6, f7⟩]; rfl)
    have g0 : (encInts [x])[0]? = some [iv x] := rfl
    by_cases hx : isN x = true ∧ 0 ≤ nI x ∧ nI x ≤ 64
    · have cx := (rsmall_ok' x 64).to' (show _ = iv (nI x) by rw [smI, if_pos hx])
      have hx2 := hx.2.1
      rw [sizedV, if_pos ⟨h, hx.1⟩]
      have hk' : kind = 0 ∨ kind = 1 := by omega
      rcases alloc_cases hm f1 hk' hx.2 with he | he
      · rw [if_pos he]
        have ca := (alloc13 H hi s kind (nI x)).to' (show newA H s kind (nI x) = .tup [.agg (encHeap (allocH H s kind (nI x))), iv (2 * H.objs.length), iv 0] by rw [newA, if_pos he]; rfl)
        rcases hk with ⟨rfl, rfl⟩ | ⟨rfl, rfl⟩
        all_goals refine gives_of Tryz.func31 rfl (Nat.le_of_ble_eq_true rfl) ?_
        all_goals (repeat' (first | refine mv ?_ | refine asg ?_ | refine ld ?_ | refine bt ?_ | refine bf ?_ | refine un ?_ | refine ex ?_ | refine la ?_ | refine so ?_ | refine aops_nil ?_ | refine aw_seq ?_ | refine aw_region ?_ | refine aw_cond_t rfl ?_ | refine aw_cond_f rfl ?_ | refine aw_skip ?_ | refine aw_ret ?_ | refine bx 0 ?_ | refine al 1 ?_ | refine cl (cm) ?_ | refine cl (cs') ?_ | refine cl (cz) ?_ | refine cl (cx) ?_ | refine cl (ca) ?_ | refine ia 2 g2 ?_ | refine ia 0 g0 ?_ | fail))
        all_goals exact fin sh_do
      · rw [if_neg (by rw [he]; decide), if_pos he]
        have ca := (alloc13 H hi s kind (nI x)).to' (show newA H s kind (nI x) = .tup [.agg (encHeap H), iv 0, iv 30] by rw [newA, if_neg (by rw [he]; decide), if_pos he]; rfl)
        rcases hk with ⟨rfl, rfl⟩ | ⟨rfl, rfl⟩
        all_goals refine gives_of Tryz.func31 rfl (Nat.le_of_ble_eq_true rfl) ?_
        all_goals (repeat' (first | refine mv ?_ | refine asg ?_ | refine ld ?_ | refine bt ?_ | refine bf ?_ | refine un ?_ | refine ex ?_ | refine la ?_ | refine so ?_ | refine aops_nil ?_ | refine aw_seq ?_ | refine aw_region ?_ | refine aw_cond_t rfl ?_ | refine aw_cond_f rfl ?_ | refine aw_skip ?_ | refine aw_ret ?_ | refine bx 0 ?_ | refine al 1 ?_ | refine cl (cm) ?_ | refine cl (cs') ?_ | refine cl (cz) ?_ | refine cl (cx) ?_ | refine cl (ca) ?_ | refine ia 2 g2 ?_ | refine ia 0 g0 ?_ | fail))
        all_goals exact fin sh_do
    · have cx := (rsmall_ok' x 64).to' (show _ = iv (-1) by rw [smI, if_neg hx])
      have hv : sizedV H kind s x = doV H 0 130 := by
        rw [sizedV]
        split
        · rename_i hc
          have hbad : ¬ (0 ≤ nI x ∧ nI x ≤ 64) := fun e => hx ⟨hc.2, e⟩
          have he : allocE H s kind (nI x) = 32 := by
            have f1' : ¬ refI H.objs.length s < 0 := by simp only [HHeap.ref] at f1; omega
            unfold allocE
            rw [if_pos hm, if_neg f1', if_neg (by omega), if_pos (.inl hbad)]
          rw [he]; rfl
        · rfl
      rw [hv]
      rcases hk with ⟨rfl, rfl⟩ | ⟨rfl, rfl⟩
      all_goals refine gives_of Tryz.func31 rfl (Nat.le_of_ble_eq_true rfl) ?_
      all_goals (repeat' (first | refine mv ?_ | refine asg ?_ | refine ld ?_ | refine bt ?_ | refine un ?_ | refine ex ?_ | refine la ?_ | refine so ?_ | refine aops_nil ?_ | refine aw_seq ?_ | refine aw_region ?_ | refine aw_cond_t rfl ?_ | refine aw_cond_f rfl ?_ | refine aw_skip ?_ | refine aw_ret ?_ | refine bx 0 ?_ | refine al 1 ?_ | refine cl (cm) ?_ | refine cl (cs') ?_ | refine cl (cz) ?_ | refine cl (cx) ?_ | refine cl (cf) ?_ | refine ia 2 g2 ?_ | refine ia 0 g0 ?_ | fail))
      all_goals exact fin sh_do
end Go.Proofs.YtnjihhheiiapnaaGreat
namespace Go.Proofs.YtnjihhheiiapnaaGreat
open Go Go.Proofs AW
theorem args13 (n : Int) (hn : In64 n) : Gives Tryz.prog 14 [iv n] (.tup [iv (argsI n), bv (argsB n)]) := by
  obtain ⟨n1, n2⟩ := hn
  by_cases h : n < 1 ∨ n > 27
  · have e1 : argsI n = 0 := by rw [argsI, if_pos h]
    have e2 : argsB n = false := by simp [argsB]; omega
    rw [e1, e2]
    refine gives_of Tryz.func14 rfl (Nat.le_of_ble_eq_true rfl) ?_
    (repeat' (first | refine sk ?_ | refine mv ?_ | refine asg ?_ | refine bi ?_ | refine pt ?_ | refine pf ?_ | refine aops_nil ?_ | refine aw_seq ?_ | refine aw_region ?_ | refine aw_cond_t rfl ?_ | refine aw_skip ?_ | refine aw_ret ?_ | refine gs (fun h => ?_) (fun h => ?_) | refine aw_cond rfl (fun h => ?_) (fun h => ?_) | fail))
    all_goals first | (refine fin (sh_ib ?_ ?_) <;> rfl) | (exfalso; simp at *; omega)
  · have e1 : argsI n = argsL.getD (n - 1).toNat 0 := by rw [argsI, if_neg h]
    have e2 : argsB n = true := by simp [argsB]; omega
    rw [e1, e2]
    have hlt : (n - 1).toNat < (argsL.map fun x => [iv x]).length := by rw [List.length_map]; show _ < 27; omega
    have hq : n - 1 = (((n - 1).toNat : Nat) : Int) := by omega
    have hgd : (argsL.map fun x => [iv x])[(n - 1).toNat]? = some [iv (argsL.getD (n - 1).toNat 0)] := by
      have hl2 : (n - 1).toNat < argsL.length := by show _ < 27; omega
      rw [List.getElem?_map, List.getElem?_eq_getElem hl2, List.getD_eq_getElem?_getD, List.getElem?_eq_getElem hl2]; rfl
    refine gives_of Tryz.func14 rfl (Nat.le_of_ble_eq_true rfl) ?_
    (repeat' (first | refine mv ?_ | refine asg ?_ | refine ld ?_ | refine bf ?_ | refine bw ?_ | refine pf ?_ | refine aops_nil ?_ | refine aw_seq ?_ | refine aw_region ?_ | refine aw_cond_f rfl ?_ | refine aw_skip ?_ | refine aw_ret ?_ | refine li 30 ?_ | refine fzs 10 (es := argsL.map fun x => [iv x]) (fun c hc => by simp only [List.mem_map] at hc; obtain ⟨x, _, rfl⟩ := hc; simp) ?_ | refine ia (n - 1).toNat hgd ?_ (hn := hq) | fail))
    refine fin (sh_ib ?_ ?_) <;> rfl
end Go.Proofs.YtnjihhheiiapnaaGreat
