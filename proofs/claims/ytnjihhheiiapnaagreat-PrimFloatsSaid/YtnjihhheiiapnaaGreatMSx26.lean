/- What the statements' walks need. -/
import Derived.Test.YtnjihhheiiapnaaGreatMSa4
import Derived.Test.YtnjihhheiiapnaaGreatMSx25
import Derived.Test.YtnjihhheiiapnaaGreatMSx24
import Derived.Test.YtnjihhheiiapnaaGreatMSa3
set_option linter.unusedVariables false
set_option linter.unusedSimpArgs false
set_option maxRecDepth 100000
namespace Go.Proofs.YtnjihhheiiapnaaGreat
open Go Go.Proofs AW
theorem nI_rng {v : Int} (h : isN v = true) : -1073741824 ≤ nI v ∧ nI v ≤ 1073741823 := by
  simp [isN] at h; simp [nI, isN, h]; omega
theorem pint_yes (n : Int) (h : smallB n = true) : Gives Tryz.prog 118 [iv n] (iv (n * 2 + 1)) := by
  have h' : -1073741824 ≤ n ∧ n ≤ 1073741823 := by simpa [smallB] using h
  have ci := (Int_ok n).to' (show AV.tup [iv (numV n), bv (smallB n)] = .tup [iv (n * 2 + 1), bv true] by rw [numV, if_pos h', h])
  refine gives_of Tryz.func118 rfl (Nat.le_of_ble_eq_true rfl) ?_
  (repeat' (first | refine mv ?_ | refine asg ?_ | refine ex ?_ | refine aops_nil ?_ | refine aw_seq ?_ | refine aw_region ?_ | refine aw_ret ?_ | refine cl ci ?_ | refine cl need_yes ?_ | fail))
  exact fin (sh_iv rfl)
theorem pint_no (n : Int) (h : smallB n = false) : Fails Tryz.prog 118 [] [iv n] (failV 130) := by
  have ci := (Int_ok n).to' (show AV.tup [iv (numV n), bv (smallB n)] = .tup [iv (numV n), bv false] by rw [h])
  refine okM_of Tryz.func118 rfl (Nat.le_of_ble_eq_true rfl) ?_
  (repeat' (first | refine mv ?_ | refine asg ?_ | refine ex ?_ | refine aops_nil ?_ | refine aw_seq ?_ | refine aw_region ?_ | refine cl ci ?_ | exact cF need_no (fun _ => panE rfl) | fail))
set_option maxHeartbeats 4000000 in
theorem byteAt_f1 (H : HHeap) (s x : Int) (h : isN x = false) : Fails Tryz.prog 82 (cR H s [x]) [.ptr 1000 0 0] (failV 130) := by
  have cn := psmall_no x h
  refine okM_of Tryz.func82 rfl (Nat.le_of_ble_eq_true rfl) ?_
  (repeat' (first | refine asg ?_ | refine aops_nil ?_ | refine aw_seq ?_ | refine aw_region ?_ | fail))
  refine aw_drawP 21 [] ?_
  (repeat' (first | refine dPn ?_ | refine dP (fun _ => y_move) ?_ | refine dP (fun _ => y_assign) ?_ | refine dP (fun _ => y_load) ?_ | refine dP (fun _ => y_faddr_ptr (hs := Nat.le_of_ble_eq_true rfl)) ?_ | refine dP (fun _ => y_nilcP) ?_ | refine dP (fun _ => y_loadsN) ?_ | refine dP (fun _ => y_iaddrN 0 rfl) ?_ | refine dP (fun _ => (y_failsB cn (fun _ => panE rfl))) ?_ | refine dP (fun _ => y_bad) ?_ | fail))
  exact aops_bad
set_option maxHeartbeats 4000000 in
theorem byteAt_f2 (H : HHeap) (hi : H.In) (s x : Int) (h : isN x = true) (hw : wrongE H s 1 (nI x - 1) ≠ 0) : Fails Tryz.prog 82 (cR H s [x]) [.ptr 1000 0 0] (failV 130) := by
  have cn := psmall_yes x h
  have := nI_rng h
  have cg := Byte_ok H hi s (nI x - 1)
  refine okM_of Tryz.func82 rfl (Nat.le_of_ble_eq_true rfl) ?_
  (repeat' (first | refine asg ?_ | refine aops_nil ?_ | refine aw_seq ?_ | refine aw_region ?_ | fail))
  refine aw_drawP 21 [] ?_
  (repeat' (first | refine dPn ?_ | refine dP (fun _ => y_move) ?_ | refine dP (fun _ => y_assign) ?_ | refine dP (fun _ => y_extract) ?_ | refine dP (fun _ => y_load) ?_ | refine dP (fun _ => y_faddr_ptr (hs := Nat.le_of_ble_eq_true rfl)) ?_ | refine dP (fun _ => y_nilcP) ?_ | refine dP (fun _ => y_bw) ?_ | refine dP (fun _ => y_loadsN) ?_ | refine dP (fun _ => y_iaddrN 0 rfl) ?_ | refine dP (fun _ => y_call (cn)) ?_ | refine dP (fun _ => y_call (cg)) ?_ | fail))
  (repeat' (first | refine mv ?_ | refine asg ?_ | refine bf ?_ | refine aops_nil ?_ | refine aw_seq ?_ | refine aw_region ?_ | exact cF need_no (fun _ => panE rfl) | fail))
theorem byteI_rng (H : HHeap) (s a : Int) : 0 ≤ byteI H s a ∧ byteI H s a ≤ 255 := by
  unfold byteI
  split
  · have := btA_lt (H.at' s).text a
    omega
  · omega
set_option maxHeartbeats 4000000 in
theorem byteAt_y (H : HHeap) (hi : H.In) (s x : Int) (h : isN x = true) (hw : wrongE H s 1 (nI x - 1) = 0) : Mut Tryz.prog 82 (cR H s [x]) [.ptr 1000 0 0] (iv (byteI H s (nI x - 1) * 2 + 1)) (cR H s [x]) := by
  have cn := psmall_yes x h
  have := nI_rng h
  have hb := byteI_rng H s (nI x - 1)
  have cg := (Byte_ok H hi s (nI x - 1)).to' (by rw [hw])
  have ci := pint_yes (byteI H s (nI x - 1)) (by simp [smallB]; omega)
  refine okM_of Tryz.func82 rfl (Nat.le_of_ble_eq_true rfl) ?_
  (repeat' (first | refine asg ?_ | refine aops_nil ?_ | refine aw_seq ?_ | refine aw_region ?_ | fail))
  refine aw_drawP 21 [] ?_
  (repeat' (first | refine dPn ?_ | refine dP (fun _ => y_move) ?_ | refine dP (fun _ => y_assign) ?_ | refine dP (fun _ => y_extract) ?_ | refine dP (fun _ => y_load) ?_ | refine dP (fun _ => y_faddr_ptr (hs := Nat.le_of_ble_eq_true rfl)) ?_ | refine dP (fun _ => y_nilcP) ?_ | refine dP (fun _ => y_bw) ?_ | refine dP (fun _ => y_loadsN) ?_ | refine dP (fun _ => y_iaddrN 0 rfl) ?_ | refine dP (fun _ => y_call (cn)) ?_ | refine dP (fun _ => y_call (cg)) ?_ | fail))
  (repeat' (first | refine mv ?_ | refine asg ?_ | refine bt ?_ | refine aops_nil ?_ | refine aw_seq ?_ | refine aw_region ?_ | refine aw_ret ?_ | refine cl need_yes ?_ | refine cl ci ?_ | fail))
  exact finM (cR H s [x]) ⟨rfl, rfl⟩ (cR_same H s [x] rfl) (.same _ (.v _))
end Go.Proofs.YtnjihhheiiapnaaGreat
namespace Go.Proofs.YtnjihhheiiapnaaGreat
open Go Go.Proofs AW
def szF (H : HHeap) (s : Int) : Int := nI ((H.at' s).sl 2)
set_option maxHeartbeats 4000000 in
theorem fresh_f1 (H : HHeap) (hi : H.In) (s : Int) (h : (mayH H && clsB H s) = false) : Fails Tryz.prog 66 (cR H s []) [.ptr 1000 0 0] (failV 130) := by
  have cl' := (lookMay_ok H hi s).to' (congrArg bv h)
  refine okM_of Tryz.func66 rfl (Nat.le_of_ble_eq_true rfl) ?_
  (repeat' (first | refine asg ?_ | refine aops_nil ?_ | refine aw_seq ?_ | refine aw_region ?_ | fail))
  refine aw_drawP 10 [] ?_
  (repeat' (first | refine dPn ?_ | refine dP (fun _ => y_move) ?_ | refine dP (fun _ => y_load) ?_ | refine dP (fun _ => y_faddr_ptr (hs := Nat.le_of_ble_eq_true rfl)) ?_ | refine dP (fun _ => y_nilcP) ?_ | refine dP (fun _ => y_loadsN) ?_ | refine dP (fun _ => y_call (cl')) ?_ | refine dP (fun _ => (y_failsB need_no (fun _ => panE rfl))) ?_ | fail))
  exact aops_bad
theorem cls_facts {H : HHeap} {s : Int} (h : clsB H s = true) : 0 ≤ H.ref s ∧ (H.at' s).kind = 0 ∧ 3 ≤ (H.at' s).slots.length ∧ 0 ≤ H.ref ((H.at' s).sl 0) ∧ isN ((H.at' s).sl 2) = true ∧ 0 ≤ szF H s ∧ szF H s ≤ 64 := by
  simp only [clsB, Bool.and_eq_true, decide_eq_true_eq] at h
  obtain ⟨⟨h1, h2, h3, h4⟩, _, h5, h6, h7⟩ := h
  exact ⟨h1, h2, h3, h4, h5, h6, h7⟩
set_option maxHeartbeats 4000000 in
theorem fresh_f2 (H : HHeap) (hi : H.In) (s : Int) (h : (mayH H && clsB H s) = true) (he : allocE H s 0 (szF H s) = 30) : Fails Tryz.prog 66 (cR H s []) [.ptr 1000 0 0] (failV 30) := by
  have cl' := (lookMay_ok H hi s).to' (congrArg bv h)
  simp only [Bool.and_eq_true] at h
  obtain ⟨f1, f2, f3, f4, f5, f6, f7⟩ := cls_facts h.2
  have co := object_yes H s [] s f1
  have cn := psmall_yes _ f5
  have g2 := ints_get (sl_get (o := H.at' s) (k := 2) (by omega))
  have ca := palloc_full H hi s [] s 0 (szF H s) he
  refine okM_of Tryz.func66 rfl (Nat.le_of_ble_eq_true rfl) ?_
  (repeat' (first | refine asg ?_ | refine aops_nil ?_ | refine aw_seq ?_ | refine aw_region ?_ | fail))
  refine aw_drawP 10 [] ?_
  (repeat' (first | refine dPn ?_ | refine dP (fun _ => y_move) ?_ | refine dP (fun _ => y_load) ?_ | refine dP (fun _ => y_faddr_ptr (hs := Nat.le_of_ble_eq_true rfl)) ?_ | refine dP (fun _ => y_nilcP) ?_ | refine dP (fun _ => y_loadsN) ?_ | refine dP (fun _ => y_call (cl')) ?_ | refine dP (fun _ => y_call (need_yes)) ?_ | fail))
  (repeat' (first | refine aops_nil ?_ | refine aw_seq ?_ | fail))
  refine aw_drawP 18 [] ?_
  (repeat' (first | refine dPn ?_ | refine dP (fun _ => y_move) ?_ | refine dP (fun _ => y_load) ?_ | refine dP (fun _ => y_faddr_ptr (hs := Nat.le_of_ble_eq_true rfl)) ?_ | refine dP (fun _ => y_faddr_ip) ?_ | refine dP (fun _ => y_nilc) ?_ | refine dP (fun _ => y_nilcP) ?_ | refine dPs (fun _ => y_mutS (co)) ?_ | refine dP (fun _ => y_iaddrN 2 g2) ?_ | refine dP (fun _ => y_call (cn)) ?_ | refine dP (fun _ => (y_failsB ca (fun _ => panE rfl))) ?_ | fail))
  exact aops_bad
set_option maxHeartbeats 4000000 in
theorem fresh_y (H : HHeap) (hi : H.In) (s : Int) (h : (mayH H && clsB H s) = true) (he : allocE H s 0 (szF H s) = 0) : Mut Tryz.prog 66 (cR H s []) [.ptr 1000 0 0] (iv (2 * H.objs.length)) (cR (allocH H s 0 (szF H s)) s []) := by
  have cl' := (lookMay_ok H hi s).to' (congrArg bv h)
  simp only [Bool.and_eq_true] at h
  obtain ⟨f1, f2, f3, f4, f5, f6, f7⟩ := cls_facts h.2
  have co := object_yes H s [] s f1
  have cn := psmall_yes _ f5
  have g2 := ints_get (sl_get (o := H.at' s) (k := 2) (by omega))
  have ca := palloc_yes H hi s [] s 0 (szF H s) he
  refine okM_of Tryz.func66 rfl (Nat.le_of_ble_eq_true rfl) ?_
  (repeat' (first | refine asg ?_ | refine aops_nil ?_ | refine aw_seq ?_ | refine aw_region ?_ | fail))
  refine aw_drawP 10 [] ?_
  (repeat' (first | refine dPn ?_ | refine dP (fun _ => y_move) ?_ | refine dP (fun _ => y_load) ?_ | refine dP (fun _ => y_faddr_ptr (hs := Nat.le_of_ble_eq_true rfl)) ?_ | refine dP (fun _ => y_nilcP) ?_ | refine dP (fun _ => y_loadsN) ?_ | refine dP (fun _ => y_call (cl')) ?_ | refine dP (fun _ => y_call (need_yes)) ?_ | fail))
  (repeat' (first | refine aops_nil ?_ | refine aw_seq ?_ | fail))
  refine aw_drawP 18 [(17, 1000, .live 52 5 [callC (allocH H s 0 (szF H s)) s []], none)] ?_
  (repeat' (first | refine dPn ?_ | refine dP (fun _ => y_move) ?_ | refine dP (fun _ => y_load) ?_ | refine dP (fun _ => y_faddr_ptr (hs := Nat.le_of_ble_eq_true rfl)) ?_ | refine dP (fun _ => y_faddr_ip) ?_ | refine dP (fun _ => y_nilc) ?_ | refine dP (fun _ => y_nilcP) ?_ | refine dPs (fun _ => y_mutS (co)) ?_ | refine dP (fun _ => y_iaddrN 2 g2) ?_ | refine dP (fun _ => y_call (cn)) ?_ | refine dPE (fun _ => (y_mut ca)) ?_ | fail))
  (repeat' (first | refine asg ?_ | refine aops_nil ?_ | refine aw_ret ?_ | fail))
  exact finM (cR (allocH H s 0 (szF H s)) s []) ⟨rfl, rfl⟩ (cR_same _ s [] rfl) (.same _ (.v _))
end Go.Proofs.YtnjihhheiiapnaaGreat
