/- What the statements' walks need. -/
import Derived.Test.YtnjihhheiiapnaaGreatMTa4
import Derived.Test.YtnjihhheiiapnaaGreatMTx12
import Derived.Test.YtnjihhheiiapnaaGreatMTx13
set_option linter.unusedVariables false
set_option linter.unusedSimpArgs false
set_option maxRecDepth 100000
namespace Go.Proofs.YtnjihhheiiapnaaGreat
open Go Go.Proofs AW
theorem nI_rng {v : Int} (h : isN v = true) : -1073741824 ≤ nI v ∧ nI v ≤ 1073741823 := by
  simp [isN] at h; simp [nI, isN, h]; omega
theorem pint_yes (n : Int) (h : smallB n = true) : Gives Tryz.prog 118 [iv n] (iv (n * 2 + 1)) := by
  have h' : -1073741824 ≤ n ∧ n ≤ 1073741823 := by simpa [smallB] using h
  have ci := (Int_ok n).to' (show AV.tup [iv (numV n), bv (smallB n)] = .tup [iv (n * 2 + 1), bv true] by rw [numV, if_pos h', h])
  refine gives_of Tryz.func118 rfl (Nat.le_of_ble_eq_true rfl) ?_
  (repeat' (first | refine mv ?_ | refine asg ?_ | refine ex ?_ | refine aops_nil ?_ | refine aw_seq ?_ | refine aw_region ?_ | refine aw_ret ?_ | refine cl ci ?_ | refine cl need_yes ?_ | fail))
  exact fin (sh_iv rfl)
theorem pint_no (n : Int) (h : smallB n = false) : Fails Tryz.prog 118 [] [iv n] (failV 130) := by
  have ci := (Int_ok n).to' (show AV.tup [iv (numV n), bv (smallB n)] = .tup [iv (numV n), bv false] by rw [h])
  refine okM_of Tryz.func118 rfl (Nat.le_of_ble_eq_true rfl) ?_
  (repeat' (first | refine mv ?_ | refine asg ?_ | refine ex ?_ | refine aops_nil ?_ | refine aw_seq ?_ | refine aw_region ?_ | refine cl ci ?_ | exact cF need_no (fun _ => panE rfl) | fail))
set_option maxHeartbeats 4000000 in
theorem at_f1 (H : HHeap) (s x : Int) (h : isN x = false) : Fails Tryz.prog 63 (cR H s [x]) [.ptr 1000 0 0] (failV 130) := by
  have cn := psmall_no x h
  refine okM_of Tryz.func63 rfl (Nat.le_of_ble_eq_true rfl) ?_
  (repeat' (first | refine asg ?_ | refine aops_nil ?_ | refine aw_seq ?_ | refine aw_region ?_ | fail))
  refine aw_drawP 21 [] ?_
  (repeat' (first | refine dPn ?_ | refine dP (fun _ => y_move) ?_ | refine dP (fun _ => y_assign) ?_ | refine dP (fun _ => y_load) ?_ | refine dP (fun _ => y_faddr_ptr (hs := Nat.le_of_ble_eq_true rfl)) ?_ | refine dP (fun _ => y_nilcP) ?_ | refine dP (fun _ => y_loadsN) ?_ | refine dP (fun _ => y_iaddrN 0 rfl) ?_ | refine dP (fun _ => (y_failsB cn (fun _ => panE rfl))) ?_ | refine dP (fun _ => y_bad) ?_ | fail))

  exact aops_bad
set_option maxHeartbeats 4000000 in
theorem at_f2 (H : HHeap) (hi : H.In) (s x : Int) (h : isN x = true) (hw : wrongE H s 0 (nI x - 1) ≠ 0) : Fails Tryz.prog 63 (cR H s [x]) [.ptr 1000 0 0] (failV 130) := by
  have cn := psmall_yes x h
  have := nI_rng h
  have cg := Get_ok H hi s (nI x - 1)
  refine okM_of Tryz.func63 rfl (Nat.le_of_ble_eq_true rfl) ?_
  (repeat' (first | refine asg ?_ | refine aops_nil ?_ | refine aw_seq ?_ | refine aw_region ?_ | fail))
  refine aw_drawP 21 [] ?_
  (repeat' (first | refine dPn ?_ | refine dP (fun _ => y_move) ?_ | refine dP (fun _ => y_assign) ?_ | refine dP (fun _ => y_extract) ?_ | refine dP (fun _ => y_load) ?_ | refine dP (fun _ => y_faddr_ptr (hs := Nat.le_of_ble_eq_true rfl)) ?_ | refine dP (fun _ => y_nilcP) ?_ | refine dP (fun _ => y_bw) ?_ | refine dP (fun _ => y_loadsN) ?_ | refine dP (fun _ => y_iaddrN 0 rfl) ?_ | refine dP (fun _ => y_call (cn)) ?_ | refine dP (fun _ => y_call (cg)) ?_ | fail))
  (repeat' (first | refine mv ?_ | refine asg ?_ | refine bf ?_ | refine aops_nil ?_ | refine aw_seq ?_ | refine aw_region ?_ | exact cF need_no (fun _ => panE rfl) | fail))
set_option maxHeartbeats 4000000 in
theorem at_y (H : HHeap) (hi : H.In) (s x : Int) (h : isN x = true) (hw : wrongE H s 0 (nI x - 1) = 0) : Mut Tryz.prog 63 (cR H s [x]) [.ptr 1000 0 0] (iv (getI H s (nI x - 1))) (cR H s [x]) := by
  have cn := psmall_yes x h
  have := nI_rng h
  have cg := (Get_ok H hi s (nI x - 1)).to' (by rw [hw])
  refine okM_of Tryz.func63 rfl (Nat.le_of_ble_eq_true rfl) ?_
  (repeat' (first | refine asg ?_ | refine aops_nil ?_ | refine aw_seq ?_ | refine aw_region ?_ | fail))
  refine aw_drawP 21 [] ?_
  (repeat' (first | refine dPn ?_ | refine dP (fun _ => y_move) ?_ | refine dP (fun _ => y_assign) ?_ | refine dP (fun _ => y_extract) ?_ | refine dP (fun _ => y_load) ?_ | refine dP (fun _ => y_faddr_ptr (hs := Nat.le_of_ble_eq_true rfl)) ?_ | refine dP (fun _ => y_nilcP) ?_ | refine dP (fun _ => y_bw) ?_ | refine dP (fun _ => y_loadsN) ?_ | refine dP (fun _ => y_iaddrN 0 rfl) ?_ | refine dP (fun _ => y_call (cn)) ?_ | refine dP (fun _ => y_call (cg)) ?_ | fail))
  (repeat' (first | refine mv ?_ | refine asg ?_ | refine bt ?_ | refine aops_nil ?_ | refine aw_seq ?_ | refine aw_region ?_ | refine aw_ret ?_ | refine cl need_yes ?_ | fail))
  exact finM (cR H s [x]) ⟨rfl, rfl⟩ (cR_same H s [x] rfl) (.same _ (.v _))
set_option maxHeartbeats 4000000 in
theorem byteAt_f1 (H : HHeap) (s x : Int) (h : isN x = false) : Fails Tryz.prog 82 (cR H s [x]) [.ptr 1000 0 0] (failV 130) := by
  have cn := psmall_no x h
  refine okM_of Tryz.func82 rfl (Nat.le_of_ble_eq_true rfl) ?_
  (repeat' (first | refine asg ?_ | refine aops_nil ?_ | refine aw_seq ?_ | refine aw_region ?_ | fail))
  refine aw_drawP 21 [] ?_
  (repeat' (first | refine dPn ?_ | refine dP (fun _ => y_move) ?_ | refine dP (fun _ => y_assign) ?_ | refine dP (fun _ => y_load) ?_ | refine dP (fun _ => y_faddr_ptr (hs := Nat.le_of_ble_eq_true rfl)) ?_ | refine dP (fun _ => y_nilcP) ?_ | refine dP (fun _ => y_loadsN) ?_ | refine dP (fun _ => y_iaddrN 0 rfl) ?_ | refine dP (fun _ => (y_failsB cn (fun _ => panE rfl))) ?_ | refine dP (fun _ => y_bad) ?_ | fail))
  exact aops_bad
set_option maxHeartbeats 4000000 in
theorem byteAt_f2 (H : HHeap) (hi : H.In) (s x : Int) (h : isN x = true) (hw : wrongE H s 1 (nI x - 1) ≠ 0) : Fails Tryz.prog 82 (cR H s [x]) [.ptr 1000 0 0] (failV 130) := by
  have cn := psmall_yes x h
  have := nI_rng h
  have cg := Byte_ok H hi s (nI x - 1)
  refine okM_of Tryz.func82 rfl (Nat.le_of_ble_eq_true rfl) ?_
  (repeat' (first | refine asg ?_ | refine aops_nil ?_ | refine aw_seq ?_ | refine aw_region ?_ | fail))
  refine aw_drawP 21 [] ?_
  (repeat' (first | refine dPn ?_ | refine dP (fun _ => y_move) ?_ | refine dP (fun _ => y_assign) ?_ | refine dP (fun _ => y_extract) ?_ | refine dP (fun _ => y_load) ?_ | refine dP (fun _ => y_faddr_ptr (hs := Nat.le_of_ble_eq_true rfl)) ?_ | refine dP (fun _ => y_nilcP) ?_ | refine dP (fun _ => y_bw) ?_ | refine dP (fun _ => y_loadsN) ?_ | refine dP (fun _ => y_iaddrN 0 rfl) ?_ | refine dP (fun _ => y_call (cn)) ?_ | refine dP (fun _ => y_call (cg)) ?_ | fail))
  (repeat' (first | refine mv ?_ | refine asg ?_ | refine bf ?_ | refine aops_nil ?_ | refine aw_seq ?_ | refine aw_region ?_ | exact cF need_no (fun _ => panE rfl) | fail))
theorem byteI_rng (H : HHeap) (s a : Int) : 0 ≤ byteI H s a ∧ byteI H s a ≤ 255 := by
  unfold byteI
  split
  · have := btA_lt (H.at' s).text a
    omega
  · omega
set_option maxHeartbeats 4000000 in
theorem byteAt_y (H : HHeap) (hi : H.In) (s x : Int) (h : isN x = true) (hw : wrongE H s 1 (nI x - 1) = 0) : Mut Tryz.prog 82 (cR H s [x]) [.ptr 1000 0 0] (iv (byteI H s (nI x - 1) * 2 + 1)) (cR H s [x]) := by
  have cn := psmall_yes x h
  have := nI_rng h
  have hb := byteI_rng H s (nI x - 1)
  have cg := (Byte_ok H hi s (nI x - 1)).to' (by rw [hw])
  have ci := pint_yes (byteI H s (nI x - 1)) (by simp [smallB]; omega)
  refine okM_of Tryz.func82 rfl (Nat.le_of_ble_eq_true rfl) ?_
  (repeat' (first | refine asg ?_ | refine aops_nil ?_ | refine aw_seq ?_ | refine aw_region ?_ | fail))
  refine aw_drawP 21 [] ?_
  (repeat' (first | refine dPn ?_ | refine dP (fun _ => y_move) ?_ | refine dP (fun _ => y_assign) ?_ | refine dP (fun _ => y_extract) ?_ | refine dP (fun _ => y_load) ?_ | refine dP (fun _ => y_faddr_ptr (hs := Nat.le_of_ble_eq_true rfl)) ?_ | refine dP (fun _ => y_nilcP) ?_ | refine dP (fun _ => y_bw) ?_ | refine dP (fun _ => y_loadsN) ?_ | refine dP (fun _ => y_iaddrN 0 rfl) ?_ | refine dP (fun _ => y_call (cn)) ?_ | refine dP (fun _ => y_call (cg)) ?_ | fail))
  (repeat' (first | refine mv ?_ | refine asg ?_ | refine bt ?_ | refine aops_nil ?_ | refine aw_seq ?_ | refine aw_region ?_ | refine aw_ret ?_ | refine cl need_yes ?_ | refine cl ci ?_ | fail))
  exact finM (cR H s [x]) ⟨rfl, rfl⟩ (cR_same H s [x] rfl) (.same _ (.v _))
set_option maxHeartbeats 4000000 in
theorem class_y (H : HHeap) (hi : H.In) (s : Int) : Mut Tryz.prog 69 (cR H s []) [.ptr 1000 0 0] (iv (ofV H s)) (cR H s []) := by
  have cg := Of_ok H hi s
  refine okM_of Tryz.func69 rfl (Nat.le_of_ble_eq_true rfl) ?_
  (repeat' (first | refine asg ?_ | refine aops_nil ?_ | refine aw_seq ?_ | refine aw_region ?_ | fail))
  refine aw_drawP 13 [] ?_
  (repeat' (first | refine dPn ?_ | refine dP (fun _ => y_move) ?_ | refine dP (fun _ => y_assign) ?_ | refine dP (fun _ => y_extract) ?_ | refine dP (fun _ => y_load) ?_ | refine dP (fun _ => y_faddr_ptr (hs := Nat.le_of_ble_eq_true rfl)) ?_ | refine dP (fun _ => y_nilcP) ?_ | refine dP (fun _ => y_loadsN) ?_ | refine dP (fun _ => y_call (cg)) ?_ | fail))
  (repeat' (first | refine mv ?_ | refine asg ?_ | refine aops_nil ?_ | refine aw_seq ?_ | refine aw_region ?_ | refine aw_ret ?_ | fail))
  exact finM (cR H s []) ⟨rfl, rfl⟩ (cR_same H s [] rfl) (.same _ (.v _))
set_option maxHeartbeats 4000000 in
theorem hash_n (H : HHeap) (s : Int) (h : isN s = true) : Mut Tryz.prog 71 (cR H s []) [.ptr 1000 0 0] (iv s) (cR H s []) := by
  have cn := (N_ok s).to' (by rw [h])
  refine okM_of Tryz.func71 rfl (Nat.le_of_ble_eq_true rfl) ?_
  (repeat' (first | refine mv ?_ | refine asg ?_ | refine ld ?_ | refine fp ?_ | refine ex ?_ | refine nkp ?_ | refine aops_nil ?_ | refine aw_seq ?_ | refine aw_region ?_ | refine aw_cond_t rfl ?_ | refine aw_ret ?_ | refine cl cn ?_ | fail))
  exact finM (cR H s []) ⟨rfl, rfl⟩ (cR_same H s [] rfl) (.same _ (.v _))
set_option maxHeartbeats 4000000 in
theorem hash_y (H : HHeap) (s : Int) (h : isN s = false) (hr : 0 ≤ H.ref s) (hs : smallB (H.at' s).hash = true) : Mut Tryz.prog 71 (cR H s []) [.ptr 1000 0 0] (iv ((H.at' s).hash * 2 + 1)) (cR H s []) := by
  have cn := (N_ok s).to' (by rw [h])
  have co := object_yes H s [] s hr
  have ci := pint_yes _ hs
  refine okM_of Tryz.func71 rfl (Nat.le_of_ble_eq_true rfl) ?_
  (repeat' (first | refine mv ?_ | refine asg ?_ | refine ld ?_ | refine fp ?_ | refine fi ?_ | refine ex ?_ | refine nk ?_ | refine nkp ?_ | refine aops_nil ?_ | refine aw_seq ?_ | refine aw_region ?_ | refine aw_cond_f rfl ?_ | refine aw_skip ?_ | refine aw_ret ?_ | refine cl cn ?_ | refine cM co ?_ | refine cl ci ?_ | fail))
  exact finM (cR H s []) ⟨rfl, rfl⟩ (cR_same H s [] rfl) (.same _ (.v _))
set_option maxHeartbeats 4000000 in
theorem size_f1 (H : HHeap) (s : Int) (h : isAt s = false) : Fails Tryz.prog 65 (cR H s []) [.ptr 1000 0 0] (failV 130) := by
  have co := object_no H s [] s h
  refine okM_of Tryz.func65 rfl (Nat.le_of_ble_eq_true rfl) ?_
  (repeat' (first | refine mv ?_ | refine asg ?_ | refine ld ?_ | refine fp ?_ | refine nkp ?_ | refine aops_nil ?_ | refine aw_seq ?_ | refine aw_region ?_ | exact cF co (fun _ => panE rfl) | fail))
set_option maxHeartbeats 4000000 in
theorem size_f2 (H : HHeap) (s : Int) (hr : 0 ≤ H.ref s) (hk : (H.at' s).kind = 2) : Fails Tryz.prog 65 (cR H s []) [.ptr 1000 0 0] (failV 130) := by
  have co := object_yes H s [] s hr
  refine okM_of Tryz.func65 rfl (Nat.le_of_ble_eq_true rfl) ?_
  (repeat' (first | refine mv ?_ | refine asg ?_ | refine ld ?_ | refine fp ?_ | refine fi ?_ | refine bf ?_ | refine nk ?_ | refine nkp ?_ | refine aops_nil ?_ | refine aw_seq ?_ | refine aw_region ?_ | refine cM co ?_ | exact cF need_no (fun _ => panE rfl) | fail))
set_option maxHeartbeats 4000000 in
theorem size_y (H : HHeap) (s : Int) (hr : 0 ≤ H.ref s) (hk : (H.at' s).kind ≠ 2) (hl : (H.at' s).slots.length ≤ 64) (ht : (H.at' s).text.size ≤ 64) :
    Mut Tryz.prog 65 (cR H s []) [.ptr 1000 0 0] (iv (((H.at' s).slots.length + (H.at' s).text.size : Int) * 2 + 1)) (cR H s []) := by
  have co := object_yes H s [] s hr
  have ci := pint_yes ((H.at' s).slots.length + (H.at' s).text.size : Int) (by simp [smallB]; omega)
  have hls : (encInts (H.at' s).slots).length = (H.at' s).slots.length := len_ints _
  refine okM_of Tryz.func65 rfl (Nat.le_of_ble_eq_true rfl) ?_
  (repeat' (first | refine mv ?_ | refine asg ?_ | refine ld ?_ | refine fp ?_ | refine fi ?_ | refine bt ?_ | refine nk ?_ | refine nkp ?_ | refine aops_nil ?_ | refine aw_seq ?_ | refine aw_region ?_ | refine cM co ?_ | refine cl need_yes ?_ | fail))
  refine aw_drawP 12 [] ?_
  rw [← hls] at ci
  (repeat' (first | refine dPn ?_ | refine dP (fun _ => y_move) ?_ | refine dP (fun _ => y_load) ?_ | refine dP (fun _ => y_faddr_ip) ?_ | refine dP (fun _ => y_nilc) ?_ | refine dP (fun _ => y_bw) ?_ | refine dP (fun _ => y_len) ?_ | refine dP (fun _ => y_lens) ?_ | refine dP (fun _ => y_call (ci)) ?_ | fail))
  (repeat' (first | refine asg ?_ | refine aops_nil ?_ | refine aw_ret ?_ | fail))
  refine finM (cR H s []) ⟨?_, rfl⟩ (cR_same H s [] rfl) (.same _ (.v _))
  rw [hls]
end Go.Proofs.YtnjihhheiiapnaaGreat
