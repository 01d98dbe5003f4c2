/- What the statements' walks need. -/
import Derived.Test.YtnjihhheiiapnaaGreatMSa4
import Derived.Test.YtnjihhheiiapnaaGreatMSx31
set_option linter.unusedVariables false
set_option linter.unusedSimpArgs false
set_option maxRecDepth 100000
namespace Go.Proofs.YtnjihhheiiapnaaGreat
open Go Go.Proofs AW
theorem y_cif {P : Program} {N : Fr} {Q : Exit → ASt → Prop} {st : ASt} {o : Oper} {z : Operand} {t t' : Nat} {k : IntKind} {n : Int} {dd : TypeDesc} (ho : o.op = .convert t t' z := by rfl) (ht : P.underlying t = some dd := by rfl) (ht' : P.underlying t' = some (.float .f64) := by rfl)
    (hz : ev st z = some (.v (.int k n)) := by rfl) : AYield P N Q o st (.v (.float .f64 (floatOfInt .f64 n))) :=
  AYield.still fun I0 w0 β a w hr => by
    have he := (hr.ev hz).v_inv
    exact ⟨_, by simp [execOp, ho, he, run_convert_int_float w t t' k .f64 n (by rw [ht]; rfl) ht'], .v _⟩
theorem cif {P : Program} {N : Fr} {Q : Exit → ASt → Prop} {st : ASt} {ops : Array Oper} {i : Nat} {l : List Nat} {d : Nat} {z : Operand} {t t' : Nat} {k : IntKind} {n : Int} {dd : TypeDesc} (kk : AOps P N ops Q l (st.put d (.v (.float .f64 (floatOfInt .f64 n))))) (ho : (ops.getD i default).op = .convert t t' z := by rfl) (hz : ev st z = some (.v (.int k n)) := by rfl) (ht : P.underlying t = some dd := by rfl) (ht' : P.underlying t' = some (.float .f64) := by rfl)
    (hi : Nat.blt i ops.size = true := by rfl) (hg : opAt N ops st i = true := by rfl) (hd : (ops.getD i default).dst = some d := by rfl) (hN : Nat.blt d N = true := by rfl) : AOps P N ops Q (i :: l) st := st1 (y_cif ho ht ht' hz) kk hi hg hd hN
def ofF (n : Int) : Int := fcan (floatOfInt .f64 n)
set_option maxHeartbeats 4000000 in
theorem fOf_ok (n : Int) (h1 : -9007199254740992 ≤ n) (h2 : n ≤ 9007199254740992) : Gives Tryz.prog 132 [iv n] (iv (ofF n)) := by
  refine gives_of Tryz.func132 rfl (Nat.le_of_ble_eq_true rfl) ?_
  (repeat' (first | refine mv ?_ | refine asg ?_ | refine bf ?_ | refine pf ?_ | refine aops_nil ?_ | refine aw_seq ?_ | refine aw_region ?_ | refine aw_cond_f rfl ?_ | refine aw_skip ?_ | refine aw_ret ?_ | refine cif ?_ | refine cl (bits_ok _) ?_ | fail))
  exact fin (sh_iv rfl)
end Go.Proofs.YtnjihhheiiapnaaGreat
namespace Go.Proofs.YtnjihhheiiapnaaGreat
open Go Go.Proofs AW
theorem floated_n (H : HHeap) (s : Int) (a : List Int) (v : Int) (h : isN v = true) : Mut Tryz.prog 76 (cR H s a) [.ptr 1000 0 0, iv v] (iv (ofF (nI v))) (cR H s a) := by
  have cn := (N_ok v).to' (by rw [h])
  have hr := nI_rng h
  have co := fOf_ok (nI v) (by omega) (by omega)
  refine okM_of Tryz.func76 rfl (Nat.le_of_ble_eq_true rfl) ?_
  (repeat' (first | refine mv ?_ | refine asg ?_ | refine ex ?_ | refine aops_nil ?_ | refine aw_seq ?_ | refine aw_region ?_ | refine aw_cond_t rfl ?_ | refine aw_ret ?_ | refine cl cn ?_ | refine cl co ?_ | fail))
  exact finM (cR H s a) ⟨rfl, rfl⟩ (cR_same H s a rfl) (.same _ (.v _))
theorem floated_y (H : HHeap) (s : Int) (a : List Int) (v : Int) (h : isN v = false) (hr : 0 ≤ H.ref v) (hk : (H.at' v).kind = 2) : Mut Tryz.prog 76 (cR H s a) [.ptr 1000 0 0, iv v] (iv (H.at' v).bits) (cR H s a) := by
  have cn := (N_ok v).to' (by rw [h])
  have co := object_yes H s a v hr
  refine okM_of Tryz.func76 rfl (Nat.le_of_ble_eq_true rfl) ?_
  (repeat' (first | refine mv ?_ | refine asg ?_ | refine ld ?_ | refine fi ?_ | refine bt ?_ | refine ex ?_ | refine nk ?_ | refine aops_nil ?_ | refine aw_seq ?_ | refine aw_region ?_ | refine aw_cond_f rfl ?_ | refine aw_skip ?_ | refine aw_ret ?_ | refine cl cn ?_ | refine cM co ?_ | refine cl need_yes ?_ | fail))
  exact finM (cR H s a) ⟨rfl, rfl⟩ (cR_same H s a rfl) (.same _ (.v _))
theorem floated_f (H : HHeap) (s : Int) (a : List Int) (v : Int) (h : isN v = false) (hr : 0 ≤ H.ref v) (hk : (H.at' v).kind ≠ 2) : Fails Tryz.prog 76 (cR H s a) [.ptr 1000 0 0, iv v] (failV 130) := by
  have cn := (N_ok v).to' (by rw [h])
  have co := object_yes H s a v hr
  refine okM_of Tryz.func76 rfl (Nat.le_of_ble_eq_true rfl) ?_
  (repeat' (first | refine mv ?_ | refine asg ?_ | refine ld ?_ | refine fi ?_ | refine bf ?_ | refine ex ?_ | refine nk ?_ | refine aops_nil ?_ | refine aw_seq ?_ | refine aw_region ?_ | refine aw_cond_f rfl ?_ | refine aw_skip ?_ | refine cl cn ?_ | refine cM co ?_ | exact cF need_no (fun _ => panE rfl) | fail))
end Go.Proofs.YtnjihhheiiapnaaGreat
namespace Go.Proofs.YtnjihhheiiapnaaGreat
open Go Go.Proofs AW
def floO (H : HHeap) (b : Int) : HObj := { newObj H 8 2 0 with bits := canI b }
def floH (H : HHeap) (b : Int) : HHeap := ⟨H.objs ++ [floO H b], H.cap, nextI H.last⟩
set_option maxHeartbeats 4000000 in
theorem float_full (H : HHeap) (hi : H.In) (s : Int) (a : List Int) (b : Int) (he : allocE H 8 2 0 = 30) : Fails Tryz.prog 81 (cR H s a) [.ptr 1000 0 0, iv b] (failV 30) := by
  have cr := (Ref_ok 4).to' (show AV.tup [iv (refV 4), bv (refB 4)] = .tup [iv 8, bv true] from rfl)
  have ca := palloc_full H hi s a 8 2 0 he
  refine okM_of Tryz.func81 rfl (Nat.le_of_ble_eq_true rfl) ?_
  (repeat' (first | refine mv ?_ | refine asg ?_ | refine ex ?_ | refine aops_nil ?_ | refine aw_seq ?_ | refine aw_region ?_ | refine cl cr ?_ | exact cF ca (fun _ => panE rfl) | fail))
end Go.Proofs.YtnjihhheiiapnaaGreat
namespace Go.Proofs.YtnjihhheiiapnaaGreat
open Go Go.Proofs AW
theorem flo_get (H : HHeap) : (encObjs (H.objs ++ [newObj H 8 2 0]))[H.objs.length]? = some (encObj (newObj H 8 2 0)) := by simp [encObjs]
theorem flo_lt (H : HHeap) : H.objs.length < (encObjs (H.objs ++ [newObj H 8 2 0])).length := by simp [encObjs]
theorem flo_len (H : HHeap) (hi : H.In) : IntKind.i64.wrap (((encObjs (H.objs ++ [newObj H 8 2 0])).length : Int) - 1) = (H.objs.length : Int) := by
  have := hi.2.2.2
  rw [IntKind.wrap_i64]
  simp [encObjs]
  omega
theorem flo_set (H : HHeap) (b : Int) : (encObjs (H.objs ++ [newObj H 8 2 0])).set H.objs.length (encObj (floO H b)) = encObjs (H.objs ++ [floO H b]) := by
  simp [encObjs, List.set_append]
theorem flo_same (H : HHeap) (b s : Int) (a : List Int) {T : Nat → Ob} (h1 : T 1000 = .live 52 5 [[.own 20, iv H.cap, iv (nextI H.last), iv s, .sl 1 (encInts a)]])
    (h2 : T 20 = .live 41 6 ((encObjs (H.objs ++ [newObj H 8 2 0])).set H.objs.length (encObj (floO H b)))) : FzAll id T (tb (cR (floH H b) s a)) ((cR (floH H b) s a).map (·.1)) := by
  rw [flo_set] at h2
  have hz : Fz id T (tb (cR (floH H b) s a)) (.own 20) (.sl 6 (encObjs (H.objs ++ [floO H b]))) := fz_flat h2 (fun j e s es hj e' => by have e2 : j = 20 := e'; subst e2; cases hj) (fun c hc => len_obj hc) (by simp)
  exact ⟨.one _ _ _ _ h1 rfl ⟨hz, fz_v _, fz_v _, fz_v _, .same _ (by simp), trivial⟩, trivial⟩
set_option maxHeartbeats 4000000 in
theorem float_y (H : HHeap) (hi : H.In) (s : Int) (a : List Int) (b : Int) (hb : In64 b) (he : allocE H 8 2 0 = 0) : Mut Tryz.prog 81 (cR H s a) [.ptr 1000 0 0, iv b] (iv (2 * H.objs.length)) (cR (floH H b) s a) := by
  have cr := (Ref_ok 4).to' (show AV.tup [iv (refV 4), bv (refB 4)] = .tup [iv 8, bv true] from rfl)
  have ca := palloc_own H hi s a 8 he
  have cc := canon_ok b hb
  refine okM_of Tryz.func81 rfl (Nat.le_of_ble_eq_true rfl) ?_
  (repeat' (first | refine mv ?_ | refine asg ?_ | refine ex ?_ | refine aops_nil ?_ | refine aw_seq ?_ | refine aw_region ?_ | refine cl cr ?_ | refine cM ca ?_ | fail))
  refine aw_drawP 14 [] ?_
  (repeat' (first | refine dPn ?_ | refine dP (fun _ => y_move) ?_ | refine dP (fun _ => y_load) ?_ | refine dP (fun _ => y_faddr_ptr (hs := Nat.le_of_ble_eq_true rfl)) ?_ | refine dP (fun _ => y_nilcP) ?_ | refine dP (fun _ => y_bin) ?_ | refine dP (fun _ => y_len) ?_ | refine dP (fun _ => y_call (cc)) ?_ | fail))
  (repeat' (first | refine mv ?_ | refine asg ?_ | refine fp ?_ | refine aops_nil ?_ | refine aw_seq ?_ | refine aw_region ?_ | refine aw_ret ?_ | refine iao H.objs.length (flo_lt H) ?_ (hn := flo_len H hi) | refine so ?_ (hq := flo_get H) | fail))
  exact finM (cR (floH H b) s a) ⟨rfl, rfl⟩ (flo_same H b s a rfl rfl) (.same _ (.v _))
end Go.Proofs.YtnjihhheiiapnaaGreat
