/- What the statements' walks need. -/
import Derived.Test.YtnjihhheiiapnaaGreatMTa4
import Derived.Test.YtnjihhheiiapnaaGreatMTx20
import Derived.Laws.FloatArith
import Derived.Deep.Draws
set_option linter.unusedVariables false
set_option linter.unusedSimpArgs false
set_option maxRecDepth 100000
namespace Go.Proofs.YtnjihhheiiapnaaGreat
open Go Go.Proofs AW Go.RowKit
def nanGot (w : World) (x y : Nat) : Nat := (Question.nanBits .f64 x y).cut (w.tape w.drawn (.nanBits .f64 x y))
theorem run_float_nan {P : Program} {w : World} (op : BinOp) (t : TypeId) (x y : Nat) (ho : op = .add ∨ op = .sub ∨ op = .mul ∨ op = .quo) (h : floatBits op .f64 x y = none) :
    (binOp op t (.float .f64 x) (.float .f64 y)).run P w = .ok (.float .f64 (nanGot w x y)) (w.drewN 1) := by
  unfold floatBits at h
  rcases ho with rfl | rfl | rfl | rfl <;> simp only at h <;> simp [binOp, Op.floatArith, h, choose, Sem.run, Question.forced, nanGot, World.drewN] <;> rfl
def fres : Option Nat → Int
  | some r => fcan r
  | none => 9221120237041090561
theorem fcan_nan (w : World) (x y : Nat) : fcan (nanGot w x y) = 9221120237041090561 := by
  have e : nanGot w x y = w.tape w.drawn (.nanBits .f64 x y) % 2 * 2 ^ 63 + 0x7ff0000000000000 + 1 + w.tape w.drawn (.nanBits .f64 x y) / 2 % (2 ^ 52 - 1) := rfl
  have h1 : w.tape w.drawn (.nanBits .f64 x y) % 2 < 2 := by omega
  have h2 : w.tape w.drawn (.nanBits .f64 x y) / 2 % (2 ^ 52 - 1) < 2 ^ 52 - 1 := Nat.mod_lt _ (by decide)
  generalize w.tape w.drawn (.nanBits .f64 x y) % 2 = A at *
  generalize w.tape w.drawn (.nanBits .f64 x y) / 2 % (2 ^ 52 - 1) = B at *
  unfold fcan
  rw [e, if_neg]
  omega
theorem op_fb {P : Program} {N : Fr} {Q : Exit → ASt → Prop} {st : ASt} {o : Oper} {K : ASt → Prop} {d : Nat} {op : BinOp} {t t' : TypeId} {p q : Operand} {x y : Nat} (ho : o.op = .binOp op t p q t') (hop : op = .add ∨ op = .sub ∨ op = .mul ∨ op = .quo) (hd : o.dst = some d) (hN : d < N.n)
    (hp : ev st p = some (.v (.float .f64 x))) (hq : ev st q = some (.v (.float .f64 y))) (k : ∀ r, fcan r = fres (floatBits op .f64 x y) → K (st.put d (.v (.float .f64 r)))) : AOp P N o K Q st := by
  intro I0 w0 β a w hr K' hK
  refine .inl ?_
  have h1 := (hr.ev hp).v_inv
  have h2 := (hr.ev hq).v_inv
  cases hb : floatBits op .f64 x y with
  | some r =>
    have hrun : (execOp a.eval o).run P w = .ok (.value (.float .f64 r)) w := by
      simp [execOp, ho, h1, h2, eqGuard_at_float, run_float_arith w op t .f64 x y r hb]
    simp only [Oper.wp, hrun, Oper.upon, hd]
    exact hK _ β _ w (hr.put hN (.v _)) (k r (by rw [hb]; rfl))
  | none =>
    have hrun : (execOp a.eval o).run P w = .ok (.value (.float .f64 (nanGot w x y))) (w.drewN 1) := by
      simp [execOp, ho, h1, h2, eqGuard_at_float, run_float_nan op t x y hop hb]
    simp only [Oper.wp, hrun, Oper.upon, hd]
    exact hK _ β _ _ ((hr.world (w' := w.drewN 1) (Below.refl _ w).drew).put hN (.v _)) (k _ (by rw [hb]; exact fcan_nan w x y))
def isAr : BinOp → Bool
  | .add | .sub | .mul | .quo => true
  | _ => false
theorem isAr_of {op : BinOp} (h : isAr op = true) : op = .add ∨ op = .sub ∨ op = .mul ∨ op = .quo := by
  cases op <;> first | (cases h; done) | simp
theorem fb {P : Program} {N : Fr} {Q : Exit → ASt → Prop} {st : ASt} {ops : Array Oper} {i : Nat} {l : List Nat} {d : Nat} {op : BinOp} {t t' : TypeId} {p q : Operand} {x y : Nat}
    (k : ∀ r, fcan r = fres (floatBits op .f64 x y) → AOps P N ops Q l (st.put d (.v (.float .f64 r)))) (ho : (ops.getD i default).op = .binOp op t p q t' := by rfl) (hop : isAr op = true := by rfl) (hp : ev st p = some (.v (.float .f64 x)) := by rfl) (hq : ev st q = some (.v (.float .f64 y)) := by rfl)
    (hi : Nat.blt i ops.size = true := by rfl) (hg : opAt N ops st i = true := by rfl) (hd : (ops.getD i default).dst = some d := by rfl) (hN : Nat.blt d N = true := by rfl) : AOps P N ops Q (i :: l) st :=
  st2 (op_fb ho (isAr_of hop) hd (blt_lt hN) hp hq k) hi hg
def opI (o a b : Int) : Int :=
  if o = 0 then fres (floatBits .add .f64 (fbits a) (fbits b)) else if o = 1 then fres (floatBits .sub .f64 (fbits a) (fbits b)) else if o = 2 then fres (floatBits .mul .f64 (fbits a) (fbits b)) else if o = 3 then fres (floatBits .quo .f64 (fbits a) (fbits b)) else 9221120237041090561
set_option maxHeartbeats 4000000 in
theorem fOp_ok (o a b : Int) (h : o = 0 ∨ o = 1 ∨ o = 2 ∨ o = 3) : Gives Tryz.prog 130 [iv o, iv a, iv b] (iv (opI o a b)) := by
  have c1 := number_ok a
  have c2 := number_ok b
  rcases h with rfl | rfl | rfl | rfl
  all_goals refine gives_of Tryz.func130 rfl (Nat.le_of_ble_eq_true rfl) ?_
  all_goals (repeat' (first | refine mv ?_ | refine asg ?_ | refine bt ?_ | refine bf ?_ | refine aops_nil ?_ | refine aw_seq ?_ | refine aw_region ?_ | refine aw_cond_t rfl ?_ | refine aw_cond_f rfl ?_ | refine aw_block ?_ | refine aw_ret ?_ | refine cl c1 ?_ | refine cl c2 ?_ | refine fb (fun r hr => ?_) | refine cl (bits_ok _) ?_ | fail))
  all_goals refine fin (sh_iv ?_)
  all_goals first | exact hr | (rename_i r hr; exact hr)
end Go.Proofs.YtnjihhheiiapnaaGreat
namespace Go.Proofs.YtnjihhheiiapnaaGreat
open Go Go.Proofs AW
def lessF (a b : Int) : Bool := FloatKind.f64.format.order (fbits a) (fbits b) == some .lt
def sameF (a b : Int) : Bool := FloatKind.f64.format.order (fbits a) (fbits b) == some .eq
set_option maxHeartbeats 4000000 in
theorem fLess_ok (a b : Int) : Gives Tryz.prog 75 [iv a, iv b] (bv (lessF a b)) := by
  have c1 := number_ok a
  have c2 := number_ok b
  refine gives_of Tryz.func75 rfl (Nat.le_of_ble_eq_true rfl) ?_
  (repeat' (first | refine mv ?_ | refine asg ?_ | refine bi ?_ | refine aops_nil ?_ | refine aw_seq ?_ | refine aw_region ?_ | refine aw_ret ?_ | refine cl c1 ?_ | refine cl c2 ?_ | fail))
  exact fin (sh_bv rfl)
set_option maxHeartbeats 4000000 in
theorem fEqual_ok (a b : Int) : Gives Tryz.prog 78 [iv a, iv b] (bv (sameF a b)) := by
  have c1 := number_ok a
  have c2 := number_ok b
  refine gives_of Tryz.func78 rfl (Nat.le_of_ble_eq_true rfl) ?_
  (repeat' (first | refine mv ?_ | refine asg ?_ | refine bi ?_ | refine aops_nil ?_ | refine aw_seq ?_ | refine aw_region ?_ | refine aw_ret ?_ | refine cl c1 ?_ | refine cl c2 ?_ | fail))
  exact fin (sh_bv rfl)
theorem y_cif {P : Program} {N : Fr} {Q : Exit → ASt → Prop} {st : ASt} {o : Oper} {z : Operand} {t t' : Nat} {k : IntKind} {n : Int} {dd : TypeDesc} (ho : o.op = .convert t t' z := by rfl) (ht : P.underlying t = some dd := by rfl) (ht' : P.underlying t' = some (.float .f64) := by rfl)
    (hz : ev st z = some (.v (.int k n)) := by rfl) : AYield P N Q o st (.v (.float .f64 (floatOfInt .f64 n))) :=
  AYield.still fun I0 w0 β a w hr => by
    have he := (hr.ev hz).v_inv
    exact ⟨_, by simp [execOp, ho, he, run_convert_int_float w t t' k .f64 n (by rw [ht]; rfl) ht'], .v _⟩
theorem cif {P : Program} {N : Fr} {Q : Exit → ASt → Prop} {st : ASt} {ops : Array Oper} {i : Nat} {l : List Nat} {d : Nat} {z : Operand} {t t' : Nat} {k : IntKind} {n : Int} {dd : TypeDesc} (kk : AOps P N ops Q l (st.put d (.v (.float .f64 (floatOfInt .f64 n))))) (ho : (ops.getD i default).op = .convert t t' z := by rfl) (hz : ev st z = some (.v (.int k n)) := by rfl) (ht : P.underlying t = some dd := by rfl) (ht' : P.underlying t' = some (.float .f64) := by rfl)
    (hi : Nat.blt i ops.size = true := by rfl) (hg : opAt N ops st i = true := by rfl) (hd : (ops.getD i default).dst = some d := by rfl) (hN : Nat.blt d N = true := by rfl) : AOps P N ops Q (i :: l) st := st1 (y_cif ho ht ht' hz) kk hi hg hd hN
def ofF (n : Int) : Int := fcan (floatOfInt .f64 n)
set_option maxHeartbeats 4000000 in
theorem fOf_ok (n : Int) (h1 : -9007199254740992 ≤ n) (h2 : n ≤ 9007199254740992) : Gives Tryz.prog 132 [iv n] (iv (ofF n)) := by
  refine gives_of Tryz.func132 rfl (Nat.le_of_ble_eq_true rfl) ?_
  (repeat' (first | refine mv ?_ | refine asg ?_ | refine bf ?_ | refine pf ?_ | refine aops_nil ?_ | refine aw_seq ?_ | refine aw_region ?_ | refine aw_cond_f rfl ?_ | refine aw_skip ?_ | refine aw_ret ?_ | refine cif ?_ | refine cl (bits_ok _) ?_ | fail))
  exact fin (sh_iv rfl)
end Go.Proofs.YtnjihhheiiapnaaGreat
namespace Go.Proofs.YtnjihhheiiapnaaGreat
open Go Go.Proofs AW
theorem floated_n (H : HHeap) (s : Int) (a : List Int) (v : Int) (h : isN v = true) : Mut Tryz.prog 76 (cR H s a) [.ptr 1000 0 0, iv v] (iv (ofF (nI v))) (cR H s a) := by
  have cn := (N_ok v).to' (by rw [h])
  have hr := nI_rng h
  have co := fOf_ok (nI v) (by omega) (by omega)
  refine okM_of Tryz.func76 rfl (Nat.le_of_ble_eq_true rfl) ?_
  (repeat' (first | refine mv ?_ | refine asg ?_ | refine ex ?_ | refine aops_nil ?_ | refine aw_seq ?_ | refine aw_region ?_ | refine aw_cond_t rfl ?_ | refine aw_ret ?_ | refine cl cn ?_ | refine cl co ?_ | fail))
  exact finM (cR H s a) ⟨rfl, rfl⟩ (cR_same H s a rfl) (.same _ (.v _))
theorem floated_y (H : HHeap) (s : Int) (a : List Int) (v : Int) (h : isN v = false) (hr : 0 ≤ H.ref v) (hk : (H.at' v).kind = 2) : Mut Tryz.prog 76 (cR H s a) [.ptr 1000 0 0, iv v] (iv (H.at' v).bits) (cR H s a) := by
  have cn := (N_ok v).to' (by rw [h])
  have co := object_yes H s a v hr
  refine okM_of Tryz.func76 rfl (Nat.le_of_ble_eq_true rfl) ?_
  (repeat' (first | refine mv ?_ | refine asg ?_ | refine ld ?_ | refine fi ?_ | refine bt ?_ | refine ex ?_ | refine nk ?_ | refine aops_nil ?_ | refine aw_seq ?_ | refine aw_region ?_ | refine aw_cond_f rfl ?_ | refine aw_skip ?_ | refine aw_ret ?_ | refine cl cn ?_ | refine cM co ?_ | refine cl need_yes ?_ | fail))
  exact finM (cR H s a) ⟨rfl, rfl⟩ (cR_same H s a rfl) (.same _ (.v _))
theorem floated_f (H : HHeap) (s : Int) (a : List Int) (v : Int) (h : isN v = false) (hr : 0 ≤ H.ref v) (hk : (H.at' v).kind ≠ 2) : Fails Tryz.prog 76 (cR H s a) [.ptr 1000 0 0, iv v] (failV 130) := by
  have cn := (N_ok v).to' (by rw [h])
  have co := object_yes H s a v hr
  refine okM_of Tryz.func76 rfl (Nat.le_of_ble_eq_true rfl) ?_
  (repeat' (first | refine mv ?_ | refine asg ?_ | refine ld ?_ | refine fi ?_ | refine bf ?_ | refine ex ?_ | refine nk ?_ | refine aops_nil ?_ | refine aw_seq ?_ | refine aw_region ?_ | refine aw_cond_f rfl ?_ | refine aw_skip ?_ | refine cl cn ?_ | refine cM co ?_ | exact cF need_no (fun _ => panE rfl) | fail))
end Go.Proofs.YtnjihhheiiapnaaGreat
namespace Go.Proofs.YtnjihhheiiapnaaGreat
open Go Go.Proofs AW
def floO (H : HHeap) (b : Int) : HObj := { newObj H 8 2 0 with bits := canI b }
def floH (H : HHeap) (b : Int) : HHeap := ⟨H.objs ++ [floO H b], H.cap, nextI H.last⟩
set_option maxHeartbeats 4000000 in
theorem float_full (H : HHeap) (hi : H.In) (s : Int) (a : List Int) (b : Int) (he : allocE H 8 2 0 = 30) : Fails Tryz.prog 81 (cR H s a) [.ptr 1000 0 0, iv b] (failV 30) := by
  have cr := (Ref_ok 4).to' (show AV.tup [iv (refV 4), bv (refB 4)] = .tup [iv 8, bv true] from rfl)
  have ca := palloc_full H hi s a 8 2 0 he
  refine okM_of Tryz.func81 rfl (Nat.le_of_ble_eq_true rfl) ?_
  (repeat' (first | refine mv ?_ | refine asg ?_ | refine ex ?_ | refine aops_nil ?_ | refine aw_seq ?_ | refine aw_region ?_ | refine cl cr ?_ | exact cF ca (fun _ => panE rfl) | fail))
end Go.Proofs.YtnjihhheiiapnaaGreat
namespace Go.Proofs.YtnjihhheiiapnaaGreat
open Go Go.Proofs AW
theorem flo_get (H : HHeap) : (encObjs (H.objs ++ [newObj H 8 2 0]))[H.objs.length]? = some (encObj (newObj H 8 2 0)) := by simp [encObjs]
theorem flo_lt (H : HHeap) : H.objs.length < (encObjs (H.objs ++ [newObj H 8 2 0])).length := by simp [encObjs]
theorem flo_len (H : HHeap) (hi : H.In) : IntKind.i64.wrap (((encObjs (H.objs ++ [newObj H 8 2 0])).length : Int) - 1) = (H.objs.length : Int) := by
  have := hi.2.2.2
  rw [IntKind.wrap_i64]
  simp [encObjs]
  omega
theorem flo_set (H : HHeap) (b : Int) : (encObjs (H.objs ++ [newObj H 8 2 0])).set H.objs.length (encObj (floO H b)) = encObjs (H.objs ++ [floO H b]) := by
  simp [encObjs, List.set_append]
theorem flo_same (H : HHeap) (b s : Int) (a : List Int) {T : Nat → Ob} (h1 : T 1000 = .live 52 5 [[.own 20, iv H.cap, iv (nextI H.last), iv s, .sl 1 (encInts a)]])
    (h2 : T 20 = .live 41 6 ((encObjs (H.objs ++ [newObj H 8 2 0])).set H.objs.length (encObj (floO H b)))) : FzAll id T (tb (cR (floH H b) s a)) ((cR (floH H b) s a).map (·.1)) := by
  rw [flo_set] at h2
  have hz : Fz id T (tb (cR (floH H b) s a)) (.own 20) (.sl 6 (encObjs (H.objs ++ [floO H b]))) := fz_flat h2 (fun j e s es hj e' => by have e2 : j = 20 := e'; subst e2; cases hj) (fun c hc => len_obj hc) (by simp)
  exact ⟨.one _ _ _ _ h1 rfl ⟨hz, fz_v _, fz_v _, fz_v _, .same _ (by simp), trivial⟩, trivial⟩
set_option maxHeartbeats 4000000 in
theorem float_y (H : HHeap) (hi : H.In) (s : Int) (a : List Int) (b : Int) (hb : In64 b) (he : allocE H 8 2 0 = 0) : Mut Tryz.prog 81 (cR H s a) [.ptr 1000 0 0, iv b] (iv (2 * H.objs.length)) (cR (floH H b) s a) := by
  have cr := (Ref_ok 4).to' (show AV.tup [iv (refV 4), bv (refB 4)] = .tup [iv 8, bv true] from rfl)
  have ca := palloc_own H hi s a 8 he
  have cc := canon_ok b hb
  refine okM_of Tryz.func81 rfl (Nat.le_of_ble_eq_true rfl) ?_
  (repeat' (first | refine mv ?_ | refine asg ?_ | refine ex ?_ | refine aops_nil ?_ | refine aw_seq ?_ | refine aw_region ?_ | refine cl cr ?_ | refine cM ca ?_ | fail))
  refine aw_drawP 14 [] ?_
  (repeat' (first | refine dPn ?_ | refine dP (fun _ => y_move) ?_ | refine dP (fun _ => y_load) ?_ | refine dP (fun _ => y_faddr_ptr (hs := Nat.le_of_ble_eq_true rfl)) ?_ | refine dP (fun _ => y_nilcP) ?_ | refine dP (fun _ => y_bin) ?_ | refine dP (fun _ => y_len) ?_ | refine dP (fun _ => y_call (cc)) ?_ | fail))
  (repeat' (first | refine mv ?_ | refine asg ?_ | refine fp ?_ | refine aops_nil ?_ | refine aw_seq ?_ | refine aw_region ?_ | refine aw_ret ?_ | refine iao H.objs.length (flo_lt H) ?_ (hn := flo_len H hi) | refine so ?_ (hq := flo_get H) | fail))
  exact finM (cR (floH H b) s a) ⟨rfl, rfl⟩ (flo_same H b s a rfl rfl) (.same _ (.v _))
end Go.Proofs.YtnjihhheiiapnaaGreat
