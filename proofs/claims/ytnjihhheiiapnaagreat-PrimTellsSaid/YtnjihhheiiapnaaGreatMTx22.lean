/- What the statements' walks need. -/
import Derived.Test.YtnjihhheiiapnaaGreatMTa4
import Derived.Test.YtnjihhheiiapnaaGreatMTx1
import Derived.Laws.FloatArith
import Derived.Deep.Draws
set_option linter.unusedVariables false
set_option linter.unusedSimpArgs false
set_option maxRecDepth 100000
namespace Go.Proofs.YtnjihhheiiapnaaGreat
open Go Go.Proofs AW Go.RowKit
theorem fge {P : Program} {N : Fr} {Q : Exit → ASt → Prop} {st : ASt} {ops : Array Oper} {i : Nat} {l : List Nat} {d : Nat} {t t' : TypeId} {p q : Operand} {x c : Nat} {g : Bool} (hv : (FloatKind.f64.format.order x c == some .gt || FloatKind.f64.format.order x c == some .eq) = g)
    (k : AOps P N ops Q l (st.put d (.v (.bool g)))) (ho : (ops.getD i default).op = .binOp .geq t p q t' := by rfl) (hp : ev st p = some (.v (.float .f64 x)) := by rfl) (hq : ev st q = some (.v (.float .f64 c)) := by rfl)
    (hi : Nat.blt i ops.size = true := by rfl) (hg : opAt N ops st i = true := by rfl) (hd : (ops.getD i default).dst = some d := by rfl) (hN : Nat.blt d N = true := by rfl) : AOps P N ops Q (i :: l) st :=
  bi k ho hp hq (fun w => by subst hv; rfl) hi hg hd hN
theorem flo {P : Program} {N : Fr} {Q : Exit → ASt → Prop} {st : ASt} {ops : Array Oper} {i : Nat} {l : List Nat} {d : Nat} {t t' : TypeId} {p q : Operand} {x c : Nat} {g : Bool} (hv : (FloatKind.f64.format.order x c == some .lt) = g)
    (k : AOps P N ops Q l (st.put d (.v (.bool g)))) (ho : (ops.getD i default).op = .binOp .lss t p q t' := by rfl) (hp : ev st p = some (.v (.float .f64 x)) := by rfl) (hq : ev st q = some (.v (.float .f64 c)) := by rfl)
    (hi : Nat.blt i ops.size = true := by rfl) (hg : opAt N ops st i = true := by rfl) (hd : (ops.getD i default).dst = some d := by rfl) (hN : Nat.blt d N = true := by rfl) : AOps P N ops Q (i :: l) st :=
  bi k ho hp hq (fun w => by subst hv; rfl) hi hg hd hN
theorem y_cfi {P : Program} {N : Fr} {Q : Exit → ASt → Prop} {st : ASt} {o : Oper} {z : Operand} {t t' : Nat} {x : Nat} {n : Int} (hn : floatToIntVal .f64 x .i64 = some n) (ho : o.op = .convert t t' z) (ht : P.underlying t = some (.float .f64)) (ht' : P.underlying t' = some (.int .i64))
    (hz : ev st z = some (.v (.float .f64 x))) : AYield P N Q o st (.v (.int .i64 n)) :=
  AYield.still fun I0 w0 β a w hr => by
    have he := (hr.ev hz).v_inv
    exact ⟨_, by simp [execOp, ho, he, run_convert_float_int w t t' .f64 .i64 x n (by rw [ht]; rfl) ht' hn], .v _⟩
theorem cfi {P : Program} {N : Fr} {Q : Exit → ASt → Prop} {st : ASt} {ops : Array Oper} {i : Nat} {l : List Nat} {d : Nat} {z : Operand} {t t' : Nat} {x : Nat} {n : Int} (hn : floatToIntVal .f64 x .i64 = some n) (kk : AOps P N ops Q l (st.put d (.v (.int .i64 n)))) (ho : (ops.getD i default).op = .convert t t' z := by rfl) (hz : ev st z = some (.v (.float .f64 x)) := by rfl) (ht : P.underlying t = some (.float .f64) := by rfl) (ht' : P.underlying t' = some (.int .i64) := by rfl)
    (hi : Nat.blt i ops.size = true := by rfl) (hg : opAt N ops st i = true := by rfl) (hd : (ops.getD i default).dst = some d := by rfl) (hN : Nat.blt d N = true := by rfl) : AOps P N ops Q (i :: l) st :=
  st1 (y_cfi hn ho ht ht' hz) kk hi hg hd hN
theorem below_drewN {B : Nat} {a w : World} (n : Nat) (h : Below B a w) : Below B a (w.drewN n) := ⟨h.os, h.tape, h.output, h.size, h.block⟩
theorem op_xtN {P : Program} {N : Fr} {Q : Exit → ASt → Prop} {st : ASt} {o : Oper} {K : ASt → Prop} {d : Nat} {g : Nat} {z : Operand} {xs : Array Operand} {ts : Array TypeId} {ls : List AV} {vs : List Value} {X : Value → Prop} (hrun : ∀ w, ∃ r n, (callFunc g vs.toArray).run P w = .ok (.value r) (w.drewN n) ∧ X r) (ho : o.op = .call ⟨.value z, xs, ts⟩) (hd : o.dst = some d) (hN : d < N.n)
    (hz : ev st z = some (.clo g [])) (hl : evs st xs.toList = some ls) (hv : valsOf ls = some vs) (k : ∀ r, X r → K (st.put d (.v r))) : AOp P N o K Q st := by
  intro I0 w0 β a w hr K' hK
  refine .inl ?_
  obtain ⟨r, n, hr1, hX⟩ := hrun w
  have hzr := hr.ev hz
  generalize hy : a.eval z = yv at hzr
  cases hzr with
  | clo _ _ cs hc _ =>
    have hcs : cs = #[] := Array.eq_empty_of_size_eq_zero (by simpa using hc.symm)
    subst hcs
    have hm := evs_map hl
    have hlen : ls.length = xs.size := by have := congrArg List.length hm; simpa using this.symm
    have hvl := valsOf_map hv
    have hargs : xs.map a.eval = vs.toArray := by
      apply Array.ext'
      rw [Array.toList_map]
      apply List.ext_getElem?
      intro j
      rw [List.getElem?_map]
      cases hj : xs.toList[j]? with
      | none =>
        have h1 : xs.toList.length ≤ j := List.getElem?_eq_none_iff.1 hj
        have h2 : vs.length = ls.length := by rw [hvl]; simp
        rw [List.getElem?_eq_none (by simp at h1 ⊢; omega)]; rfl
      | some q =>
        have h1 : (xs.toList.map (ev st))[j]? = some (ev st q) := by simp [hj]
        rw [hm, hvl] at h1
        simp only [List.getElem?_map] at h1
        cases hvj : vs[j]? with
        | none => simp [hvj] at h1
        | some u =>
          simp only [hvj, Option.map_some, Option.some.injEq] at h1
          have := (hr.ev h1.symm).v_inv
          simp [this, hvj]
    have hrun2 : (execOp a.eval o).run P w = .ok (.value r) (w.drewN n) := by
      simp [execOp, ho, resolve, hy, Deferred.ofValue, invoke, hargs, hr1]
    simp only [Oper.wp, hrun2, Oper.upon, hd]
    exact hK _ β _ _ ((hr.world (w' := w.drewN n) (below_drewN n (Below.refl _ w))).put hN (.v _)) (k _ hX)
theorem xtN {P : Program} {N : Fr} {Q : Exit → ASt → Prop} {st : ASt} {ops : Array Oper} {i : Nat} {l : List Nat} {d : Nat} {g : Nat} {z : Operand} {xs : Array Operand} {ts : Array TypeId} {ls : List AV} {vs : List Value} {X : Value → Prop} (hrun : ∀ w, ∃ r n, (callFunc g vs.toArray).run P w = .ok (.value r) (w.drewN n) ∧ X r) (k : ∀ r, X r → AOps P N ops Q l (st.put d (.v r))) (ho : (ops.getD i default).op = .call ⟨.value z, xs, ts⟩ := by rfl)
    (hz : ev st z = some (.clo g []) := by rfl) (hl : evs st xs.toList = some ls := by rfl) (hv : valsOf ls = some vs := by rfl) (hi : Nat.blt i ops.size = true := by rfl)
    (hg : opAt N ops st i = true := by rfl) (hd : (ops.getD i default).dst = some d := by rfl) (hN : Nat.blt d N = true := by rfl) : AOps P N ops Q (i :: l) st :=
  st2 (op_xtN hrun ho hd (blt_lt hN) hz hl hv k) hi hg
theorem cq {P : Program} {N : Fr} {Q : Exit → ASt → Prop} {st : ASt} {ops : Array Oper} {i : Nat} {l : List Nat} {d : Nat} {g : Nat} {caps : List AV} {z : Operand} {xs : Array Operand} {ts : Array TypeId} {ls l' : List AV} {X : Value → Prop} (hok : Ok P g l' fun y T => ∃ r, y = .v r ∧ X r ∧ T = noT) (k : ∀ r, X r → AOps P N ops Q l (st.put d (.v r))) (ho : (ops.getD i default).op = .call ⟨.value z, xs, ts⟩ := by rfl)
    (hz : ev st z = some (.clo g caps) := by rfl) (hl : evs st xs.toList = some ls := by rfl) (hl' : ls ++ caps = l' := by rfl) (hg' : goFn P g = true := by rfl) (hno : NoOwnL l' := by simp [NoOwnL]) (hi : Nat.blt i ops.size = true := by rfl)
    (hg : opAt N ops st i = true := by rfl) (hd : (ops.getD i default).dst = some d := by rfl) (hN : Nat.blt d N = true := by rfl) : AOps P N ops Q (i :: l) st := by
  subst hl'
  refine st2 (op_callT ho hd (blt_lt hN) hz hg' (evs_map hl) hno.mem hok ?_) hi hg
  rintro x T' ⟨r, rfl, hX, rfl⟩
  refine ⟨fun j hj => absurd rfl hj, ?_⟩
  have e : mergeT st.T noT = st.T := by funext j; rfl
  rw [e]
  exact k r hX
def fcut (b : Nat) : Nat := Ieee.double.write ((Ieee.double.read b).integral .zero)
theorem trunc_arms (b : Nat) : ∃ (h1 : (s : Bool) → (t : Nat) → Sem Value) (h2 : (d : Ieee.Datum) → Sem Value),
    Extern.MathFloor.toIntegral "math.archTrunc" .zero #[.float .f64 b] = Extern.MathFloor.toIntegral.match_1 (motive := fun _ => Sem Value) (Ieee.double.read b) h1 h2 ∧
    (∀ d, h2 d = pure (.float .f64 (Ieee.double.write (d.integral .zero)))) ∧
    ∀ s t (P : Program) (w : World), ∃ x n, (h1 s t).run P w = .ok (.float .f64 x) (w.drewN n) ∧ (x = b ∨ x = Ieee.double.write (.nan s (Ieee.double.quiet t))) := by
  refine ⟨_, _, rfl, fun d => rfl, fun s t P w => ?_⟩
  by_cases h : FloatKind.f64.format.quiet t = t
  · rw [if_pos h]
    exact ⟨b, 0, rfl, .inl rfl⟩
  · rw [if_neg h]
    refine ⟨_, 1, rfl, ?_⟩
    split
    · exact .inl rfl
    · exact .inr rfl
theorem trunc_run (b : Nat) (h : (Ieee.double.read b).isNaN = false) (w : World) : (callFunc 160 #[.float .f64 b]).run Tryz.prog w = .ok (.value (.float .f64 (fcut b))) w := by
  rw [run_callFunc_extern (e := Extern.MathFloor.toIntegral "math.archTrunc" .zero) Tryz.func160 (by kernel_rfl) (by kernel_rfl) (by kernel_rfl) (by kernel_rfl)]
  obtain ⟨h1, h2, e, g2, _⟩ := trunc_arms b
  rw [e]
  unfold fcut
  cases hd : Ieee.double.read b with
  | nan s t => rw [hd] at h; cases h
  | number s m i => show ((h2 (.number s m i)).run _ _).andThen _ = _; rw [g2]; rfl
  | infinity s => show ((h2 (.infinity s)).run _ _).andThen _ = _; rw [g2]; rfl
theorem read_nan_mk (s : Bool) (t : Nat) (h0 : 0 < t) (h1 : t < 2 ^ 52) : (Ieee.double.read (Ieee.double.write (.nan s t))).isNaN = true := by
  have e : Ieee.double.write (.nan s t) = (if s then 2 ^ 63 else 0) + (2047 * 2 ^ 52 + t) := by
    unfold Ieee.Format.write Ieee.Format.word
    simp only [show Ieee.double.signWeight = 2 ^ 63 from rfl, show Ieee.double.binade = 2 ^ 52 from rfl, show Ieee.double.infRung = 2047 * 2 ^ 52 from rfl]
    rw [Nat.mod_eq_of_lt h1]
    split <;> omega
  rw [e]
  unfold Ieee.Format.read
  simp only [show Ieee.double.signWeight = 2 ^ 63 from rfl, show Ieee.double.binade = 2 ^ 52 from rfl, show Ieee.double.infRung = 2047 * 2 ^ 52 from rfl]
  have e2 : ((if s then 2 ^ 63 else 0) + (2047 * 2 ^ 52 + t)) % 2 ^ 63 = 2047 * 2 ^ 52 + t := by split <;> omega
  rw [e2, if_neg (by omega), if_neg (by omega), if_neg (by omega)]
  rfl
theorem read_nan_lt (b : Nat) (s : Bool) (t : Nat) (h : Ieee.double.read b = .nan s t) : 0 < t ∧ t < 2 ^ 52 := by
  unfold Ieee.Format.read at h
  simp only [show Ieee.double.signWeight = 2 ^ 63 from rfl, show Ieee.double.binade = 2 ^ 52 from rfl, show Ieee.double.infRung = 2047 * 2 ^ 52 from rfl] at h
  have hm : b % 2 ^ 63 < 2 ^ 63 := Nat.mod_lt _ (by decide)
  split at h
  · cases h
  split at h
  · cases h
  split at h
  · cases h
  injection h with _ h
  omega
theorem order_of_nan (x y : Nat) (h : (Ieee.double.read x).isNaN = true) : Ieee.double.order x y = none := by
  unfold Ieee.Format.order
  cases hd : Ieee.double.read x with
  | nan s t => rfl
  | number s m i => rw [hd] at h; cases h
  | infinity s => rw [hd] at h; cases h
theorem trunc_run_nan (b : Nat) (h : (Ieee.double.read b).isNaN = true) (w : World) : ∃ x n, (callFunc 160 #[.float .f64 b]).run Tryz.prog w = .ok (.value (.float .f64 x)) (w.drewN n) ∧ (Ieee.double.read x).isNaN = true := by
  rw [run_callFunc_extern (e := Extern.MathFloor.toIntegral "math.archTrunc" .zero) Tryz.func160 (by kernel_rfl) (by kernel_rfl) (by kernel_rfl) (by kernel_rfl)]
  obtain ⟨h1, h2, e, _, g1⟩ := trunc_arms b
  rw [e]
  cases hd : Ieee.double.read b with
  | nan s t =>
    obtain ⟨x, n, hr, hx⟩ := g1 s t Tryz.prog w
    have hlt := read_nan_lt b s t hd
    refine ⟨x, n, by show ((h1 s t).run _ _).andThen _ = _; rw [hr]; rfl, ?_⟩
    rcases hx with rfl | rfl
    · rw [hd]; rfl
    · refine read_nan_mk s _ ?_ ?_
      · exact Nat.lt_of_lt_of_le hlt.1 Nat.left_le_or
      · exact Nat.or_lt_two_pow hlt.2 (by decide)
  | number s m i => rw [hd] at h; cases h
  | infinity s => rw [hd] at h; cases h
def CutTo (b x : Nat) : Prop := if (Ieee.double.read b).isNaN = true then (Ieee.double.read x).isNaN = true else x = fcut b
theorem cut_run (b : Nat) (w : World) : ∃ r n, (callFunc 160 #[.float .f64 b]).run Tryz.prog w = .ok (.value r) (w.drewN n) ∧ ∃ x, r = .float .f64 x ∧ CutTo b x := by
  cases h : (Ieee.double.read b).isNaN with
  | false => exact ⟨_, 0, trunc_run b h w, _, rfl, by rw [CutTo, if_neg (by rw [h]; simp)]⟩
  | true =>
    obtain ⟨x, n, h1, h2⟩ := trunc_run_nan b h w
    exact ⟨_, n, h1, x, rfl, by rw [CutTo, if_pos h]; exact h2⟩
theorem mTrunc_ok (b : Nat) : Ok Tryz.prog 153 [.v (.float .f64 b)] (fun y T => ∃ r, y = .v r ∧ (∃ x, r = .float .f64 x ∧ CutTo b x) ∧ T = noT) := by
  refine ok_of Tryz.func153 rfl (Nat.le_of_ble_eq_true rfl) ?_
  (repeat' (first | refine mv ?_ | refine asg ?_ | refine aops_nil ?_ | refine aw_seq ?_ | refine aw_region ?_ | refine aw_cond_t rfl ?_ | refine xtN (cut_run b) ?_ | fail))
  rintro r ⟨x, rfl, hx⟩
  (repeat' (first | refine asg ?_ | refine aops_nil ?_ | refine aw_ret ?_ | fail))
  exact ⟨.inl rfl, _, rfl, _, rfl, ⟨x, rfl, hx⟩, rfl⟩
def flt_Trunc.f (a0 : Int) : Option (Int × Bool) :=
  if (Ieee.double.read (fbits a0)).isNaN = true then .some (0, false)
  else if Ieee.double.order (fcut (fbits a0)) 13965662444475908096 = .some .gt ∨ Ieee.double.order (fcut (fbits a0)) 13965662444475908096 = .some .eq then
    if Ieee.double.order (fcut (fbits a0)) 4742290407621132288 = .some .lt then (floatToIntVal .f64 (fcut (fbits a0)) .i64).map (·, true)
    else .some (0, false)
  else .some (0, false)
theorem fTrunc_no (a : Int) (g1 g2 : Bool) (hg : (g1 && g2) = false) (h : ∀ x, CutTo (fbits a) x → (FloatKind.f64.format.order x 13965662444475908096 == .some .gt || FloatKind.f64.format.order x 13965662444475908096 == .some .eq) = g1 ∧ (FloatKind.f64.format.order x 4742290407621132288 == .some .lt) = g2) :
    Gives Tryz.prog 133 [iv a] (.tup [iv 0, bv false]) := by
  have c1 := number_ok a
  refine gives_of Tryz.func133 rfl (Nat.le_of_ble_eq_true rfl) ?_
  (repeat' (first | refine mv ?_ | refine asg ?_ | refine aops_nil ?_ | refine aw_seq ?_ | refine aw_region ?_ | refine cl c1 ?_ | fail))
  refine cq (mTrunc_ok _) ?_
  rintro _ ⟨x, rfl, hx⟩
  obtain ⟨h1, h2⟩ := h x hx
  refine asg ?_
  refine aops_nil ?_
  repeat' (first | refine aw_seq ?_ | refine aw_region ?_)
  refine mv ?_
  refine fge h1 ?_
  refine mv ?_
  cases g1 with
  | false =>
    refine sk ?_
    refine sk ?_
    refine pf ?_
    (repeat' (first | refine asg ?_ | refine aops_nil ?_ | refine aw_seq ?_ | refine aw_region ?_ | refine aw_cond_f rfl ?_ | refine aw_skip ?_ | refine aw_ret ?_ | fail))
    refine fin (sh_ib ?_ ?_) <;> rfl
  | true =>
    cases g2 with
    | true => cases hg
    | false =>
      refine mv ?_
      refine flo h2 ?_
      refine pt ?_
      (repeat' (first | refine asg ?_ | refine aops_nil ?_ | refine aw_seq ?_ | refine aw_region ?_ | refine aw_cond_f rfl ?_ | refine aw_skip ?_ | refine aw_ret ?_ | fail))
      refine fin (sh_ib ?_ ?_) <;> rfl
theorem fTrunc_yes (a n : Int) (h : ∀ x, CutTo (fbits a) x → ((FloatKind.f64.format.order x 13965662444475908096 == .some .gt || FloatKind.f64.format.order x 13965662444475908096 == .some .eq) = true ∧ (FloatKind.f64.format.order x 4742290407621132288 == .some .lt) = true) ∧ floatToIntVal .f64 x .i64 = some n) :
    Gives Tryz.prog 133 [iv a] (.tup [iv n, bv true]) := by
  have c1 := number_ok a
  refine gives_of Tryz.func133 rfl (Nat.le_of_ble_eq_true rfl) ?_
  (repeat' (first | refine mv ?_ | refine asg ?_ | refine aops_nil ?_ | refine aw_seq ?_ | refine aw_region ?_ | refine cl c1 ?_ | fail))
  refine cq (mTrunc_ok _) ?_
  rintro _ ⟨x, rfl, hx⟩
  obtain ⟨⟨h1, h2⟩, h3⟩ := h x hx
  refine asg ?_
  refine aops_nil ?_
  repeat' (first | refine aw_seq ?_ | refine aw_region ?_)
  refine mv ?_
  refine fge h1 ?_
  refine mv ?_
  refine mv ?_
  refine flo h2 ?_
  refine pt ?_
  (repeat' (first | refine mv ?_ | refine asg ?_ | refine aops_nil ?_ | refine aw_seq ?_ | refine aw_region ?_ | refine aw_cond_t rfl ?_ | refine aw_ret ?_ | refine cfi h3 ?_ | fail))
  refine fin (sh_ib ?_ ?_) <;> rfl
theorem fTrunc_ok (a r1 : Int) (r2 : Bool) (h : flt_Trunc.f a = some (r1, r2)) : Gives Tryz.prog 133 [iv a] (.tup [iv r1, bv r2]) := by
  unfold flt_Trunc.f at h
  by_cases c0 : (Ieee.double.read (fbits a)).isNaN = true
  · rw [if_pos c0] at h
    obtain ⟨rfl, rfl⟩ := Prod.mk.inj (Option.some.inj h)
    refine fTrunc_no a false false rfl fun x hx => ?_
    rw [CutTo, if_pos c0] at hx
    have hx1 : ∀ y, FloatKind.f64.format.order x y = none := fun y => order_of_nan x y hx
    rw [hx1, hx1]
    exact ⟨rfl, rfl⟩
  rw [if_neg c0] at h
  have hx0 : ∀ x, CutTo (fbits a) x → x = fcut (fbits a) := fun x hx => by rw [CutTo, if_neg c0] at hx; exact hx
  rw [show Ieee.double = FloatKind.f64.format from rfl] at h
  by_cases c1 : FloatKind.f64.format.order (fcut (fbits a)) 13965662444475908096 = .some .gt ∨ FloatKind.f64.format.order (fcut (fbits a)) 13965662444475908096 = .some .eq
  · rw [if_pos c1] at h
    have d1 : (FloatKind.f64.format.order (fcut (fbits a)) 13965662444475908096 == .some .gt || FloatKind.f64.format.order (fcut (fbits a)) 13965662444475908096 == .some .eq) = true := by
      rw [Bool.or_eq_true, beq_iff_eq, beq_iff_eq]; exact c1
    by_cases c2 : FloatKind.f64.format.order (fcut (fbits a)) 4742290407621132288 = .some .lt
    · rw [if_pos c2] at h
      cases hn : floatToIntVal .f64 (fcut (fbits a)) .i64 with
      | none => rw [hn] at h; cases h
      | some n =>
        rw [hn] at h
        obtain ⟨rfl, rfl⟩ := Prod.mk.inj (Option.some.inj h)
        exact fTrunc_yes a _ fun x hx => by rw [hx0 x hx]; exact ⟨⟨d1, by rw [c2]; rfl⟩, hn⟩
    · rw [if_neg c2] at h
      obtain ⟨rfl, rfl⟩ := Prod.mk.inj (Option.some.inj h)
      exact fTrunc_no a true false rfl fun x hx => by rw [hx0 x hx]; exact ⟨d1, beq_eq_false_iff_ne.2 c2⟩
  · rw [if_neg c1] at h
    obtain ⟨rfl, rfl⟩ := Prod.mk.inj (Option.some.inj h)
    refine fTrunc_no a false (FloatKind.f64.format.order (fcut (fbits a)) 4742290407621132288 == some .lt) rfl fun x hx => ?_
    rw [hx0 x hx]
    refine ⟨?_, rfl⟩
    rw [Bool.or_eq_false_iff, beq_eq_false_iff_ne, beq_eq_false_iff_ne]
    exact ⟨fun e => c1 (.inl e), fun e => c1 (.inr e)⟩
end Go.Proofs.YtnjihhheiiapnaaGreat
