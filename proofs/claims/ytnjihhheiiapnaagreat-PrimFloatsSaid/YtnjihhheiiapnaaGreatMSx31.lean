/- What the statements' walks need. -/
import Derived.Test.YtnjihhheiiapnaaGreatMSa4
import Derived.Test.YtnjihhheiiapnaaGreatMSx30
import Derived.Laws.FloatArith
import Derived.Deep.Draws
set_option linter.unusedVariables false
set_option linter.unusedSimpArgs false
set_option maxRecDepth 100000
namespace Go.Proofs.YtnjihhheiiapnaaGreat
open Go Go.Proofs AW
theorem gives_sh {f : Nat} {args : List AV} {y : AV} (h : Ok Tryz.prog f args (fun x T => Sh T x y)) : Gives Tryz.prog f args y := by
  intro I0 w vs hI hvs
  refine (h I0 w vs hI hvs).mono ?_
  rintro e w' (hF | ⟨v, x, T, β, rfl, h1, h2, h3, h4⟩)
  · exact hF.elim
  · exact .inr ⟨v, y, noT, noβ, rfl, ⟨rfl, rfl⟩, h2, Objs.noT _, h1.rep h3 v h4⟩
theorem prim_num {k n f : Nat} {caps : List AV} (hk : primRows[k]? = some [iv n, .clo f caps]) : k < 27 ∧ argsI ((k : Int) + 1) = n ∧ argsB ((k : Int) + 1) = true := by
  have h1 : k < 27 := by have := (List.getElem?_eq_some_iff.1 hk).1; simpa [primRows] using this
  obtain ⟨c, hc, r, e⟩ := prim_args h1
  rw [hk] at hc
  cases hc
  have h2 : (n : Int) = argsL.getD k 0 := by
    have h3 := (List.cons.inj e).1
    injection h3 with h3
    injection h3 with _ h3
  refine ⟨h1, ?_, ?_⟩
  · rw [argsI, if_neg (by omega), h2]
    congr 1
    omega
  · simp [argsB]; omega
theorem Do_yes (H G : HHeap) (hi : H.In) (s v : Int) (a : List Int) {k n f : Nat} {caps : List AV} (hk : primRows[k]? = some [iv n, .clo f caps]) (hg : goFn Tryz.prog f = true) (hc : NoOwnL caps) (hok : okV H s a = true) (hl : a.length = n) (hn : n ≤ 2)
    (hM : Mut Tryz.prog f (cR H s a) ([.ptr 1000 0 0] ++ caps) (iv v) (cR G s a)) :
    Gives Tryz.prog 11 [.agg (encHeap H), iv ((k : Int) + 1), iv s, .sl 1 (encInts a)] (doV G v 0) := by
  obtain ⟨h1, h2, h3⟩ := prim_num hk
  exact gives_sh (Do_ok H hi _ s a ⟨by omega, by omega⟩ (by omega) _ (fun e => by rw [hok] at e; cases e) (fun _ e => absurd ⟨h3, by rw [h2, hl]⟩ e) (fun _ _ _ => ⟨k, n, f, caps, hk, rfl, hg, hc, .inl ⟨G, v, hM, rfl⟩⟩))
theorem Do_fail (H : HHeap) (hi : H.In) (s e : Int) (a : List Int) {k n f : Nat} {caps : List AV} (hk : primRows[k]? = some [iv n, .clo f caps]) (hg : goFn Tryz.prog f = true) (hc : NoOwnL caps) (hok : okV H s a = true) (hl : a.length = n) (hn : n ≤ 2)
    (hM : Fails Tryz.prog f (cR H s a) ([.ptr 1000 0 0] ++ caps) (failV e)) :
    Gives Tryz.prog 11 [.agg (encHeap H), iv ((k : Int) + 1), iv s, .sl 1 (encInts a)] (doV H 0 e) := by
  obtain ⟨h1, h2, h3⟩ := prim_num hk
  exact gives_sh (Do_ok H hi _ s a ⟨by omega, by omega⟩ (by omega) _ (fun e => by rw [hok] at e; cases e) (fun _ e => absurd ⟨h3, by rw [h2, hl]⟩ e) (fun _ _ _ => ⟨k, n, f, caps, hk, rfl, hg, hc, .inr ⟨e, hM, rfl⟩⟩))
def arithI (num a b : Int) : Option Int :=
  if num = 1 then some (a + b) else if num = 2 then some (a - b) else if num = 3 then some (a * b) else if b = 0 then none else if num = 4 then some (overI a b) else some (a - b * overI a b)
def outV (H : HHeap) : Option Int → AV
  | some c => if smallB c = true then doV H (c * 2 + 1) 0 else doV H 0 130
  | none => doV H 0 130
def wholeV (H : HHeap) (num s x : Int) : AV := if isN s = true ∧ isN x = true then outV H (arithI num (nI s) (nI x)) else doV H 0 130
theorem two_do {k g : Nat} (hk : primRows[k]? = some [iv ((1 : Nat) : Int), .clo 117 [.ip [.clo g []]]]) (hg : goFn Tryz.prog g = true) (H : HHeap) (hi : H.In) (s x : Int) (hok : okV H s [x] = true) (r : Option Int)
    (hr : isN s = true → isN x = true → match r with | some c => Gives Tryz.prog g [iv (nI s), iv (nI x)] (iv c) | none => Fails Tryz.prog g [] [iv (nI s), iv (nI x)] (failV 130)) :
    Gives Tryz.prog 11 [.agg (encHeap H), iv ((k : Int) + 1), iv s, .sl 1 (encInts [x])]
      (if isN s = true ∧ isN x = true then outV H r else doV H 0 130) := by
  have hno : NoOwnL [AV.ip [.clo g []]] := ⟨by simp, trivial⟩
  by_cases h : isN s = true ∧ isN x = true
  · rw [if_pos h]
    have hr' := hr h.1 h.2
    cases r with
    | some c =>
      cases hc : smallB c with
      | true =>
        rw [outV, if_pos hc]
        exact Do_yes H H hi s _ [x] hk rfl hno hok rfl (by omega) (two_y g hg H s x c h.1 h.2 hr' hc)
      | false =>
        rw [outV, if_neg (by rw [hc]; simp)]
        exact Do_fail H hi s _ [x] hk rfl hno hok rfl (by omega) (two_f3 g hg H s x c h.1 h.2 hr' hc)
    | none => exact Do_fail H hi s _ [x] hk rfl hno hok rfl (by omega) (two_f2 g hg H s x h.1 h.2 hr')
  · rw [if_neg h]
    exact Do_fail H hi s _ [x] hk rfl hno hok rfl (by omega) (two_f1 g H s x h)
theorem in30 {v : Int} (h : isN v = true) : In30 (nI v) := nI_rng h
theorem Do_1 (H : HHeap) (hi : H.In) (s x : Int) (hok : okV H s [x] = true) : Gives Tryz.prog 11 [.agg (encHeap H), iv 1, iv s, .sl 1 (encInts [x])] (wholeV H 1 s x) :=
  two_do (k := 0) rfl rfl H hi s x hok (some (nI s + nI x)) fun h1 h2 => pr1_ok _ _ (in30 h1) (in30 h2)
theorem Do_3 (H : HHeap) (hi : H.In) (s x : Int) (hok : okV H s [x] = true) : Gives Tryz.prog 11 [.agg (encHeap H), iv 3, iv s, .sl 1 (encInts [x])] (wholeV H 3 s x) :=
  two_do (k := 2) rfl rfl H hi s x hok (some (nI s * nI x)) fun h1 h2 => pr3_ok _ _ (in30 h1) (in30 h2)
theorem arith4 (a b : Int) : arithI 4 a b = if b = 0 then none else some (overI a b) := rfl
theorem Do_4 (H : HHeap) (hi : H.In) (s x : Int) (hok : okV H s [x] = true) : Gives Tryz.prog 11 [.agg (encHeap H), iv 4, iv s, .sl 1 (encInts [x])] (wholeV H 4 s x) :=
  two_do (k := 3) rfl rfl H hi s x hok (arithI 4 (nI s) (nI x)) fun h1 h2 => by
    rw [arith4]
    by_cases h0 : nI x = 0
    · rw [if_pos h0, h0]; exact over_f _
    · rw [if_neg h0]; exact over_ok _ _ (in30 h1) (in30 h2) h0
end Go.Proofs.YtnjihhheiiapnaaGreat
namespace Go.Proofs.YtnjihhheiiapnaaGreat
open Go Go.Proofs AW
def becV (H : HHeap) (s x : Int) : AV := if hiB s = true ∧ hiB x = true then doV (becomeH H s x) s 0 else doV H 0 130
theorem Do_16 (H : HHeap) (hi : H.In) (s x : Int) (hok : okV H s [x] = true) (he : hiB s = true → hiB x = true → becomeE H s x = 0) : Gives Tryz.prog 11 [.agg (encHeap H), iv 16, iv s, .sl 1 (encInts [x])] (becV H s x) := by
  cases h : hiB s with
  | false =>
    rw [becV, if_neg (by rw [h]; simp)]
    exact Do_fail H hi s _ [x] (k := 15) (n := 1) rfl rfl trivial hok rfl (by omega) (become_f1 H s x h)
  | true =>
    cases h2 : hiB x with
    | false =>
      rw [becV, if_neg (by rw [h2]; simp)]
      exact Do_fail H hi s _ [x] (k := 15) (n := 1) rfl rfl trivial hok rfl (by omega) (become_f2 H s x h h2)
    | true =>
      rw [becV, if_pos ⟨h, h2⟩]
      exact Do_yes H _ hi s _ [x] (k := 15) (n := 1) rfl rfl trivial hok rfl (by omega) (become_y H hi s x h h2 (he h h2))
end Go.Proofs.YtnjihhheiiapnaaGreat
namespace Go.Proofs.YtnjihhheiiapnaaGreat
open Go Go.Proofs AW
theorem okV_facts {H : HHeap} {s : Int} {a : List Int} (h : okV H s a = true) : mayH H = true ∧ 12 ≤ H.objs.length ∧ hasB H.objs.length s = true ∧ a.all (hasB H.objs.length) = true := by
  simp only [okV, Bool.and_eq_true, decide_eq_true_eq] at h
  exact ⟨h.1.1.1, h.1.1.2, h.1.2, h.2⟩
theorem has_cases {H : HHeap} {s : Int} (h : hasB H.objs.length s = true) : (isN s = true ∧ isAt s = false) ∨ (isN s = false ∧ 0 ≤ H.ref s) := by
  simp only [hasB, Bool.or_eq_true, decide_eq_true_eq] at h
  cases hn : isN s with
  | true => left; refine ⟨rfl, ?_⟩; simp [isN] at hn; simp [isAt]; omega
  | false => right; refine ⟨rfl, ?_⟩; rw [hn] at h; simpa [HHeap.ref] using h
theorem alloc_cases {H : HHeap} (hm : mayH H = true) {s kind size : Int} (hs : 0 ≤ H.ref s) (hk : kind = 0 ∨ kind = 1) (hz : 0 ≤ size ∧ size ≤ 64) : allocE H s kind size = 0 ∨ allocE H s kind size = 30 := by
  have hs' : ¬ refI H.objs.length s < 0 := by simp [HHeap.ref] at hs; omega
  unfold allocE
  rw [if_pos hm, if_neg hs', if_neg (by omega), if_neg (by omega)]
  split
  · exact .inr rfl
  · exact .inl rfl
def newV (H : HHeap) (s kind size : Int) : AV := if allocE H s kind size = 0 then doV (allocH H s kind size) (2 * H.objs.length) 0 else doV H 0 30
def freshV (H : HHeap) (s : Int) : AV := if clsB H s = true then newV H s 0 (szF H s) else doV H 0 130
theorem Do_11 (H : HHeap) (hi : H.In) (s : Int) (hok : okV H s [] = true) : Gives Tryz.prog 11 [.agg (encHeap H), iv 11, iv s, .sl 1 (encInts [])] (freshV H s) := by
  obtain ⟨o1, o2, o3, o4⟩ := okV_facts hok
  cases hc : clsB H s with
  | false =>
    rw [freshV, if_neg (by rw [hc]; simp)]
    exact Do_fail H hi s _ [] (k := 10) (n := 0) rfl rfl trivial hok rfl (by omega) (fresh_f1 H hi s (by rw [o1, hc]; rfl))
  | true =>
    have hb : (mayH H && clsB H s) = true := by rw [o1, hc]; rfl
    obtain ⟨f1, f2, f3, f4, f5, f6, f7⟩ := cls_facts hc
    rw [freshV, if_pos hc]
    rcases alloc_cases o1 f1 (.inl rfl) ⟨f6, f7⟩ with he | he
    · rw [newV, if_pos he]
      exact Do_yes H _ hi s _ [] (k := 10) (n := 0) rfl rfl trivial hok rfl (by omega) (fresh_y H hi s hb he)
    · rw [newV, if_neg (by rw [he]; decide)]
      exact Do_fail H hi s _ [] (k := 10) (n := 0) rfl rfl trivial hok rfl (by omega) (fresh_f2 H hi s hb he)
end Go.Proofs.YtnjihhheiiapnaaGreat
namespace Go.Proofs.YtnjihhheiiapnaaGreat
open Go Go.Proofs AW
def byteV (H : HHeap) (s x : Int) : AV := if isN x = true ∧ wrongE H s 1 (nI x - 1) = 0 then doV H (byteI H s (nI x - 1) * 2 + 1) 0 else doV H 0 130
theorem Do_25 (H : HHeap) (hi : H.In) (s x : Int) (hok : okV H s [x] = true) : Gives Tryz.prog 11 [.agg (encHeap H), iv 25, iv s, .sl 1 (encInts [x])] (byteV H s x) := by
  cases h : isN x with
  | false =>
    rw [byteV, if_neg (by rw [h]; simp)]
    exact Do_fail H hi s _ [x] (k := 24) (n := 1) rfl rfl trivial hok rfl (by omega) (byteAt_f1 H s x h)
  | true =>
    by_cases hw : wrongE H s 1 (nI x - 1) = 0
    · rw [byteV, if_pos ⟨h, hw⟩]
      exact Do_yes H H hi s _ [x] (k := 24) (n := 1) rfl rfl trivial hok rfl (by omega) (byteAt_y H hi s x h hw)
    · rw [byteV, if_neg (fun e => hw e.2)]
      exact Do_fail H hi s _ [x] (k := 24) (n := 1) rfl rfl trivial hok rfl (by omega) (byteAt_f2 H hi s x h hw)
end Go.Proofs.YtnjihhheiiapnaaGreat
namespace Go.Proofs.YtnjihhheiiapnaaGreat
open Go Go.Proofs AW Go.RowKit
def nanGot (w : World) (x y : Nat) : Nat := (Question.nanBits .f64 x y).cut (w.tape w.drawn (.nanBits .f64 x y))
theorem run_float_nan {P : Program} {w : World} (op : BinOp) (t : TypeId) (x y : Nat) (ho : op = .add ∨ op = .sub ∨ op = .mul ∨ op = .quo) (h : floatBits op .f64 x y = none) :
    (binOp op t (.float .f64 x) (.float .f64 y)).run P w = .ok (.float .f64 (nanGot w x y)) (w.drewN 1) := by
  unfold floatBits at h
  rcases ho with rfl | rfl | rfl | rfl <;> simp only at h <;> simp [binOp, Op.floatArith, h, choose, Sem.run, Question.forced, nanGot, World.drewN] <;> rfl
def fres : Option Nat → Int
  | some r => fcan r
  | none => 9221120237041090561
theorem fcan_nan (w : World) (x y : Nat) : fcan (nanGot w x y) = 9221120237041090561 := by
  have e : nanGot w x y = w.tape w.drawn (.nanBits .f64 x y) % 2 * 2 ^ 63 + 0x7ff0000000000000 + 1 + w.tape w.drawn (.nanBits .f64 x y) / 2 % (2 ^ 52 - 1) := rfl
  have h1 : w.tape w.drawn (.nanBits .f64 x y) % 2 < 2 := by omega
  have h2 : w.tape w.drawn (.nanBits .f64 x y) / 2 % (2 ^ 52 - 1) < 2 ^ 52 - 1 := Nat.mod_lt _ (by decide)
  generalize w.tape w.drawn (.nanBits .f64 x y) % 2 = A at *
  generalize w.tape w.drawn (.nanBits .f64 x y) / 2 % (2 ^ 52 - 1) = B at *
  unfold fcan
  rw [e, if_neg]
  omega
theorem op_fb {P : Program} {N : Fr} {Q : Exit → ASt → Prop} {st : ASt} {o : Oper} {K : ASt → Prop} {d : Nat} {op : BinOp} {t t' : TypeId} {p q : Operand} {x y : Nat} (ho : o.op = .binOp op t p q t') (hop : op = .add ∨ op = .sub ∨ op = .mul ∨ op = .quo) (hd : o.dst = some d) (hN : d < N.n)
    (hp : ev st p = some (.v (.float .f64 x))) (hq : ev st q = some (.v (.float .f64 y))) (k : ∀ r, fcan r = fres (floatBits op .f64 x y) → K (st.put d (.v (.float .f64 r)))) : AOp P N o K Q st := by
  intro I0 w0 β a w hr K' hK
  refine .inl ?_
  have h1 := (hr.ev hp).v_inv
  have h2 := (hr.ev hq).v_inv
  cases hb : floatBits op .f64 x y with
  | some r =>
    have hrun : (execOp a.eval o).run P w = .ok (.value (.float .f64 r)) w := by
      simp [execOp, ho, h1, h2, eqGuard_at_float, run_float_arith w op t .f64 x y r hb]
    simp only [Oper.wp, hrun, Oper.upon, hd]
    exact hK _ β _ w (hr.put hN (.v _)) (k r (by rw [hb]; rfl))
  | none =>
    have hrun : (execOp a.eval o).run P w = .ok (.value (.float .f64 (nanGot w x y))) (w.drewN 1) := by
      simp [execOp, ho, h1, h2, eqGuard_at_float, run_float_nan op t x y hop hb]
    simp only [Oper.wp, hrun, Oper.upon, hd]
    exact hK _ β _ _ ((hr.world (w' := w.drewN 1) (Below.refl _ w).drew).put hN (.v _)) (k _ (by rw [hb]; exact fcan_nan w x y))
def isAr : BinOp → Bool
  | .add | .sub | .mul | .quo => true
  | _ => false
theorem isAr_of {op : BinOp} (h : isAr op = true) : op = .add ∨ op = .sub ∨ op = .mul ∨ op = .quo := by
  cases op <;> first | (cases h; done) | simp
theorem fb {P : Program} {N : Fr} {Q : Exit → ASt → Prop} {st : ASt} {ops : Array Oper} {i : Nat} {l : List Nat} {d : Nat} {op : BinOp} {t t' : TypeId} {p q : Operand} {x y : Nat}
    (k : ∀ r, fcan r = fres (floatBits op .f64 x y) → AOps P N ops Q l (st.put d (.v (.float .f64 r)))) (ho : (ops.getD i default).op = .binOp op t p q t' := by rfl) (hop : isAr op = true := by rfl) (hp : ev st p = some (.v (.float .f64 x)) := by rfl) (hq : ev st q = some (.v (.float .f64 y)) := by rfl)
    (hi : Nat.blt i ops.size = true := by rfl) (hg : opAt N ops st i = true := by rfl) (hd : (ops.getD i default).dst = some d := by rfl) (hN : Nat.blt d N = true := by rfl) : AOps P N ops Q (i :: l) st :=
  st2 (op_fb ho (isAr_of hop) hd (blt_lt hN) hp hq k) hi hg
def opI (o a b : Int) : Int :=
  if o = 0 then fres (floatBits .add .f64 (fbits a) (fbits b)) else if o = 1 then fres (floatBits .sub .f64 (fbits a) (fbits b)) else if o = 2 then fres (floatBits .mul .f64 (fbits a) (fbits b)) else if o = 3 then fres (floatBits .quo .f64 (fbits a) (fbits b)) else 9221120237041090561
set_option maxHeartbeats 4000000 in
theorem fOp_ok (o a b : Int) (h : o = 0 ∨ o = 1 ∨ o = 2 ∨ o = 3) : Gives Tryz.prog 130 [iv o, iv a, iv b] (iv (opI o a b)) := by
  have c1 := number_ok a
  have c2 := number_ok b
  rcases h with rfl | rfl | rfl | rfl
  all_goals refine gives_of Tryz.func130 rfl (Nat.le_of_ble_eq_true rfl) ?_
  all_goals (repeat' (first | refine mv ?_ | refine asg ?_ | refine bt ?_ | refine bf ?_ | refine aops_nil ?_ | refine aw_seq ?_ | refine aw_region ?_ | refine aw_cond_t rfl ?_ | refine aw_cond_f rfl ?_ | refine aw_block ?_ | refine aw_ret ?_ | refine cl c1 ?_ | refine cl c2 ?_ | refine fb (fun r hr => ?_) | refine cl (bits_ok _) ?_ | fail))
  all_goals refine fin (sh_iv ?_)
  all_goals first | exact hr | (rename_i r hr; exact hr)
end Go.Proofs.YtnjihhheiiapnaaGreat
