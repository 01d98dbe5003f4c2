/- Abstract states: calls with what is the call's own; the steps in two letters. -/
import Derived.Test.YtafbiccgbgcooaaAWk
namespace Go.Proofs.Ytafbiccgbgcooaa.AW
open Go Go.RowKit
set_option linter.unusedVariables false
set_option linter.unusedSimpArgs false

def ShL (T : Nat → Ob) : List AV → List AV → Prop
  | [], [] => True
  | x :: xs, y :: ys => Sh T x y ∧ ShL T xs ys
  | _, _ => False
theorem ShL.get {T : Nat → Ob} : ∀ {l l' : List AV}, ShL T l l' → l.length = l'.length ∧ ∀ (j : Nat) (a b : AV), l[j]? = some a → l'[j]? = some b → Sh T a b
  | [], [], _ => ⟨rfl, by simp⟩
  | x :: xs, y :: ys, ⟨h1, h2⟩ => by
    obtain ⟨h3, h4⟩ := ShL.get h2
    refine ⟨by simp [h3], fun j a b ha hb => ?_⟩
    cases j with
    | zero => simp at ha hb; subst ha; subst hb; exact h1
    | succ j => exact h4 j a b (by simpa using ha) (by simpa using hb)
  | [], _ :: _, h => h.elim
  | _ :: _, [], h => h.elim
theorem shL_same {T : Nat → Ob} : ∀ {l : List AV}, NoOwnL l → ShL T l l
  | [], _ => trivial
  | x :: xs, ⟨h1, h2⟩ => ⟨.same x h1, shL_same h2⟩
theorem sh_agg {T : Nat → Ob} {l l' : List AV} (h : ShL T l l') : Sh T (.agg l) (.agg l') := .agg l l' h.get.1 h.get.2
theorem sh_tup {T : Nat → Ob} {l l' : List AV} (h : ShL T l l') : Sh T (.tup l) (.tup l') := .tup l l' h.get.1 h.get.2
theorem sh_clo {T : Nat → Ob} {f : Nat} {l l' : List AV} (h : ShL T l l') : Sh T (.clo f l) (.clo f l') := .clo f l l' h.get.1 h.get.2
/-- A variable in memory, caught by a function. -/
theorem sh_box {T : Nat → Ob} {i e s : Nat} {c c' : List AV} (hT : T i = .live e s [c]) (h : ShL T c c') : Sh T (.ptr i 0 0) (.ip c') := by
  have := Sh.ptr (T := T) i 0 0 e s [c] c c' hT rfl h.get.1 h.get.2
  simpa using this
theorem sh_own {T : Nat → Ob} {i e s : Nat} {es : List (List AV)} (hT : T i = .live e s es) (hs : ∀ c ∈ es, c.length = s) (h : ∀ c ∈ es, ∀ x ∈ c, NoOwn x) : Sh T (.own i) (.sl s es) :=
  .own i e s es es hT rfl hs fun j a b ha hb => by
    rw [ha] at hb; cases hb
    obtain ⟨c, hc, hxc⟩ := List.mem_flatten.1 (List.mem_of_getElem? ha)
    exact .same a (h c hc a hxc)
/-- Plain values alone. -/
def flatV : AV → Bool
  | .v _ => true
  | .agg l => l.all fun x => match x with | .v _ => true | _ => false
  | .tup l => l.all fun x => match x with | .v _ => true | _ => false
  | _ => false

section
variable {P : Program} {N : Nat} {Q : Exit → ASt → Prop} {st : ASt} {I0 : Nat → Prop} {w0 : World} {β : Nat → Value} {a : Act} {w : World}
theorem Rep.flat {I I' : Nat → Prop} {T T' : Nat → Ob} {β β' : Nat → Value} {w w' : World} {x : AV} {v : Value} (h : Rep I T β w x v) (hx : flatV x = true) : Rep I' T' β' w' x v := by
  have hl : ∀ (l : List AV), (l.all fun x => match x with | .v _ => true | _ => false) = true → ∀ (j : Nat) (p : AV) (u : Value), l[j]? = some p → Rep I T β w p u → Rep I' T' β' w' p u := by
    intro l hl j p u hp hr
    have := List.all_eq_true.1 hl p (List.mem_of_getElem? hp)
    cases hr with
    | v => exact .v _
    | _ => simp at this
  cases h with
  | v => exact .v _
  | agg l cs h1 h2 => exact .agg l cs h1 fun j p u hp hu => hl l hx j p u hp (h2 j p u hp hu)
  | tup l cs h1 h2 => exact .tup l cs h1 fun j p u hp hu => hl l hx j p u hp (h2 j p u hp hu)
  | _ => simp [flatV] at hx
section ops
variable {o : Oper} {K : ASt → Prop} {d : Nat} {x y : AV}
/-- A call that is handed what is the call's own, to read it, and tells plain values. -/
theorem y_callS {g : Nat} {caps : List AV} {z : Operand} {xs : Array Operand} {ts : Array TypeId} {l l' : List AV} (hok : Gives P g l' y) (ho : o.op = .call ⟨.value z, xs, ts⟩ := by rfl)
    (hz : ev st z = some (.clo g caps) := by rfl) (hl : evs st xs.toList = some l := by rfl) (hg : goFn P g = true := by rfl) (hfl : flatV y = true := by rfl) (hsh : ShL st.T (l ++ caps) l') : AYield P N Q o st y := by
  intro I0 w0 β a w hr K' hK
  have hzr := hr.ev hz
  generalize hy : a.eval z = yv at hzr
  cases hzr with
  | clo g caps vs hvl hvc =>
    have hm := evs_map hl
    have hlen : l.length = xs.size := by have := congrArg List.length hm; simpa using this.symm
    obtain ⟨s1, s2⟩ := hsh.get
    have hargs : All2 (Rep (Im I0 w0.heap.size noT noβ w) noT noβ w) l' ((xs.map a.eval) ++ vs).toList := by
      refine all2_of (by rw [← s1]; simp [hlen, hvl]) fun j p v hp hv => ?_
      have hj2 : j < (l ++ caps).length := by rw [s1]; exact (List.getElem?_eq_some_iff.1 hp).1
      refine (s2 j _ p (List.getElem?_eq_getElem hj2) hp).rep hr.objs v ?_
      have hq := List.getElem?_eq_getElem hj2
      generalize (l ++ caps)[j] = q at hq
      rcases Nat.lt_or_ge j l.length with hj | hj
      · rw [List.getElem?_append_left hj] at hq
        have h1 : (xs.toList.map (ev st))[j]? = some (some q) := by rw [hm]; simp [hq]
        simp only [List.getElem?_map, Array.getElem?_toList] at h1
        cases hcj : xs[j]? with
        | none => simp [hcj] at h1
        | some zz =>
          simp only [hcj, Option.map_some, Option.some.injEq] at h1
          have hv' : v = a.eval zz := by
            rw [Array.toList_append, List.getElem?_append_left (by simp; omega)] at hv
            simp [hcj] at hv
            exact hv.symm
          subst hv'
          exact hr.ev h1
      · rw [List.getElem?_append_right hj] at hq
        rw [Array.toList_append, List.getElem?_append_right (by simp; omega)] at hv
        simp only [Array.toList_map, List.length_map, Array.length_toList, Array.getElem?_toList] at hv
        rw [← hlen] at hv
        exact hvc _ _ _ hq hv
    have hc := hok (Im I0 w0.heap.size noT noβ w) w _ (fun b hb => hb.2.1) hargs
    simp only [Array.toArray_toList] at hc
    have hrun : (execOp a.eval o).run P w = .ok (.enter g ((xs.map a.eval) ++ vs)) w := by
      have := run_callFunc hg ((xs.map a.eval) ++ vs) w
      simp [execOp, ho, resolve, hy, Deferred.ofValue, invoke, this]
    refine .inl ?_
    simp only [Oper.wp, hrun, Oper.upon]
    refine hc.mono ?_
    rintro e w' (hF | ⟨v, x, T', β', rfl, ⟨rfl, rfl⟩, h2, h3, h4⟩)
    · exact hF.elim
    · exact hK v w' h2 (h4.flat hfl)
end ops

/-! The steps. -/
section steps
variable {ops : Array Oper} {i : Nat} {l : List Nat} {d : Nat} {x y : AV}
theorem mv {z : Operand} (k : AOps P N ops Q l (st.put d x)) (ho : (ops.getD i default).op = .move z := by rfl) (hz : ev st z = some x := by rfl) (hi : Nat.blt i ops.size = true := by rfl)
    (hg : opAt N ops st i = true := by rfl) (hd : (ops.getD i default).dst = some d := by rfl) (hN : Nat.blt d N = true := by rfl) : AOps P N ops Q (i :: l) st := st1 (y_move ho hz) k hi hg hd hN
theorem asg {z : Operand} (k : AOps P N ops Q l (st.put d x)) (ho : (ops.getD i default).op = .assign z := by rfl) (hz : ev st z = some x := by rfl) (hi : Nat.blt i ops.size = true := by rfl)
    (hg : opAt N ops st i = true := by rfl) (hd : (ops.getD i default).dst = some d := by rfl) (hN : Nat.blt d N = true := by rfl) : AOps P N ops Q (i :: l) st := st1 (y_assign ho hz) k hi hg hd hN
theorem pt {c p q : Operand} (k : AOps P N ops Q l (st.put d x)) (ho : (ops.getD i default).op = .pick c p q := by rfl) (hc : ev st c = some (.v (.bool true)) := by rfl) (hz : ev st p = some x := by rfl) (hi : Nat.blt i ops.size = true := by rfl)
    (hg : opAt N ops st i = true := by rfl) (hd : (ops.getD i default).dst = some d := by rfl) (hN : Nat.blt d N = true := by rfl) : AOps P N ops Q (i :: l) st := st1 (y_pick_t ho hc hz) k hi hg hd hN
theorem pf {c p q : Operand} (k : AOps P N ops Q l (st.put d x)) (ho : (ops.getD i default).op = .pick c p q := by rfl) (hc : ev st c = some (.v (.bool false)) := by rfl) (hz : ev st q = some x := by rfl) (hi : Nat.blt i ops.size = true := by rfl)
    (hg : opAt N ops st i = true := by rfl) (hd : (ops.getD i default).dst = some d := by rfl) (hN : Nat.blt d N = true := by rfl) : AOps P N ops Q (i :: l) st := st1 (y_pick_f ho hc hz) k hi hg hd hN
theorem bi {f : BinOp} {t t' : TypeId} {p q : Operand} {u v r : Value} (k : AOps P N ops Q l (st.put d (.v r))) (ho : (ops.getD i default).op = .binOp f t p q t' := by rfl) (hp : ev st p = some (.v u) := by rfl) (hq : ev st q = some (.v v) := by rfl)
    (hrun : ∀ w, (do eqGuard f t p q u v; binOp f t u v : Sem Value).run P w = .ok r w := by intro w; rfl) (hi : Nat.blt i ops.size = true := by rfl)
    (hg : opAt N ops st i = true := by rfl) (hd : (ops.getD i default).dst = some d := by rfl) (hN : Nat.blt d N = true := by rfl) : AOps P N ops Q (i :: l) st := st1 (y_bin ho hp hq hrun) k hi hg hd hN
theorem bw {f : BinOp} {t t' : TypeId} {p q : Operand} {u v : Value} {n : Int} (k : AOps P N ops Q l (st.put d (.v (.int .i64 n)))) (ho : (ops.getD i default).op = .binOp f t p q t' := by rfl) (hp : ev st p = some (.v u) := by rfl) (hq : ev st q = some (.v v) := by rfl)
    (hrun : ∀ w, (do eqGuard f t p q u v; binOp f t u v : Sem Value).run P w = .ok (.int .i64 (IntKind.i64.wrap n)) w := by intro w; rfl) (h : -9223372036854775808 ≤ n ∧ n ≤ 9223372036854775807 := by omega) (hi : Nat.blt i ops.size = true := by rfl)
    (hg : opAt N ops st i = true := by rfl) (hd : (ops.getD i default).dst = some d := by rfl) (hN : Nat.blt d N = true := by rfl) : AOps P N ops Q (i :: l) st := st1 (y_bin64 h ho hp hq hrun) k hi hg hd hN
theorem un {f : UnOp} {t : TypeId} {p : Operand} {u r : Value} (k : AOps P N ops Q l (st.put d (.v r))) (ho : (ops.getD i default).op = .unOp f t p := by rfl) (hp : ev st p = some (.v u) := by rfl)
    (hrun : ∀ w, (Op.unary f u).run P w = .ok r w := by intro w; rfl) (hi : Nat.blt i ops.size = true := by rfl)
    (hg : opAt N ops st i = true := by rfl) (hd : (ops.getD i default).dst = some d := by rfl) (hN : Nat.blt d N = true := by rfl) : AOps P N ops Q (i :: l) st := st1 (y_un ho hp hrun) k hi hg hd hN
theorem ld {z : Operand} {t n : Nat} {cs : List AV} (k : AOps P N ops Q l (st.put d y)) (ho : (ops.getD i default).op = .load t z := by rfl) (hz : ev st z = some x := by rfl) (hl : look st x = some cs := by rfl) (ht : szOf P t = some (n, false) := by rfl) (h0 : cs[0]? = some y := by rfl)
    (hi : Nat.blt i ops.size = true := by rfl) (hg : opAt N ops st i = true := by rfl) (hd : (ops.getD i default).dst = some d := by rfl) (hN : Nat.blt d N = true := by rfl) : AOps P N ops Q (i :: l) st := st1 (y_load ho ht hz hl h0) k hi hg hd hN
theorem la {z : Operand} {t n : Nat} {cs : List AV} (k : AOps P N ops Q l (st.put d (.agg (cs.take n)))) (ho : (ops.getD i default).op = .load t z := by rfl) (hz : ev st z = some x := by rfl) (hl : look st x = some cs := by rfl) (ht : szOf P t = some (n, true) := by rfl) (hn : Nat.ble n cs.length = true := by rfl)
    (hi : Nat.blt i ops.size = true := by rfl) (hg : opAt N ops st i = true := by rfl) (hd : (ops.getD i default).dst = some d := by rfl) (hN : Nat.blt d N = true := by rfl) : AOps P N ops Q (i :: l) st := st1 (y_loads ho ht hz hl (by simpa using hn)) k hi hg hd hN
theorem fi {z : Operand} {t f off n : Nat} {ag : Bool} {cs : List AV} (k : AOps P N ops Q l (st.put d (.ip (cs.drop off)))) (ho : (ops.getD i default).op = .fieldAddr t z f := by rfl) (hz : ev st z = some (.ip cs) := by rfl) (ht : fldOf P t f = some (off, n + 1, ag) := by rfl)
    (hi : Nat.blt i ops.size = true := by rfl) (hg : opAt N ops st i = true := by rfl) (hd : (ops.getD i default).dst = some d := by rfl) (hN : Nat.blt d N = true := by rfl) : AOps P N ops Q (i :: l) st := st1 (y_faddr_ip ho ht hz) k hi hg hd hN
theorem fp {z : Operand} {t f off n : Nat} {ag : Bool} {j e s q r : Nat} {es : List (List AV)} (k : AOps P N ops Q l (st.put d (.ptr j q (r + off)))) (ho : (ops.getD i default).op = .fieldAddr t z f := by rfl) (hz : ev st z = some (.ptr j q r) := by rfl) (ht : fldOf P t f = some (off, n + 1, ag) := by rfl)
    (hT : st.T j = .live e s es := by rfl) (hs : Nat.ble (r + off) s = true := by rfl)
    (hi : Nat.blt i ops.size = true := by rfl) (hg : opAt N ops st i = true := by rfl) (hd : (ops.getD i default).dst = some d := by rfl) (hN : Nat.blt d N = true := by rfl) : AOps P N ops Q (i :: l) st := st1 (y_faddr_ptr ho ht hz hT (by simpa using hs)) k hi hg hd hN
theorem fd {z : Operand} {t f off n : Nat} {ls : List AV} (k : AOps P N ops Q l (st.put d y)) (ho : (ops.getD i default).op = .field t z f := by rfl) (hz : ev st z = some (.agg ls) := by rfl) (ht : fldOf P t f = some (off, n, false) := by rfl) (h0 : ls[off]? = some y := by rfl)
    (hi : Nat.blt i ops.size = true := by rfl) (hg : opAt N ops st i = true := by rfl) (hd : (ops.getD i default).dst = some d := by rfl) (hN : Nat.blt d N = true := by rfl) : AOps P N ops Q (i :: l) st := st1 (y_field ho ht hz h0) k hi hg hd hN
theorem ex {z : Operand} {j : Nat} {ls : List AV} (k : AOps P N ops Q l (st.put d y)) (ho : (ops.getD i default).op = .extract z j := by rfl) (hz : ev st z = some (.tup ls) := by rfl) (h0 : ls[j]? = some y := by rfl)
    (hi : Nat.blt i ops.size = true := by rfl) (hg : opAt N ops st i = true := by rfl) (hd : (ops.getD i default).dst = some d := by rfl) (hN : Nat.blt d N = true := by rfl) : AOps P N ops Q (i :: l) st := st1 (y_extract ho hz h0) k hi hg hd hN
theorem ln {z : Operand} {t e s n : Nat} {ts : Array TypeId} (k : AOps P N ops Q l (st.put d (.v (.int .i64 (n : Int))))) (ho : (ops.getD i default).op = .call ⟨.builtin .len, #[z], ts⟩ := by rfl) (hz : ev st z = some x := by rfl) (hn : lenA st x = some n := by rfl) (hts : ts[0]? = some t := by rfl) (ht : elOf P t = some (e, s) := by rfl)
    (hi : Nat.blt i ops.size = true := by rfl) (hg : opAt N ops st i = true := by rfl) (hd : (ops.getD i default).dst = some d := by rfl) (hN : Nat.blt d N = true := by rfl) : AOps P N ops Q (i :: l) st := st1 (y_len ho hts ht hz hn) k hi hg hd hN
theorem lns {z : Operand} {t : Nat} {b : ByteArray} {ts : Array TypeId} (k : AOps P N ops Q l (st.put d (.v (.int .i64 (b.size : Int))))) (ho : (ops.getD i default).op = .call ⟨.builtin .len, #[z], ts⟩ := by rfl) (hz : ev st z = some (.v (.string b)) := by rfl) (hts : ts[0]? = some t := by rfl) (ht : P.underlying t = some .string := by rfl)
    (hi : Nat.blt i ops.size = true := by rfl) (hg : opAt N ops st i = true := by rfl) (hd : (ops.getD i default).dst = some d := by rfl) (hN : Nat.blt d N = true := by rfl) : AOps P N ops Q (i :: l) st := st1 (y_lens ho hts ht hz) k hi hg hd hN
theorem mf {f : Nat} {caps : Array Operand} {ls : List AV} (k : AOps P N ops Q l (st.put d (.clo f ls))) (ho : (ops.getD i default).op = .makeFunc (.func f) #[] caps := by rfl) (hl : evs st caps.toList = some ls := by rfl)
    (hi : Nat.blt i ops.size = true := by rfl) (hg : opAt N ops st i = true := by rfl) (hd : (ops.getD i default).dst = some d := by rfl) (hN : Nat.blt d N = true := by rfl) : AOps P N ops Q (i :: l) st := st1 (y_makeFunc ho hl) k hi hg hd hN
theorem bd {t : Nat} {parts : Array (Nat × Operand)} {ps : List (Nat × AV)} {ls : List AV} (k : AOps P N ops Q l (st.put d (.agg ls))) (ho : (ops.getD i default).op = .build t parts := by rfl) (hps : evps st parts.toList = some ps := by rfl) (hb : builtA P t ps = some ls := by rfl)
    (hok : (ps.all fun p => (cellsA p.2).all (cok1 st.T)) = true := by rfl)
    (hi : Nat.blt i ops.size = true := by rfl) (hg : opAt N ops st i = true := by rfl) (hd : (ops.getD i default).dst = some d := by rfl) (hN : Nat.blt d N = true := by rfl) : AOps P N ops Q (i :: l) st := st1 (y_build ho hps hb hok) k hi hg hd hN
theorem bx {t : Nat} {z : Operand} (j : Nat) (k : AOps P N ops Q l (ASt.mk ((d, .ptr j 0 0) :: st.env) (upd st.T j (.live t (cellsA x).length [cellsA x])))) (ho : (ops.getD i default).op = .box t z := by rfl) (hz : ev st z = some x := by rfl) (hx : (cellsA x).all (cok1 st.T) = true := by rfl) (hj : st.T j = .no := by rfl)
    (hi : Nat.blt i ops.size = true := by rfl) (hg : opAt N ops st i = true := by rfl) (hd : (ops.getD i default).dst = some d := by rfl) (hN : Nat.blt d N = true := by rfl) : AOps P N ops Q (i :: l) st := st2 (op_box ho hd (blt_lt hN) hz hx hj k) hi hg
theorem al {t : Nat} {z : Value} {info : TypeInfo} (j : Nat) (k : AOps P N ops Q l (ASt.mk ((d, .ptr j 0 0) :: st.env) (upd st.T j (.live t z.cells.size [z.cells.toList.map .v])))) (ho : (ops.getD i default).op = .alloc t := by rfl) (hinfo : P.info? t = some info := by rfl) (hz : info.zero = some z := by rfl) (hj : st.T j = .no := by rfl)
    (hi : Nat.blt i ops.size = true := by rfl) (hg : opAt N ops st i = true := by rfl) (hd : (ops.getD i default).dst = some d := by rfl) (hN : Nat.blt d N = true := by rfl) : AOps P N ops Q (i :: l) st := st2 (op_alloc (n := 0) (ag := true) ho hd (blt_lt hN) hinfo hz hj k) hi hg
theorem so {t n : Nat} {ag : Bool} {zp zv : Operand} {j q r e s : Nat} {es : List (List AV)} {c : List AV} (k : AOps P N ops Q l (ASt.mk st.env (upd st.T j (.live e s (es.set q (c.take r ++ cellsA x ++ c.drop (r + n))))))) (ho : (ops.getD i default).op = .store t zp zv := by rfl)
    (hp : ev st zp = some (.ptr j q r) := by rfl) (hT : st.T j = .live e s es := by rfl) (hq : es[q]? = some c := by rfl) (hv : ev st zv = some x := by rfl) (ht : szOf P t = some (n, ag) := by rfl) (hx : (cellsA x).all (cok1 st.T) = true := by rfl) (hn : (cellsA x).length = n := by rfl) (hrs : Nat.ble (r + n) s = true := by rfl)
    (hi : Nat.blt i ops.size = true := by rfl) (hg : opAt N ops st i = true := by rfl) (hd : (ops.getD i default).dst = none := by rfl) : AOps P N ops Q (i :: l) st := st2 (op_store ho hd ht hp hT hq hv hx hn (by simpa using hrs) k) hi hg
end steps
end
end Go.Proofs.Ytafbiccgbgcooaa.AW
