/- Abstract states: a slice against nil; a literal of no elements; nil as a row of the call's own. -/
import Derived.Test.YtafbiccgbgcooaaAWm
namespace Go.Proofs.Ytafbiccgbgcooaa.AW
open Go Go.RowKit
set_option linter.unusedVariables false
set_option linter.unusedSimpArgs false

section
variable {P : Program} {N : Nat} {Q : Exit → ASt → Prop} {st : ASt} {I0 : Nat → Prop} {w0 : World} {β : Nat → Value} {a : Act} {w : World}
theorem upd_upd (T : Nat → Ob) (i : Nat) (x y : Ob) : upd (upd T i x) i y = upd T i y := by
  funext j; simp only [upd]; split <;> rfl
/-- nil, as a row of no elements. -/
theorem ent_nil {t : Nat} (m e s : Nat) (hm : st.T m = .no) (hv : get st.env t = some (.v (.slice none 0 0))) : Ent st ⟨(t, .own m) :: st.env, upd st.T m (.live e s [])⟩ := by
  intro N I0 w0 β a w hr
  obtain ⟨h1, h2⟩ := hr.newObj (w' := w) (i' := m) (e := e) (s := s) (es' := []) hm none none (by simp) (by simp) ⟨rfl, rfl, rfl, Nat.le_refl _, fun _ _ _ => rfl⟩ (y := .slice none 0 0) (xs := []) (World.owns_nil w _ _ _) (fun b hb => by simp [Value.ownBlock] at hb) (by simp) (by simp)
  refine ⟨_, h1.old, h1.size, h1.defers, fun q x hx => ?_, h1.objs, h1.below⟩
  simp only [get] at hx
  by_cases hq : t = q
  · rw [if_pos hq] at hx
    cases hx
    subst hq
    have hh := (hr.env t _ hv).v_inv
    refine .own m _ (by simp [upd]) fun e' s' es' he => ?_
    rw [hh]; simp [updV]
  · rw [if_neg hq] at hx
    exact h1.env q x hx
/-- A call that makes one row, under whatever name. -/
theorem Ok.row {f : Nat} {args : List AV} {e s : Nat} {es : List (List AV)} (h : Ok P f args fun x T => ∃ i, x = .own i ∧ T i = .live e s es) (hno : ∀ c ∈ es, ∀ y ∈ c, NoOwn y) (m : Nat) :
    Ok P f args fun x T => x = .own m ∧ T = upd noT m (.live e s es) := by
  intro I0 w vs hI hvs
  refine (h I0 w vs hI hvs).mono ?_
  rintro en w' (hF | ⟨v, x, T, β, rfl, ⟨i, rfl, hi⟩, h2, h3, h4⟩)
  · exact hF.elim
  · refine .inr ⟨v, .own m, upd noT m (.live e s es), updV β m (β i), rfl, ⟨rfl, rfl⟩, h2, ⟨?_, ?_⟩, ?_⟩
    · intro j e' s' es' hj
      simp only [upd] at hj
      by_cases hjm : j = m
      · rw [if_pos hjm] at hj; cases hj
        obtain ⟨a1, xs, a2, a3⟩ := h3.obj i e s es hi
        refine ⟨a1, xs, by simp only [updV, if_pos hjm]; exact a2, fun q y hy => ?_⟩
        obtain ⟨u, hu, hr⟩ := a3 q y hy
        refine ⟨u, hu, ?_⟩
        have hn : NoOwn y := by
          obtain ⟨c, hc, hyc⟩ := List.mem_flatten.1 (List.mem_of_getElem? hy)
          exact hno c hc y hyc
        have h5 : Rep (Im I0 w.heap.size (upd noT m (.live e s es)) (updV β m (β i)) w') T β w' y u := hr.mono (fun b ⟨b1, b2, b3⟩ => ⟨⟨b1, b2, fun j' e' s' es' hj' hb => by
          simp only [upd] at hj'
          by_cases hj'm : j' = m
          · rw [if_pos hj'm] at hj'; cases hj'
            simp only [updV, if_pos hj'm] at hb
            exact b3 i _ _ _ hi hb
          · rw [if_neg hj'm] at hj'; cases hj'⟩, fun o => rfl⟩) fun i hi => ⟨hi, fun e s es' h' => ⟨rfl, es', h', rfl⟩⟩
        exact h5.noOwn hn
      · rw [if_neg hjm] at hj; cases hj
    · intro p e1 s1 es1 q e2 s2 es2 b hp hq hbp hbq
      simp only [upd] at hp hq
      by_cases hpm : p = m
      · by_cases hqm : q = m
        · rw [hpm, hqm]
        · rw [if_neg hqm] at hq; cases hq
      · rw [if_neg hpm] at hp; cases hp
    · cases h4 with
      | own _ _ hn hx =>
        refine .own m v (by simp [upd]) fun e' s' es' he => ?_
        rw [hx e s es hi]; simp [updV]
section ops
variable {o : Oper} {K : ASt → Prop} {d : Nat} {x y : AV}
theorem run_nil_eq (w : World) (t e : TypeId) (b : Option Addr) (n c : Nat) (h : P.underlying t = some (.slice e)) : (binOp .eql t (.slice b n c) (.slice none 0 0)).run P w = .ok (.bool b.isNone) w := by
  have h1 : ∀ d, (Op.equalIn (d + 1) t (.slice b n c) (.slice none 0 0)).run P w = .ok b.isNone w := fun d => by cases b <;> simp [Op.equalIn, run_underlying h]
  simp only [binOp]
  simp [Op.equal, Op.maxDepth, h1 9999]
theorem op_isn {z : Operand} {t t' e s s' : Nat} {es : List (List AV)} (ho : o.op = .binOp .eql t z (.const (.slice none 0 0)) t') (hz : ev st z = some (.sl s es)) (ht : elOf P t = some (e, s')) (hd : o.dst = some d) (hN : d < N)
    (k : ∀ b : Bool, (b = true → es = []) → K (st.put d (.v (.bool b)))) : AOp P N o K Q st := by
  intro I0 w0 β a w hr K' hK
  have hv := hr.ev hz
  obtain ⟨b, n, c, hy, hb⟩ : ∃ (b : Option Addr) (n c : Nat), a.eval z = .slice b n c ∧ (b.isNone = true → es = []) := by
    generalize a.eval z = y at hv
    cases hv with
    | emp s base cap h => exact ⟨base, 0, cap, rfl, fun _ => rfl⟩
    | sl s es b off cap vs => exact ⟨_, _, _, rfl, fun h => by cases h⟩
  have hrun : (execOp a.eval o).run P w = .ok (.value (.bool b.isNone)) w := by
    have h1 := run_nil_eq (P := P) w t e b n c (elOf_el ht).1
    have h2 : a.eval (.const (.slice none 0 0)) = .slice none 0 0 := rfl
    simp [execOp, ho, hy, h1, h2, eqGuard_at_slice]
  refine .inl ?_
  simp only [Oper.wp, hrun, Oper.upon, hd]
  exact hK _ β _ w (hr.put hN (.v _)) (k b.isNone hb)
theorem op_lit0 {t e s : Nat} (m : Nat) (hm : st.T m = .no) (ho : o.op = .buildSlice t 0 #[]) (ht : elOf P t = some (e, s)) (hd : o.dst = some d) (hN : d < N) (k : K (ASt.mk ((d, .own m) :: st.env) (upd st.T m (.live e s [])))) : AOp P N o K Q st := by
  intro I0 w0 β a w hr K' hK
  obtain ⟨hu, bb, hs⟩ := elOf_el ht
  obtain ⟨h1, h2⟩ := hr.row (i := m) (e := e) (s := s) (es := []) hm (n := 0) rfl (Nat.zero_le _) (cells := #[]) (by simp) (by simp) (by simp)
  have hrun : (execOp a.eval o).run P w = .ok (.value (.slice (some ⟨w.heap.size, 0, none⟩) 0 0)) (w.alloc (.cells #[] e)) := by
    simp [execOp, ho, Instr.buildSlice, run_underlying hu, (szOf_run hs w).1, newRow, Instr.fill, Array.range_zero']
  refine .inl ?_
  simp only [Oper.wp, hrun, Oper.upon, hd]
  refine hK _ _ _ _ (h1.put hN (.own m _ (by simp [upd]) fun e s es he => ?_)) k
  simp [updV]
end ops
section steps
variable {ops : Array Oper} {i : Nat} {l : List Nat} {d : Nat} {x y : AV}
/-- Is a slice nil? If so, it has no elements. -/
theorem isn {z : Operand} {t t' e s s' : Nat} {es : List (List AV)} (k : ∀ b : Bool, (b = true → es = []) → AOps P N ops Q l (st.put d (.v (.bool b)))) (ho : (ops.getD i default).op = .binOp .eql t z (.const (.slice none 0 0)) t' := by rfl)
    (hz : ev st z = some (.sl s es) := by rfl) (ht : elOf P t = some (e, s') := by rfl) (hi : Nat.blt i ops.size = true := by rfl)
    (hg : opAt N ops st i = true := by rfl) (hd : (ops.getD i default).dst = some d := by rfl) (hN : Nat.blt d N = true := by rfl) : AOps P N ops Q (i :: l) st := st2 (op_isn ho hz ht hd (blt_lt hN) k) hi hg
/-- A literal of no elements. -/
theorem lit0 {t e s : Nat} (m : Nat) (k : AOps P N ops Q l (ASt.mk ((d, .own m) :: st.env) (upd st.T m (.live e s [])))) (hm : st.T m = .no) (ho : (ops.getD i default).op = .buildSlice t 0 #[] := by rfl) (ht : elOf P t = some (e, s) := by rfl)
    (hi : Nat.blt i ops.size = true := by rfl) (hg : opAt N ops st i = true := by rfl) (hd : (ops.getD i default).dst = some d := by rfl) (hN : Nat.blt d N = true := by rfl) : AOps P N ops Q (i :: l) st := st2 (op_lit0 m hm ho ht hd (blt_lt hN) k) hi hg
/-- A row of the call's own, appended to. -/
theorem ap {t e s by_ j : Nat} {z1 z2 : Operand} {z : List AV} {es es2 : List (List AV)} (m : Nat) (hm : st.T m = .no) (hok : ∀ c ∈ es2, ∀ y ∈ c, cok1 st.T y = true) (hbd : (es.length + es2.length) * by_ ≤ 140737488355328) (hl : es.length + es2.length ≤ 9223372036854775807)
    (k : AOps P N ops Q l (ASt.mk ((d, .own m) :: st.env) (upd (upd st.T j .dead) m (.live e s (es ++ es2)))))
    (ho : (ops.getD i default).op = .call ⟨.builtin .append, #[z1, z2], #[t, t]⟩ := by rfl) (h1 : ev st z1 = some (.own j) := by rfl) (hT : st.T j = .live e s es := by rfl) (h2 : ev st z2 = some x := by rfl) (hs : srcA st x = some es2 := by rfl) (hsz : sizA st s x = true := by rfl)
    (ht : elOf P t = some (e, s) := by rfl) (hz : zcells P e = some z := by rfl) (hby : byOf P e = some by_ := by rfl)
    (hi : Nat.blt i ops.size = true := by rfl) (hg : opAt N ops st i = true := by rfl) (hd : (ops.getD i default).dst = some d := by rfl) (hN : Nat.blt d N = true := by rfl) : AOps P N ops Q (i :: l) st :=
  st2 (op_app m hm hbd hl hok hd hN k (ho := ho) (ht := ht) (hz := hz) (hby := hby) (h1 := h1) (hT := hT) (h2 := h2) (hs := hs) (hsz := hsz)) hi hg
end steps
end
end Go.Proofs.Ytafbiccgbgcooaa.AW
