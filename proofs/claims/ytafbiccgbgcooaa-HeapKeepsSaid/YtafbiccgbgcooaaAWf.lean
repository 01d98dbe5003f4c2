/- Abstract states: calls. -/
import Derived.Test.YtafbiccgbgcooaaAWe
namespace Go.Proofs.Ytafbiccgbgcooaa.AW
open Go Go.RowKit
set_option linter.unusedVariables false

/-- Nothing of the call's own in it. -/
inductive NoOwn : AV → Prop
  | v (x : Value) : NoOwn (.v x)
  | agg (l : List AV) : (∀ x ∈ l, NoOwn x) → NoOwn (.agg l)
  | tup (l : List AV) : (∀ x ∈ l, NoOwn x) → NoOwn (.tup l)
  | sl (s : Nat) (es : List (List AV)) : (∀ c ∈ es, ∀ x ∈ c, NoOwn x) → NoOwn (.sl s es)
  | ip (cs : List AV) : (∀ x ∈ cs, NoOwn x) → NoOwn (.ip cs)
  | clo (f : Nat) (l : List AV) : (∀ x ∈ l, NoOwn x) → NoOwn (.clo f l)
theorem noOwn_v (x : Value) : NoOwn (.v x) ↔ True := ⟨fun _ => trivial, fun _ => .v x⟩
theorem noOwn_agg (l : List AV) : NoOwn (.agg l) ↔ ∀ x ∈ l, NoOwn x := ⟨fun h => by cases h; assumption, .agg l⟩
theorem noOwn_tup (l : List AV) : NoOwn (.tup l) ↔ ∀ x ∈ l, NoOwn x := ⟨fun h => by cases h; assumption, .tup l⟩
theorem noOwn_sl (s : Nat) (es : List (List AV)) : NoOwn (.sl s es) ↔ ∀ c ∈ es, ∀ x ∈ c, NoOwn x := ⟨fun h => by cases h; assumption, .sl s es⟩
theorem noOwn_ip (l : List AV) : NoOwn (.ip l) ↔ ∀ x ∈ l, NoOwn x := ⟨fun h => by cases h; assumption, .ip l⟩
theorem noOwn_clo (f : Nat) (l : List AV) : NoOwn (.clo f l) ↔ ∀ x ∈ l, NoOwn x := ⟨fun h => by cases h; assumption, .clo f l⟩
theorem Rep.noOwn {I : Nat → Prop} {T T' : Nat → Ob} {β β' : Nat → Value} {w : World} {x : AV} {y : Value} (h : Rep I T β w x y) (hx : NoOwn x) : Rep I T' β' w x y := by
  induction h with
  | v x => exact .v x
  | agg l cs hl hc ih => cases hx with | agg _ h => exact .agg l cs hl fun j a c ha hc' => ih j a c ha hc' (h a (List.mem_of_getElem? ha))
  | tup l cs hl hc ih => cases hx with | tup _ h => exact .tup l cs hl fun j a c ha hc' => ih j a c ha hc' (h a (List.mem_of_getElem? ha))
  | emp s b c h => exact .emp s b c h
  | sl s es b off cap vs h1 h2 h3 h4 h5 ih =>
    cases hx with
    | sl _ _ h => exact .sl s es b off cap vs h1 h2 h3 h4 fun j a ha => ih j a ha (by
        obtain ⟨c, hc, hac⟩ := List.mem_flatten.1 (List.mem_of_getElem? ha)
        exact h c hc a hac)
  | own => cases hx
  | ptr => cases hx
  | ip cs b off vs h1 h2 h3 ih => cases hx with | ip _ h => exact .ip cs b off vs h1 h2 fun j a ha => ih j a ha (h a (List.mem_of_getElem? ha))
  | clo f caps vs hl hc ih => cases hx with | clo _ _ h => exact .clo f caps vs hl fun j a c ha hc' => ih j a c ha hc' (h a (List.mem_of_getElem? ha))

def goFn (P : Program) (f : Nat) : Bool := match P.funcs[f]? with
  | some fn => !(fn.name == "runtime.NumGoroutine") && !fn.body.isNone
  | none => false
def mergeT (T T' : Nat → Ob) : Nat → Ob := fun j => match T' j with
  | .no => T j
  | o => o

section
variable {P : Program} {N : Nat} {Q : Exit → ASt → Prop} {st : ASt} {I0 : Nat → Prop} {w0 : World} {β : Nat → Value} {a : Act} {w : World}

theorem mergeT_no {T T' : Nat → Ob} {j : Nat} (h : T' j = .no) : mergeT T T' j = T j := by simp [mergeT, h]
theorem mergeT_some {T T' : Nat → Ob} {j : Nat} (h : T' j ≠ .no) : mergeT T T' j = T' j := by
  unfold mergeT
  split
  · rename_i h'; exact absurd h' h
  · rfl

theorem Rel.merge (h : Rel N I0 w0 st β a w) {T' : Nat → Ob} {β' : Nat → Value} {w' : World} (hb : Below w.heap.size w w')
    (hO : Objs (Im I0 w0.heap.size st.T β w) w.heap.size T' β' w') (hd : ∀ j, T' j ≠ .no → st.T j = .no) :
    ∃ β2, Rel N I0 w0 ⟨st.env, mergeT st.T T'⟩ β2 a w' ∧ (∀ x v, Rep (Im I0 w0.heap.size st.T β w) st.T β w x v → Rep (Im I0 w0.heap.size (mergeT st.T T') β2 w') (mergeT st.T T') β2 w' x v) ∧
      ∀ x v, Rep (Im (Im I0 w0.heap.size st.T β w) w.heap.size T' β' w') T' β' w' x v → Rep (Im I0 w0.heap.size (mergeT st.T T') β2 w') (mergeT st.T T') β2 w' x v := by
  let β2 : Nat → Value := fun j => match T' j with
    | .no => β j
    | _ => β' j
  have b2n : ∀ j, T' j = .no → β2 j = β j := fun j hj => by simp [β2, hj]
  have b2s : ∀ j, T' j ≠ .no → β2 j = β' j := fun j hj => by
    show (match T' j with | .no => β j | _ => β' j) = β' j
    split
    · rename_i h'; exact absurd h' hj
    · rfl
  have hold : ∀ j e s es, st.T j = .live e s es → T' j = .no := fun j e s es hj => Classical.byContradiction fun hn => by rw [hd j hn] at hj; cases hj
  have hsplit : ∀ j e s es, mergeT st.T T' j = .live e s es → (T' j = .no ∧ st.T j = .live e s es) ∨ (T' j = .live e s es) := by
    intro j e s es hj
    by_cases hn : T' j = .no
    · rw [mergeT_no hn] at hj; exact .inl ⟨hn, hj⟩
    · rw [mergeT_some hn] at hj; exact .inr hj
  have hblk : ∀ j e s es, st.T j = .live e s es → ∀ b, (β j).ownBlock = some b → w0.heap.size ≤ b ∧ b < w.heap.size := by
    intro j e s es hj b hb'
    obtain ⟨_, xs, ho, _⟩ := h.objs.obj j e s es hj
    exact ho.lt b hb'
  have hblk' : ∀ j e s es, T' j = .live e s es → ∀ b, (β' j).ownBlock = some b → w.heap.size ≤ b ∧ b < w'.heap.size := by
    intro j e s es hj b hb'
    obtain ⟨_, xs, ho, _⟩ := hO.obj j e s es hj
    exact ho.lt b hb'
  have hIA : ∀ b, Im I0 w0.heap.size st.T β w b → Im I0 w0.heap.size (mergeT st.T T') β2 w' b ∧ ∀ o, w'.cell? ⟨b, o, none⟩ = w.cell? ⟨b, o, none⟩ := by
    rintro b ⟨h1, h2, h3⟩
    refine ⟨⟨h1, Nat.lt_of_lt_of_le h2 hb.size, fun j e s es hj hbj => ?_⟩, fun o => hb.cell (p := ⟨b, o, none⟩) h2⟩
    rcases hsplit _ _ _ _ hj with ⟨hn, hj'⟩ | hj'
    · rw [b2n j hn] at hbj; exact h3 j _ _ _ hj' hbj
    · rw [b2s j (by rw [hj']; simp)] at hbj
      have := hblk' j _ _ _ hj' b hbj; omega
  have hTA : ∀ j, st.T j ≠ .no → mergeT st.T T' j ≠ .no ∧ ∀ e1 s1 es1, mergeT st.T T' j = .live e1 s1 es1 → β2 j = β j ∧ ∃ es, st.T j = .live e1 s1 es ∧ es.length = es1.length := by
    intro j hj
    have hn : T' j = .no := Classical.byContradiction fun hn => hj (hd j hn)
    rw [mergeT_no hn, b2n j hn]
    exact ⟨hj, fun e1 s1 es1 h1 => ⟨rfl, es1, h1, rfl⟩⟩
  have hA : ∀ x v, Rep (Im I0 w0.heap.size st.T β w) st.T β w x v → Rep (Im I0 w0.heap.size (mergeT st.T T') β2 w') (mergeT st.T T') β2 w' x v := fun x v hx => hx.mono hIA hTA
  have hB : ∀ x v, Rep (Im (Im I0 w0.heap.size st.T β w) w.heap.size T' β' w') T' β' w' x v → Rep (Im I0 w0.heap.size (mergeT st.T T') β2 w') (mergeT st.T T') β2 w' x v := by
    intro x v hx
    refine hx.mono ?_ ?_
    · rintro b ⟨h1, h2, h3⟩
      have hnew : ∀ j e s es, mergeT st.T T' j = .live e s es → (β2 j).ownBlock ≠ some b := by
        intro j e s es hj hbj
        rcases hsplit _ _ _ _ hj with ⟨hn, hj'⟩ | hj'
        · rw [b2n j hn] at hbj
          rcases h1 with ⟨_, _, h4⟩ | h1
          · exact h4 j _ _ _ hj' hbj
          · have := hblk j _ _ _ hj' b hbj; omega
        · rw [b2s j (by rw [hj']; simp)] at hbj
          exact h3 j _ _ _ hj' hbj
      refine ⟨⟨?_, h2, hnew⟩, fun o => rfl⟩
      rcases h1 with ⟨h4, _, _⟩ | h1
      · exact h4
      · exact .inr (Nat.le_trans h.below.size h1)
    · intro j hj
      rw [mergeT_some hj, b2s j hj]
      exact ⟨hj, fun e1 s1 es1 h1 => ⟨rfl, es1, h1, rfl⟩⟩
  refine ⟨β2, ⟨h.old, h.size, h.defers, fun t x hx => hA _ _ (h.env t x hx), ⟨?_, ?_⟩, h.below.trans (hb.mono h.below.size)⟩, hA, hB⟩
  · intro j e s es hj
    rcases hsplit _ _ _ _ hj with ⟨hn, hj'⟩ | hj'
    · obtain ⟨h1, xs, h2, h3⟩ := h.objs.obj j e s es hj'
      rw [b2n j hn]
      refine ⟨h1, xs, h2.kept (row := none) ⟨hb.os, hb.tape, hb.output, hb.size, fun k hk _ => hb.block k hk⟩ (by cases (β j).ownBlock <;> simp), fun q y hy => ?_⟩
      obtain ⟨u, hu, hr⟩ := h3 q y hy
      exact ⟨u, hu, hA _ _ hr⟩
    · obtain ⟨h1, xs, h2, h3⟩ := hO.obj j e s es hj'
      rw [b2s j (by rw [hj']; simp)]
      refine ⟨h1, xs, ?_, fun q y hy => ?_⟩
      · refine ⟨h2.1, h2.2.imp id ?_⟩
        rintro ⟨g, cap, cur, fr, e1, e2, e3⟩
        exact ⟨g, cap, cur, fr, e1, Nat.le_trans h.below.size e2, e3⟩
      · obtain ⟨u, hu, hr⟩ := h3 q y hy
        exact ⟨u, hu, hB _ _ hr⟩
  · intro p e1 s1 es1 q e2 s2 es2 b hp hq hbp hbq
    rcases hsplit _ _ _ _ hp with ⟨hn, hp'⟩ | hp' <;> rcases hsplit _ _ _ _ hq with ⟨hm, hq'⟩ | hq'
    · rw [b2n p hn] at hbp; rw [b2n q hm] at hbq
      exact h.objs.inj p _ _ _ q _ _ _ b hp' hq' hbp hbq
    · rw [b2n p hn] at hbp; rw [b2s q (by rw [hq']; simp)] at hbq
      have := hblk p _ _ _ hp' b hbp; have := hblk' q _ _ _ hq' b hbq; omega
    · rw [b2s p (by rw [hp']; simp)] at hbp; rw [b2n q hm] at hbq
      have := hblk q _ _ _ hq' b hbq; have := hblk' p _ _ _ hp' b hbp; omega
    · rw [b2s p (by rw [hp']; simp)] at hbp; rw [b2s q (by rw [hq']; simp)] at hbq
      exact hO.inj p _ _ _ q _ _ _ b hp' hq' hbp hbq

theorem run_callFunc {f : Nat} (hf : goFn P f = true) (args : Array Value) (w : World) : (callFunc f args).run P w = .ok (.enter f args) w := by
  unfold goFn at hf
  split at hf
  · rename_i fn hfn
    simp only [Bool.and_eq_true, Bool.not_eq_true'] at hf
    unfold callFunc
    simp [program, Sem.run, hfn]
    have h1 : ¬ fn.name = "runtime.NumGoroutine" := by simpa using hf.1
    have h2 : ¬ fn.body = none := by intro h; rw [h] at hf; simp at hf
    simp [h1, h2]
  · cases hf

section ops
variable {o : Oper} {K : ASt → Prop} {d : Nat} {x y : AV}
theorem all2_of {R : AV → Value → Prop} : ∀ {l : List AV} {vs : List Value}, l.length = vs.length → (∀ (j : Nat) (x : AV) (v : Value), l[j]? = some x → vs[j]? = some v → R x v) → All2 R l vs
  | [], [], _, _ => trivial
  | x :: xs, y :: ys, hl, h => ⟨h 0 x y rfl rfl, all2_of (by simpa using hl) fun j p v hp hv => h (j + 1) p v (by simpa using hp) (by simpa using hv)⟩
  | [], _ :: _, hl, _ => by simp at hl
  | _ :: _, [], hl, _ => by simp at hl
theorem call_runs (hr : Rel N I0 w0 st β a w) {g : Nat} {caps : List AV} {z : Operand} {xs : Array Operand} {ts : Array TypeId} {l : List AV} {R : AV → (Nat → Ob) → Prop} (ho : o.op = .call ⟨.value z, xs, ts⟩)
    (hz : ev st z = some (.clo g caps)) (hg : goFn P g = true) (hl : xs.toList.map (ev st) = l.map some) (hno : ∀ x ∈ l ++ caps, NoOwn x) (hok : Ok P g (l ++ caps) R) :
    ∃ args : Array Value, (execOp a.eval o).run P w = .ok (.enter g args) w ∧ Calls P g args w fun e w' => False ∨ ∃ v x T β', e = .returned v ∧ R x T ∧ Below w.heap.size w w' ∧
      Objs (Im I0 w0.heap.size st.T β w) w.heap.size T β' w' ∧ Rep (Im (Im I0 w0.heap.size st.T β w) w.heap.size T β' w') T β' w' x v := by
  have hzr := hr.ev hz
  generalize hy : a.eval z = y at hzr
  cases hzr with
  | clo g caps vs hvl hvc =>
    have hlen : l.length = xs.size := by have := congrArg List.length hl; simpa using this.symm
    have hargs : All2 (Rep (Im I0 w0.heap.size st.T β w) noT noβ w) (l ++ caps) ((xs.map a.eval) ++ vs).toList := by
      refine all2_of (by simp [hlen, hvl]) fun j p v hp hv => ?_
      have hn := hno p (List.mem_of_getElem? hp)
      rcases Nat.lt_or_ge j l.length with hj | hj
      · rw [List.getElem?_append_left hj] at hp
        have h1 : (xs.toList.map (ev st))[j]? = some (some p) := by rw [hl]; simp [hp]
        simp only [List.getElem?_map, Array.getElem?_toList] at h1
        cases hcj : xs[j]? with
        | none => simp [hcj] at h1
        | some q =>
          simp only [hcj, Option.map_some, Option.some.injEq] at h1
          have hv' : v = a.eval q := by
            rw [Array.toList_append, List.getElem?_append_left (by simp; omega)] at hv
            simp [hcj] at hv
            exact hv.symm
          subst hv'
          exact (hr.ev h1).noOwn hn
      · rw [List.getElem?_append_right hj] at hp
        rw [Array.toList_append, List.getElem?_append_right (by simp; omega)] at hv
        simp only [Array.toList_map, List.length_map, Array.length_toList, Array.getElem?_toList] at hv
        rw [← hlen] at hv
        exact (hvc _ _ _ hp hv).noOwn hn
    have hc := hok (Im I0 w0.heap.size st.T β w) w _ (fun b hb => hb.2.1) hargs
    simp only [Array.toArray_toList] at hc
    refine ⟨(xs.map a.eval) ++ vs, ?_, hc⟩
    have := run_callFunc hg ((xs.map a.eval) ++ vs) w
    simp [execOp, ho, resolve, hy, Deferred.ofValue, invoke, this]
theorem op_callT {g : Nat} {caps : List AV} {z : Operand} {xs : Array Operand} {ts : Array TypeId} {l : List AV} {R : AV → (Nat → Ob) → Prop} (ho : o.op = .call ⟨.value z, xs, ts⟩) (hd : o.dst = some d) (hN : d < N)
    (hz : ev st z = some (.clo g caps)) (hg : goFn P g = true) (hl : xs.toList.map (ev st) = l.map some) (hno : ∀ x ∈ l ++ caps, NoOwn x) (hok : Ok P g (l ++ caps) R)
    (k : ∀ x T', R x T' → (∀ j, T' j ≠ .no → st.T j = .no) ∧ K (ASt.mk ((d, x) :: st.env) (mergeT st.T T'))) : AOp P N o K Q st := by
  intro I0 w0 β a w hr K' hK
  obtain ⟨args, hrun, hc⟩ := call_runs hr ho hz hg hl hno hok
  refine .inl ?_
  simp only [Oper.wp, hrun, Oper.upon, hd]
  refine hc.mono ?_
  rintro e w' (hF | ⟨v, x, T', β', rfl, h1, h2, h3, h4⟩)
  · exact hF.elim
  · obtain ⟨hdis, hk⟩ := k x T' h1
    obtain ⟨β2, h5, _, h6⟩ := hr.merge h2 h3 hdis
    exact hK _ β2 _ w' (h5.put hN (h6 x v h4)) hk
theorem Rel.kept (h : Rel N I0 w0 st β a w) {β' : Nat → Value} {w' : World} {x : AV} {v : Value} (hb : Below w.heap.size w w')
    (hx : Rep (Im (Im I0 w0.heap.size st.T β w) w.heap.size noT β' w') noT β' w' x v) : Rep (Im I0 w0.heap.size st.T β w') st.T β w' x v := by
  refine hx.mono ?_ (fun i hi => absurd rfl hi)
  rintro b ⟨h1, h2, h3⟩
  refine ⟨⟨?_, h2, fun j e s es hj hbj => ?_⟩, fun o => rfl⟩
  · rcases h1 with ⟨h4, _, _⟩ | h1
    · exact h4
    · exact .inr (Nat.le_trans h.below.size h1)
  · rcases h1 with ⟨_, _, h4⟩ | h1
    · exact h4 j _ _ _ hj hbj
    · obtain ⟨_, xs, ho, _⟩ := h.objs.obj j e s es hj
      have := (ho.lt b hbj).2; omega
/-- The operands' meanings. -/
def evs (st : ASt) : List Operand → Option (List AV)
  | [] => some []
  | z :: r => match ev st z, evs st r with
    | some x, some l => some (x :: l)
    | _, _ => none
theorem evs_map : ∀ {zs : List Operand} {l : List AV}, evs st zs = some l → zs.map (ev st) = l.map some
  | [], l, h => by simp [evs] at h; subst h; rfl
  | z :: r, l, h => by
    simp only [evs] at h
    split at h
    · rename_i x l' h1 h2
      cases h
      simp [h1, evs_map h2]
    · cases h
def NoOwnL : List AV → Prop
  | [] => True
  | x :: r => NoOwn x ∧ NoOwnL r
theorem NoOwnL.mem : ∀ {l : List AV}, NoOwnL l → ∀ x ∈ l, NoOwn x
  | _ :: _, ⟨h, _⟩, _, .head _ => h
  | _ :: _, ⟨_, h⟩, x, .tail _ hx => NoOwnL.mem h x hx
attribute [simp] noOwn_v noOwn_agg noOwn_tup noOwn_ip noOwn_clo
theorem y_call {g : Nat} {caps : List AV} {z : Operand} {xs : Array Operand} {ts : Array TypeId} {l l' : List AV} (hok : Gives P g l' y) (ho : o.op = .call ⟨.value z, xs, ts⟩ := by rfl)
    (hz : ev st z = some (.clo g caps) := by rfl) (hl : evs st xs.toList = some l := by rfl) (hl' : l ++ caps = l' := by rfl) (hg : goFn P g = true := by rfl) (hno : NoOwnL l' := by simp [NoOwnL]) : AYield P N Q o st y := by
  subst hl'
  intro I0 w0 β a w hr K' hK
  obtain ⟨args, hrun, hc⟩ := call_runs hr ho hz hg (evs_map hl) hno.mem hok
  refine .inl ?_
  simp only [Oper.wp, hrun, Oper.upon]
  refine hc.mono ?_
  rintro e w' (hF | ⟨v, x, T', β', rfl, ⟨rfl, rfl⟩, h2, h3, h4⟩)
  · exact hF.elim
  · exact hK v w' h2 (hr.kept h2 h4)
theorem y_makeFunc {f : Nat} {caps : Array Operand} {l : List AV} (ho : o.op = .makeFunc (.func f) #[] caps := by rfl) (hl : evs st caps.toList = some l := by rfl) : AYield P N Q o st (.clo f l) :=
  AYield.still (fun I0 w0 β a w hr => ⟨.func (.func f) #[] (caps.map a.eval), by simp [execOp, ho, Instr.makeFunc], .clo f l _ (by have := congrArg List.length (evs_map hl); simpa using this.symm) fun j p c hp hc => by
    have h1 : (caps.toList.map (ev st))[j]? = some (some p) := by rw [evs_map hl]; simp [hp]
    simp only [List.getElem?_map, Array.getElem?_toList] at h1
    cases hcj : caps[j]? with
    | none => simp [hcj] at h1
    | some z =>
      simp only [hcj, Option.map_some, Option.some.injEq] at h1
      simp [hcj] at hc
      subst hc
      exact hr.ev h1⟩)
end ops
end
end Go.Proofs.Ytafbiccgbgcooaa.AW
