/- Abstract states: calls that make rows; what a call makes, without what nobody speaks of. -/
import Derived.Test.YtafbiccgbgcooaaAWn
namespace Go.Proofs.Ytafbiccgbgcooaa.AW
open Go Go.RowKit
set_option linter.unusedVariables false
set_option linter.unusedSimpArgs false

/-- It speaks of rows of 'T' alone. -/
inductive Only (T : Nat → Ob) : AV → Prop
  | v (x : Value) : Only T (.v x)
  | agg (l : List AV) : (∀ x ∈ l, Only T x) → Only T (.agg l)
  | tup (l : List AV) : (∀ x ∈ l, Only T x) → Only T (.tup l)
  | sl (s : Nat) (es : List (List AV)) : (∀ c ∈ es, ∀ x ∈ c, Only T x) → Only T (.sl s es)
  | ip (cs : List AV) : (∀ x ∈ cs, Only T x) → Only T (.ip cs)
  | clo (f : Nat) (l : List AV) : (∀ x ∈ l, Only T x) → Only T (.clo f l)
  | own (i : Nat) : T i ≠ .no → Only T (.own i)
theorem NoOwn.only {T : Nat → Ob} {x : AV} (h : NoOwn x) : Only T x := by
  induction h with
  | v x => exact .v x
  | agg l _ ih => exact .agg l ih
  | tup l _ ih => exact .tup l ih
  | sl s es _ ih => exact .sl s es ih
  | ip cs _ ih => exact .ip cs ih
  | clo f l _ ih => exact .clo f l ih
section
variable {P : Program} {N : Nat} {Q : Exit → ASt → Prop} {st : ASt} {I0 : Nat → Prop} {w0 : World} {β : Nat → Value} {a : Act} {w : World}
theorem Rep.only {I : Nat → Prop} {T T' : Nat → Ob} {x : AV} {y : Value} (h : Rep I T β w x y) (hx : Only T' x) (hT : ∀ j, T' j = T j ∨ T' j = .no) : Rep I T' β w x y := by
  induction h with
  | v x => exact .v x
  | agg l cs hl hc ih => cases hx with | agg _ h => exact .agg l cs hl fun j a c ha hc' => ih j a c ha hc' (h a (List.mem_of_getElem? ha))
  | tup l cs hl hc ih => cases hx with | tup _ h => exact .tup l cs hl fun j a c ha hc' => ih j a c ha hc' (h a (List.mem_of_getElem? ha))
  | emp s b c h => exact .emp s b c h
  | sl s es b off cap vs h1 h2 h3 h4 h5 ih =>
    cases hx with
    | sl _ _ h => exact .sl s es b off cap vs h1 h2 h3 h4 fun j a ha => ih j a ha (by
        obtain ⟨c, hc, hac⟩ := List.mem_flatten.1 (List.mem_of_getElem? ha)
        exact h c hc a hac)
  | own i x h1 h2 =>
    cases hx with
    | own _ hn =>
      refine .own i x hn fun e s es h => h2 e s es ?_
      rcases hT i with h' | h'
      · rw [← h']; exact h
      · exact absurd h' hn
  | ptr => cases hx
  | ip cs b off vs h1 h2 h3 ih => cases hx with | ip _ h => exact .ip cs b off vs h1 h2 fun j a ha => ih j a ha (h a (List.mem_of_getElem? ha))
  | clo f caps vs hl hc ih => cases hx with | clo _ _ h => exact .clo f caps vs hl fun j a c ha hc' => ih j a c ha hc' (h a (List.mem_of_getElem? ha))
theorem Ok.sub {f : Nat} {args : List AV} {R R' : AV → (Nat → Ob) → Prop} (h : Ok P f args R)
    (hs : ∀ x T, R x T → ∃ T', R' x T' ∧ (∀ j, T' j = T j ∨ T' j = .no) ∧ Only T' x ∧ ∀ j e s es, T' j = .live e s es → ∀ c ∈ es, ∀ y ∈ c, Only T' y) : Ok P f args R' := by
  intro I0 w vs hI hvs
  refine (h I0 w vs hI hvs).mono ?_
  rintro en w' (hF | ⟨v, x, T, β, rfl, hR, h2, h3, h4⟩)
  · exact hF.elim
  · obtain ⟨T', r1, r2, r3, r4⟩ := hs x T hR
    have hlive : ∀ j e s es, T' j = .live e s es → T j = .live e s es := by
      intro j e s es hj
      rcases r2 j with h' | h'
      · rw [← h']; exact hj
      · rw [h'] at hj; cases hj
    have him : ∀ y u, Rep (Im I0 w.heap.size T β w') T β w' y u → Rep (Im I0 w.heap.size T' β w') T β w' y u := fun y u hr =>
      hr.mono (fun b ⟨b1, b2, b3⟩ => ⟨⟨b1, b2, fun j e s es hj => b3 j e s es (hlive j e s es hj)⟩, fun o => rfl⟩) fun i hi => ⟨hi, fun e s es' h' => ⟨rfl, es', h', rfl⟩⟩
    refine .inr ⟨v, x, T', β, rfl, r1, h2, ⟨?_, ?_⟩, (him x v h4).only r3 r2⟩
    · intro j e s es hj
      obtain ⟨a1, xs, a2, a3⟩ := h3.obj j e s es (hlive _ _ _ _ hj)
      refine ⟨a1, xs, a2, fun q y hy => ?_⟩
      obtain ⟨u, hu, hr⟩ := a3 q y hy
      obtain ⟨c, hc, hyc⟩ := List.mem_flatten.1 (List.mem_of_getElem? hy)
      exact ⟨u, hu, (him y u hr).only (r4 j e s es hj c hc y hyc) r2⟩
    · intro p e1 s1 es1 q e2 s2 es2 b hp hq
      exact h3.inj p _ _ _ q _ _ _ b (hlive _ _ _ _ hp) (hlive _ _ _ _ hq)
theorem merge_one (T : Nat → Ob) (m : Nat) (e s : Nat) (es : List (List AV)) : mergeT T (upd noT m (.live e s es)) = upd T m (.live e s es) := by
  funext j
  simp only [mergeT, upd, noT]
  split
  · rename_i h; split at h
    · cases h
    · rename_i hj; rw [if_neg hj]
  · rename_i o h
    split at h
    · rename_i hj; rw [if_pos hj]; simp [hj]
    · exact absurd rfl h
theorem ent_T {s : ASt} {l : List (Nat × AV)} {T' : Nat → Ob} (hT : ∀ j, s.T j = T' j) (h : Has s.env l) : Ent s ⟨l, T'⟩ := by
  obtain ⟨e, T⟩ := s
  have : T = T' := funext hT
  subst this
  exact ent_env h
section ops
variable {o : Oper} {x : AV}
theorem y_iaoN {z ix : Operand} {t e s j : Nat} {es : List (List AV)} {kk : IntKind} {n : Int} (q : Nat) (hq : q < es.length) (ho : o.op = .indexAddr t z ix := by rfl) (hz : ev st z = some (.own j) := by rfl) (hT : st.T j = .live e s es := by rfl)
    (hix : ev st ix = some (.v (.int kk n)) := by rfl) (hn : n = (q : Int) := by rfl) (ht : elOf P t = some (e, s) := by rfl) : AYield P N Q o st (.ptr j q 0) := by
  have h := y_iaddr_own (Q := Q) (P := P) (N := N) (o := o) (st := st) (ho := ho) (ht := ht) (hz := hz) (hT := hT) (hix := hix) (h0 := by omega) (hc := by omega)
  rw [hn, Int.toNat_natCast] at h; exact h
theorem y_callE {g : Nat} {caps : List AV} {z : Operand} {xs : Array Operand} {ts : Array TypeId} {l l' : List AV} {Te T1 : Nat → Ob} (hT : mergeT st.T Te = T1) (hok : Ok P g l' fun y T => y = x ∧ T = Te) (hdis : ∀ j, Te j ≠ .no → st.T j = .no) (ho : o.op = .call ⟨.value z, xs, ts⟩ := by rfl)
    (hz : ev st z = some (.clo g caps) := by rfl) (hl : evs st xs.toList = some l := by rfl) (hl' : l ++ caps = l' := by rfl) (hg : goFn P g = true := by rfl) (hno : NoOwnL l' := by simp [NoOwnL]) : AEff P N Q o st x T1 := by
  subst hT
  subst hl'
  intro I0 w0 β a w hr K' hK
  obtain ⟨args, hrun, hc⟩ := call_runs hr ho hz hg (evs_map hl) hno.mem hok
  refine .inl ?_
  simp only [Oper.wp, hrun, Oper.upon]
  refine hc.mono ?_
  rintro e w' (hF | ⟨v, y, T', β', rfl, ⟨rfl, rfl⟩, h2, h3, h4⟩)
  · exact hF.elim
  · obtain ⟨β2, h5, h6, h7⟩ := hr.merge h2 h3 hdis
    exact hK v w' β2 h5.below h6 h5.objs (h7 _ v h4)
theorem y_loadP {y : AV} {z : Operand} {t n j q r e s : Nat} {es : List (List AV)} {c : List AV} (hq : es[q]? = some c) (ho : o.op = .load t z := by rfl) (ht : szOf P t = some (n, false) := by rfl) (hz : ev st z = some (.ptr j q r) := by rfl) (hT : st.T j = .live e s es := by rfl)
    (h0 : (c.drop r)[0]? = some y := by rfl) : AYield P N Q o st y :=
  y_load (cs := c.drop r) (ho := ho) (ht := ht) (hz := hz) (hl := by simp only [look, hT, hq, Option.map_some]) (h0 := h0)
theorem y_loadsP {z : Operand} {t n j q r e s : Nat} {es : List (List AV)} {c : List AV} (hq : es[q]? = some c) (ho : o.op = .load t z := by rfl) (ht : szOf P t = some (n, true) := by rfl) (hz : ev st z = some (.ptr j q r) := by rfl) (hT : st.T j = .live e s es := by rfl)
    (hn : Nat.ble n (c.drop r).length = true := by rfl) : AYield P N Q o st (.agg ((c.drop r).take n)) :=
  y_loads (cs := c.drop r) (ho := ho) (ht := ht) (hz := hz) (hl := by simp only [look, hT, hq, Option.map_some]) (hn := by simpa using hn)
end ops
section steps
variable {ops : Array Oper} {i : Nat} {l : List Nat} {d : Nat} {x y : AV}
/-- A call that makes one row. -/
theorem cr {g : Nat} {caps : List AV} {z : Operand} {xs : Array Operand} {ts : Array TypeId} {ls l' : List AV} {m e s : Nat} {es : List (List AV)} (hok : Ok P g l' fun x T => x = .own m ∧ T = upd noT m (.live e s es))
    (k : AOps P N ops Q l (ASt.mk ((d, .own m) :: st.env) (upd st.T m (.live e s es)))) (hm : st.T m = .no := by rfl) (ho : (ops.getD i default).op = .call ⟨.value z, xs, ts⟩ := by rfl)
    (hz : ev st z = some (.clo g caps) := by rfl) (hl : evs st xs.toList = some ls := by rfl) (hl' : ls ++ caps = l' := by rfl) (hg' : goFn P g = true := by rfl) (hno : NoOwnL l' := by simp [NoOwnL]) (hi : Nat.blt i ops.size = true := by rfl)
    (hg : opAt N ops st i = true := by rfl) (hd : (ops.getD i default).dst = some d := by rfl) (hN : Nat.blt d N = true := by rfl) : AOps P N ops Q (i :: l) st := by
  subst hl'
  refine st2 (op_callT ho hd (blt_lt hN) hz hg' (evs_map hl) hno.mem hok ?_) hi hg
  rintro x T' ⟨rfl, rfl⟩
  refine ⟨fun j hj => ?_, by rw [merge_one]; exact k⟩
  simp only [upd, noT] at hj
  by_cases hjm : j = m
  · rw [hjm]; exact hm
  · rw [if_neg hjm] at hj; exact absurd rfl hj
theorem ldP {z : Operand} {t n j q r e s : Nat} {es : List (List AV)} {c : List AV} (hq : es[q]? = some c) (k : AOps P N ops Q l (st.put d y)) (ho : (ops.getD i default).op = .load t z := by rfl) (ht : szOf P t = some (n, false) := by rfl) (hz : ev st z = some (.ptr j q r) := by rfl) (hT : st.T j = .live e s es := by rfl)
    (h0 : (c.drop r)[0]? = some y := by rfl) (hi : Nat.blt i ops.size = true := by rfl) (hg : opAt N ops st i = true := by rfl) (hd : (ops.getD i default).dst = some d := by rfl) (hN : Nat.blt d N = true := by rfl) : AOps P N ops Q (i :: l) st :=
  st1 (y_loadP hq ho ht hz hT h0) k hi hg hd hN
theorem laP {z : Operand} {t n j q r e s : Nat} {es : List (List AV)} {c : List AV} (hq : es[q]? = some c) (k : AOps P N ops Q l (st.put d (.agg ((c.drop r).take n)))) (ho : (ops.getD i default).op = .load t z := by rfl) (ht : szOf P t = some (n, true) := by rfl) (hz : ev st z = some (.ptr j q r) := by rfl) (hT : st.T j = .live e s es := by rfl)
    (hn : Nat.ble n (c.drop r).length = true := by rfl) (hi : Nat.blt i ops.size = true := by rfl) (hg : opAt N ops st i = true := by rfl) (hd : (ops.getD i default).dst = some d := by rfl) (hN : Nat.blt d N = true := by rfl) : AOps P N ops Q (i :: l) st :=
  st1 (y_loadsP hq ho ht hz hT hn) k hi hg hd hN
end steps
end
end Go.Proofs.Ytafbiccgbgcooaa.AW
