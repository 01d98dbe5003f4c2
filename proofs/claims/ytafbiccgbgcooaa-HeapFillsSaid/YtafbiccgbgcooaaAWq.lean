/- Abstract states: rows under other names; a nil slice told as a row of the call's own. -/
import Derived.Test.YtafbiccgbgcooaaAWo
namespace Go.Proofs.Ytafbiccgbgcooaa.AW
open Go Go.RowKit
set_option linter.unusedVariables false
set_option linter.unusedSimpArgs false

/-- The same, of rows under new names: new name 'j' is what was 's j'. -/
inductive Ren (r : Nat → Nat) (T : Nat → Ob) : AV → AV → Prop
  | same (x : AV) : NoOwn x → Ren r T x x
  | agg (l l' : List AV) : l.length = l'.length → (∀ (j : Nat) (a b : AV), l[j]? = some a → l'[j]? = some b → Ren r T a b) → Ren r T (.agg l) (.agg l')
  | tup (l l' : List AV) : l.length = l'.length → (∀ (j : Nat) (a b : AV), l[j]? = some a → l'[j]? = some b → Ren r T a b) → Ren r T (.tup l) (.tup l')
  | clo (f : Nat) (l l' : List AV) : l.length = l'.length → (∀ (j : Nat) (a b : AV), l[j]? = some a → l'[j]? = some b → Ren r T a b) → Ren r T (.clo f l) (.clo f l')
  | own (i j : Nat) : r j = i → T j ≠ .no → Ren r T (.own i) (.own j)
  | ptr (i j k q : Nat) : r j = i → T j ≠ .no → Ren r T (.ptr i k q) (.ptr j k q)
def RenL (r : Nat → Nat) (T : Nat → Ob) : List AV → List AV → Prop
  | [], [] => True
  | x :: xs, y :: ys => Ren r T x y ∧ RenL r T xs ys
  | _, _ => False
theorem RenL.get {r : Nat → Nat} {T : Nat → Ob} : ∀ {l l' : List AV}, RenL r T l l' → l.length = l'.length ∧ ∀ (j : Nat) (a b : AV), l[j]? = some a → l'[j]? = some b → Ren r T a b
  | [], [], _ => ⟨rfl, by simp⟩
  | x :: xs, y :: ys, ⟨h1, h2⟩ => by
    obtain ⟨h3, h4⟩ := RenL.get h2
    refine ⟨by simp [h3], fun j a b ha hb => ?_⟩
    cases j with
    | zero => simp at ha hb; subst ha; subst hb; exact h1
    | succ j => exact h4 j a b (by simpa using ha) (by simpa using hb)
  | [], _ :: _, h => h.elim
  | _ :: _, [], h => h.elim
theorem renL_same {r : Nat → Nat} {T : Nat → Ob} : ∀ {l : List AV}, (∀ x ∈ l, NoOwn x) → RenL r T l l
  | [], _ => trivial
  | x :: xs, h => ⟨.same x (h x (.head _)), renL_same fun y hy => h y (.tail _ hy)⟩
theorem ren_agg {r : Nat → Nat} {T : Nat → Ob} {l l' : List AV} (h : RenL r T l l') : Ren r T (.agg l) (.agg l') := .agg l l' h.get.1 h.get.2
theorem ren_tup {r : Nat → Nat} {T : Nat → Ob} {l l' : List AV} (h : RenL r T l l') : Ren r T (.tup l) (.tup l') := .tup l l' h.get.1 h.get.2
theorem ren_v {r : Nat → Nat} {T : Nat → Ob} (x : Value) : Ren r T (.v x) (.v x) := .same _ (.v x)
/-- The tables hang together. -/
structure RenT (r : Nat → Nat) (T T' : Nat → Ob) : Prop where
  live : ∀ j e s es', T' j = .live e s es' → ∃ es, T (r j) = .live e s es ∧ es.length = es'.length ∧ ∀ (q : Nat) (c c' : List AV), es[q]? = some c → es'[q]? = some c' → RenL r T' c c'
  no : ∀ j, T' j ≠ .no → T (r j) ≠ .no
  inj : ∀ i j, T' i ≠ .no → T' j ≠ .no → r i = r j → i = j
/-- Slot for slot. -/
def RenE (r : Nat → Nat) (T : Nat → Ob) (e : List (Nat × AV)) : List (Nat × AV) → Prop
  | [] => True
  | (t, y) :: l => (∃ x, get e t = some x ∧ Ren r T x y) ∧ RenE r T e l
theorem RenE.get {r : Nat → Nat} {T : Nat → Ob} {e : List (Nat × AV)} : ∀ {l : List (Nat × AV)}, RenE r T e l → ∀ t y, get l t = some y → ∃ x, get e t = some x ∧ Ren r T x y
  | [], _, t, y, h => by simp [AW.get] at h
  | (k, v) :: l, hh, t, y, h => by
    simp only [AW.get] at h
    by_cases hk : k = t
    · rw [if_pos hk] at h; cases h; exact hk ▸ hh.1
    · rw [if_neg hk] at h; exact RenE.get hh.2 t y h
section
variable {P : Program} {N : Nat} {Q : Exit → ASt → Prop} {st : ASt} {I0 : Nat → Prop} {w0 : World} {β : Nat → Value} {a : Act} {w : World}
theorem Rep.ren {I : Nat → Prop} {r : Nat → Nat} {T T' : Nat → Ob} (hT : RenT r T T') {x y : AV} (h : Ren r T' x y) : ∀ {v : Value}, Rep I T β w x v → Rep I T' (fun j => β (r j)) w y v := by
  induction h with
  | same x hx => exact fun h => h.noOwn hx
  | agg l l' hl _ ih =>
    intro v h
    cases h with
    | agg _ cs hc hr =>
      refine .agg l' cs (by omega) fun j p u hp hu => ?_
      have hlt : j < l.length := by rw [hl]; exact (List.getElem?_eq_some_iff.1 hp).1
      exact ih j _ p (List.getElem?_eq_getElem hlt) hp (hr j _ u (List.getElem?_eq_getElem hlt) hu)
  | tup l l' hl _ ih =>
    intro v h
    cases h with
    | tup _ cs hc hr =>
      refine .tup l' cs (by omega) fun j p u hp hu => ?_
      have hlt : j < l.length := by rw [hl]; exact (List.getElem?_eq_some_iff.1 hp).1
      exact ih j _ p (List.getElem?_eq_getElem hlt) hp (hr j _ u (List.getElem?_eq_getElem hlt) hu)
  | clo f l l' hl _ ih =>
    intro v h
    cases h with
    | clo _ _ cs hc hr =>
      refine .clo f l' cs (by omega) fun j p u hp hu => ?_
      have hlt : j < l.length := by rw [hl]; exact (List.getElem?_eq_some_iff.1 hp).1
      exact ih j _ p (List.getElem?_eq_getElem hlt) hp (hr j _ u (List.getElem?_eq_getElem hlt) hu)
  | own i j hr hj =>
    intro v h
    cases h with
    | own _ _ hn hx =>
      refine .own j v hj fun e s es' he => ?_
      obtain ⟨es, h1, _⟩ := hT.live j e s es' he
      subst hr
      exact hx e s es h1
  | ptr i j k q hr hj =>
    intro v h
    cases h with
    | ptr _ _ _ _ hn hx =>
      refine .ptr j k q v hj fun e s es' he => ?_
      obtain ⟨es, h1, h2, _⟩ := hT.live j e s es' he
      subst hr
      rw [← h2]
      exact hx e s es h1
theorem im_ren {B : Nat} {r : Nat → Nat} {T T' : Nat → Ob} (hT : RenT r T T') (b : Nat) (h : Im I0 B T β w b) : Im I0 B T' (fun j => β (r j)) w b :=
  ⟨h.1, h.2.1, fun j e s es' hj => by obtain ⟨es, h1, _⟩ := hT.live j e s es' hj; exact h.2.2 _ e s es h1⟩
theorem rep_ren {B : Nat} {r : Nat → Nat} {T T' : Nat → Ob} (hT : RenT r T T') {x y : AV} (h : Ren r T' x y) {v : Value} (k : Rep (Im I0 B T β w) T β w x v) : Rep (Im I0 B T' (fun j => β (r j)) w) T' (fun j => β (r j)) w y v := by
  refine Rep.ren hT h (k.mono (fun b hb => ⟨im_ren hT b hb, fun o => rfl⟩) fun i hi => ⟨hi, fun e s es' h' => ⟨rfl, es', h', rfl⟩⟩)
theorem Objs.ren {B : Nat} {r : Nat → Nat} {T T' : Nat → Ob} (hT : RenT r T T') (h : Objs I0 B T β w) : Objs I0 B T' (fun j => β (r j)) w := by
  refine ⟨fun j e s es' hj => ?_, fun i e s es j e' s' es' b hi hj hbi hbj => ?_⟩
  · obtain ⟨es, h1, h2, h3⟩ := hT.live j e s es' hj
    obtain ⟨a1, xs, a2, a3⟩ := h.obj _ e s es h1
    have hlen : ∀ c' ∈ es', c'.length = s := by
      intro c' hc'
      obtain ⟨q, hq, rfl⟩ := List.getElem_of_mem hc'
      have hq' : q < es.length := by omega
      rw [← (h3 q _ _ (List.getElem?_eq_getElem hq') (List.getElem?_eq_getElem hq)).get.1]
      exact a1 _ (List.getElem_mem hq')
    refine ⟨hlen, xs, by rw [← h2]; exact a2, fun q y hy => ?_⟩
    obtain ⟨k, t, c', rfl, ht, hk, hct⟩ := flat_inv hlen hy
    have hk' : k < es.length := by have := (List.getElem?_eq_some_iff.1 hk).1; omega
    have hrl := h3 k _ _ (List.getElem?_eq_getElem hk') hk
    have htl : t < es[k].length := by rw [a1 _ (List.getElem_mem hk')]; exact ht
    obtain ⟨u, hu, hr⟩ := a3 _ _ (flat_get a1 (List.getElem?_eq_getElem hk') (List.getElem?_eq_getElem htl))
    exact ⟨u, hu, rep_ren hT (hrl.get.2 t _ _ (List.getElem?_eq_getElem htl) hct) hr⟩
  · obtain ⟨es1, h1, _⟩ := hT.live _ _ _ _ hi
    obtain ⟨es2, h2, _⟩ := hT.live _ _ _ _ hj
    exact hT.inj i j (by rw [hi]; simp) (by rw [hj]; simp) (h.inj _ _ _ _ _ _ _ _ b h1 h2 hbi hbj)
theorem ent_ren (r : Nat → Nat) {l : List (Nat × AV)} {T' : Nat → Ob} (hT : RenT r st.T T') (h : RenE r T' st.env l) : Ent st ⟨l, T'⟩ := by
  intro N I0 w0 β a w hr
  refine ⟨fun j => β (r j), hr.old, hr.size, hr.defers, fun t y hy => ?_, hr.objs.ren hT, hr.below⟩
  obtain ⟨x, hx, hxy⟩ := h.get t y hy
  exact rep_ren hT hxy (hr.env t x hx)
/-- What a call makes, under other names. -/
theorem Ok.ren {f : Nat} {args : List AV} {R R' : AV → (Nat → Ob) → Prop} (h : Ok P f args R) (hs : ∀ x T, R x T → ∃ r T' y, R' y T' ∧ RenT r T T' ∧ Ren r T' x y) : Ok P f args R' := by
  intro I0 w vs hI hvs
  refine (h I0 w vs hI hvs).mono ?_
  rintro en w' (hF | ⟨v, x, T, β, rfl, hR, h2, h3, h4⟩)
  · exact hF.elim
  · obtain ⟨r, T', y, r1, r2, r3⟩ := hs x T hR
    exact .inr ⟨v, y, T', _, rfl, r1, h2, h3.ren r2, rep_ren r2 r3 h4⟩
/-- A variable that holds the nil slice holds a row of no elements. -/
theorem ent_nilT (m e s : Nat) {i ei si r : Nat} {c : List AV} (hm : st.T m = .no) (hi : st.T i = .live ei si [c]) (hc : c[r]? = some (.v (.slice none 0 0))) : Ent st ⟨st.env, upd (upd st.T m (.live e s [])) i (.live ei si [c.set r (.own m)])⟩ := by
  intro N I0 w0 β a w hr
  obtain ⟨h1, h2⟩ := hr.newObj (w' := w) (i' := m) (e := e) (s := s) (es' := []) hm none none (by simp) (by simp) ⟨rfl, rfl, rfl, Nat.le_refl _, fun _ _ _ => rfl⟩ (y := .slice none 0 0) (xs := []) (World.owns_nil w _ _ _) (fun b hb => by simp [Value.ownBlock] at hb) (by simp) (by simp)
  simp only [killO] at h1 h2
  have him : i ≠ m := fun e => by rw [e, hm] at hi; cases hi
  have hi1 : upd st.T m (.live e s []) i = .live ei si [c] := by simp [upd, him, hi]
  obtain ⟨a1, xs, a2, a3⟩ := h1.objs.obj i ei si [c] hi1
  have hlc : c.length = si := a1 c (by simp)
  have hr' := h1.turn (es' := [c.set r (.own m)]) hi1 (w' := w) (xs := xs) ⟨rfl, rfl, rfl, Nat.le_refl _, fun _ _ _ => rfl⟩ (by simpa using a2) (by simp) (by simpa using hlc) (fun j x hx => ?_)
  · exact ⟨_, hr'⟩
  · simp only [List.flatten_cons, List.flatten_nil, List.append_nil] at hx a3
    rw [List.getElem?_set] at hx
    by_cases hj : r = j
    · subst hj
      have hlt : r < c.length := (List.getElem?_eq_some_iff.1 hc).1
      rw [if_pos rfl, if_pos hlt] at hx
      cases hx
      obtain ⟨v, hv, hrv⟩ := a3 r _ hc
      refine ⟨v, hv, ?_⟩
      rw [hrv.v_inv]
      exact .own m _ (by simp [upd]) fun e' s' es' he => by simp [updV]
    · rw [if_neg hj] at hx
      exact a3 j x hx
theorem y_storeE {o : Oper} {x : AV} {T1 : Nat → Ob} {t n : Nat} {ag : Bool} {zp zv : Operand} {j q r e s : Nat} {es : List (List AV)} {c : List AV} (hT1 : upd st.T j (.live e s (es.set q (c.take r ++ cellsA x ++ c.drop (r + n)))) = T1) (hq : es[q]? = some c)
    (hx : (cellsA x).all (cok1 st.T) = true := by rfl) (ho : o.op = .store t zp zv := by rfl) (hd : o.dst = none := by rfl) (ht : szOf P t = some (n, ag) := by rfl)
    (hp : ev st zp = some (.ptr j q r) := by rfl) (hi : st.T j = .live e s es := by rfl) (hv : ev st zv = some x := by rfl) (hn : (cellsA x).length = n := by rfl) (hrs : Nat.ble (r + n) s = true := by rfl) : AEff P N Q o st (.v undef) T1 := by
  subst hT1
  intro I0 w0 β a w hr K' hK
  obtain ⟨w', h1, h2, h3⟩ := store_core (o := o) ho hd ht hp hi hq hv hx hn (by simpa using hrs) hr
  refine .inl ?_
  simp only [Oper.wp, h1, Oper.upon]
  rw [hd]
  have := hK undef w' β h2.below h3 h2.objs (.v undef)
  rw [hd] at this
  exact this
theorem y_litE {o : Oper} {T1 : Nat → Ob} {t e s len : Nat} {parts : Array (Nat × Operand)} {ps : List (Nat × AV)} {z : List AV} (m : Nat) (hT1 : upd st.T m (.live e s (ps.map fun p => cellsA p.2)) = T1) (hm : st.T m = .no := by rfl)
    (ho : o.op = .buildSlice t len parts := by rfl) (ht : elOf P t = some (e, s) := by rfl) (hz : zcells P e = some z := by rfl) (hps : evps st parts.toList = some ps := by rfl) (hpl : ps.length = len := by rfl)
    (hsm : Nat.ble (len * s) 16777216 = true := by rfl) (hs0 : Nat.blt 0 (len * s) = true := by rfl) (hok : (ps.all fun p => (cellsA p.2).all (cok1 st.T)) = true := by rfl) (hls : (ps.all fun p => (cellsA p.2).length == s) = true := by rfl)
    (hf : fillA (fun i => some (i * s, s)) (List.replicate len z).flatten ps = some (ps.map fun p => cellsA p.2).flatten := by rfl) : AEff P N Q o st (.own m) T1 := by
  subst hT1
  intro I0 w0 β a w hr K' hK
  obtain ⟨y, w', β2, h1, h2, h3, h4⟩ := lit_core (o := o) m hm ho ht hz hps hpl hsm hs0 hok hls hf hr
  refine .inl ?_
  simp only [Oper.wp, h1, Oper.upon]
  exact hK _ _ _ h2.below h3 h2.objs h4
section steps
variable {ops : Array Oper} {i : Nat} {l : List Nat} {d : Nat} {x y : AV}
/-- A literal of elements. -/
theorem li {t e s len : Nat} {parts : Array (Nat × Operand)} {ps : List (Nat × AV)} {z : List AV} (m : Nat) (k : AOps P N ops Q l (ASt.mk ((d, .own m) :: st.env) (upd st.T m (.live e s (ps.map fun p => cellsA p.2))))) (hm : st.T m = .no := by rfl)
    (ho : (ops.getD i default).op = .buildSlice t len parts := by rfl) (ht : elOf P t = some (e, s) := by rfl) (hz : zcells P e = some z := by rfl) (hps : evps st parts.toList = some ps := by rfl) (hpl : ps.length = len := by rfl)
    (hsm : Nat.ble (len * s) 16777216 = true := by rfl) (hs0 : Nat.blt 0 (len * s) = true := by rfl) (hok : (ps.all fun p => (cellsA p.2).all (cok1 st.T)) = true := by rfl) (hls : (ps.all fun p => (cellsA p.2).length == s) = true := by rfl)
    (hf : fillA (fun i => some (i * s, s)) (List.replicate len z).flatten ps = some (ps.map fun p => cellsA p.2).flatten := by rfl)
    (hi : Nat.blt i ops.size = true := by rfl) (hg : opAt N ops st i = true := by rfl) (hd : (ops.getD i default).dst = some d := by rfl) (hN : Nat.blt d N = true := by rfl) : AOps P N ops Q (i :: l) st :=
  st2 (op_lit m hm hd hN k (ho := ho) (ht := ht) (hz := hz) (hps := hps) (hpl := hpl) (hsm := hsm) (hs0 := hs0) (hok := hok) (hls := hls) (hf := hf)) hi hg
/-- A call that makes rows. -/
theorem cm {g : Nat} {caps : List AV} {z : Operand} {xs : Array Operand} {ts : Array TypeId} {ls l' : List AV} {Te T1 : Nat → Ob} (hok : Ok P g l' fun y T => y = x ∧ T = Te) (hT : mergeT st.T Te = T1) (hdis : ∀ j, Te j ≠ .no → st.T j = .no)
    (k : AOps P N ops Q l (ASt.mk ((d, x) :: st.env) T1)) (ho : (ops.getD i default).op = .call ⟨.value z, xs, ts⟩ := by rfl)
    (hz : ev st z = some (.clo g caps) := by rfl) (hl : evs st xs.toList = some ls := by rfl) (hl' : ls ++ caps = l' := by rfl) (hg' : goFn P g = true := by rfl) (hno : NoOwnL l' := by simp [NoOwnL]) (hi : Nat.blt i ops.size = true := by rfl)
    (hg : opAt N ops st i = true := by rfl) (hd : (ops.getD i default).dst = some d := by rfl) (hN : Nat.blt d N = true := by rfl) : AOps P N ops Q (i :: l) st := by
  subst hl'
  subst hT
  refine st2 (op_callT ho hd (blt_lt hN) hz hg' (evs_map hl) hno.mem hok ?_) hi hg
  rintro x T' ⟨rfl, rfl⟩
  exact ⟨fun j hj => hdis j hj, k⟩
end steps
end
end Go.Proofs.Ytafbiccgbgcooaa.AW
