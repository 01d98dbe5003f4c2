/- Abstract states: rows under other names, of which some are nobody's to turn any more. -/
import Derived.Test.YtafbiccgbgcooaaAWq
namespace Go.Proofs.Ytafbiccgbgcooaa.AW
open Go Go.RowKit
set_option linter.unusedVariables false
set_option linter.unusedSimpArgs false

/-- The same: new name 'j' is what was 'r j'; what has no new name is nobody's to turn. -/
inductive Fz (r : Nat → Nat) (T T' : Nat → Ob) : AV → AV → Prop
  | same (x : AV) : NoOwn x → Fz r T T' x x
  | nil (s : Nat) : Fz r T T' (.v (.slice none 0 0)) (.sl s [])
  | agg (l l' : List AV) : l.length = l'.length → (∀ (j : Nat) (a b : AV), l[j]? = some a → l'[j]? = some b → Fz r T T' a b) → Fz r T T' (.agg l) (.agg l')
  | tup (l l' : List AV) : l.length = l'.length → (∀ (j : Nat) (a b : AV), l[j]? = some a → l'[j]? = some b → Fz r T T' a b) → Fz r T T' (.tup l) (.tup l')
  | clo (f : Nat) (l l' : List AV) : l.length = l'.length → (∀ (j : Nat) (a b : AV), l[j]? = some a → l'[j]? = some b → Fz r T T' a b) → Fz r T T' (.clo f l) (.clo f l')
  | own (i j : Nat) : r j = i → T' j ≠ .no → Fz r T T' (.own i) (.own j)
  | ptr (i j k q : Nat) : r j = i → T' j ≠ .no → Fz r T T' (.ptr i k q) (.ptr j k q)
  | sl (i e s : Nat) (es es' : List (List AV)) : T i = .live e s es → (∀ j e s es, T' j = .live e s es → r j ≠ i) → es.length = es'.length → (∀ c ∈ es', c.length = s) →
      (∀ (j : Nat) (a b : AV), es.flatten[j]? = some a → es'.flatten[j]? = some b → Fz r T T' a b) → Fz r T T' (.own i) (.sl s es')
def FzL (r : Nat → Nat) (T T' : Nat → Ob) : List AV → List AV → Prop
  | [], [] => True
  | x :: xs, y :: ys => Fz r T T' x y ∧ FzL r T T' xs ys
  | _, _ => False
theorem FzL.get {r : Nat → Nat} {T T' : Nat → Ob} : ∀ {l l' : List AV}, FzL r T T' l l' → l.length = l'.length ∧ ∀ (j : Nat) (a b : AV), l[j]? = some a → l'[j]? = some b → Fz r T T' a b
  | [], [], _ => ⟨rfl, by simp⟩
  | x :: xs, y :: ys, ⟨h1, h2⟩ => by
    obtain ⟨h3, h4⟩ := FzL.get h2
    refine ⟨by simp [h3], fun j a b ha hb => ?_⟩
    cases j with
    | zero => simp at ha hb; subst ha; subst hb; exact h1
    | succ j => exact h4 j a b (by simpa using ha) (by simpa using hb)
  | [], _ :: _, h => h.elim
  | _ :: _, [], h => h.elim
theorem fzL_same {r : Nat → Nat} {T T' : Nat → Ob} : ∀ {l : List AV}, NoOwnL l → FzL r T T' l l
  | [], _ => trivial
  | x :: xs, ⟨h1, h2⟩ => ⟨.same x h1, fzL_same h2⟩
theorem fzL_all {r : Nat → Nat} {T T' : Nat → Ob} : ∀ {l : List AV}, (∀ x ∈ l, NoOwn x) → FzL r T T' l l
  | [], _ => trivial
  | x :: xs, h => ⟨.same x (h x (.head _)), fzL_all fun y hy => h y (.tail _ hy)⟩
theorem fz_agg {r : Nat → Nat} {T T' : Nat → Ob} {l l' : List AV} (h : FzL r T T' l l') : Fz r T T' (.agg l) (.agg l') := .agg l l' h.get.1 h.get.2
theorem fz_tup {r : Nat → Nat} {T T' : Nat → Ob} {l l' : List AV} (h : FzL r T T' l l') : Fz r T T' (.tup l) (.tup l') := .tup l l' h.get.1 h.get.2
theorem fz_v {r : Nat → Nat} {T T' : Nat → Ob} (x : Value) : Fz r T T' (.v x) (.v x) := .same _ (.v x)
theorem fz_own {r : Nat → Nat} {T T' : Nat → Ob} {i j : Nat} (h : r j = i) (hT : T' j ≠ .no) : Fz r T T' (.own i) (.own j) := .own i j h hT
theorem fz_rows {r : Nat → Nat} {T T' : Nat → Ob} {i e s : Nat} {es es' : List (List AV)} (hT : T i = .live e s es) (hn : ∀ j e s es, T' j = .live e s es → r j ≠ i) (hl : es.length = es'.length) (hs0 : ∀ c ∈ es, c.length = s) (hs : ∀ c ∈ es', c.length = s)
    (h : ∀ (q : Nat) (c c' : List AV), es[q]? = some c → es'[q]? = some c' → FzL r T T' c c') : Fz r T T' (.own i) (.sl s es') := by
  refine .sl i e s es es' hT hn hl hs fun j a b ha hb => ?_
  obtain ⟨k, t, c', rfl, ht, hk, hct⟩ := flat_inv hs hb
  have hk' : k < es.length := by have := (List.getElem?_eq_some_iff.1 hk).1; omega
  have htl : t < es[k].length := by rw [hs0 _ (List.getElem_mem hk')]; exact ht
  rw [flat_get hs0 (List.getElem?_eq_getElem hk') (List.getElem?_eq_getElem htl)] at ha
  cases ha
  exact (h k _ _ (List.getElem?_eq_getElem hk') hk).get.2 t _ _ (List.getElem?_eq_getElem htl) hct
/-- A row of plain values. -/
theorem fz_flat {r : Nat → Nat} {T T' : Nat → Ob} {i e s : Nat} {es : List (List AV)} (hT : T i = .live e s es) (hn : ∀ j e s es, T' j = .live e s es → r j ≠ i) (hs : ∀ c ∈ es, c.length = s) (h : ∀ c ∈ es, ∀ x ∈ c, NoOwn x) : Fz r T T' (.own i) (.sl s es) :=
  fz_rows hT hn rfl hs hs fun q c c' hc hc' => by
    rw [hc] at hc'; cases hc'
    exact fzL_all (h c (List.mem_of_getElem? hc))
/-- The tables hang together. -/
structure FzT (r : Nat → Nat) (T T' : Nat → Ob) : Prop where
  live : ∀ j e s es', T' j = .live e s es' → ∃ es, T (r j) = .live e s es ∧ es.length = es'.length ∧ ∀ (q : Nat) (c c' : List AV), es[q]? = some c → es'[q]? = some c' → FzL r T T' c c'
  no : ∀ j, T' j ≠ .no → T (r j) ≠ .no
  inj : ∀ i j, T' i ≠ .no → T' j ≠ .no → r i = r j → i = j
def FzE (r : Nat → Nat) (T T' : Nat → Ob) (e : List (Nat × AV)) : List (Nat × AV) → Prop
  | [] => True
  | (t, y) :: l => (∃ x, get e t = some x ∧ Fz r T T' x y) ∧ FzE r T T' e l
theorem FzE.get {r : Nat → Nat} {T T' : Nat → Ob} {e : List (Nat × AV)} : ∀ {l : List (Nat × AV)}, FzE r T T' e l → ∀ t y, get l t = some y → ∃ x, get e t = some x ∧ Fz r T T' x y
  | [], _, t, y, h => by simp [AW.get] at h
  | (k, v) :: l, hh, t, y, h => by
    simp only [AW.get] at h
    by_cases hk : k = t
    · rw [if_pos hk] at h; cases h; exact hk ▸ hh.1
    · rw [if_neg hk] at h; exact FzE.get hh.2 t y h
section
variable {P : Program} {N : Nat} {Q : Exit → ASt → Prop} {st : ASt} {I0 : Nat → Prop} {w0 : World} {β : Nat → Value} {a : Act} {w : World}
theorem im_fz {B : Nat} {r : Nat → Nat} {T T' : Nat → Ob} (hT : FzT r T T') (b : Nat) (h : Im I0 B T β w b) : Im I0 B T' (fun j => β (r j)) w b :=
  ⟨h.1, h.2.1, fun j e s es' hj => by obtain ⟨es, h1, _⟩ := hT.live j e s es' hj; exact h.2.2 _ e s es h1⟩
theorem rep_fz {B : Nat} {r : Nat → Nat} {T T' : Nat → Ob} (hO : Objs I0 B T β w) (hT : FzT r T T') {x y : AV} (h : Fz r T T' x y) : ∀ {v : Value}, Rep (Im I0 B T β w) T β w x v → Rep (Im I0 B T' (fun j => β (r j)) w) T' (fun j => β (r j)) w y v := by
  induction h with
  | same x hx => exact fun h => (h.mono (fun b hb => ⟨im_fz hT b hb, fun o => rfl⟩) fun i hi => ⟨hi, fun e s es' h' => ⟨rfl, es', h', rfl⟩⟩).noOwn hx
  | nil s => exact fun hv => by rw [hv.v_inv]; exact .emp s none 0 fun _ => rfl
  | agg l l' hl _ ih =>
    intro v h
    cases h with
    | agg _ cs hc hr =>
      refine .agg l' cs (by omega) fun j p u hp hu => ?_
      have hlt : j < l.length := by rw [hl]; exact (List.getElem?_eq_some_iff.1 hp).1
      exact ih j _ p (List.getElem?_eq_getElem hlt) hp (hr j _ u (List.getElem?_eq_getElem hlt) hu)
  | tup l l' hl _ ih =>
    intro v h
    cases h with
    | tup _ cs hc hr =>
      refine .tup l' cs (by omega) fun j p u hp hu => ?_
      have hlt : j < l.length := by rw [hl]; exact (List.getElem?_eq_some_iff.1 hp).1
      exact ih j _ p (List.getElem?_eq_getElem hlt) hp (hr j _ u (List.getElem?_eq_getElem hlt) hu)
  | clo f l l' hl _ ih =>
    intro v h
    cases h with
    | clo _ _ cs hc hr =>
      refine .clo f l' cs (by omega) fun j p u hp hu => ?_
      have hlt : j < l.length := by rw [hl]; exact (List.getElem?_eq_some_iff.1 hp).1
      exact ih j _ p (List.getElem?_eq_getElem hlt) hp (hr j _ u (List.getElem?_eq_getElem hlt) hu)
  | own i j hr hj =>
    intro v h
    cases h with
    | own _ _ hn hx =>
      refine .own j v hj fun e s es' he => ?_
      obtain ⟨es, h1, _⟩ := hT.live j e s es' he
      subst hr
      exact hx e s es h1
  | ptr i j k q hr hj =>
    intro v h
    cases h with
    | ptr _ _ _ _ hn hx =>
      refine .ptr j k q v hj fun e s es' he => ?_
      obtain ⟨es, h1, h2, _⟩ := hT.live j e s es' he
      subst hr
      rw [← h2]
      exact hx e s es h1
  | sl i e s es es' hi hn hl hs _ ih =>
    intro v hv
    cases hv with
    | own _ _ hno hx =>
      have := hx e s es hi
      subst this
      obtain ⟨h1, xs, h2, h3⟩ := hO.obj i e s es hi
      have hfl : es.flatten.length = es'.flatten.length := by rw [flat_len h1, flat_len hs, hl]
      rcases h2.2 with ⟨hh, h0⟩ | ⟨g, cap, cur, fr, hh, hb, hg, _, hnc, _⟩
      · have : es' = [] := List.eq_nil_of_length_eq_zero (by omega)
        subst this
        rw [hh]; exact .emp s none 0 fun _ => rfl
      · have hIm : Im I0 B T' (fun j => β (r j)) w g := by
          refine ⟨.inr hb, (Array.getElem?_eq_some_iff.1 hg).1, fun j e' s' es2 hj hbj => ?_⟩
          obtain ⟨es3, h4, _⟩ := hT.live j e' s' es2 hj
          exact hn j _ _ _ hj (hO.inj _ _ _ _ _ _ _ _ g h4 hi hbj (by rw [hh]; rfl))
        rw [hh, hl]
        rw [hh] at h2
        refine .sl s es' g 0 cap (fun j => (xs[j]?).getD undef) hIm (by omega) hs (fun j p hp => ?_) (fun j p hp => ?_)
        · have hlt : j < es.flatten.length := by rw [hfl]; exact (List.getElem?_eq_some_iff.1 hp).1
          have hc := h2.cellAt j (by rw [← flat_len h1]; exact hlt)
          obtain ⟨u, hu, _⟩ := h3 j _ (List.getElem?_eq_getElem hlt)
          rw [Nat.zero_add, hc, hu]; rfl
        · have hlt : j < es.flatten.length := by rw [hfl]; exact (List.getElem?_eq_some_iff.1 hp).1
          obtain ⟨u, hu, hr⟩ := h3 j _ (List.getElem?_eq_getElem hlt)
          simp only [hu, Option.getD_some]
          exact ih j _ p (List.getElem?_eq_getElem hlt) hp hr
theorem Objs.fz {B : Nat} {r : Nat → Nat} {T T' : Nat → Ob} (hT : FzT r T T') (h : Objs I0 B T β w) : Objs I0 B T' (fun j => β (r j)) w := by
  refine ⟨fun j e s es' hj => ?_, fun i e s es j e' s' es' b hi hj hbi hbj => ?_⟩
  · obtain ⟨es, h1, h2, h3⟩ := hT.live j e s es' hj
    obtain ⟨a1, xs, a2, a3⟩ := h.obj _ e s es h1
    have hlen : ∀ c' ∈ es', c'.length = s := by
      intro c' hc'
      obtain ⟨q, hq, rfl⟩ := List.getElem_of_mem hc'
      have hq' : q < es.length := by omega
      rw [← (h3 q _ _ (List.getElem?_eq_getElem hq') (List.getElem?_eq_getElem hq)).get.1]
      exact a1 _ (List.getElem_mem hq')
    refine ⟨hlen, xs, by rw [← h2]; exact a2, fun q y hy => ?_⟩
    obtain ⟨k, t, c', rfl, ht, hk, hct⟩ := flat_inv hlen hy
    have hk' : k < es.length := by have := (List.getElem?_eq_some_iff.1 hk).1; omega
    have hrl := h3 k _ _ (List.getElem?_eq_getElem hk') hk
    have htl : t < es[k].length := by rw [a1 _ (List.getElem_mem hk')]; exact ht
    obtain ⟨u, hu, hr⟩ := a3 _ _ (flat_get a1 (List.getElem?_eq_getElem hk') (List.getElem?_eq_getElem htl))
    exact ⟨u, hu, rep_fz h hT (hrl.get.2 t _ _ (List.getElem?_eq_getElem htl) hct) hr⟩
  · obtain ⟨es1, h1, _⟩ := hT.live _ _ _ _ hi
    obtain ⟨es2, h2, _⟩ := hT.live _ _ _ _ hj
    exact hT.inj i j (by rw [hi]; simp) (by rw [hj]; simp) (h.inj _ _ _ _ _ _ _ _ b h1 h2 hbi hbj)
theorem ent_fz (r : Nat → Nat) {l : List (Nat × AV)} {T' : Nat → Ob} (hT : FzT r st.T T') (h : FzE r st.T T' st.env l) : Ent st ⟨l, T'⟩ := by
  intro N I0 w0 β a w hr
  refine ⟨fun j => β (r j), hr.old, hr.size, hr.defers, fun t y hy => ?_, hr.objs.fz hT, hr.below⟩
  obtain ⟨x, hx, hxy⟩ := h.get t y hy
  exact rep_fz hr.objs hT hxy (hr.env t x hx)
/-- What a call makes, under other names, some of it nobody's to turn. -/
theorem Ok.fz {f : Nat} {args : List AV} {R R' : AV → (Nat → Ob) → Prop} (h : Ok P f args R) (hs : ∀ x T, R x T → ∃ r T' y, R' y T' ∧ FzT r T T' ∧ Fz r T T' x y) : Ok P f args R' := by
  intro I0 w vs hI hvs
  refine (h I0 w vs hI hvs).mono ?_
  rintro en w' (hF | ⟨v, x, T, β, rfl, hR, h2, h3, h4⟩)
  · exact hF.elim
  · obtain ⟨r, T', y, r1, r2, r3⟩ := hs x T hR
    exact .inr ⟨v, y, T', _, rfl, r1, h2, h3.fz r2, rep_fz h3 r2 r3 h4⟩
end
end Go.Proofs.Ytafbiccgbgcooaa.AW
