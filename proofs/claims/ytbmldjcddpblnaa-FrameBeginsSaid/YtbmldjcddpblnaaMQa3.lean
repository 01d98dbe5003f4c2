/- What the statements' walks need. -/
import Derived.Test.YtbmldjcddpblnaaMQa2
import Derived.Laws.BytesArg
import Derived.Laws.IdiomCopy
import Derived.Laws.Pointers
import Derived.Lib.ConvBytes
set_option linter.unusedVariables false
set_option linter.unusedSimpArgs false
set_option maxRecDepth 100000
namespace Go.Proofs.Ytbmldjcddpblnaa.AW
open Go Go.RowKit
inductive Fz (r : Nat → Nat) (T T' : Nat → Ob) : AV → AV → Prop
  | same (x : AV) : NoOwn x → Fz r T T' x x
  | nil (s : Nat) : Fz r T T' (.v (.slice none 0 0)) (.sl s [])
  | agg (l l' : List AV) : l.length = l'.length → (∀ (j : Nat) (a b : AV), l[j]? = some a → l'[j]? = some b → Fz r T T' a b) → Fz r T T' (.agg l) (.agg l')
  | tup (l l' : List AV) : l.length = l'.length → (∀ (j : Nat) (a b : AV), l[j]? = some a → l'[j]? = some b → Fz r T T' a b) → Fz r T T' (.tup l) (.tup l')
  | clo (f : Nat) (l l' : List AV) : l.length = l'.length → (∀ (j : Nat) (a b : AV), l[j]? = some a → l'[j]? = some b → Fz r T T' a b) → Fz r T T' (.clo f l) (.clo f l')
  | own (i j : Nat) : r j = i → T' j ≠ .no → Fz r T T' (.own i) (.own j)
  | ptr (i j k q : Nat) : r j = i → T' j ≠ .no → Fz r T T' (.ptr i k q) (.ptr j k q)
  | sl (i e s : Nat) (es es' : List (List AV)) : T i = .live e s es → (∀ j e s es, T' j = .live e s es → r j ≠ i) → es.length = es'.length → (∀ c ∈ es', c.length = s) →
      (∀ (j : Nat) (a b : AV), es.flatten[j]? = some a → es'.flatten[j]? = some b → Fz r T T' a b) → Fz r T T' (.own i) (.sl s es')
def FzL (r : Nat → Nat) (T T' : Nat → Ob) : List AV → List AV → Prop
  | [], [] => True
  | x :: xs, y :: ys => Fz r T T' x y ∧ FzL r T T' xs ys
  | _, _ => False
theorem FzL.get {r : Nat → Nat} {T T' : Nat → Ob} : ∀ {l l' : List AV}, FzL r T T' l l' → l.length = l'.length ∧ ∀ (j : Nat) (a b : AV), l[j]? = some a → l'[j]? = some b → Fz r T T' a b
  | [], [], _ => ⟨rfl, by simp⟩
  | x :: xs, y :: ys, ⟨h1, h2⟩ => by
    obtain ⟨h3, h4⟩ := FzL.get h2
    refine ⟨by simp [h3], fun j a b ha hb => ?_⟩
    cases j with
    | zero => simp at ha hb; subst ha; subst hb; exact h1
    | succ j => exact h4 j a b (by simpa using ha) (by simpa using hb)
  | [], _ :: _, h => h.elim
  | _ :: _, [], h => h.elim
theorem fzL_all {r : Nat → Nat} {T T' : Nat → Ob} : ∀ {l : List AV}, (∀ x ∈ l, NoOwn x) → FzL r T T' l l
  | [], _ => trivial
  | x :: xs, h => ⟨.same x (h x (.head _)), fzL_all fun y hy => h y (.tail _ hy)⟩
theorem fz_agg {r : Nat → Nat} {T T' : Nat → Ob} {l l' : List AV} (h : FzL r T T' l l') : Fz r T T' (.agg l) (.agg l') := .agg l l' h.get.1 h.get.2
theorem fz_tup {r : Nat → Nat} {T T' : Nat → Ob} {l l' : List AV} (h : FzL r T T' l l') : Fz r T T' (.tup l) (.tup l') := .tup l l' h.get.1 h.get.2
theorem fz_v {r : Nat → Nat} {T T' : Nat → Ob} (x : Value) : Fz r T T' (.v x) (.v x) := .same _ (.v x)
theorem fz_own {r : Nat → Nat} {T T' : Nat → Ob} {i j : Nat} (h : r j = i) (hT : T' j ≠ .no) : Fz r T T' (.own i) (.own j) := .own i j h hT
theorem fz_rows {r : Nat → Nat} {T T' : Nat → Ob} {i e s : Nat} {es es' : List (List AV)} (hT : T i = .live e s es) (hn : ∀ j e s es, T' j = .live e s es → r j ≠ i) (hl : es.length = es'.length) (hs0 : ∀ c ∈ es, c.length = s) (hs : ∀ c ∈ es', c.length = s)
    (h : ∀ (q : Nat) (c c' : List AV), es[q]? = some c → es'[q]? = some c' → FzL r T T' c c') : Fz r T T' (.own i) (.sl s es') := by
  refine .sl i e s es es' hT hn hl hs fun j a b ha hb => ?_
  obtain ⟨k, t, c', rfl, ht, hk, hct⟩ := flat_inv hs hb
  have hk' : k < es.length := by have := (List.getElem?_eq_some_iff.1 hk).1; omega
  have htl : t < es[k].length := by rw [hs0 _ (List.getElem_mem hk')]; exact ht
  rw [flat_get hs0 (List.getElem?_eq_getElem hk') (List.getElem?_eq_getElem htl)] at ha
  cases ha
  exact (h k _ _ (List.getElem?_eq_getElem hk') hk).get.2 t _ _ (List.getElem?_eq_getElem htl) hct
theorem fz_flat {r : Nat → Nat} {T T' : Nat → Ob} {i e s : Nat} {es : List (List AV)} (hT : T i = .live e s es) (hn : ∀ j e s es, T' j = .live e s es → r j ≠ i) (hs : ∀ c ∈ es, c.length = s) (h : ∀ c ∈ es, ∀ x ∈ c, NoOwn x) : Fz r T T' (.own i) (.sl s es) :=
  fz_rows hT hn rfl hs hs fun q c c' hc hc' => by
    rw [hc] at hc'; cases hc'
    exact fzL_all (h c (List.mem_of_getElem? hc))
structure FzT (r : Nat → Nat) (T T' : Nat → Ob) : Prop where
  live : ∀ j e s es', T' j = .live e s es' → ∃ es, T (r j) = .live e s es ∧ es.length = es'.length ∧ ∀ (q : Nat) (c c' : List AV), es[q]? = some c → es'[q]? = some c' → FzL r T T' c c'
  no : ∀ j, T' j ≠ .no → T (r j) ≠ .no
  inj : ∀ i j, T' i ≠ .no → T' j ≠ .no → r i = r j → i = j
def FzE (r : Nat → Nat) (T T' : Nat → Ob) (e : List (Nat × AV)) : List (Nat × AV) → Prop
  | [] => True
  | (t, y) :: l => (∃ x, get e t = some x ∧ Fz r T T' x y) ∧ FzE r T T' e l
theorem FzE.get {r : Nat → Nat} {T T' : Nat → Ob} {e : List (Nat × AV)} : ∀ {l : List (Nat × AV)}, FzE r T T' e l → ∀ t y, get l t = some y → ∃ x, get e t = some x ∧ Fz r T T' x y
  | [], _, t, y, h => by simp [AW.get] at h
  | (k, v) :: l, hh, t, y, h => by
    simp only [AW.get] at h
    by_cases hk : k = t
    · rw [if_pos hk] at h; cases h; exact hk ▸ hh.1
    · rw [if_neg hk] at h; exact FzE.get hh.2 t y h
section
variable {P : Program} {N : Nat} {Q : Exit → ASt → Prop} {st : ASt} {I0 : Nat → Prop} {w0 : World} {β : Nat → Value} {a : Act} {w : World}
theorem im_fz {B : Nat} {r : Nat → Nat} {T T' : Nat → Ob} (hT : FzT r T T') (b : Nat) (h : Im I0 B T β w b) : Im I0 B T' (fun j => β (r j)) w b :=
  ⟨h.1, h.2.1, fun j e s es' hj => by obtain ⟨es, h1, _⟩ := hT.live j e s es' hj; exact h.2.2 _ e s es h1⟩
theorem rep_fz {B : Nat} {r : Nat → Nat} {T T' : Nat → Ob} (hO : Objs I0 B T β w) (hT : FzT r T T') {x y : AV} (h : Fz r T T' x y) : ∀ {v : Value}, Rep (Im I0 B T β w) T β w x v → Rep (Im I0 B T' (fun j => β (r j)) w) T' (fun j => β (r j)) w y v := by
  induction h with
  | same x hx => exact fun h => (h.mono (fun b hb => ⟨im_fz hT b hb, fun o => rfl⟩) fun i hi => ⟨hi, fun e s es' h' => ⟨rfl, es', h', rfl⟩⟩).noOwn hx
  | nil s => exact fun hv => by rw [hv.v_inv]; exact .emp s none 0 fun _ => rfl
  | agg l l' hl _ ih =>
    intro v h
    cases h with
    | agg _ cs hc hr =>
      refine .agg l' cs (by omega) fun j p u hp hu => ?_
      have hlt : j < l.length := by rw [hl]; exact (List.getElem?_eq_some_iff.1 hp).1
      exact ih j _ p (List.getElem?_eq_getElem hlt) hp (hr j _ u (List.getElem?_eq_getElem hlt) hu)
  | tup l l' hl _ ih =>
    intro v h
    cases h with
    | tup _ cs hc hr =>
      refine .tup l' cs (by omega) fun j p u hp hu => ?_
      have hlt : j < l.length := by rw [hl]; exact (List.getElem?_eq_some_iff.1 hp).1
      exact ih j _ p (List.getElem?_eq_getElem hlt) hp (hr j _ u (List.getElem?_eq_getElem hlt) hu)
  | clo f l l' hl _ ih =>
    intro v h
    cases h with
    | clo _ _ cs hc hr =>
      refine .clo f l' cs (by omega) fun j p u hp hu => ?_
      have hlt : j < l.length := by rw [hl]; exact (List.getElem?_eq_some_iff.1 hp).1
      exact ih j _ p (List.getElem?_eq_getElem hlt) hp (hr j _ u (List.getElem?_eq_getElem hlt) hu)
  | own i j hr hj =>
    intro v h
    cases h with
    | own _ _ hn hx =>
      refine .own j v hj fun e s es' he => ?_
      obtain ⟨es, h1, _⟩ := hT.live j e s es' he
      subst hr
      exact hx e s es h1
  | ptr i j k q hr hj =>
    intro v h
    cases h with
    | ptr _ _ _ _ hn hx =>
      refine .ptr j k q v hj fun e s es' he => ?_
      obtain ⟨es, h1, h2, _⟩ := hT.live j e s es' he
      subst hr
      rw [← h2]
      exact hx e s es h1
  | sl i e s es es' hi hn hl hs _ ih =>
    intro v hv
    cases hv with
    | own _ _ hno hx =>
      have := hx e s es hi
      subst this
      obtain ⟨h1, xs, h2, h3⟩ := hO.obj i e s es hi
      have hfl : es.flatten.length = es'.flatten.length := by rw [flat_len h1, flat_len hs, hl]
      rcases h2.2 with ⟨hh, h0⟩ | ⟨g, cap, cur, fr, hh, hb, hg, _, hnc, _⟩
      · have : es' = [] := List.eq_nil_of_length_eq_zero (by omega)
        subst this
        rw [hh]; exact .emp s none 0 fun _ => rfl
      · have hIm : Im I0 B T' (fun j => β (r j)) w g := by
          refine ⟨.inr hb, (Array.getElem?_eq_some_iff.1 hg).1, fun j e' s' es2 hj hbj => ?_⟩
          obtain ⟨es3, h4, _⟩ := hT.live j e' s' es2 hj
          exact hn j _ _ _ hj (hO.inj _ _ _ _ _ _ _ _ g h4 hi hbj (by rw [hh]; rfl))
        rw [hh, hl]
        rw [hh] at h2
        refine .sl s es' g 0 cap (fun j => (xs[j]?).getD undef) hIm (by omega) hs (fun j p hp => ?_) (fun j p hp => ?_)
        · have hlt : j < es.flatten.length := by rw [hfl]; exact (List.getElem?_eq_some_iff.1 hp).1
          have hc := h2.cellAt j (by rw [← flat_len h1]; exact hlt)
          obtain ⟨u, hu, _⟩ := h3 j _ (List.getElem?_eq_getElem hlt)
          rw [Nat.zero_add, hc, hu]; rfl
        · have hlt : j < es.flatten.length := by rw [hfl]; exact (List.getElem?_eq_some_iff.1 hp).1
          obtain ⟨u, hu, hr⟩ := h3 j _ (List.getElem?_eq_getElem hlt)
          simp only [hu, Option.getD_some]
          exact ih j _ p (List.getElem?_eq_getElem hlt) hp hr
theorem Objs.fz {B : Nat} {r : Nat → Nat} {T T' : Nat → Ob} (hT : FzT r T T') (h : Objs I0 B T β w) : Objs I0 B T' (fun j => β (r j)) w := by
  refine ⟨fun j e s es' hj => ?_, fun i e s es j e' s' es' b hi hj hbi hbj => ?_⟩
  · obtain ⟨es, h1, h2, h3⟩ := hT.live j e s es' hj
    obtain ⟨a1, xs, a2, a3⟩ := h.obj _ e s es h1
    have hlen : ∀ c' ∈ es', c'.length = s := by
      intro c' hc'
      obtain ⟨q, hq, rfl⟩ := List.getElem_of_mem hc'
      have hq' : q < es.length := by omega
      rw [← (h3 q _ _ (List.getElem?_eq_getElem hq') (List.getElem?_eq_getElem hq)).get.1]
      exact a1 _ (List.getElem_mem hq')
    refine ⟨hlen, xs, by rw [← h2]; exact a2, fun q y hy => ?_⟩
    obtain ⟨k, t, c', rfl, ht, hk, hct⟩ := flat_inv hlen hy
    have hk' : k < es.length := by have := (List.getElem?_eq_some_iff.1 hk).1; omega
    have hrl := h3 k _ _ (List.getElem?_eq_getElem hk') hk
    have htl : t < es[k].length := by rw [a1 _ (List.getElem_mem hk')]; exact ht
    obtain ⟨u, hu, hr⟩ := a3 _ _ (flat_get a1 (List.getElem?_eq_getElem hk') (List.getElem?_eq_getElem htl))
    exact ⟨u, hu, rep_fz h hT (hrl.get.2 t _ _ (List.getElem?_eq_getElem htl) hct) hr⟩
  · obtain ⟨es1, h1, _⟩ := hT.live _ _ _ _ hi
    obtain ⟨es2, h2, _⟩ := hT.live _ _ _ _ hj
    exact hT.inj i j (by rw [hi]; simp) (by rw [hj]; simp) (h.inj _ _ _ _ _ _ _ _ b h1 h2 hbi hbj)
theorem ent_fz (r : Nat → Nat) {l : List (Nat × AV)} {T' : Nat → Ob} (hT : FzT r st.T T') (h : FzE r st.T T' st.env l) : Ent st ⟨l, T'⟩ := by
  intro N I0 w0 β a w hr
  refine ⟨fun j => β (r j), hr.old, hr.size, hr.defers, fun t y hy => ?_, hr.objs.fz hT, hr.below⟩
  obtain ⟨x, hx, hxy⟩ := h.get t y hy
  exact rep_fz hr.objs hT hxy (hr.env t x hx)
theorem Ok.fz {f : Nat} {args : List AV} {R R' : AV → (Nat → Ob) → Prop} (h : Ok P f args R) (hs : ∀ x T, R x T → ∃ r T' y, R' y T' ∧ FzT r T T' ∧ Fz r T T' x y) : Ok P f args R' := by
  intro I0 w vs hI hvs
  refine (h I0 w vs hI hvs).mono ?_
  rintro en w' (hF | ⟨v, x, T, β, rfl, hR, h2, h3, h4⟩)
  · exact hF.elim
  · obtain ⟨r, T', y, r1, r2, r3⟩ := hs x T hR
    exact .inr ⟨v, y, T', _, rfl, r1, h2, h3.fz r2, rep_fz h3 r2 r3 h4⟩
end
end Go.Proofs.Ytbmldjcddpblnaa.AW
namespace Go.Proofs.Ytbmldjcddpblnaa.AW
open Go Go.RowKit
def byteRow (ns : List Int) : List (List AV) := ns.map fun n => [.v (.int .u8 n)]
@[simp] theorem len_bytes (ns : List Int) : (byteRow ns).length = ns.length := by simp [byteRow]
theorem bytes_flat (ns : List Int) : (byteRow ns).flatten = ns.map fun n => .v (.int .u8 n) := by
  induction ns with
  | nil => rfl
  | cons n ns ih => simp only [byteRow, List.map_cons, List.flatten_cons] at ih ⊢; rw [ih]; rfl
theorem bytes_zero (n : Nat) : List.replicate n [AV.v (.int .u8 0)] = byteRow (List.replicate n 0) := by simp [byteRow]
theorem cok_bytes (T : Nat → Ob) (ns : List Int) : ∀ c ∈ byteRow ns, ∀ y ∈ c, cok1 T y = true := by
  intro c hc x hx
  simp only [byteRow, List.mem_map] at hc
  obtain ⟨n, _, rfl⟩ := hc
  simp only [List.mem_singleton] at hx
  subst hx; rfl
def numsOf (s : ByteArray) : List Int := s.data.toList.map fun b => (b.toNat : Int)
@[simp] theorem len_numsOf (s : ByteArray) : (numsOf s).length = s.size := by simp [numsOf]
theorem strOfNums_numsOf (s : ByteArray) : strOfNums (numsOf s) = s := by
  have h : (numsOf s).map (fun n => UInt8.ofNat n.toNat) = s.data.toList := by
    simp only [numsOf, List.map_map]
    conv => rhs; rw [← List.map_id s.data.toList]
    apply List.map_congr_left
    intro b _
    simp
  show ByteArray.mk _ = s
  rw [h]
section
variable {P : Program} {N : Nat} {Q : Exit → ASt → Prop} {st : ASt} {I0 : Nat → Prop} {w0 : World} {β : Nat → Value} {a : Act} {w : World}
section ops
variable {o : Oper} {K : ASt → Prop} {d : Nat} {x y : AV}
theorem y_bstr {z : Operand} {t t' e : Nat} (ns : List Int) (hs : srcA st x = some (byteRow ns)) (ho : o.op = .convert t t' z := by rfl) (hz : ev st z = some x := by rfl) (hsz : sizA st 1 x = true := by rfl)
    (ht : P.underlying t = some (.slice e) := by rfl) (he : P.underlying e = some (.int .u8) := by rfl) (ht' : P.underlying t' = some .string := by rfl) : AYield P N Q o st (.v (.string (strOfNums ns))) :=
  AYield.still fun I0 w0 β a w hr => by
    obtain ⟨ad, c, news, q1, q2, q3, q4, q5, q6, q7⟩ := src_val hr hz hs hsz (cok_bytes _ ns)
    rw [len_bytes] at q1 q2
    have hn : news = ns.map (Value.int .u8) := by
      apply List.ext_getElem?
      intro j
      rw [List.getElem?_map]
      cases hj : ns[j]? with
      | none =>
        have : ns.length ≤ j := List.getElem?_eq_none_iff.1 hj
        rw [List.getElem?_eq_none (by rw [q4]; simpa using this)]; rfl
      | some n =>
        obtain ⟨u, hu, hr'⟩ := q7 j (.v (.int .u8 n)) (by rw [bytes_flat, List.getElem?_map, hj]; rfl)
        rw [hu, hr'.v_inv]; rfl
    refine ⟨.string (strOfNums ns), ?_, .v _⟩
    cases ad with
    | none =>
      have h0 : ns = [] := List.eq_nil_of_length_eq_zero (by simpa using (q2 rfl).1)
      subst h0
      have := run_convert_bytes_nil (P := P) w t e ht he ([] : List Int).length c t' ht'
      simp only [List.length_nil] at this q1
      have h2 : strOfNums [] = ByteArray.empty := rfl
      simp [execOp, ho, q1, this, h2]
    | some b =>
      have hl : (loadCells b ns.length).run P w = .ok (ns.map (Value.int .u8)).toArray w := by
        have := run_loadCells_list (P := P) w b (ns.map (Value.int .u8)) (by rw [← hn]; exact q5 b rfl)
        simpa using this
      have h1 : (convert t t' (.slice (some b) ns.length c)).run P w = .ok (.string (strOfNums ns)) w := by
        rw [run_convert_bytes_string w t t' e _ _ c ht he ht', run_bytesToString w _ _ c ns hl, foldl_push_bytes]
        simp [strOfNums, ByteArray.empty, ByteArray.emptyWithCapacity]
        rfl
      simp [execOp, ho, q1, h1]
end ops
section steps
variable {ops : Array Oper} {i : Nat} {l : List Nat} {d : Nat} {x y : AV}
theorem bs {z : Operand} {t t' e : Nat} (ns : List Int) (k : AOps P N ops Q l (st.put d (.v (.string (strOfNums ns))))) (ho : (ops.getD i default).op = .convert t t' z := by rfl) (hz : ev st z = some x := by rfl) (hsz : sizA st 1 x = true := by rfl)
    (ht : P.underlying t = some (.slice e) := by rfl) (he : P.underlying e = some (.int .u8) := by rfl) (ht' : P.underlying t' = some .string := by rfl) (hi : Nat.blt i ops.size = true := by rfl)
    (hg : opAt N ops st i = true := by rfl) (hd : (ops.getD i default).dst = some d := by rfl) (hN : Nat.blt d N = true := by rfl) (hs : srcA st x = some (byteRow ns)) : AOps P N ops Q (i :: l) st := st1 (y_bstr ns hs ho hz hsz ht he ht') k hi hg hd hN
theorem mk {t e s : Nat} {zl zc : Operand} {z : List AV} {k1 k2 : IntKind} {n : Int} (m by_ : Nat)
    (k : AOps P N ops Q l (ASt.mk ((d, .own m) :: st.env) (upd st.T m (.live e s (List.replicate n.toNat z)))))
    (ho : (ops.getD i default).op = .makeSlice t zl zc := by rfl) (ht : elOf P t = some (e, s) := by rfl) (hz : zcells P e = some z := by rfl) (hby : byOf P e = some by_ := by rfl)
    (hl : ev st zl = some (.v (.int k1 n)) := by rfl) (hc : ev st zc = some (.v (.int k2 n)) := by rfl) (hi : Nat.blt i ops.size = true := by rfl)
    (hg : opAt N ops st i = true := by rfl) (hd : (ops.getD i default).dst = some d := by rfl) (hN : Nat.blt d N = true := by rfl)
    (hm : st.T m = .no := by rfl) (h0 : 0 ≤ n := by omega) (hbd : by_ * n.toNat ≤ 281474976710656 := by omega) (hle : n.toNat ≤ 9223372036854775807 := by omega) : AOps P N ops Q (i :: l) st := st2 (op_make m hm h0 hbd hle hd hN k ho ht hz hby hl hc) hi hg
end steps
end
end Go.Proofs.Ytbmldjcddpblnaa.AW
namespace Go.Proofs.Ytbmldjcddpblnaa.AW
open Go Go.RowKit
@[simp] theorem dec_rec (p : Prop) (d : Decidable p) : (Decidable.rec (motive := fun _ => Bool) (fun _ => false) (fun _ => true) d) = @decide p d := by cases d <;> rfl
theorem merge_upd (S T : Nat → Ob) (m e s : Nat) (es : List (List AV)) : mergeT S (upd T m (.live e s es)) = upd (mergeT S T) m (.live e s es) := by
  funext j
  by_cases h : j = m
  · subst h; simp [mergeT, upd]
  · simp [mergeT, upd, h]
theorem merge_noT (S : Nat → Ob) : mergeT S noT = S := by
  funext j; simp [mergeT, noT]
theorem Ok.sh {P : Program} {f : Nat} {args : List AV} {R : AV → (Nat → Ob) → Prop} {y : AV} (h : Ok P f args R) (hs : ∀ x T, R x T → Sh T x y) : Gives P f args y := by
  intro I0 w vs hI hvs
  refine (h I0 w vs hI hvs).mono ?_
  rintro e w' (hF | ⟨v, x, T, β, rfl, h1, h2, h3, h4⟩)
  · exact hF.elim
  · exact .inr ⟨v, y, noT, noβ, rfl, ⟨rfl, rfl⟩, h2, Objs.noT _, (hs x T h1).rep h3 v h4⟩
theorem Ok.mono {P : Program} {f : Nat} {args : List AV} {R R' : AV → (Nat → Ob) → Prop} (h : Ok P f args R) (hs : ∀ x T, R x T → R' x T) : Ok P f args R' := by
  intro I0 w vs hI hvs
  refine (h I0 w vs hI hvs).mono ?_
  rintro e w' (hF | ⟨v, x, T, β, rfl, h1, h2⟩)
  · exact hF.elim
  · exact .inr ⟨v, x, T, β, rfl, hs x T h1, h2⟩
section
variable {P : Program} {N : Nat} {Q : Exit → ASt → Prop} {st : ASt}
theorem y_storeU {o : Oper} {x : AV} {T1 : Nat → Ob} {t n : Nat} {ag : Bool} {zp zv : Operand} {j q r e s : Nat} {es : List (List AV)} {c : List AV} (hq : es[q]? = some c)
    (ho : o.op = .store t zp zv := by rfl) (hd : o.dst = none := by rfl) (ht : szOf P t = some (n, ag) := by rfl)
    (hp : ev st zp = some (.ptr j q r) := by rfl) (hi : st.T j = .live e s es := by rfl) (hv : ev st zv = some x := by rfl) (hn : (cellsA x).length = n := by rfl) (hrs : Nat.ble (r + n) s = true := by rfl)
    (hx : (cellsA x).all (cok1 st.T) = true := by rfl) (hT1 : upd st.T j (.live e s (es.set q (c.take r ++ cellsA x ++ c.drop (r + n)))) = T1 := by rfl) : AEff P N Q o st (.v undef) T1 :=
  y_storeE hT1 hq hx ho hd ht hp hi hv hn hrs
theorem y_storeV {o : Oper} {x : AV} {T1 : Nat → Ob} {t n : Nat} {ag : Bool} {zp zv : Operand} {j r e s : Nat} {c : List AV}
    (ho : o.op = .store t zp zv := by rfl) (hd : o.dst = none := by rfl) (ht : szOf P t = some (n, ag) := by rfl)
    (hp : ev st zp = some (.ptr j 0 r) := by rfl) (hi : st.T j = .live e s [c] := by rfl) (hv : ev st zv = some x := by rfl) (hn : (cellsA x).length = n := by rfl) (hrs : Nat.ble (r + n) s = true := by rfl)
    (hx : (cellsA x).all (cok1 st.T) = true := by rfl) (hT1 : upd st.T j (.live e s [c.take r ++ cellsA x ++ c.drop (r + n)]) = T1 := by rfl) : AEff P N Q o st (.v undef) T1 :=
  y_storeU (es := [c]) (q := 0) (c := c) rfl ho hd ht hp hi hv hn hrs hx hT1
theorem y_litU {o : Oper} {T1 : Nat → Ob} {t e s len : Nat} {parts : Array (Nat × Operand)} {ps : List (Nat × AV)} {z : List AV} (m : Nat)
    (ho : o.op = .buildSlice t len parts := by rfl) (ht : elOf P t = some (e, s) := by rfl) (hz : zcells P e = some z := by rfl) (hps : evps st parts.toList = some ps := by rfl) (hpl : ps.length = len := by rfl)
    (hsm : Nat.ble (len * s) 16777216 = true := by rfl) (hs0 : Nat.blt 0 (len * s) = true := by rfl) (hok : (ps.all fun p => (cellsA p.2).all (cok1 st.T)) = true := by rfl) (hls : (ps.all fun p => (cellsA p.2).length == s) = true := by rfl)
    (hf : fillA (fun i => some (i * s, s)) (List.replicate len z).flatten ps = some (ps.map fun p => cellsA p.2).flatten := by rfl) (hm : st.T m = .no := by rfl) (hT1 : upd st.T m (.live e s (ps.map fun p => cellsA p.2)) = T1 := by rfl) : AEff P N Q o st (.own m) T1 :=
  y_litE m hT1 hm ho ht hz hps hpl hsm hs0 hok hls hf
theorem y_bstrU {o : Oper} {x : AV} {z : Operand} {t t' e : Nat} (ns : List Int) (ho : o.op = .convert t t' z := by rfl) (hz : ev st z = some x := by rfl) (hsz : sizA st 1 x = true := by rfl)
    (ht : P.underlying t = some (.slice e) := by rfl) (he : P.underlying e = some (.int .u8) := by rfl) (ht' : P.underlying t' = some .string := by rfl) (hs : srcA st x = some (byteRow ns) := by rfl) : AYield P N Q o st (.v (.string (strOfNums ns))) :=
  y_bstr ns hs ho hz hsz ht he ht'
theorem aw_drawU {ops : Array Oper} {id : Nat} (m e j : Nat) (o : Ob) (h : ADr P N ops Q st m (some (e, upd st.T j o)) [] 0) (hchk : drawChk N ops st.env m = true := by rfl) (he : Nat.blt e m = true := by rfl) (hm : P.follows .mixedOrders = true := by rfl) :
    AWp P N (.region id ops true) Q st := aw_draw m (some (e, upd st.T j o)) h hchk he hm
section steps
variable {ops : Array Oper} {i : Nat} {l : List Nat} {d : Nat} {x y : AV}
theorem cm1 {g : Nat} {caps : List AV} {z : Operand} {xs : Array Operand} {ts : Array TypeId} {ls l' : List AV} {m e s : Nat} {es : List (List AV)} (hok : Ok P g l' fun y T => y = x ∧ T = upd noT m (.live e s es))
    (k : AOps P N ops Q l (ASt.mk ((d, x) :: st.env) (upd st.T m (.live e s es)))) (hm : st.T m = .no := by rfl) (ho : (ops.getD i default).op = .call ⟨.value z, xs, ts⟩ := by rfl)
    (hz : ev st z = some (.clo g caps) := by rfl) (hl : evs st xs.toList = some ls := by rfl) (hl' : ls ++ caps = l' := by rfl) (hg' : goFn P g = true := by rfl) (hno : NoOwnL l' := by simp [NoOwnL]) (hi : Nat.blt i ops.size = true := by rfl)
    (hg : opAt N ops st i = true := by rfl) (hd : (ops.getD i default).dst = some d := by rfl) (hN : Nat.blt d N = true := by rfl) : AOps P N ops Q (i :: l) st :=
  cm hok (by rw [merge_upd, merge_noT]) (fun j hj => by
    simp only [upd, noT] at hj
    by_cases hjm : j = m
    · rw [hjm]; exact hm
    · rw [if_neg hjm] at hj; exact absurd rfl hj) k ho hz hl hl' hg' hno hi hg hd hN
theorem cm2 {g : Nat} {caps : List AV} {z : Operand} {xs : Array Operand} {ts : Array TypeId} {ls l' : List AV} {m e s m' e' s' : Nat} {es es' : List (List AV)} (hok : Ok P g l' fun y T => y = x ∧ T = upd (upd noT m (.live e s es)) m' (.live e' s' es'))
    (k : AOps P N ops Q l (ASt.mk ((d, x) :: st.env) (upd (upd st.T m (.live e s es)) m' (.live e' s' es')))) (hm : st.T m = .no := by rfl) (hm' : st.T m' = .no := by rfl) (ho : (ops.getD i default).op = .call ⟨.value z, xs, ts⟩ := by rfl)
    (hz : ev st z = some (.clo g caps) := by rfl) (hl : evs st xs.toList = some ls := by rfl) (hl' : ls ++ caps = l' := by rfl) (hg' : goFn P g = true := by rfl) (hno : NoOwnL l' := by simp [NoOwnL]) (hi : Nat.blt i ops.size = true := by rfl)
    (hg : opAt N ops st i = true := by rfl) (hd : (ops.getD i default).dst = some d := by rfl) (hN : Nat.blt d N = true := by rfl) : AOps P N ops Q (i :: l) st :=
  cm hok (by rw [merge_upd, merge_upd, merge_noT]) (fun j hj => by
    simp only [upd, noT] at hj
    by_cases hjm : j = m'
    · rw [hjm]; exact hm'
    · rw [if_neg hjm] at hj
      by_cases hjm : j = m
      · rw [hjm]; exact hm
      · rw [if_neg hjm] at hj; exact absurd rfl hj) k ho hz hl hl' hg' hno hi hg hd hN
theorem ap1 {t e s by_ j : Nat} {z1 z2 : Operand} {z c : List AV} {es : List (List AV)} (m : Nat)
    (k : AOps P N ops Q l (ASt.mk ((d, .own m) :: st.env) (upd (upd st.T j .dead) m (.live e s (es ++ [c])))))
    (ho : (ops.getD i default).op = .call ⟨.builtin .append, #[z1, z2], #[t, t]⟩ := by rfl) (h1 : ev st z1 = some (.own j) := by rfl) (hT : st.T j = .live e s es := by rfl) (h2 : ev st z2 = some x := by rfl) (hs : srcA st x = some [c] := by rfl) (hsz : sizA st s x = true := by rfl)
    (ht : elOf P t = some (e, s) := by rfl) (hz : zcells P e = some z := by rfl) (hby : byOf P e = some by_ := by rfl) (hb : Nat.ble by_ 127 = true := by rfl) (hok : c.all (cok1 st.T) = true := by rfl)
    (hi : Nat.blt i ops.size = true := by rfl) (hg : opAt N ops st i = true := by rfl) (hd : (ops.getD i default).dst = some d := by rfl) (hN : Nat.blt d N = true := by rfl) (hm : st.T m = .no := by rfl) (hl : es.length < 1099511627776) : AOps P N ops Q (i :: l) st := by
  have hb' : by_ ≤ 127 := by simpa using hb
  refine ap m hm ?_ ?_ ?_ k ho h1 hT h2 hs hsz ht hz hby hi hg hd hN
  · intro c' hc' y hy
    simp only [List.mem_singleton] at hc'
    subst hc'
    exact List.all_eq_true.1 hok y hy
  · have h3 : (es.length + [c].length) * by_ ≤ 1099511627776 * 127 := Nat.mul_le_mul (by simp only [List.length_singleton]; omega) hb'
    omega
  · simp only [List.length_singleton]; omega
end steps
end
end Go.Proofs.Ytbmldjcddpblnaa.AW
namespace Go.Proofs.Ytbmldjcddpblnaa.AW
open Go Go.RowKit
def tb : List (Nat × Ob) → Nat → Ob
  | [] => noT
  | (i, o) :: l => upd (tb l) i o
theorem tb_keys : ∀ {l : List (Nat × Ob)} {j : Nat}, tb l j ≠ .no → j ∈ l.map (·.1)
  | [], j, h => absurd rfl h
  | (i, o) :: l, j, h => by
    simp only [tb, upd] at h
    by_cases hj : j = i
    · simp [hj]
    · rw [if_neg hj] at h
      exact List.mem_cons_of_mem _ (tb_keys h)
inductive FzAt (r : Nat → Nat) (T T' : Nat → Ob) (j : Nat) : Prop
  | one (e s : Nat) (c c' : List AV) : T (r j) = .live e s [c] → T' j = .live e s [c'] → FzL r T T' c c' → FzAt r T T' j
  | same (e s : Nat) (es : List (List AV)) : T (r j) = .live e s es → T' j = .live e s es → (∀ c ∈ es, ∀ x ∈ c, NoOwn x) → FzAt r T T' j
  | rows (e s : Nat) (es es' : List (List AV)) : T (r j) = .live e s es → T' j = .live e s es' → es.length = es'.length → (∀ (q : Nat) (c c' : List AV), es[q]? = some c → es'[q]? = some c' → FzL r T T' c c') → FzAt r T T' j
  | dead : T' j = .dead → T (r j) ≠ .no → FzAt r T T' j
theorem fzT_of {r : Nat → Nat} {T T' : Nat → Ob} (keys : List Nat) (hk : ∀ j, T' j ≠ .no → j ∈ keys) (h : ∀ j ∈ keys, FzAt r T T' j) (hinj : ∀ i ∈ keys, ∀ j ∈ keys, r i = r j → i = j) : FzT r T T' := by
  refine ⟨fun j e s es' hj => ?_, fun j hj => ?_, fun i j hi hj hij => hinj i (hk i hi) j (hk j hj) hij⟩
  · cases h j (hk j (by rw [hj]; simp)) with
    | one e0 s0 c c' h1 h2 h3 =>
      rw [hj] at h2; cases h2
      refine ⟨[c], h1, rfl, fun q d d' hd hd' => ?_⟩
      cases q with
      | zero => simp at hd hd'; subst hd; subst hd'; exact h3
      | succ q => simp at hd
    | same e0 s0 es h1 h2 h3 =>
      rw [hj] at h2; cases h2
      refine ⟨_, h1, rfl, fun q d d' hd hd' => ?_⟩
      rw [hd] at hd'; cases hd'
      exact fzL_all (h3 d (List.mem_of_getElem? hd))
    | rows e0 s0 es es2 h1 h2 h3 h4 =>
      rw [hj] at h2; cases h2
      exact ⟨_, h1, h3, h4⟩
    | dead h1 => rw [hj] at h1; cases h1
  · cases h j (hk j hj) with
    | one e0 s0 c c' h1 => rw [h1]; simp
    | same e0 s0 es h1 => rw [h1]; simp
    | rows e0 s0 es es2 h1 => rw [h1]; simp
    | dead _ h1 => exact h1
def FzAll (r : Nat → Nat) (T T' : Nat → Ob) : List Nat → Prop
  | [] => True
  | j :: l => FzAt r T T' j ∧ FzAll r T T' l
theorem FzAll.mem {r : Nat → Nat} {T T' : Nat → Ob} : ∀ {l : List Nat}, FzAll r T T' l → ∀ j ∈ l, FzAt r T T' j
  | [], _, j, hj => by cases hj
  | i :: l, ⟨h1, h2⟩, j, hj => by
    rcases List.mem_cons.1 hj with rfl | hj
    · exact h1
    · exact FzAll.mem h2 j hj
theorem fzT_tb {r : Nat → Nat} {T : Nat → Ob} (l : List (Nat × Ob)) (h : FzAll r T (tb l) (l.map (·.1))) (hinj : ((l.map (·.1)).all fun i => (l.map (·.1)).all fun j => !(r i == r j) || i == j) = true := by rfl) : FzT r T (tb l) :=
  fzT_of (l.map (·.1)) (fun j hj => tb_keys hj) (fun j hj => h.mem j hj) fun i hi j hj hij => by
    have := List.all_eq_true.1 (List.all_eq_true.1 hinj i hi) j hj
    simpa [hij] using this
def nm : List (Nat × Nat) → Nat → Nat
  | [], j => j
  | (a, b) :: l, j => if j = a then b else nm l j
section
variable {P : Program} {N : Nat} {Q : Exit → ASt → Prop} {st : ASt}
theorem ent_tb (r : Nat → Nat) (l : List (Nat × Ob)) {e : List (Nat × AV)} (h : FzAll r st.T (tb l) (l.map (·.1))) (he : FzE r st.T (tb l) st.env e)
    (hinj : ((l.map (·.1)).all fun i => (l.map (·.1)).all fun j => !(r i == r j) || i == j) = true := by rfl) : Ent st ⟨e, tb l⟩ := ent_fz r (fzT_tb l h hinj) he
theorem y_bw {o : Oper} {f : BinOp} {t t' : TypeId} {p q : Operand} {u v : Value} {n : Int} (ho : o.op = .binOp f t p q t' := by rfl) (hp : ev st p = some (.v u) := by rfl) (hq : ev st q = some (.v v) := by rfl)
    (hrun : ∀ w, (do eqGuard f t p q u v; binOp f t u v : Sem Value).run P w = .ok (.int .i64 (IntKind.i64.wrap n)) w := by intro w; rfl) (h : -9223372036854775808 ≤ n ∧ n ≤ 9223372036854775807 := by omega) : AYield P N Q o st (.v (.int .i64 n)) :=
  y_bin64 h ho hp hq hrun
theorem y_bt {o : Oper} {f : BinOp} {t t' : TypeId} {p q : Operand} {u v : Value} {b : Bool} (ho : o.op = .binOp f t p q t' := by rfl) (hp : ev st p = some (.v u) := by rfl) (hq : ev st q = some (.v v) := by rfl)
    (hrun : ∀ w, (do eqGuard f t p q u v; binOp f t u v : Sem Value).run P w = .ok (.bool b) w := by intro w; rfl) (h : b = true := by first | (simp; done) | (simp; omega) | (simp; assumption) | fail) : AYield P N Q o st (.v (.bool true)) :=
  y_bin ho hp hq (h ▸ hrun)
theorem y_bf {o : Oper} {f : BinOp} {t t' : TypeId} {p q : Operand} {u v : Value} {b : Bool} (ho : o.op = .binOp f t p q t' := by rfl) (hp : ev st p = some (.v u) := by rfl) (hq : ev st q = some (.v v) := by rfl)
    (hrun : ∀ w, (do eqGuard f t p q u v; binOp f t u v : Sem Value).run P w = .ok (.bool b) w := by intro w; rfl) (h : b = false := by first | (simp; done) | (simp; omega) | (simp; assumption) | fail) : AYield P N Q o st (.v (.bool false)) :=
  y_bin ho hp hq (h ▸ hrun)
section steps
variable {ops : Array Oper} {i : Nat} {l : List Nat} {d : Nat}
theorem sa {t t' : TypeId} {p q : Operand} {u v : ByteArray} (k : AOps P N ops Q l (st.put d (.v (.string (u ++ v))))) (ho : (ops.getD i default).op = .binOp .add t p q t' := by rfl) (hp : ev st p = some (.v (.string u)) := by rfl)
    (hq : ev st q = some (.v (.string v)) := by rfl) (hi : Nat.blt i ops.size = true := by rfl) (hg : opAt N ops st i = true := by rfl) (hd : (ops.getD i default).dst = some d := by rfl) (hN : Nat.blt d N = true := by rfl)
    (h : u.size + v.size ≤ 9223372036854775807) : AOps P N ops Q (i :: l) st := st1 (y_adds h ho hp hq) k hi hg hd hN
theorem bt {f : BinOp} {t t' : TypeId} {p q : Operand} {u v : Value} {b : Bool} (k : AOps P N ops Q l (st.put d (.v (.bool true)))) (ho : (ops.getD i default).op = .binOp f t p q t' := by rfl) (hp : ev st p = some (.v u) := by rfl) (hq : ev st q = some (.v v) := by rfl)
    (hrun : ∀ w, (do eqGuard f t p q u v; binOp f t u v : Sem Value).run P w = .ok (.bool b) w := by intro w; rfl) (hi : Nat.blt i ops.size = true := by rfl)
    (hg : opAt N ops st i = true := by rfl) (hd : (ops.getD i default).dst = some d := by rfl) (hN : Nat.blt d N = true := by rfl) (h : b = true := by first | (simp; done) | (simp; omega) | (simp; assumption) | fail) : AOps P N ops Q (i :: l) st := st1 (y_bin ho hp hq (h ▸ hrun)) k hi hg hd hN
theorem bf {f : BinOp} {t t' : TypeId} {p q : Operand} {u v : Value} {b : Bool} (k : AOps P N ops Q l (st.put d (.v (.bool false)))) (ho : (ops.getD i default).op = .binOp f t p q t' := by rfl) (hp : ev st p = some (.v u) := by rfl) (hq : ev st q = some (.v v) := by rfl)
    (hrun : ∀ w, (do eqGuard f t p q u v; binOp f t u v : Sem Value).run P w = .ok (.bool b) w := by intro w; rfl) (hi : Nat.blt i ops.size = true := by rfl)
    (hg : opAt N ops st i = true := by rfl) (hd : (ops.getD i default).dst = some d := by rfl) (hN : Nat.blt d N = true := by rfl) (h : b = false := by first | (simp; done) | (simp; omega) | (simp; assumption) | fail) : AOps P N ops Q (i :: l) st := st1 (y_bin ho hp hq (h ▸ hrun)) k hi hg hd hN
end steps
end
end Go.Proofs.Ytbmldjcddpblnaa.AW
namespace Go.Proofs.Ytbmldjcddpblnaa.AW
open Go Go.RowKit
def arrOf (P : Program) (t : TypeId) : Option (Nat × TypeId × Nat × Bool) :=
  match P.underlying t with
  | some (.array n e) => (szOf P e).map fun p => (n, e, p.1, p.2)
  | _ => none
theorem arrOf_el {P : Program} {t n e s : Nat} {b : Bool} (h : arrOf P t = some (n, e, s, b)) : P.underlying t = some (.array n e) ∧ szOf P e = some (s, b) := by
  unfold arrOf at h
  split at h
  · rename_i m e' hu
    cases hs : szOf P e' with
    | none => simp [hs] at h
    | some p =>
      obtain ⟨m', b'⟩ := p
      simp only [hs, Option.map_some, Option.some.injEq, Prod.mk.injEq] at h
      obtain ⟨rfl, rfl, rfl, rfl⟩ := h
      exact ⟨hu, hs⟩
  · cases h
def builtB (P : Program) (t : TypeId) (parts : List (Nat × AV)) : Option (List AV) :=
  match P.info? t, P.underlying t with
  | some it, some (.array _ e) => match it.zero, P.info? e with
    | some z, some ie => fillA (fun i => some (i * ie.size, ie.size)) (z.cells.toList.map .v) parts
    | _, _ => none
  | _, _ => none
section
variable {P : Program} {N : Nat} {Q : Exit → ASt → Prop} {st : ASt} {I0 : Nat → Prop} {w0 : World} {β : Nat → Value} {a : Act} {w : World}
section ops
variable {o : Oper} {K : ASt → Prop} {d : Nat} {x y : AV}
theorem y_idxA {z ix : Operand} {t n e s : Nat} {l : List AV} {kk : IntKind} {i : Int} (q : Nat) (hq : q < n) (hqs : q * s + s ≤ l.length) (ho : o.op = .index t z ix := by rfl) (hz : ev st z = some (.agg l) := by rfl) (hix : ev st ix = some (.v (.int kk i)) := by rfl)
    (ht : arrOf P t = some (n, e, s, true) := by rfl) (hi : i = (q : Int) := by rfl) : AYield P N Q o st (.agg ((l.drop (q * s)).take s)) :=
  AYield.still fun I0 w0 β a w hr => by
    obtain ⟨hu, hs⟩ := arrOf_el ht
    have h := hr.ev hz
    have hi' : a.eval ix = .int kk i := (hr.ev hix).v_inv
    generalize hy : a.eval z = y at h
    cases h with
    | agg l cs hl hc =>
      refine ⟨.agg (cs.extract (q * s) (q * s + s)), ?_, .agg _ _ (by simp; omega) fun j p v hp hv => ?_⟩
      · have h0 : (0 : Int) ≤ q ∧ (q : Int) < n := by omega
        simp [execOp, ho, hy, hi', hi, Instr.index, asIntOf, run_underlying hu, h0, hq, part, (szOf_run hs w).1, (szOf_run hs w).2]
      · have hj : j < s := by
          have := (List.getElem?_eq_some_iff.1 hp).1
          simp at this; omega
        rw [List.getElem?_take_of_lt hj, List.getElem?_drop] at hp
        refine hc _ _ _ hp ?_
        simp [Array.getElem?_extract] at hv
        exact hv.2
theorem btA_rng (b : ByteArray) (a : Int) : 0 ≤ btA b a ∧ btA b a < 256 := by
  unfold btA
  have := ((b.data[a.toNat]?).getD 0).toNat_lt
  omega
theorem y_cvB {z : Operand} {t t' : Nat} {k : IntKind} {n : Int} {dd : TypeDesc} (h : -9223372036854775808 ≤ n ∧ n ≤ 9223372036854775807) (ho : o.op = .convert t t' z := by rfl) (hz : ev st z = some (.v (.int k n)) := by rfl) (ht : P.underlying t = some dd := by rfl) (ht' : P.underlying t' = some (.int .i64) := by rfl) :
    AYield P N Q o st (.v (.int .i64 n)) := by
  have := y_conv (Q := Q) (N := N) (o := o) (st := st) ho ht ht' hz
  rwa [wrap_id h] at this
theorem y_buildB {t : Nat} {parts : Array (Nat × Operand)} {ps : List (Nat × AV)} {l : List AV} (ho : o.op = .build t parts := by rfl) (hps : evps st parts.toList = some ps := by rfl) (hb : builtB P t ps = some l := by rfl)
    (hok : (ps.all fun p => (cellsA p.2).all (cok1 st.T)) = true := by rfl) : AYield P N Q o st (.agg l) :=
  AYield.still fun I0 w0 β a w hr => by
    obtain ⟨e1, e2⟩ := evps_get hps
    unfold builtB at hb
    cases hi : P.info? t with
    | none => simp [hi] at hb
    | some it =>
      cases hu : P.underlying t with
      | none => simp [hi, hu] at hb
      | some dd =>
        cases dd with
        | array n e =>
          simp only [hi, hu] at hb
          cases hz : it.zero with
          | none => simp [hz] at hb
          | some z =>
            cases hie : P.info? e with
            | none => simp [hz, hie] at hb
            | some ie =>
              simp only [hz, hie] at hb
              obtain ⟨c', hc', hcc⟩ := fill_rep hr.objs (fun i => some (i * ie.size, ie.size)) ps (parts.toList.map fun p => (p.1, a.eval p.2)) _ z.cells l (Cells.zero _ _ _ _ _) (by simpa using e1.symm) (fun j p v hp hv => by
                simp only [List.getElem?_map] at hv
                cases hzj : parts.toList[j]? with
                | none => rw [hzj] at hv; cases hv
                | some q =>
                  rw [hzj] at hv
                  simp only [Option.map_some, Option.some.injEq] at hv
                  subst hv
                  obtain ⟨h1, h2⟩ := e2 j p q hp hzj
                  exact ⟨h1, List.all_eq_true.1 hok p (List.mem_of_getElem? hp), hr.ev h2⟩) hb
              have hbuilt : P.built t (parts.toList.map fun p => (p.1, a.eval p.2)) = some c' := by
                unfold Program.built
                rw [hi, hu]
                simp only [hz, hie]
                exact hc'
              refine ⟨.agg c', ?_, .agg l c' hcc.1 fun j p u hp hu => ?_⟩
              · have := run_build (P := P) w t (parts.map fun p => (p.1, a.eval p.2)) c' (by simpa using hbuilt)
                simp [execOp, ho, this]
              · obtain ⟨u', hu', hru⟩ := hcc.2 j p hp
                rw [hu] at hu'; cases hu'; exact hru
        | _ => simp [hi, hu] at hb
end ops
section steps
variable {ops : Array Oper} {i : Nat} {l : List Nat} {d : Nat} {x y : AV}
theorem bd2 {t : Nat} {parts : Array (Nat × Operand)} {ps : List (Nat × AV)} {ls : List AV} (k : AOps P N ops Q l (st.put d (.agg ls))) (ho : (ops.getD i default).op = .build t parts := by rfl) (hps : evps st parts.toList = some ps := by rfl) (hb : builtB P t ps = some ls := by rfl)
    (hok : (ps.all fun p => (cellsA p.2).all (cok1 st.T)) = true := by rfl)
    (hi : Nat.blt i ops.size = true := by rfl) (hg : opAt N ops st i = true := by rfl) (hd : (ops.getD i default).dst = some d := by rfl) (hN : Nat.blt d N = true := by rfl) : AOps P N ops Q (i :: l) st := st1 (y_buildB ho hps hb hok) k hi hg hd hN
end steps
end
end Go.Proofs.Ytbmldjcddpblnaa.AW
namespace Go.Proofs.Ytbmldjcddpblnaa.AW
open Go Go.RowKit
section
variable {P : Program} {N : Nat} {Q : Exit → ASt → Prop} {st : ASt} {I0 : Nat → Prop} {w0 : World} {β : Nat → Value} {a : Act} {w : World}
section ops
variable {o : Oper} {K : ASt → Prop} {d : Nat} {x y : AV}
theorem y_nilc {z : Operand} {cs : List AV} (ho : o.op = .nilCheck z := by rfl) (hz : ev st z = some (.ip cs) := by rfl) : AYield P N Q o st (.ip cs) :=
  AYield.still fun I0 w0 β a w hr => by
    have h := hr.ev hz
    generalize hy : a.eval z = yv at h
    cases h with
    | ip _ b off vs h1 h2 h3 =>
      refine ⟨_, ?_, .ip cs b off vs h1 h2 h3⟩
      simp [execOp, ho, hy]
theorem y_pnil {z : Operand} {t t' e : TypeId} {cs : List AV} (ho : o.op = .binOp .eql t z (.const (.pointer none)) t' := by rfl) (hz : ev st z = some (.ip cs) := by rfl) (ht : P.underlying t = some (.pointer e) := by rfl) : AYield P N Q o st (.v (.bool false)) :=
  AYield.still fun I0 w0 β a w hr => by
    have h := hr.ev hz
    generalize hy : a.eval z = yv at h
    cases h with
    | ip _ b off vs h1 h2 h3 =>
      refine ⟨.bool false, ?_, .v _⟩
      have he : P.pointee t = e := by simp [Program.pointee, ht]
      have hc : a.eval (.const (.pointer none)) = .pointer none := rfl
      have hq := run_equal_pointer_nil (P := P) w t (some ⟨b, off, none⟩) (by rw [he]; exact ht)
      simp [execOp, ho, hy, hc, eqGuard_at_pointer, binOp, hq]
end ops
theorem y_allocU {o : Oper} {t : Nat} {z : Value} {info : TypeInfo} {T1 : Nat → Ob} (j : Nat) (ho : o.op = .alloc t := by rfl) (hinfo : P.info? t = some info := by rfl) (hz : info.zero = some z := by rfl) (hj : st.T j = .no := by rfl)
    (hT1 : upd st.T j (.live t z.cells.size [z.cells.toList.map .v]) = T1 := by rfl) : AEff P N Q o st (.ptr j 0 0) T1 := by
  subst hT1
  intro I0 w0 β a w hr K' hK
  obtain ⟨h1, h2⟩ := hr.row (i := j) (e := t) (s := z.cells.size) (es := [z.cells.toList.map .v]) hj (n := 1) rfl (by decide) (cells := z.cells) (by simp) (by simp) (fun k x hx => by
    simp at hx
    obtain ⟨u, hu, rfl⟩ := hx
    exact ⟨u, hu, .v u⟩)
  have hrun : (execOp a.eval o).run P w = .ok (.value (.pointer (some ⟨w.heap.size, 0, none⟩))) (w.alloc (.cells z.cells t)) := by
    simp [execOp, ho, Instr.alloc, zeroValue, typeInfo, hinfo, hz, newVar, newRow]
  refine .inl ?_
  simp only [Oper.wp, hrun, Oper.upon]
  refine hK _ _ _ h1.below h2 h1.objs ?_
  refine .ptr j 0 0 _ (by simp [upd]) fun e s es he => ?_
  simp only [upd, if_true] at he
  cases he
  refine ⟨by simp, Nat.zero_le _, w.heap.size, 1, 1, by simp [updV], by simp⟩
theorem or_one (a : Int) (h0 : -4611686018427387904 ≤ a) (h1 : a ≤ 4611686018427387903) : IntKind.i64.wrap ((BitVec.ofInt 64 (a * 2) ||| BitVec.ofInt 64 1).toNat : Int) = a * 2 + 1 := by
  have e : (BitVec.ofInt 64 (a * 2) ||| BitVec.ofInt 64 1).toNat = ((a * 2) % 18446744073709551616).toNat + 1 := by
    rw [BitVec.toNat_or, BitVec.toNat_ofInt, show (BitVec.ofInt 64 1).toNat = 1 from rfl]
    obtain ⟨k, hk⟩ : ∃ k : Nat, ((a * 2) % ((2 ^ 64 : Nat) : Int)).toNat = k <<< 1 := ⟨((a * 2) % 18446744073709551616).toNat / 2, by rw [Nat.shiftLeft_eq]; omega⟩
    have h2 := Nat.shiftLeft_add_eq_or_of_lt (a := k) (b := 1) (i := 1) (by decide)
    have h3 : ((a * 2) % 18446744073709551616).toNat = k <<< 1 := hk
    rw [hk, h3, h2]
  rw [e]
  simp only [IntKind.wrap, IntKind.bits, IntKind.signed, Bool.true_and]
  split <;> simp at * <;> omega
section steps
theorem o1 {ops : Array Oper} {i : Nat} {l : List Nat} {d : Nat} {t t' : TypeId} {p q : Operand} {v : Int} (k : AOps P N ops Q l (st.put d (.v (.int .i64 (v * 2 + 1))))) (ho : (ops.getD i default).op = .binOp .or t p q t' := by rfl) (hp : ev st p = some (.v (.int .i64 (v * 2))) := by rfl) (hq : ev st q = some (.v (.int .i64 1)) := by rfl)
    (hi : Nat.blt i ops.size = true := by rfl) (hg : opAt N ops st i = true := by rfl) (hd : (ops.getD i default).dst = some d := by rfl) (hN : Nat.blt d N = true := by rfl) (h : -4611686018427387904 ≤ v ∧ v ≤ 4611686018427387903 := by omega) : AOps P N ops Q (i :: l) st :=
  st1 (y_bin (r := .int .i64 (v * 2 + 1)) ho hp hq fun w => by
    have h2 : (do eqGuard .or t p q (.int .i64 (v * 2)) (.int .i64 1); binOp .or t (.int .i64 (v * 2)) (.int .i64 1) : Sem Value).run P w = .ok (.int .i64 (IntKind.i64.wrap ((BitVec.ofInt 64 (v * 2) ||| BitVec.ofInt 64 1).toNat : Int))) w := rfl
    rw [h2, or_one v h.1 h.2]) k hi hg hd hN
variable {ops : Array Oper} {i : Nat} {l : List Nat} {d : Nat} {x y : AV}
theorem nk {z : Operand} {cs : List AV} (k : AOps P N ops Q l (st.put d (.ip cs))) (ho : (ops.getD i default).op = .nilCheck z := by rfl) (hz : ev st z = some (.ip cs) := by rfl) (hi : Nat.blt i ops.size = true := by rfl)
    (hg : opAt N ops st i = true := by rfl) (hd : (ops.getD i default).dst = some d := by rfl) (hN : Nat.blt d N = true := by rfl) : AOps P N ops Q (i :: l) st := st1 (y_nilc ho hz) k hi hg hd hN
theorem pn {z : Operand} {t t' e : TypeId} {cs : List AV} (k : AOps P N ops Q l (st.put d (.v (.bool false)))) (ho : (ops.getD i default).op = .binOp .eql t z (.const (.pointer none)) t' := by rfl) (hz : ev st z = some (.ip cs) := by rfl) (ht : P.underlying t = some (.pointer e) := by rfl) (hi : Nat.blt i ops.size = true := by rfl)
    (hg : opAt N ops st i = true := by rfl) (hd : (ops.getD i default).dst = some d := by rfl) (hN : Nat.blt d N = true := by rfl) : AOps P N ops Q (i :: l) st := st1 (y_pnil ho hz ht) k hi hg hd hN
end steps
end
end Go.Proofs.Ytbmldjcddpblnaa.AW
namespace Go.Proofs.Ytbmldjcddpblnaa.AW
open Go Go.RowKit
section
variable {P : Program} {N : Nat} {Q : Exit → ASt → Prop} {st : ASt} {I0 : Nat → Prop} {w0 : World} {β : Nat → Value} {a : Act} {w : World} {ops : Array Oper}
abbrev Effs := List (Nat × (Nat → Ob))
def ei (es : Effs) (c : Nat) : Nat := (es.getD c (0, noT)).1
def stT (T : Nat → Ob) (es : Effs) : Nat → Nat → Ob
  | 0 => T
  | c + 1 => (es.getD c (0, noT)).2
def outSt (ops : Array Oper) (es : Effs) (c i : Nat) : Bool :=
  ((List.range c).any fun c' => waits ops i (ei es c') (ei es c')) || ((List.range es.length).any fun c' => Nat.ble c c' && waits ops (ei es c') i i)
def OneM (P : Program) (N : Nat) (ops : Array Oper) (Q : Exit → ASt → Prop) (st : ASt) (es : Effs) (R : List AV) (i : Nat) : Prop :=
  (∃ c, c < es.length ∧ ei es c = i ∧ opAt N ops ⟨lookE ops (R.take i) (ops.getD i default) ++ st.env, stT st.T es c⟩ i = true ∧
      AEff P N Q (ops.getD i default) ⟨lookE ops (R.take i) (ops.getD i default) ++ st.env, stT st.T es c⟩ (R.getD i undefV) (stT st.T es (c + 1))) ∨
  ((∀ c, c < es.length → ei es c ≠ i) ∧ ∀ c, c ≤ es.length → outSt ops es c i = true ∨ One P N ops Q st (stT st.T es c) R i)
def ADrawM (P : Program) (N : Nat) (ops : Array Oper) (Q : Exit → ASt → Prop) (st : ASt) (m : Nat) (es : Effs) (R : List AV) : Prop :=
  ∃ R', (R ++ R').length = m ∧ (∀ i, R.length ≤ i → i < m → OneM P N ops Q st es (R ++ R') i) ∧
    ∃ s, Ent ⟨envAll ops (R ++ R') ++ st.env, stT st.T es es.length⟩ s ∧ AOps P N ops Q (List.range' m (ops.size - m)) s
theorem adrawM_one {m : Nat} {es : Effs} {R : List AV} {x : AV} (h : OneM P N ops Q st es (R ++ [x]) R.length) (k : ADrawM P N ops Q st m es (R ++ [x])) : ADrawM P N ops Q st m es R := by
  obtain ⟨R', h1, h2, h3⟩ := k
  refine ⟨x :: R', by simpa using h1, fun i hi1 hi2 => ?_, by simpa using h3⟩
  by_cases hi : i = R.length
  · subst hi
    have e1 : (R ++ x :: R').take R.length = (R ++ [x]).take R.length := by simp
    have e2 : (R ++ x :: R').getD R.length undefV = (R ++ [x]).getD R.length undefV := by simp [List.getD]
    unfold OneM One at h ⊢
    rw [e1, e2]; exact h
  · have := h2 i (by simp; omega) hi2
    simpa using this
theorem adrawM_sound {m : Nat} {es : Effs} {R : List AV} (hchk : drawChk N ops st.env m = true) (hinc : ∀ c, c + 1 < es.length → ei es c < ei es (c + 1) ∧ waits ops (ei es c) (ei es (c + 1)) (ei es (c + 1)) = true) (hem : ∀ c, c < es.length → ei es c < m) (hR : R.length = m) (hone : ∀ i, i < m → OneM P N ops Q st es R i)
    {s : ASt} (hs : Ent ⟨envAll ops R ++ st.env, stT st.T es es.length⟩ s) (hQ : AOps P N ops Q (List.range' m (ops.size - m)) s) :
    ∀ (fuel : Nat) (L : Array Bool) (β : Nat → Value) (a : Act) (w : World) (T : Nat → Ob), L.size = ops.size → ((List.range ops.size).filter fun j => !L.getD j true).length ≤ fuel →
      (∀ i, m ≤ i → i < ops.size → L.getD i true = false) → (∃ c, c ≤ es.length ∧ T = stT st.T es c ∧ ∀ c', c' < es.length → (L.getD (ei es c') true = true ↔ c' < c)) →
      Rel N I0 w0 ⟨st.env, T⟩ β a w →
      (∀ e, e < m → L.getD e true = true → ∀ ed ∈ (ops.getD e default).after.toList, Region.binds .any ed = true → L.getD ed.on true = true) →
      (∀ i d, i < m → L.getD i true = true → (ops.getD i default).dst = some d → Rep (Im I0 w0.heap.size T β w) T β w (R.getD i undefV) (a.tmps.getD d undef)) →
      wpAny P .any ops (lift N I0 w0 Q) fuel L a w := by
  simp only [drawChk, Bool.and_eq_true] at hchk
  obtain ⟨⟨hm, hc1⟩, hc2⟩ := hchk
  have hm : m ≤ ops.size := by simpa using hm
  have hc : ∀ i, i < m → (∀ d, (ops.getD i default).dst = some d → d < N ∧ get st.env d = none ∧ ∀ j, j < m → j ≠ i → (ops.getD j default).dst ≠ some d) ∧
      (∀ ed ∈ (ops.getD i default).after.toList, Region.binds .any ed = true → ed.on < i) ∧
      (∀ t ∈ looks ops (ops.getD i default), ∀ j, j < m → (ops.getD j default).dst = some t → ∃ ed ∈ (ops.getD i default).after.toList, ed.on = j ∧ Region.binds .any ed = true) := by
    intro i hi
    have h1 := List.all_eq_true.1 hc1 i (by simpa using hi)
    simp only [Bool.and_eq_true] at h1
    obtain ⟨⟨h1, h2⟩, h3⟩ := h1
    refine ⟨fun d hd => ?_, fun ed hed hb => ?_, fun t ht j hj hjt => ?_⟩
    · rw [hd] at h1
      simp only [Bool.and_eq_true] at h1
      obtain ⟨⟨h5, h6⟩, h7⟩ := h1
      refine ⟨blt_lt h5, by simpa using h6, fun j hj hji hjd => ?_⟩
      have h8 : (j == i || !((ops.getD j default).dst == some d)) = true := List.all_eq_true.1 h7 j (by simpa using hj)
      rw [hjd] at h8
      simp [hji] at h8
    · have := List.all_eq_true.1 h2 ed hed
      simp only [hb, Bool.not_true, Bool.false_or] at this
      exact blt_lt this
    · have := List.all_eq_true.1 (List.all_eq_true.1 h3 t ht) j (by simpa using hj)
      simp only [hjt, BEq.rfl, Bool.not_true, Bool.false_or] at this
      obtain ⟨ed, h8, h9⟩ := List.any_eq_true.1 this
      simp only [Bool.and_eq_true, beq_iff_eq] at h9
      exact ⟨ed, h8, h9.1, h9.2⟩
  have ht : ∀ i, m ≤ i → i < ops.size → (∀ j, j < i → m < i → j + 1 = i → ∃ ed ∈ (ops.getD i default).after.toList, ed.on = j ∧ Region.binds .any ed = true) ∧
      (i = m → ∀ j, j < m → waits ops j m m = true) ∧
      ∀ ed ∈ (ops.getD i default).after.toList, Region.binds .any ed = true → ed.on < i := by
    intro i hi hi2
    have h1 := List.all_eq_true.1 hc2 i (by simpa using hi2)
    have hn : Nat.blt i m = false := by
      cases hb : Nat.blt i m
      · rfl
      · have := blt_lt hb; omega
    rw [hn, Bool.false_or, Bool.and_eq_true] at h1
    refine ⟨fun j hj hmi hjm => ?_, fun him j hj => ?_, fun ed hed hb => ?_⟩
    · have := List.all_eq_true.1 h1.1 j (by simpa using hj)
      have hb : (Nat.blt m i && !(j + 1 == i)) = false := by
        subst hjm; simp
      have hne : (i == m) = false := by simp; omega
      rw [hb, Bool.false_or, hne, cond_false] at this
      obtain ⟨ed, h8, h9⟩ := List.any_eq_true.1 this
      simp only [Bool.and_eq_true, beq_iff_eq] at h9
      exact ⟨ed, h8, h9.1, h9.2⟩
    · subst him
      have := List.all_eq_true.1 h1.1 j (by simpa using hj)
      rw [hn, Bool.false_and, Bool.false_or, BEq.rfl, cond_true] at this
      exact this
    · have := List.all_eq_true.1 h1.2 ed hed
      simp only [hb, Bool.not_true, Bool.false_or] at this
      exact blt_lt this
  intro fuel
  induction fuel with
  | zero =>
    intro L β a w T hL hu htl ⟨c, hcl, hcT, hcs⟩ hr hah hl
    have h0 : ((List.range ops.size).filter fun j => !L.getD j true) = [] := List.eq_nil_of_length_eq_zero (by omega)
    have hall : ∀ i, i < ops.size → L.getD i true = true := by
      intro i hi
      have := List.filter_eq_nil_iff.1 h0 i (by simpa using hi)
      simpa using this
    have hmn : m = ops.size := by
      rcases Nat.lt_or_ge m ops.size with h | h
      · have := htl m (Nat.le_refl _) h; rw [hall m h] at this; cases this
      · omega
    have hTe : T = stT st.T es es.length := by
      have hce : c = es.length := by
        rcases Nat.lt_or_ge c es.length with h | h
        · have := (hcs c h).1 (hall _ (by have := hem c h; omega)); omega
        · omega
      rw [hcT, hce]
    subst hTe
    obtain ⟨γ, hγ⟩ := hs N I0 w0 β a w (hr.more (st := ⟨st.env, stT st.T es es.length⟩) (e := envAll ops R) fun t x hx => by
      simp only [envAll, List.mem_filterMap, List.mem_range] at hx
      obtain ⟨j, hj, hjd⟩ := hx
      cases hd : (ops.getD j default).dst with
      | none => rw [hd] at hjd; cases hjd
      | some d =>
        rw [hd] at hjd
        simp only [Option.map_some, Option.some.injEq, Prod.mk.injEq] at hjd
        obtain ⟨rfl, rfl⟩ := hjd
        exact hl j d (by omega) (hall j (by omega)) hd)
    refine tail_sound (m := m) (fun i h1 h2 j h3 h4 => (ht i (Nat.le_of_lt h1) h2).1 j h3 h1 h4) (fun i h1 h2 => (ht i h1 h2).2.2) 0 m 0 L a w (by omega) (Nat.le_refl _) (Nat.le_refl _) hL (fun j hj => ⟨fun _ => by omega, fun _ => hall j hj⟩) ?_
    have := hQ I0 w0 γ a w hγ
    rwa [hmn, Nat.sub_self] at this
  | succ fuel ih =>
    intro L β a w T hL hu htl ⟨c, hcl, hcT, hcs⟩ hr hah hl
    by_cases hdone : ∀ i, i < m → L.getD i true = true
    · have hTe : T = stT st.T es es.length := by
        have hce : c = es.length := by
          rcases Nat.lt_or_ge c es.length with h | h
          · have := (hcs c h).1 (hdone _ (hem c h)); omega
          · omega
        rw [hcT, hce]
      subst hTe
      obtain ⟨γ, hγ⟩ := hs N I0 w0 β a w (hr.more (st := ⟨st.env, stT st.T es es.length⟩) (e := envAll ops R) fun t x hx => by
        simp only [envAll, List.mem_filterMap, List.mem_range] at hx
        obtain ⟨j, hj, hjd⟩ := hx
        cases hd : (ops.getD j default).dst with
        | none => rw [hd] at hjd; cases hjd
        | some d =>
          rw [hd] at hjd
          simp only [Option.map_some, Option.some.injEq, Prod.mk.injEq] at hjd
          obtain ⟨rfl, rfl⟩ := hjd
          exact hl j d (by omega) (hdone j (by omega)) hd)
      have hlen : ops.size - m ≤ fuel + 1 := by
        refine Nat.le_trans ?_ hu
        have e1 : ((List.range ops.size).filter fun j => !L.getD j true) = (List.range ops.size).filter fun j => decide (m ≤ j) := by
          apply List.filter_congr
          intro j hj
          have hj : j < ops.size := by simpa using hj
          by_cases hjm : m ≤ j
          · rw [htl j hjm hj]; simp [hjm]
          · rw [hdone j (by omega)]; simp [hjm]
        rw [e1]
        have e2 : (List.range ops.size).filter (fun j => decide (m ≤ j)) = List.range' m (ops.size - m) := by
          have hsplit : List.range ops.size = List.range m ++ List.range' m (ops.size - m) := by
            rw [List.range_eq_range', List.range_eq_range', show ops.size = m + (ops.size - m) by omega, ← List.range'_append_1]; simp
          rw [hsplit, List.filter_append]
          rw [List.filter_eq_nil_iff.2 (by intro j hj; simp at hj ⊢; exact hj), List.filter_eq_self.2 (by intro j hj; simp [List.mem_range'_1] at hj ⊢; omega)]
          simp
        rw [e2]; simp
      exact tail_sound (m := m) (fun i h1 h2 j h3 h4 => (ht i (Nat.le_of_lt h1) h2).1 j h3 h1 h4) (fun i h1 h2 => (ht i h1 h2).2.2) (ops.size - m) m (fuel + 1) L a w (by omega) (Nat.le_refl _) hlen hL
        (fun j hj => ⟨fun h => by
          rcases Nat.lt_or_ge j m with h1 | h1
          · exact h1
          · rw [htl j h1 hj] at h; exact absurd h (by decide), fun h => hdone j h⟩) (hQ I0 w0 γ a w hγ)
    · obtain ⟨i0, hi0, hi0'⟩ : ∃ i, i < m ∧ L.getD i true = false := by
        refine Classical.byContradiction fun hno => hdone fun i hi => ?_
        cases hb : L.getD i true
        · exact absurd ⟨i, hi, hb⟩ hno
        · rfl
      have hex : ∃ i, i ∈ Region.ready .any ops L := by
        obtain ⟨k, ⟨hk1, hk2⟩, hk3⟩ := least_exists (p := fun i => i < m ∧ L.getD i true = false) ⟨i0, hi0, hi0'⟩
        refine ⟨k, mem_ready.2 ⟨by omega, hk2, fun ed hed hb => ?_⟩⟩
        obtain ⟨_, h5, _⟩ := hc k hk1
        have hlt := h5 ed hed hb
        refine listed_all hL (by omega) ?_
        cases hbb : L.getD ed.on true
        · have := hk3 ed.on ⟨by omega, hbb⟩; omega
        · rfl
      refine ⟨fun hrdy => (by obtain ⟨i, hi⟩ := hex; rw [hrdy] at hi; cases hi), fun i hi => ?_⟩
      obtain ⟨hi1, hi2, hi3⟩ := mem_ready.1 hi
      have him : i < m := by
        rcases Nat.lt_or_ge i m with h | h
        · exact h
        · have hli : ∀ ed ∈ (ops.getD i default).after.toList, Region.binds .any ed = true → L.getD ed.on true = true := fun ed hed hb => by
            have := hi3 ed hed hb
            have hs : ed.on < L.size := by have := (ht i h hi1).2.2 ed hed hb; omega
            simpa [Array.getD, hs] using this
          by_cases him : i = m
          · subst him
            have h' := waits_listed (fun q hq => (hc q hq).2.1) hah i i (fun ed hed hb => ⟨hli ed hed hb, (ht i h hi1).2.2 ed hed hb⟩) ((ht i h hi1).2.1 rfl i0 hi0)
            rw [hi0'] at h'; cases h'
          · obtain ⟨ed, hed, hon, hb⟩ := (ht i h hi1).1 (i - 1) (by omega) (by omega) (by omega)
            have h' := hli ed hed hb
            rw [hon, htl (i - 1) (by omega) (by omega)] at h'; cases h'
      obtain ⟨hcd, h5, h6⟩ := hc i him
      have hmon : ∀ j, L.getD j true = true → (L.setIfInBounds i true).getD j true = true := fun j hj => by
        by_cases hji : j = i
        · subst hji; simp [Array.getD, hL, hi1]
        · rw [show (L.setIfInBounds i true).getD j true = L.getD j true by simp [Array.getD_eq_getD_getElem?, Array.getElem?_setIfInBounds_ne (Ne.symm hji)]]; exact hj
      have hah' : ∀ e, e < m → (L.setIfInBounds i true).getD e true = true → ∀ ed ∈ (ops.getD e default).after.toList, Region.binds .any ed = true → (L.setIfInBounds i true).getD ed.on true = true := by
        intro e hem hle ed hed hb
        by_cases hei : e = i
        · subst hei
          refine hmon _ ?_
          have := hi3 ed hed hb
          have hs : ed.on < L.size := by have := h5 ed hed hb; omega
          simpa [Array.getD, hs] using this
        · refine hmon _ (hah e hem ?_ ed hed hb)
          rwa [show (L.setIfInBounds i true).getD e true = L.getD e true by simp [Array.getD_eq_getD_getElem?, Array.getElem?_setIfInBounds_ne (Ne.symm hei)]] at hle
      have hs' : Rel N I0 w0 ⟨lookE ops (R.take i) (ops.getD i default) ++ st.env, T⟩ β a w := by
        refine hr.more (st := ⟨st.env, T⟩) fun t x hx => ?_
        simp only [lookE, List.mem_filterMap, List.mem_range] at hx
        obtain ⟨j, hj, hjx⟩ := hx
        have hjm : j < m := by simp at hj; omega
        cases ht' : (ops.getD j default).dst with
        | none => rw [ht'] at hjx; cases hjx
        | some t' =>
          rw [ht'] at hjx
          by_cases hct : (looks ops (ops.getD i default)).contains t' = true
          · simp only [hct, if_true] at hjx
            simp only [Option.some.injEq, Prod.mk.injEq] at hjx
            obtain ⟨rfl, rfl⟩ := hjx
            have hmem : t' ∈ looks ops (ops.getD i default) := by simpa using hct
            obtain ⟨ed, hed, hon, hb⟩ := h6 t' hmem j hjm ht'
            have hli := hi3 ed hed hb
            rw [hon] at hli
            have hli' : L.getD j true = true := by
              have hs : j < L.size := by omega
              simpa [Array.getD, hs] using hli
            have := hl j t' hjm hli' ht'
            have e : (R.take i).getD j undefV = R.getD j undefV := by
              have hji : j < i := by simp at hj; omega
              simp [List.getD, List.getElem?_take_of_lt hji]
            rw [e]; exact this
          · simp only [hct] at hjx
            cases hjx
      have hcount : ((List.range ops.size).filter fun j => !(L.setIfInBounds i true).getD j true).length ≤ fuel := by
        have := unl_lt ops.size L hL hi1 hi2; omega
      have hset : ∀ j, j ≠ i → (L.setIfInBounds i true).getD j true = L.getD j true := fun j hji => by simp [Array.getD_eq_getD_getElem?, Array.getElem?_setIfInBounds_ne (Ne.symm hji)]
      have hseti : (L.setIfInBounds i true).getD i true = true := by simp [Array.getD, hL, hi1]
      have htl' : ∀ j, m ≤ j → j < ops.size → (L.setIfInBounds i true).getD j true = false := fun j h1 h2 => by rw [hset j (by omega)]; exact htl j h1 h2
      unfold wpOp
      rw [getD_some hi1]
      have htmp : ∀ (T' : Nat → Ob) (β2 : Nat → Value) (y : Value) (w' : World), (∀ p v, Rep (Im I0 w0.heap.size T β w) T β w p v → Rep (Im I0 w0.heap.size T' β2 w') T' β2 w' p v) → Rep (Im I0 w0.heap.size T' β2 w') T' β2 w' (R.getD i undefV) y →
          ∀ j dj, j < m → (L.setIfInBounds i true).getD j true = true → (ops.getD j default).dst = some dj → Rep (Im I0 w0.heap.size T' β2 w') T' β2 w' (R.getD j undefV) ((a.put (ops.getD i default).dst y).tmps.getD dj undef) := by
        intro T' β2 y w' htr hx j dj hj hlj hdj
        by_cases hji : j = i
        · subst hji
          rw [hdj]
          have : dj < a.tmps.size := by rw [hr.size]; exact (hcd dj hdj).1
          simpa [Act.put, Array.getD, this] using hx
        · have e1 : (a.put (ops.getD i default).dst y).tmps.getD dj undef = a.tmps.getD dj undef := put_ne fun d hd e => (hcd d hd).2.2 j hj hji (by rw [hdj, e])
          rw [e1]
          rw [hset j hji] at hlj
          exact htr _ _ (hl j dj hj hlj hdj)
      have rest : (∀ c', c' < es.length → ei es c' ≠ i) → One P N ops Q st T R i →
          if Region.wanted (ops.getD i default) (yielded ops a.tmps) = true then (ops.getD i default).wp P a w (fun a' w' => wpAny P .any ops (lift N I0 w0 Q) fuel (L.setIfInBounds i true) a' w') (lift N I0 w0 Q) ∨ ((ops.getD i default).asks P a w ∧ LetsOut (lift N I0 w0 Q))
          else wpAny P .any ops (lift N I0 w0 Q) fuel (L.setIfInBounds i true) (a.put (ops.getD i default).dst undef) w := by
        intro hne hone'
        have hnext : ∀ (y : Value) (w' : World), Below w.heap.size w w' → Rep (Im I0 w0.heap.size T β w') T β w' (R.getD i undefV) y →
            wpAny P .any ops (lift N I0 w0 Q) fuel (L.setIfInBounds i true) (a.put (ops.getD i default).dst y) w' := by
          intro y w' hb hy
          refine ih _ β _ _ T (by simpa using hL) hcount htl' ⟨c, hcl, hcT, fun c' hc' => ?_⟩ ((hr.world hb).putO' (st := ⟨st.env, T⟩) fun d hd => (hcd d hd).2.1) hah' (htmp T β y w' (fun p v h => rep_world hb h) hy)
          rw [hset _ (hne c' hc')]; exact hcs c' hc'
        rcases hone' with ⟨hw, hy⟩ | ⟨hw, hx⟩
        · have h1 := wanted_of hs' hw
          simp only [h1, if_true]
          exact hy I0 w0 β a w hs' _ hnext
        · have h1 := off_of hs' hw
          simp only [h1, Bool.false_eq_true, if_false]
          exact hnext undef w (Below.refl _ w) (by rw [hx]; exact .v undef)
      have hlis : ∀ ed ∈ (ops.getD i default).after.toList, Region.binds .any ed = true → L.getD ed.on true = true ∧ ed.on < m := fun ed hed hb => by
        have hlt := h5 ed hed hb
        have hs : ed.on < L.size := by omega
        refine ⟨?_, by omega⟩
        have := hi3 ed hed hb
        simpa [Array.getD, hs] using this
      have hfor : ∀ j, waits ops j i i = true → L.getD j true = true := fun j hj => waits_listed (fun q hq => (hc q hq).2.1) hah i i hlis hj
      have hmono : ∀ c1 c2, c1 < c2 → c2 < es.length → ei es c1 < ei es c2 := by
        intro c1 c2 h
        induction c2 with
        | zero => omega
        | succ c2 ihc =>
          intro h2
          have h3 := (hinc c2 h2).1
          rcases Nat.lt_or_ge c1 c2 with h4 | h4
          · have := ihc h4 (by omega); omega
          · have : c1 = c2 := by omega
            rw [this]; exact h3
      rcases hone i him with ⟨c0, hc0, hce, hw, hy⟩ | ⟨hne, hst⟩
      · have hcc : c0 = c := by
          rcases Nat.lt_trichotomy c0 c with h | h | h
          · have := (hcs c0 hc0).2 h
            rw [hce, hi2] at this; cases this
          · exact h
          · obtain ⟨q, rfl⟩ : ∃ q, c0 = q + 1 := ⟨c0 - 1, by omega⟩
            have hw2 := (hinc q hc0).2
            rw [hce] at hw2
            have := (hcs q (by omega)).1 (hfor _ hw2)
            omega
        subst hcc
        subst hcT
        have h1 := wanted_of hs' hw
        simp only [h1, if_true]
        refine hy I0 w0 β a w hs' _ fun y w' β2 hb htr hO hx => ?_
        refine ih _ β2 _ _ (stT st.T es (c0 + 1)) (by simpa using hL) hcount htl' ⟨c0 + 1, hc0, rfl, fun c' hc' => ?_⟩ ?_ hah' (htmp _ β2 y w' htr hx)
        · by_cases hcc : c' = c0
          · subst hcc; rw [hce]; exact ⟨fun _ => by omega, fun _ => hseti⟩
          · have hni : ei es c' ≠ i := by
              rw [← hce]
              rcases Nat.lt_or_ge c' c0 with h | h
              · have := hmono c' c0 h hc0; omega
              · have := hmono c0 c' (by omega) hc'; omega
            rw [hset _ hni, hcs c' hc']
            omega
        · have hr2 : Rel N I0 w0 ⟨st.env, stT st.T es (c0 + 1)⟩ β2 a w' :=
            ⟨hr.old, hr.size, hr.defers, fun t x hx => htr _ _ (hr.env t x hx), hO, hb⟩
          exact hr2.putO' fun d hd => (hcd d hd).2.1
      · refine rest hne ?_
        rcases hst c hcl with hx | hx
        · exfalso
          simp only [outSt, Bool.or_eq_true, List.any_eq_true, List.mem_range, Bool.and_eq_true] at hx
          rcases hx with ⟨c', h7, h8⟩ | ⟨c', h7, h9, h8⟩
          · have hle := (hcs c' (by omega)).2 h7
            have hlt := hem c' (by omega)
            have := waits_listed (fun q hq => (hc q hq).2.1) hah (ei es c') (ei es c') (fun ed hed hb => ⟨hah _ hlt hle ed hed hb, Nat.lt_trans ((hc _ hlt).2.1 ed hed hb) hlt⟩) h8
            rw [hi2] at this; cases this
          · have h10 := (hcs c' h7).1 (hfor _ h8)
            have : c ≤ c' := by simpa using h9
            omega
        · rw [hcT]; exact hx
def ADrM (P : Program) (N : Nat) (ops : Array Oper) (Q : Exit → ASt → Prop) (st : ASt) (m : Nat) (es : Effs) (E : List (Nat × AV)) (i : Nat) : Prop :=
  drawChk N ops st.env m = true → ∀ R, R.length = i → RelRE ops R E → ADrawM P N ops Q st m es R
def noneOf (es : Effs) (i : Nat) : Bool := (List.range es.length).all fun c => !(ei es c == i)
theorem noneOf_ne {es : Effs} {i : Nat} (h : noneOf es i = true) : ∀ c, c < es.length → ei es c ≠ i := fun c hc e => by
  have := List.all_eq_true.1 h c (by simpa using hc)
  simp [e] at this
theorem dM {m i d : Nat} {e0 e1 : Nat} {T1 T2 : Nat → Ob} {E : List (Nat × AV)} {x : AV}
    (h0 : outSt ops [(e0, T1), (e1, T2)] 0 i = true ∨ AYield P N Q (ops.getD i default) ⟨pickE (looks ops (ops.getD i default)) E ++ st.env, st.T⟩ x)
    (h1 : outSt ops [(e0, T1), (e1, T2)] 1 i = true ∨ AYield P N Q (ops.getD i default) ⟨pickE (looks ops (ops.getD i default)) E ++ st.env, T1⟩ x)
    (h2 : outSt ops [(e0, T1), (e1, T2)] 2 i = true ∨ AYield P N Q (ops.getD i default) ⟨pickE (looks ops (ops.getD i default)) E ++ st.env, T2⟩ x)
    (k : ADrM P N ops Q st m [(e0, T1), (e1, T2)] ((d, x) :: E) (i + 1))
    (hd : (ops.getD i default).dst = some d := by rfl) (hi : Nat.blt i m = true := by rfl) (he : noneOf [(e0, T1), (e1, T2)] i = true := by rfl) (hg : opAt N ops ⟨pickE (looks ops (ops.getD i default)) E ++ st.env, st.T⟩ i = true := by rfl) : ADrM P N ops Q st m [(e0, T1), (e1, T2)] E i := by
  intro hc R hRl hR
  subst hRl
  have hi := blt_lt hi
  have hp := fun t x => pick_get (st := st) (o := ops.getD R.length default) hR (subL_refl _) (fun j d hj hd => chk_no hc (by omega) hd) (t := t) (x := x)
  have hone : ∀ T, (AYield P N Q (ops.getD R.length default) ⟨pickE (looks ops (ops.getD R.length default)) E ++ st.env, T⟩ x) → One P N ops Q st T (R ++ [x]) R.length := by
    intro T h
    unfold One
    rw [(take_snoc R x).1, (take_snoc R x).2]
    exact .inl ⟨opAt_mono hg hp, h.env_mono hp⟩
  refine adrawM_one (.inr ⟨noneOf_ne he, fun c hc => ?_⟩) (k hc _ (by simp) (rel_snoc hc hR hi hd))
  have hc : c = 0 ∨ c = 1 ∨ c = 2 := by simp at hc; omega
  rcases hc with rfl | rfl | rfl
  · exact h0.imp id (hone _)
  · exact h1.imp id (hone _)
  · exact h2.imp id (hone _)
theorem dME {m i d : Nat} {es : Effs} {E : List (Nat × AV)} {x : AV} (c : Nat) (h : AEff P N Q (ops.getD i default) ⟨pickE (looks ops (ops.getD i default)) E ++ st.env, stT st.T es c⟩ x (stT st.T es (c + 1))) (k : ADrM P N ops Q st m es ((d, x) :: E) (i + 1))
    (hd : (ops.getD i default).dst = some d := by rfl) (hi : Nat.blt i m = true := by rfl) (hcl : Nat.blt c es.length = true := by rfl) (hce : ei es c = i := by rfl) (hg : opAt N ops ⟨pickE (looks ops (ops.getD i default)) E ++ st.env, st.T⟩ i = true := by rfl) : ADrM P N ops Q st m es E i := by
  intro hc R hRl hR
  subst hRl
  have hi := blt_lt hi
  have hp := fun t x => pick_get (st := st) (o := ops.getD R.length default) hR (subL_refl _) (fun j d hj hd => chk_no hc (by omega) hd) (t := t) (x := x)
  refine adrawM_one (.inl ⟨c, blt_lt hcl, hce, ?_, ?_⟩) (k hc _ (by simp) (rel_snoc hc hR hi hd))
  · rw [(take_snoc R x).1]; exact opAt_mono hg hp
  · rw [(take_snoc R x).1, (take_snoc R x).2]; exact h.env_mono hp
theorem dMS {m i : Nat} {es : Effs} {E : List (Nat × AV)} {x : AV} (c : Nat) (h : AEff P N Q (ops.getD i default) ⟨pickE (looks ops (ops.getD i default)) E ++ st.env, stT st.T es c⟩ x (stT st.T es (c + 1))) (k : ADrM P N ops Q st m es E (i + 1))
    (hd : (ops.getD i default).dst = none := by rfl) (hi : Nat.blt i m = true := by rfl) (hcl : Nat.blt c es.length = true := by rfl) (hce : ei es c = i := by rfl) (hg : opAt N ops ⟨pickE (looks ops (ops.getD i default)) E ++ st.env, st.T⟩ i = true := by rfl) : ADrM P N ops Q st m es E i := by
  intro hc R hRl hR
  subst hRl
  have hi := blt_lt hi
  have hp := fun t x => pick_get (st := st) (o := ops.getD R.length default) hR (subL_refl _) (fun j d hj hd => chk_no hc (by omega) hd) (t := t) (x := x)
  refine adrawM_one (.inl ⟨c, blt_lt hcl, hce, ?_, ?_⟩) (k hc (R ++ [x]) (by simp) (rel_none hR hd))
  · rw [(take_snoc R x).1]; exact opAt_mono hg hp
  · rw [(take_snoc R x).1, (take_snoc R x).2]; exact h.env_mono hp
theorem dMn {m i : Nat} {es : Effs} {E : List (Nat × AV)} (h : AOps P N ops Q (List.range' m (ops.size - m)) ⟨E ++ st.env, stT st.T es es.length⟩) (hi : i = m := by rfl) : ADrM P N ops Q st m es E i := by
  intro hc R hRl hR
  obtain ⟨R', g1, g2, s, g3, g4⟩ := dn (eff := some (0, stT st.T es es.length)) (st := st) (E := E) h hi hc R hRl hR
  subst hi
  have hR' : R' = [] := by
    have := g1; rw [List.length_append] at this
    exact List.eq_nil_of_length_eq_zero (by omega)
  subst hR'
  exact ⟨[], g1, fun j h1 h2 => by omega, s, g3, g4⟩
theorem aw_drawM {id : Nat} (m : Nat) (es : Effs) (h : ADrM P N ops Q st m es [] 0) (hchk : drawChk N ops st.env m = true := by rfl)
    (he : ((List.range es.length).all fun c => Nat.blt (ei es c) m && (Nat.ble es.length (c + 1) || (Nat.blt (ei es c) (ei es (c + 1)) && waits ops (ei es c) (ei es (c + 1)) (ei es (c + 1))))) = true := by rfl) (hm : P.follows .mixedOrders = true := by rfl) :
    AWp P N (.region id ops true) Q st := by
  obtain ⟨R, h1, h2, s, h3, h4⟩ := h hchk [] rfl ⟨fun j d hj => by simp at hj, fun t x hx => by simp [get] at hx⟩
  have hem : ∀ c, c < es.length → ei es c < m := fun c hc => by
    have := List.all_eq_true.1 he c (by simpa using hc)
    simp only [Bool.and_eq_true] at this
    exact blt_lt this.1
  have hinc : ∀ c, c + 1 < es.length → ei es c < ei es (c + 1) ∧ waits ops (ei es c) (ei es (c + 1)) (ei es (c + 1)) = true := fun c hc => by
    have := List.all_eq_true.1 he c (by simp; omega)
    simp only [Bool.and_eq_true, Bool.or_eq_true] at this
    rcases this.2 with h | h
    · have : es.length ≤ c + 1 := by simpa using h
      omega
    · exact ⟨blt_lt h.1, h.2⟩
  intro I0 w0 β a w hr
  refine wp_region_any hm ?_
  have hr' : Rel N I0 w0 st β a { w with drawn := w.drawn + 1 } := hr.world (Below.refl _ w).drew
  have hm' : m ≤ ops.size := by simp only [drawChk, Bool.and_eq_true] at hchk; simpa using hchk.1.1
  have hrep : ∀ j, j < ops.size → (Array.replicate ops.size false).getD j true = false := fun j hj => by simp [Array.getD, hj]
  refine adrawM_sound (R := R) hchk hinc hem (by simpa using h1) (fun i hi => by simpa using h2 i (Nat.zero_le _) hi) (by simpa using h3) h4 _ _ β _ _ st.T (by simp) ?_ (fun i _ h => hrep i h) ⟨0, Nat.zero_le _, rfl, fun c' hc' => ?_⟩ hr' (fun e he hl => ?_) ?_
  · exact Nat.le_trans (List.length_filter_le _ _) (by simp)
  · rw [hrep _ (by have := hem c' hc'; omega)]; simp
  · rw [hrep e (by omega)] at hl; cases hl
  · intro i d hi hl _
    rw [hrep i (by omega)] at hl; cases hl
theorem aw_drawM2 {id : Nat} (m e0 j0 : Nat) (o0 : Ob) (e1 j1 : Nat) (o1 : Ob) (h : ADrM P N ops Q st m [(e0, upd st.T j0 o0), (e1, upd (upd st.T j0 o0) j1 o1)] [] 0) (hchk : drawChk N ops st.env m = true := by rfl)
    (he : ((List.range 2).all fun c => Nat.blt (ei [(e0, noT), (e1, noT)] c) m && (Nat.ble 2 (c + 1) || (Nat.blt (ei [(e0, noT), (e1, noT)] c) (ei [(e0, noT), (e1, noT)] (c + 1)) && waits ops (ei [(e0, noT), (e1, noT)] c) (ei [(e0, noT), (e1, noT)] (c + 1)) (ei [(e0, noT), (e1, noT)] (c + 1))))) = true := by rfl) (hm : P.follows .mixedOrders = true := by rfl) :
    AWp P N (.region id ops true) Q st := aw_drawM m _ h hchk he hm
end
end Go.Proofs.Ytbmldjcddpblnaa.AW
namespace Go.Proofs.Ytbmldjcddpblnaa.AW
open Go Go.RowKit
section
variable {P : Program} {N : Nat} {Q : Exit → ASt → Prop} {st : ASt}
def wipe (d : Nat) : List (Nat × AV) → List (Nat × AV)
  | [] => []
  | (k, v) :: e => bif k == d then wipe d e else (k, v) :: wipe d e
theorem wipe_get {d : Nat} : ∀ {e : List (Nat × AV)} {t : Nat} {x : AV}, get (wipe d e) t = some x → t ≠ d ∧ get e t = some x
  | [], t, x, h => by simp [wipe, get] at h
  | (k, v) :: e, t, x, h => by
    simp only [wipe, Bool.cond_eq_ite] at h
    split at h
    · rename_i hk
      obtain ⟨h1, h2⟩ := wipe_get h
      refine ⟨h1, ?_⟩
      have hk : k = d := by simpa using hk
      simp only [get]
      rw [if_neg (by omega)]; exact h2
    · rename_i hk
      simp only [get] at h ⊢
      by_cases hkt : k = t
      · rw [if_pos hkt] at h ⊢
        refine ⟨?_, h⟩
        have hk : k ≠ d := by simpa using hk
        omega
      · rw [if_neg hkt] at h ⊢
        exact wipe_get h
theorem aw_wipe {c : Code} (d : Nat) (h : AWp P N c Q ⟨wipe d st.env, st.T⟩) : AWp P N c Q st :=
  fun I0 w0 β a w hr => h I0 w0 β a w (Rel.env_mono (e := st.env) hr fun t x hx => (wipe_get hx).2)
end
end Go.Proofs.Ytbmldjcddpblnaa.AW
namespace Go.Proofs.Ytbmldjcddpblnaa.AW
open Go Go.RowKit
section
variable {P : Program} {N : Nat} {Q : Exit → ASt → Prop} {st : ASt} {I0 : Nat → Prop} {w0 : World} {β : Nat → Value} {a : Act} {w : World}
theorem Rel.kill (h : Rel N I0 w0 st β a w) {i : Nat} (hi : st.T i ≠ .no) : Rel N I0 w0 ⟨st.env, upd st.T i .dead⟩ β a w ∧ ∀ x v, Rep (Im I0 w0.heap.size st.T β w) st.T β w x v → Rep (Im I0 w0.heap.size (upd st.T i .dead) β w) (upd st.T i .dead) β w x v := by
  have hlive : ∀ j e s es, upd st.T i .dead j = .live e s es → st.T j = .live e s es := by
    intro j e s es hj
    simp only [upd] at hj
    by_cases hji : j = i
    · rw [if_pos hji] at hj; cases hj
    · rw [if_neg hji] at hj; exact hj
  have hI : ∀ b, Im I0 w0.heap.size st.T β w b → Im I0 w0.heap.size (upd st.T i .dead) β w b ∧ ∀ o, w.cell? ⟨b, o, none⟩ = w.cell? ⟨b, o, none⟩ :=
    fun b ⟨h1, h2, h3⟩ => ⟨⟨h1, h2, fun j e s es hj => h3 j _ _ _ (hlive _ _ _ _ hj)⟩, fun o => rfl⟩
  have hT : ∀ j, st.T j ≠ .no → upd st.T i .dead j ≠ .no ∧ ∀ e s es', upd st.T i .dead j = .live e s es' → β j = β j ∧ ∃ es, st.T j = .live e s es ∧ es.length = es'.length := by
    intro j hj
    refine ⟨?_, fun e s es' h' => ⟨rfl, es', hlive _ _ _ _ h', rfl⟩⟩
    simp only [upd]
    split
    · simp
    · exact hj
  have hm : ∀ x v, Rep (Im I0 w0.heap.size st.T β w) st.T β w x v → Rep (Im I0 w0.heap.size (upd st.T i .dead) β w) (upd st.T i .dead) β w x v := fun x v hx => hx.mono hI hT
  refine ⟨⟨h.old, h.size, h.defers, fun t x hx => hm _ _ (h.env t x hx), ⟨?_, ?_⟩, h.below⟩, hm⟩
  · intro j e s es hj
    obtain ⟨h1, xs, h2, h3⟩ := h.objs.obj j e s es (hlive _ _ _ _ hj)
    exact ⟨h1, xs, h2, fun q x hx => let ⟨v, hv, hr⟩ := h3 q x hx; ⟨v, hv, hm _ _ hr⟩⟩
  · intro p e1 s1 es1 q e2 s2 es2 b hp hq
    exact h.objs.inj _ _ _ _ _ _ _ _ b (hlive _ _ _ _ hp) (hlive _ _ _ _ hq)
theorem Rel.freeze (h : Rel N I0 w0 st β a w) {t i e s : Nat} {es : List (List AV)} (ht : get st.env t = some (.own i)) (hi : st.T i = .live e s es) (hn : ∀ c ∈ es, ∀ x ∈ c, NoOwn x) :
    Rel N I0 w0 ⟨(t, .sl s es) :: st.env, upd st.T i .dead⟩ β a w := by
  obtain ⟨k, hm⟩ := h.kill (i := i) (by rw [hi]; simp)
  refine ⟨k.old, k.size, k.defers, fun q x hx => ?_, k.objs, k.below⟩
  simp only [get] at hx
  by_cases hq : t = q
  · rw [if_pos hq] at hx
    cases hx
    subst hq
    have hv := h.env t _ ht
    generalize a.tmps.getD t undef = v at hv
    cases hv with
    | own _ _ hno hx =>
      have := hx e s es hi
      subst this
      obtain ⟨h1, xs, h2, h3⟩ := h.objs.obj i e s es hi
      rcases h2.2 with ⟨hh, h0⟩ | ⟨g, cap, cur, fr, hh, hb, hg, _, hnc, _⟩
      · have : es = [] := List.eq_nil_of_length_eq_zero (by omega)
        subst this
        rw [hh]; exact .emp s none 0 fun _ => rfl
      · have hIm : Im I0 w0.heap.size (upd st.T i .dead) β w g := by
          refine ⟨.inr hb, (Array.getElem?_eq_some_iff.1 hg).1, fun j e' s' es2 hj hbj => ?_⟩
          simp only [upd] at hj
          by_cases hji : j = i
          · rw [if_pos hji] at hj; cases hj
          · rw [if_neg hji] at hj
            exact hji (h.objs.inj _ _ _ _ _ _ _ _ g hj hi hbj (by rw [hh]; rfl))
        rw [hh]
        rw [hh] at h2
        refine .sl s es g 0 cap (fun j => (xs[j]?).getD undef) hIm hnc h1 (fun j p hp => ?_) (fun j p hp => ?_)
        · have hlt : j < es.flatten.length := (List.getElem?_eq_some_iff.1 hp).1
          have hc := h2.cellAt j (by rw [← flat_len h1]; exact hlt)
          obtain ⟨u, hu, _⟩ := h3 j _ (List.getElem?_eq_getElem hlt)
          rw [Nat.zero_add, hc, hu]; rfl
        · obtain ⟨u, hu, hr⟩ := h3 j _ hp
          simp only [hu, Option.getD_some]
          exact hm _ _ hr
  · rw [if_neg hq] at hx
    exact k.env q x hx
theorem ent_frz (t : Nat) {i e s : Nat} {es : List (List AV)} (hn : ∀ c ∈ es, ∀ x ∈ c, NoOwn x) (ht : get st.env t = some (.own i) := by rfl) (hi : st.T i = .live e s es := by rfl) : Ent st ⟨(t, .sl s es) :: st.env, upd st.T i .dead⟩ :=
  fun N I0 w0 β a w hr => ⟨β, hr.freeze ht hi hn⟩
theorem fzs {ops : Array Oper} {l : List Nat} (t : Nat) {i e s : Nat} {es : List (List AV)} (hn : ∀ c ∈ es, ∀ x ∈ c, NoOwn x) (k : AOps P N ops Q l ⟨(t, .sl s es) :: st.env, upd st.T i .dead⟩)
    (ht : get st.env t = some (.own i) := by rfl) (hi : st.T i = .live e s es := by rfl) : AOps P N ops Q l st := AOps.ent (st' := ⟨(t, .sl s es) :: st.env, upd st.T i .dead⟩) (ent_frz t hn ht hi) k
theorem fzsW {c : Code} (t : Nat) {i e s : Nat} {es : List (List AV)} (hn : ∀ c ∈ es, ∀ x ∈ c, NoOwn x) (k : AWp P N c Q ⟨(t, .sl s es) :: st.env, upd st.T i .dead⟩)
    (ht : get st.env t = some (.own i) := by rfl) (hi : st.T i = .live e s es := by rfl) : AWp P N c Q st := AWp.ent (st' := ⟨(t, .sl s es) :: st.env, upd st.T i .dead⟩) (ent_frz t hn ht hi) k
section ops
variable {o : Oper}
theorem y_iarr {z ix : Operand} {t n e s j e' s' q r : Nat} {b : Bool} {es : List (List AV)} {kk : IntKind} {i : Int} (hi : 0 ≤ i ∧ i < n := by omega) (ho : o.op = .indexAddr t z ix := by rfl) (hz : ev st z = some (.ptr j q r) := by rfl) (hT : st.T j = .live e' s' es := by rfl)
    (hix : ev st ix = some (.v (.int kk i)) := by rfl) (ht : arrOf P t = some (n, e, s, b) := by rfl) (hs : Nat.ble (r + i.toNat * s) s' = true := by rfl) : AYield P N Q o st (.ptr j q (r + i.toNat * s)) :=
  AYield.still fun I0 w0 β a w hr => by
    obtain ⟨hu, hsz⟩ := arrOf_el ht
    have h := hr.ev hz
    have hi' : a.eval ix = .int kk i := (hr.ev hix).v_inv
    generalize hy : a.eval z = y at h
    cases h with
    | ptr _ _ _ x hn hx =>
      obtain ⟨h1, h2, b, m, c, h3, rfl⟩ := hx e' s' es hT
      refine ⟨.pointer (some ⟨b, q * s' + (r + i.toNat * s), none⟩), ?_, .ptr j q (r + i.toNat * s) _ hn fun e2 s2 es2 h' => ?_⟩
      · simp [execOp, ho, hy, hi', Instr.indexAt, Instr.sureAddr, asIntOf, run_underlying hu, hi.1, hi.2, (szOf_run hsz w).1, add_mid, Nat.add_assoc]
      · rw [hT] at h'; cases h'
        exact ⟨h1, by simpa using hs, b, m, c, h3, rfl⟩
end ops
section steps
variable {ops : Array Oper} {i : Nat} {l : List Nat} {d : Nat}
theorem iar {z ix : Operand} {t n e s j e' s' q r : Nat} {b : Bool} {es : List (List AV)} {kk : IntKind} {m : Int} (k : AOps P N ops Q l (st.put d (.ptr j q (r + m.toNat * s)))) (ho : (ops.getD i default).op = .indexAddr t z ix := by rfl)
    (hz : ev st z = some (.ptr j q r) := by rfl) (hT : st.T j = .live e' s' es := by rfl) (hix : ev st ix = some (.v (.int kk m)) := by rfl) (ht : arrOf P t = some (n, e, s, b) := by rfl) (hs : Nat.ble (r + m.toNat * s) s' = true := by rfl) (hm : 0 ≤ m ∧ m < n := by omega) (hi : Nat.blt i ops.size = true := by rfl)
    (hg : opAt N ops st i = true := by rfl) (hd : (ops.getD i default).dst = some d := by rfl) (hN : Nat.blt d N = true := by rfl) : AOps P N ops Q (i :: l) st := st1 (y_iarr hm ho hz hT hix ht hs) k hi hg hd hN
end steps
theorem fzL_to {r : Nat → Nat} {T T' : Nat → Ob} {l l' : List AV} (h : ∀ x ∈ l', NoOwn x) (e : l = l' := by rfl) : FzL r T T' l l' := by subst e; exact fzL_all h
theorem ne_live {o : Ob} {e s : Nat} {es : List (List AV)} (h : o = .live e s es) : o ≠ .no := by rw [h]; simp
end
end Go.Proofs.Ytbmldjcddpblnaa.AW
namespace Go.Proofs.Ytbmldjcddpblnaa.AW
open Go Go.RowKit
section
variable {P : Program} {N : Nat} {Q : Exit → ASt → Prop} {st : ASt} {I0 : Nat → Prop} {w0 : World} {β : Nat → Value} {a : Act} {w : World} {ops : Array Oper}
theorem AEff.frz {o : Oper} {x : AV} {T1 : Nat → Ob} (t : Nat) {i e s : Nat} {es : List (List AV)} (hn : ∀ c ∈ es, ∀ x ∈ c, NoOwn x) (h : AYield P N Q o ⟨(t, .sl s es) :: st.env, upd st.T i .dead⟩ x)
    (ht : get st.env t = some (.own i) := by rfl) (hi : st.T i = .live e s es := by rfl) (hT1 : upd st.T i .dead = T1 := by rfl) : AEff P N Q o st x T1 := by
  subst hT1
  intro I0 w0 β a w hr K' hK
  have hr' := hr.freeze ht hi hn
  obtain ⟨k1, k2⟩ := hr.kill (i := i) (by rw [hi]; simp)
  refine h I0 w0 β a w hr' K' fun y w' hb hy => hK y w' β ?_ ?_ ?_ hy
  · exact (hr'.world hb).below
  · exact fun p v hp => rep_world hb (k2 p v hp)
  · exact (hr'.world hb).objs
theorem dM3 {m i d : Nat} {e0 e1 e2 : Nat} {T1 T2 T3 : Nat → Ob} {E : List (Nat × AV)} {x : AV}
    (h0 : outSt ops [(e0, T1), (e1, T2), (e2, T3)] 0 i = true ∨ AYield P N Q (ops.getD i default) ⟨pickE (looks ops (ops.getD i default)) E ++ st.env, st.T⟩ x)
    (h1 : outSt ops [(e0, T1), (e1, T2), (e2, T3)] 1 i = true ∨ AYield P N Q (ops.getD i default) ⟨pickE (looks ops (ops.getD i default)) E ++ st.env, T1⟩ x)
    (h2 : outSt ops [(e0, T1), (e1, T2), (e2, T3)] 2 i = true ∨ AYield P N Q (ops.getD i default) ⟨pickE (looks ops (ops.getD i default)) E ++ st.env, T2⟩ x)
    (h3 : outSt ops [(e0, T1), (e1, T2), (e2, T3)] 3 i = true ∨ AYield P N Q (ops.getD i default) ⟨pickE (looks ops (ops.getD i default)) E ++ st.env, T3⟩ x)
    (k : ADrM P N ops Q st m [(e0, T1), (e1, T2), (e2, T3)] ((d, x) :: E) (i + 1))
    (hd : (ops.getD i default).dst = some d := by rfl) (hi : Nat.blt i m = true := by rfl) (he : noneOf [(e0, T1), (e1, T2), (e2, T3)] i = true := by rfl) (hg : opAt N ops ⟨pickE (looks ops (ops.getD i default)) E ++ st.env, st.T⟩ i = true := by rfl) : ADrM P N ops Q st m [(e0, T1), (e1, T2), (e2, T3)] E i := by
  intro hc R hRl hR
  subst hRl
  have hi := blt_lt hi
  have hp := fun t x => pick_get (st := st) (o := ops.getD R.length default) hR (subL_refl _) (fun j d hj hd => chk_no hc (by omega) hd) (t := t) (x := x)
  have hone : ∀ T, (AYield P N Q (ops.getD R.length default) ⟨pickE (looks ops (ops.getD R.length default)) E ++ st.env, T⟩ x) → One P N ops Q st T (R ++ [x]) R.length := by
    intro T h
    unfold One
    rw [(take_snoc R x).1, (take_snoc R x).2]
    exact .inl ⟨opAt_mono hg hp, h.env_mono hp⟩
  refine adrawM_one (.inr ⟨noneOf_ne he, fun c hc => ?_⟩) (k hc _ (by simp) (rel_snoc hc hR hi hd))
  have hc : c = 0 ∨ c = 1 ∨ c = 2 ∨ c = 3 := by simp at hc; omega
  rcases hc with rfl | rfl | rfl | rfl
  · exact h0.imp id (hone _)
  · exact h1.imp id (hone _)
  · exact h2.imp id (hone _)
  · exact h3.imp id (hone _)
theorem aw_drawM3 {id : Nat} (m e0 j0 : Nat) (o0 : Ob) (e1 j1 : Nat) (o1 : Ob) (e2 j2 : Nat) (o2 : Ob) (h : ADrM P N ops Q st m [(e0, upd st.T j0 o0), (e1, upd (upd st.T j0 o0) j1 o1), (e2, upd (upd (upd st.T j0 o0) j1 o1) j2 o2)] [] 0) (hchk : drawChk N ops st.env m = true := by rfl)
    (he : ((List.range 3).all fun c => Nat.blt (ei [(e0, noT), (e1, noT), (e2, noT)] c) m && (Nat.ble 3 (c + 1) || (Nat.blt (ei [(e0, noT), (e1, noT), (e2, noT)] c) (ei [(e0, noT), (e1, noT), (e2, noT)] (c + 1)) && waits ops (ei [(e0, noT), (e1, noT), (e2, noT)] c) (ei [(e0, noT), (e1, noT), (e2, noT)] (c + 1)) (ei [(e0, noT), (e1, noT), (e2, noT)] (c + 1))))) = true := by rfl) (hm : P.follows .mixedOrders = true := by rfl) :
    AWp P N (.region id ops true) Q st := aw_drawM m _ h hchk he hm
end
end Go.Proofs.Ytbmldjcddpblnaa.AW
namespace Go.Proofs.Ytbmldjcddpblnaa.AW
open Go Go.RowKit
section
variable {P : Program} {N : Nat} {Q : Exit → ASt → Prop} {st : ASt}
theorem rep_plain {I : Nat → Prop} {T : Nat → Ob} {β : Nat → Value} {w : World} {us : List Value} {x : Value} (h : Rep I T β w (.agg (us.map .v)) x) : x = .agg us.toArray := by
  cases h with
  | agg l cs hl hc =>
    congr 1
    apply Array.ext
    · simpa using hl.symm
    · intro j h1 h2
      have h3 : (us.map AV.v)[j]? = some (.v us[j]) := by
        rw [List.getElem?_map, List.getElem?_eq_getElem (by simpa using h2)]; rfl
      have := (hc j _ _ h3 (Array.getElem?_eq_getElem h1)).v_inv
      simpa using this
theorem y_binA {o : Oper} {f : BinOp} {t t' : TypeId} {p q : Operand} (us vs : List Value) {r : Value} (ho : o.op = .binOp f t p q t' := by rfl) (hp : ev st p = some (.agg (us.map .v)) := by rfl) (hq : ev st q = some (.agg (vs.map .v)) := by rfl)
    (hrun : ∀ w, (do eqGuard f t p q (.agg us.toArray) (.agg vs.toArray); binOp f t (.agg us.toArray) (.agg vs.toArray) : Sem Value).run P w = .ok r w := by intro w; rfl) : AYield P N Q o st (.v r) :=
  AYield.still (fun I0 w0 β a w hr => ⟨r, by
    have e1 : a.eval p = .agg us.toArray := rep_plain (hr.ev hp)
    have e2 : a.eval q = .agg vs.toArray := rep_plain (hr.ev hq)
    have h := hrun w
    simp only [Sem.run_bind] at h
    simp only [execOp, ho, e1, e2, Sem.run_bind]
    cases hg : (eqGuard f t p q (.agg us.toArray) (.agg vs.toArray)).run P w with
    | halt x w' => rw [hg] at h; simp [Result.andThen] at h
    | ok x w' =>
      rw [hg] at h
      simp only [Result.andThen_ok] at h ⊢
      rw [h]; simp, .v r⟩)
section steps
variable {ops : Array Oper} {i : Nat} {l : List Nat} {d : Nat}
theorem biA {f : BinOp} {t t' : TypeId} {p q : Operand} (us vs : List Value) {r : Value} (k : AOps P N ops Q l (st.put d (.v r))) (ho : (ops.getD i default).op = .binOp f t p q t' := by rfl) (hp : ev st p = some (.agg (us.map .v)) := by rfl) (hq : ev st q = some (.agg (vs.map .v)) := by rfl)
    (hrun : ∀ w, (do eqGuard f t p q (.agg us.toArray) (.agg vs.toArray); binOp f t (.agg us.toArray) (.agg vs.toArray) : Sem Value).run P w = .ok r w := by intro w; rfl) (hi : Nat.blt i ops.size = true := by rfl)
    (hg : opAt N ops st i = true := by rfl) (hd : (ops.getD i default).dst = some d := by rfl) (hN : Nat.blt d N = true := by rfl) : AOps P N ops Q (i :: l) st := st1 (y_binA us vs ho hp hq hrun) k hi hg hd hN
end steps
end
end Go.Proofs.Ytbmldjcddpblnaa.AW
namespace Go.Proofs.Ytbmldjcddpblnaa.AW
open Go Go.RowKit
section
variable {P : Program} {N : Nat} {Q : Exit → ASt → Prop} {st : ASt} {I0 : Nat → Prop} {w0 : World} {β : Nat → Value} {a : Act} {w : World} {ops : Array Oper}
abbrev EffR := List (Nat × Nat × Ob × Option Nat)
def isk : Option Nat → Nat → Bool
  | none, _ => false
  | some k, q => Nat.beq q k
def eff1 (T : Nat → Ob) (j : Nat) (o : Ob) : Option Nat → Nat → Ob
  | none => upd T j o
  | some k => upd (upd T k .dead) j o
theorem beq_no {q j : Nat} (h : ¬ q = j) : Nat.beq q j = false := by
  cases hb : Nat.beq q j
  · rfl
  · exact absurd (Nat.eq_of_beq_eq_true hb) h
theorem eff1_at (T : Nat → Ob) (j : Nat) (o : Ob) (k : Option Nat) (q : Nat) : eff1 T j o k q = bif Nat.beq q j then o else bif isk k q then .dead else T q := by
  cases k with
  | none =>
    simp only [eff1, upd, isk, cond_false]
    by_cases hq : q = j
    · subst hq; simp
    · rw [if_neg hq, beq_no hq]; rfl
  | some k =>
    simp only [eff1, upd, isk]
    by_cases hq : q = j
    · subst hq; simp
    · rw [if_neg hq, beq_no hq]
      by_cases hk : q = k
      · subst hk; simp
      · rw [if_neg hk, beq_no hk]; rfl
def tch (p : Nat × Nat × Ob × Option Nat) (q : Nat) : Bool := Nat.beq q p.2.1 || isk p.2.2.2 q
def tabM (T : Nat → Ob) : EffR → (Nat → Bool) → Nat → Ob
  | [], _ => T
  | (e, j, o, k) :: es, m => tabM (fun q => bif Nat.beq q j && m e then o else bif isk k q && m e then .dead else T q) es m
theorem tabM_pt {es : EffR} {m : Nat → Bool} : ∀ {F F' : Nat → Ob} {q : Nat}, F q = F' q → tabM F es m q = tabM F' es m q := by
  induction es with
  | nil => exact fun h => h
  | cons p es ih =>
    obtain ⟨e, j, o, k⟩ := p
    intro F F' q h
    simp only [tabM]
    exact ih (by simp only [h])
theorem tabM_congr {es : EffR} {m m' : Nat → Bool} : ∀ {T : Nat → Ob}, (∀ p ∈ es, m p.1 = m' p.1) → tabM T es m = tabM T es m' := by
  induction es with
  | nil => exact fun _ => rfl
  | cons p es ih =>
    obtain ⟨e, j, o, k⟩ := p
    intro T h
    simp only [tabM]
    rw [show m e = m' e from h (e, j, o, k) (.head _)]
    exact ih fun q hq => h q (.tail _ hq)
theorem tabM_app {a b : EffR} {m : Nat → Bool} : ∀ {T : Nat → Ob}, tabM T (a ++ b) m = tabM (tabM T a m) b m := by
  induction a with
  | nil => exact rfl
  | cons p a ih => obtain ⟨e, j, o, k⟩ := p; intro T; simp only [List.cons_append, tabM]; exact ih
theorem tabM_none {es : EffR} {m : Nat → Bool} {q : Nat} : ∀ {F : Nat → Ob}, (∀ p ∈ es, tch p q = true → m p.1 = false) → tabM F es m q = F q := by
  induction es with
  | nil => exact fun _ => rfl
  | cons p es ih =>
    obtain ⟨e, j, o, k⟩ := p
    intro F h
    simp only [tabM]
    rw [ih fun p hp => h p (.tail _ hp)]
    have h0 := h (e, j, o, k) (.head _)
    simp only [tch] at h0
    cases h1 : Nat.beq q j <;> cases h2 : isk k q <;> simp [h1, h2] at h0 ⊢
    all_goals simp [h0]
def setMk (m : Nat → Bool) (i : Nat) : Nat → Bool := fun e => e == i || m e
theorem tabM_set {T : Nat → Ob} {a b : EffR} {i j : Nat} {o : Ob} {k : Option Nat} {m : Nat → Bool} (hi : m i = false) (hu : ∀ p ∈ a ++ b, p.1 ≠ i) (hb : ∀ p ∈ b, ∀ q, tch (i, j, o, k) q = true → tch p q = true → m p.1 = false) :
    tabM T (a ++ (i, j, o, k) :: b) (setMk m i) = eff1 (tabM T (a ++ (i, j, o, k) :: b) m) j o k := by
  have hs : ∀ p ∈ a ++ b, setMk m i p.1 = m p.1 := fun p hp => by simp [setMk, hu p hp]
  rw [tabM_app, tabM_app, tabM_congr (es := a) (m := setMk m i) (m' := m) fun p hp => hs p (List.mem_append_left _ hp)]
  simp only [tabM]
  rw [tabM_congr (es := b) (m := setMk m i) (m' := m) fun p hp => hs p (List.mem_append_right _ hp)]
  funext q
  rw [eff1_at]
  have hmi : setMk m i i = true := by simp [setMk]
  rw [hmi, hi]
  by_cases hq : tch (i, j, o, k) q = true
  · rw [tabM_none fun p hp ht => hb p hp q hq ht]
    simp only [tch, Bool.or_eq_true] at hq
    cases h1 : Nat.beq q j
    · rw [h1] at hq
      have hk : isk k q = true := by simpa using hq
      simp [hk]
    · simp
  · simp only [tch, Bool.or_eq_true, not_or] at hq
    have h1 : Nat.beq q j = false := eq_false_of_ne_true hq.1
    have h2 : isk k q = false := eq_false_of_ne_true hq.2
    rw [h1, h2]
    simp only [cond_false]
    exact tabM_pt (by simp [h1, h2])
def kn (ops : Array Oper) (i e : Nat) (b : Bool) : Bool := bif waits ops e i i then true else bif (e == i || waits ops i e e) then false else b
def tabK (ops : Array Oper) (i : Nat) (T : Nat → Ob) (es : EffR) (m : Nat → Bool) : Nat → Ob := tabM T es fun e => kn ops i e (m e)
def lookR : EffR → Nat → Option (Nat × Ob × Option Nat)
  | [], _ => none
  | (e, j, o, k) :: es, i => bif e == i then some (j, o, k) else lookR es i
theorem lookR_some : ∀ {es : EffR} {i j : Nat} {o : Ob} {k : Option Nat}, lookR es i = some (j, o, k) → ∃ a b, es = a ++ (i, j, o, k) :: b
  | [], i, j, o, k, h => by simp [lookR] at h
  | (e, j', o', k') :: es, i, j, o, k, h => by
    simp only [lookR, Bool.cond_eq_ite] at h
    by_cases he : e = i
    · subst he
      simp at h
      obtain ⟨rfl, rfl, rfl⟩ := h
      exact ⟨[], es, rfl⟩
    · have : (e == i) = false := by simpa using he
      rw [this] at h
      simp at h
      obtain ⟨a, b, rfl⟩ := lookR_some h
      exact ⟨_ :: a, b, rfl⟩
theorem lookR_none : ∀ {es : EffR} {i : Nat}, lookR es i = none → ∀ p ∈ es, p.1 ≠ i
  | [], i, h, p, hp => by cases hp
  | (e, j', o', k') :: es, i, h, p, hp => by
    simp only [lookR, Bool.cond_eq_ite] at h
    by_cases he : e = i
    · subst he; simp at h
    · have hb : (e == i) = false := by simpa using he
      rw [hb] at h
      simp at h
      rcases List.mem_cons.1 hp with rfl | hp
      · exact he
      · exact lookR_none h p hp
def rowsOf (p : Nat × Nat × Ob × Option Nat) : List Nat := p.2.1 :: p.2.2.2.toList
theorem tch_mem {p : Nat × Nat × Ob × Option Nat} {q : Nat} (h : tch p q = true) : q ∈ rowsOf p := by
  obtain ⟨e, j, o, k⟩ := p
  simp only [tch, Bool.or_eq_true] at h
  rcases h with h | h
  · have := Nat.eq_of_beq_eq_true h; simp [rowsOf, this]
  · cases k with
    | none => simp [isk] at h
    | some k => have := Nat.eq_of_beq_eq_true h; simp [rowsOf, this]
def effChk (ops : Array Oper) : EffR → Bool
  | [] => true
  | (e, j, o, k) :: es => (es.all fun p => Nat.blt e p.1 && (!((rowsOf p).any fun q => (j :: k.toList).contains q) || waits ops e p.1 p.1)) && effChk ops es
theorem effChk_mid {ops : Array Oper} : ∀ {a b : EffR} {i j : Nat} {o : Ob} {k : Option Nat}, effChk ops (a ++ (i, j, o, k) :: b) = true → (∀ p ∈ a ++ b, p.1 ≠ i) ∧ ∀ p ∈ b, ∀ q, tch (i, j, o, k) q = true → tch p q = true → waits ops i p.1 p.1 = true
  | [], b, i, j, o, k, h => by
    simp only [List.nil_append, effChk, Bool.and_eq_true, List.all_eq_true] at h
    refine ⟨fun p hp => ?_, fun p hp q h1 h2 => ?_⟩
    · have := blt_lt (h.1 p hp).1; omega
    · have h3 := (h.1 p hp).2
      have h4 : ((rowsOf p).any fun q => (j :: k.toList).contains q) = true := List.any_eq_true.2 ⟨q, tch_mem h2, List.contains_iff_mem.2 (tch_mem h1)⟩
      rw [h4] at h3
      simpa using h3
  | (e, j', o', k') :: a, b, i, j, o, k, h => by
    simp only [List.cons_append, effChk, Bool.and_eq_true, List.all_eq_true] at h
    obtain ⟨h1, h2⟩ := effChk_mid h.2
    refine ⟨fun p hp => ?_, h2⟩
    rcases List.mem_cons.1 hp with rfl | hp
    · have := blt_lt (h.1 (i, j, o, k) (List.mem_append_right _ (.head _))).1
      show e ≠ i
      omega
    · exact h1 p hp
def OneP (P : Program) (N : Nat) (ops : Array Oper) (Q : Exit → ASt → Prop) (st : ASt) (es : EffR) (R : List AV) (i : Nat) : Prop :=
  (∃ j o k, lookR es i = some (j, o, k) ∧ ∀ m, opAt N ops ⟨lookE ops (R.take i) (ops.getD i default) ++ st.env, tabK ops i st.T es m⟩ i = true ∧
      AEff P N Q (ops.getD i default) ⟨lookE ops (R.take i) (ops.getD i default) ++ st.env, tabK ops i st.T es m⟩ (R.getD i undefV) (eff1 (tabK ops i st.T es m) j o k)) ∨
  (lookR es i = none ∧ ∀ m, One P N ops Q st (tabK ops i st.T es m) R i)
def ADrawP (P : Program) (N : Nat) (ops : Array Oper) (Q : Exit → ASt → Prop) (st : ASt) (m : Nat) (es : EffR) (R : List AV) : Prop :=
  ∃ R', (R ++ R').length = m ∧ (∀ i, R.length ≤ i → i < m → OneP P N ops Q st es (R ++ R') i) ∧
    ∃ s, Ent ⟨envAll ops (R ++ R') ++ st.env, tabM st.T es fun _ => true⟩ s ∧ AOps P N ops Q (List.range' m (ops.size - m)) s
theorem adrawP_one {m : Nat} {es : EffR} {R : List AV} {x : AV} (h : OneP P N ops Q st es (R ++ [x]) R.length) (k : ADrawP P N ops Q st m es (R ++ [x])) : ADrawP P N ops Q st m es R := by
  obtain ⟨R', h1, h2, h3⟩ := k
  refine ⟨x :: R', by simpa using h1, fun i hi1 hi2 => ?_, by simpa using h3⟩
  by_cases hi : i = R.length
  · subst hi
    have e1 : (R ++ x :: R').take R.length = (R ++ [x]).take R.length := by simp
    have e2 : (R ++ x :: R').getD R.length undefV = (R ++ [x]).getD R.length undefV := by simp [List.getD]
    unfold OneP One at h ⊢
    rw [e1, e2]; exact h
  · have := h2 i (by simp; omega) hi2
    simpa using this
theorem adrawP_sound {m : Nat} {es : EffR} {R : List AV} (hchk : drawChk N ops st.env m = true) (hinc : effChk ops es = true) (hem : ∀ p ∈ es, p.1 < m) (hR : R.length = m) (hone : ∀ i, i < m → OneP P N ops Q st es R i)
    {s : ASt} (hs : Ent ⟨envAll ops R ++ st.env, tabM st.T es fun _ => true⟩ s) (hQ : AOps P N ops Q (List.range' m (ops.size - m)) s) :
    ∀ (fuel : Nat) (L : Array Bool) (β : Nat → Value) (a : Act) (w : World) (T : Nat → Ob), L.size = ops.size → ((List.range ops.size).filter fun j => !L.getD j true).length ≤ fuel →
      (∀ i, m ≤ i → i < ops.size → L.getD i true = false) → (T = tabM st.T es fun e => L.getD e true) →
      Rel N I0 w0 ⟨st.env, T⟩ β a w →
      (∀ e, e < m → L.getD e true = true → ∀ ed ∈ (ops.getD e default).after.toList, Region.binds .any ed = true → L.getD ed.on true = true) →
      (∀ i d, i < m → L.getD i true = true → (ops.getD i default).dst = some d → Rep (Im I0 w0.heap.size T β w) T β w (R.getD i undefV) (a.tmps.getD d undef)) →
      wpAny P .any ops (lift N I0 w0 Q) fuel L a w := by
  simp only [drawChk, Bool.and_eq_true] at hchk
  obtain ⟨⟨hm, hc1⟩, hc2⟩ := hchk
  have hm : m ≤ ops.size := by simpa using hm
  have hc : ∀ i, i < m → (∀ d, (ops.getD i default).dst = some d → d < N ∧ get st.env d = none ∧ ∀ j, j < m → j ≠ i → (ops.getD j default).dst ≠ some d) ∧
      (∀ ed ∈ (ops.getD i default).after.toList, Region.binds .any ed = true → ed.on < i) ∧
      (∀ t ∈ looks ops (ops.getD i default), ∀ j, j < m → (ops.getD j default).dst = some t → ∃ ed ∈ (ops.getD i default).after.toList, ed.on = j ∧ Region.binds .any ed = true) := by
    intro i hi
    have h1 := List.all_eq_true.1 hc1 i (by simpa using hi)
    simp only [Bool.and_eq_true] at h1
    obtain ⟨⟨h1, h2⟩, h3⟩ := h1
    refine ⟨fun d hd => ?_, fun ed hed hb => ?_, fun t ht j hj hjt => ?_⟩
    · rw [hd] at h1
      simp only [Bool.and_eq_true] at h1
      obtain ⟨⟨h5, h6⟩, h7⟩ := h1
      refine ⟨blt_lt h5, by simpa using h6, fun j hj hji hjd => ?_⟩
      have h8 : (j == i || !((ops.getD j default).dst == some d)) = true := List.all_eq_true.1 h7 j (by simpa using hj)
      rw [hjd] at h8
      simp [hji] at h8
    · have := List.all_eq_true.1 h2 ed hed
      simp only [hb, Bool.not_true, Bool.false_or] at this
      exact blt_lt this
    · have := List.all_eq_true.1 (List.all_eq_true.1 h3 t ht) j (by simpa using hj)
      simp only [hjt, BEq.rfl, Bool.not_true, Bool.false_or] at this
      obtain ⟨ed, h8, h9⟩ := List.any_eq_true.1 this
      simp only [Bool.and_eq_true, beq_iff_eq] at h9
      exact ⟨ed, h8, h9.1, h9.2⟩
  have ht : ∀ i, m ≤ i → i < ops.size → (∀ j, j < i → m < i → j + 1 = i → ∃ ed ∈ (ops.getD i default).after.toList, ed.on = j ∧ Region.binds .any ed = true) ∧
      (i = m → ∀ j, j < m → waits ops j m m = true) ∧
      ∀ ed ∈ (ops.getD i default).after.toList, Region.binds .any ed = true → ed.on < i := by
    intro i hi hi2
    have h1 := List.all_eq_true.1 hc2 i (by simpa using hi2)
    have hn : Nat.blt i m = false := by
      cases hb : Nat.blt i m
      · rfl
      · have := blt_lt hb; omega
    rw [hn, Bool.false_or, Bool.and_eq_true] at h1
    refine ⟨fun j hj hmi hjm => ?_, fun him j hj => ?_, fun ed hed hb => ?_⟩
    · have := List.all_eq_true.1 h1.1 j (by simpa using hj)
      have hb : (Nat.blt m i && !(j + 1 == i)) = false := by
        subst hjm; simp
      have hne : (i == m) = false := by simp; omega
      rw [hb, Bool.false_or, hne, cond_false] at this
      obtain ⟨ed, h8, h9⟩ := List.any_eq_true.1 this
      simp only [Bool.and_eq_true, beq_iff_eq] at h9
      exact ⟨ed, h8, h9.1, h9.2⟩
    · subst him
      have := List.all_eq_true.1 h1.1 j (by simpa using hj)
      rw [hn, Bool.false_and, Bool.false_or, BEq.rfl, cond_true] at this
      exact this
    · have := List.all_eq_true.1 h1.2 ed hed
      simp only [hb, Bool.not_true, Bool.false_or] at this
      exact blt_lt this
  intro fuel
  induction fuel with
  | zero =>
    intro L β a w T hL hu htl hcT hr hah hl
    have h0 : ((List.range ops.size).filter fun j => !L.getD j true) = [] := List.eq_nil_of_length_eq_zero (by omega)
    have hall : ∀ i, i < ops.size → L.getD i true = true := by
      intro i hi
      have := List.filter_eq_nil_iff.1 h0 i (by simpa using hi)
      simpa using this
    have hmn : m = ops.size := by
      rcases Nat.lt_or_ge m ops.size with h | h
      · have := htl m (Nat.le_refl _) h; rw [hall m h] at this; cases this
      · omega
    have hTe : T = tabM st.T es fun _ => true := by
      rw [hcT]; exact tabM_congr fun p hp => hall _ (by have := hem p hp; omega)
    subst hTe
    obtain ⟨γ, hγ⟩ := hs N I0 w0 β a w (hr.more (st := ⟨st.env, tabM st.T es fun _ => true⟩) (e := envAll ops R) fun t x hx => by
      simp only [envAll, List.mem_filterMap, List.mem_range] at hx
      obtain ⟨j, hj, hjd⟩ := hx
      cases hd : (ops.getD j default).dst with
      | none => rw [hd] at hjd; cases hjd
      | some d =>
        rw [hd] at hjd
        simp only [Option.map_some, Option.some.injEq, Prod.mk.injEq] at hjd
        obtain ⟨rfl, rfl⟩ := hjd
        exact hl j d (by omega) (hall j (by omega)) hd)
    refine tail_sound (m := m) (fun i h1 h2 j h3 h4 => (ht i (Nat.le_of_lt h1) h2).1 j h3 h1 h4) (fun i h1 h2 => (ht i h1 h2).2.2) 0 m 0 L a w (by omega) (Nat.le_refl _) (Nat.le_refl _) hL (fun j hj => ⟨fun _ => by omega, fun _ => hall j hj⟩) ?_
    have := hQ I0 w0 γ a w hγ
    rwa [hmn, Nat.sub_self] at this
  | succ fuel ih =>
    intro L β a w T hL hu htl hcT hr hah hl
    by_cases hdone : ∀ i, i < m → L.getD i true = true
    · have hTe : T = tabM st.T es fun _ => true := by
        rw [hcT]; exact tabM_congr fun p hp => hdone _ (hem p hp)
      subst hTe
      obtain ⟨γ, hγ⟩ := hs N I0 w0 β a w (hr.more (st := ⟨st.env, tabM st.T es fun _ => true⟩) (e := envAll ops R) fun t x hx => by
        simp only [envAll, List.mem_filterMap, List.mem_range] at hx
        obtain ⟨j, hj, hjd⟩ := hx
        cases hd : (ops.getD j default).dst with
        | none => rw [hd] at hjd; cases hjd
        | some d =>
          rw [hd] at hjd
          simp only [Option.map_some, Option.some.injEq, Prod.mk.injEq] at hjd
          obtain ⟨rfl, rfl⟩ := hjd
          exact hl j d (by omega) (hdone j (by omega)) hd)
      have hlen : ops.size - m ≤ fuel + 1 := by
        refine Nat.le_trans ?_ hu
        have e1 : ((List.range ops.size).filter fun j => !L.getD j true) = (List.range ops.size).filter fun j => decide (m ≤ j) := by
          apply List.filter_congr
          intro j hj
          have hj : j < ops.size := by simpa using hj
          by_cases hjm : m ≤ j
          · rw [htl j hjm hj]; simp [hjm]
          · rw [hdone j (by omega)]; simp [hjm]
        rw [e1]
        have e2 : (List.range ops.size).filter (fun j => decide (m ≤ j)) = List.range' m (ops.size - m) := by
          have hsplit : List.range ops.size = List.range m ++ List.range' m (ops.size - m) := by
            rw [List.range_eq_range', List.range_eq_range', show ops.size = m + (ops.size - m) by omega, ← List.range'_append_1]; simp
          rw [hsplit, List.filter_append]
          rw [List.filter_eq_nil_iff.2 (by intro j hj; simp at hj ⊢; exact hj), List.filter_eq_self.2 (by intro j hj; simp [List.mem_range'_1] at hj ⊢; omega)]
          simp
        rw [e2]; simp
      exact tail_sound (m := m) (fun i h1 h2 j h3 h4 => (ht i (Nat.le_of_lt h1) h2).1 j h3 h1 h4) (fun i h1 h2 => (ht i h1 h2).2.2) (ops.size - m) m (fuel + 1) L a w (by omega) (Nat.le_refl _) hlen hL
        (fun j hj => ⟨fun h => by
          rcases Nat.lt_or_ge j m with h1 | h1
          · exact h1
          · rw [htl j h1 hj] at h; exact absurd h (by decide), fun h => hdone j h⟩) (hQ I0 w0 γ a w hγ)
    · obtain ⟨i0, hi0, hi0'⟩ : ∃ i, i < m ∧ L.getD i true = false := by
        refine Classical.byContradiction fun hno => hdone fun i hi => ?_
        cases hb : L.getD i true
        · exact absurd ⟨i, hi, hb⟩ hno
        · rfl
      have hex : ∃ i, i ∈ Region.ready .any ops L := by
        obtain ⟨k, ⟨hk1, hk2⟩, hk3⟩ := least_exists (p := fun i => i < m ∧ L.getD i true = false) ⟨i0, hi0, hi0'⟩
        refine ⟨k, mem_ready.2 ⟨by omega, hk2, fun ed hed hb => ?_⟩⟩
        obtain ⟨_, h5, _⟩ := hc k hk1
        have hlt := h5 ed hed hb
        refine listed_all hL (by omega) ?_
        cases hbb : L.getD ed.on true
        · have := hk3 ed.on ⟨by omega, hbb⟩; omega
        · rfl
      refine ⟨fun hrdy => (by obtain ⟨i, hi⟩ := hex; rw [hrdy] at hi; cases hi), fun i hi => ?_⟩
      obtain ⟨hi1, hi2, hi3⟩ := mem_ready.1 hi
      have him : i < m := by
        rcases Nat.lt_or_ge i m with h | h
        · exact h
        · have hli : ∀ ed ∈ (ops.getD i default).after.toList, Region.binds .any ed = true → L.getD ed.on true = true := fun ed hed hb => by
            have := hi3 ed hed hb
            have hs : ed.on < L.size := by have := (ht i h hi1).2.2 ed hed hb; omega
            simpa [Array.getD, hs] using this
          by_cases him : i = m
          · subst him
            have h' := waits_listed (fun q hq => (hc q hq).2.1) hah i i (fun ed hed hb => ⟨hli ed hed hb, (ht i h hi1).2.2 ed hed hb⟩) ((ht i h hi1).2.1 rfl i0 hi0)
            rw [hi0'] at h'; cases h'
          · obtain ⟨ed, hed, hon, hb⟩ := (ht i h hi1).1 (i - 1) (by omega) (by omega) (by omega)
            have h' := hli ed hed hb
            rw [hon, htl (i - 1) (by omega) (by omega)] at h'; cases h'
      obtain ⟨hcd, h5, h6⟩ := hc i him
      have hmon : ∀ j, L.getD j true = true → (L.setIfInBounds i true).getD j true = true := fun j hj => by
        by_cases hji : j = i
        · subst hji; simp [Array.getD, hL, hi1]
        · rw [show (L.setIfInBounds i true).getD j true = L.getD j true by simp [Array.getD_eq_getD_getElem?, Array.getElem?_setIfInBounds_ne (Ne.symm hji)]]; exact hj
      have hah' : ∀ e, e < m → (L.setIfInBounds i true).getD e true = true → ∀ ed ∈ (ops.getD e default).after.toList, Region.binds .any ed = true → (L.setIfInBounds i true).getD ed.on true = true := by
        intro e hem hle ed hed hb
        by_cases hei : e = i
        · subst hei
          refine hmon _ ?_
          have := hi3 ed hed hb
          have hs : ed.on < L.size := by have := h5 ed hed hb; omega
          simpa [Array.getD, hs] using this
        · refine hmon _ (hah e hem ?_ ed hed hb)
          rwa [show (L.setIfInBounds i true).getD e true = L.getD e true by simp [Array.getD_eq_getD_getElem?, Array.getElem?_setIfInBounds_ne (Ne.symm hei)]] at hle
      have hs' : Rel N I0 w0 ⟨lookE ops (R.take i) (ops.getD i default) ++ st.env, T⟩ β a w := by
        refine hr.more (st := ⟨st.env, T⟩) fun t x hx => ?_
        simp only [lookE, List.mem_filterMap, List.mem_range] at hx
        obtain ⟨j, hj, hjx⟩ := hx
        have hjm : j < m := by simp at hj; omega
        cases ht' : (ops.getD j default).dst with
        | none => rw [ht'] at hjx; cases hjx
        | some t' =>
          rw [ht'] at hjx
          by_cases hct : (looks ops (ops.getD i default)).contains t' = true
          · simp only [hct, if_true] at hjx
            simp only [Option.some.injEq, Prod.mk.injEq] at hjx
            obtain ⟨rfl, rfl⟩ := hjx
            have hmem : t' ∈ looks ops (ops.getD i default) := by simpa using hct
            obtain ⟨ed, hed, hon, hb⟩ := h6 t' hmem j hjm ht'
            have hli := hi3 ed hed hb
            rw [hon] at hli
            have hli' : L.getD j true = true := by
              have hs : j < L.size := by omega
              simpa [Array.getD, hs] using hli
            have := hl j t' hjm hli' ht'
            have e : (R.take i).getD j undefV = R.getD j undefV := by
              have hji : j < i := by simp at hj; omega
              simp [List.getD, List.getElem?_take_of_lt hji]
            rw [e]; exact this
          · simp only [hct] at hjx
            cases hjx
      have hcount : ((List.range ops.size).filter fun j => !(L.setIfInBounds i true).getD j true).length ≤ fuel := by
        have := unl_lt ops.size L hL hi1 hi2; omega
      have hset : ∀ j, j ≠ i → (L.setIfInBounds i true).getD j true = L.getD j true := fun j hji => by simp [Array.getD_eq_getD_getElem?, Array.getElem?_setIfInBounds_ne (Ne.symm hji)]
      have hseti : (L.setIfInBounds i true).getD i true = true := by simp [Array.getD, hL, hi1]
      have htl' : ∀ j, m ≤ j → j < ops.size → (L.setIfInBounds i true).getD j true = false := fun j h1 h2 => by rw [hset j (by omega)]; exact htl j h1 h2
      unfold wpOp
      rw [getD_some hi1]
      have htmp : ∀ (T' : Nat → Ob) (β2 : Nat → Value) (y : Value) (w' : World), (∀ p v, Rep (Im I0 w0.heap.size T β w) T β w p v → Rep (Im I0 w0.heap.size T' β2 w') T' β2 w' p v) → Rep (Im I0 w0.heap.size T' β2 w') T' β2 w' (R.getD i undefV) y →
          ∀ j dj, j < m → (L.setIfInBounds i true).getD j true = true → (ops.getD j default).dst = some dj → Rep (Im I0 w0.heap.size T' β2 w') T' β2 w' (R.getD j undefV) ((a.put (ops.getD i default).dst y).tmps.getD dj undef) := by
        intro T' β2 y w' htr hx j dj hj hlj hdj
        by_cases hji : j = i
        · subst hji
          rw [hdj]
          have : dj < a.tmps.size := by rw [hr.size]; exact (hcd dj hdj).1
          simpa [Act.put, Array.getD, this] using hx
        · have e1 : (a.put (ops.getD i default).dst y).tmps.getD dj undef = a.tmps.getD dj undef := put_ne fun d hd e => (hcd d hd).2.2 j hj hji (by rw [hdj, e])
          rw [e1]
          rw [hset j hji] at hlj
          exact htr _ _ (hl j dj hj hlj hdj)
      have rest : lookR es i = none → One P N ops Q st T R i →
          if Region.wanted (ops.getD i default) (yielded ops a.tmps) = true then (ops.getD i default).wp P a w (fun a' w' => wpAny P .any ops (lift N I0 w0 Q) fuel (L.setIfInBounds i true) a' w') (lift N I0 w0 Q) ∨ ((ops.getD i default).asks P a w ∧ LetsOut (lift N I0 w0 Q))
          else wpAny P .any ops (lift N I0 w0 Q) fuel (L.setIfInBounds i true) (a.put (ops.getD i default).dst undef) w := by
        intro hne hone'
        have hnext : ∀ (y : Value) (w' : World), Below w.heap.size w w' → Rep (Im I0 w0.heap.size T β w') T β w' (R.getD i undefV) y →
            wpAny P .any ops (lift N I0 w0 Q) fuel (L.setIfInBounds i true) (a.put (ops.getD i default).dst y) w' := by
          intro y w' hb hy
          refine ih _ β _ _ T (by simpa using hL) hcount htl' ?_ ((hr.world hb).putO' (st := ⟨st.env, T⟩) fun d hd => (hcd d hd).2.1) hah' (htmp T β y w' (fun p v h => rep_world hb h) hy)
          rw [hcT]
          exact tabM_congr fun p hp => (hset _ (lookR_none hne p hp)).symm
        rcases hone' with ⟨hw, hy⟩ | ⟨hw, hx⟩
        · have h1 := wanted_of hs' hw
          simp only [h1, if_true]
          exact hy I0 w0 β a w hs' _ hnext
        · have h1 := off_of hs' hw
          simp only [h1, Bool.false_eq_true, if_false]
          exact hnext undef w (Below.refl _ w) (by rw [hx]; exact .v undef)
      have hlis : ∀ ed ∈ (ops.getD i default).after.toList, Region.binds .any ed = true → L.getD ed.on true = true ∧ ed.on < m := fun ed hed hb => by
        have hlt := h5 ed hed hb
        have hs : ed.on < L.size := by omega
        refine ⟨?_, by omega⟩
        have := hi3 ed hed hb
        simpa [Array.getD, hs] using this
      have hfor : ∀ j, waits ops j i i = true → L.getD j true = true := fun j hj => waits_listed (fun q hq => (hc q hq).2.1) hah i i hlis hj
      have hnot : ∀ e, e < m → waits ops i e e = true → L.getD e true = false := fun e he hw => by
        cases hle : L.getD e true
        · rfl
        · have := waits_listed (fun q hq => (hc q hq).2.1) hah e e (fun ed hed hb => ⟨hah _ he hle ed hed hb, Nat.lt_trans ((hc _ he).2.1 ed hed hb) he⟩) hw
          rw [hi2] at this; cases this
      have hkn : ∀ p ∈ es, kn ops i p.1 (L.getD p.1 true) = L.getD p.1 true := fun p hp => by
        simp only [kn, Bool.cond_eq_ite]
        by_cases h7 : waits ops p.1 i i = true
        · rw [if_pos h7, hfor _ h7]
        · rw [if_neg h7]
          by_cases h8 : (p.1 == i || waits ops i p.1 p.1) = true
          · rw [if_pos h8]
            simp only [Bool.or_eq_true, beq_iff_eq] at h8
            rcases h8 with h8 | h8
            · rw [h8, hi2]
            · exact (hnot _ (hem p hp) h8).symm
          · rw [if_neg h8]
      have hTk : tabK ops i st.T es (fun e => L.getD e true) = T := by rw [hcT]; exact tabM_congr hkn
      rcases hone i him with ⟨j, o, k, hlk, hall⟩ | ⟨hne, hst⟩
      · obtain ⟨hw, hy⟩ := hall fun e => L.getD e true
        rw [hTk] at hw hy
        obtain ⟨ea, eb, hes⟩ := lookR_some hlk
        rw [hes] at hinc
        obtain ⟨hu1, hu2⟩ := effChk_mid hinc
        have hT' : eff1 T j o k = tabM st.T es fun e => (L.setIfInBounds i true).getD e true := by
          rw [hcT, hes, ← tabM_set (m := fun e => L.getD e true) hi2 hu1 fun p hp q h1 h2 => hnot _ (hem p (by rw [hes]; exact List.mem_append_right _ (.tail _ hp))) (hu2 p hp q h1 h2)]
          refine tabM_congr fun p hp => ?_
          simp only [setMk]
          by_cases hpi : p.1 = i
          · rw [hpi, hseti]; simp
          · rw [hset _ hpi]; simp [hpi]
        have h1 := wanted_of hs' hw
        simp only [h1, if_true]
        refine hy I0 w0 β a w hs' _ fun y w' β2 hb htr hO hx => ?_
        refine ih _ β2 _ _ (eff1 T j o k) (by simpa using hL) hcount htl' hT' ?_ hah' (htmp _ β2 y w' htr hx)
        have hr2 : Rel N I0 w0 ⟨st.env, eff1 T j o k⟩ β2 a w' :=
          ⟨hr.old, hr.size, hr.defers, fun t x hx => htr _ _ (hr.env t x hx), hO, hb⟩
        exact hr2.putO' fun d hd => (hcd d hd).2.1
      · refine rest hne ?_
        have := hst fun e => L.getD e true
        rw [hTk] at this
        exact this
def ADrP (P : Program) (N : Nat) (ops : Array Oper) (Q : Exit → ASt → Prop) (st : ASt) (m : Nat) (es : EffR) (E : List (Nat × AV)) (i : Nat) : Prop :=
  drawChk N ops st.env m = true → ∀ R, R.length = i → RelRE ops R E → ADrawP P N ops Q st m es R
section steps
variable {m i d : Nat} {es : EffR} {E : List (Nat × AV)} {x : AV}
theorem dP (h : ∀ m', AYield P N Q (ops.getD i default) ⟨pickE (looks ops (ops.getD i default)) E ++ st.env, tabK ops i st.T es m'⟩ x) (k : ADrP P N ops Q st m es ((d, x) :: E) (i + 1))
    (hd : (ops.getD i default).dst = some d := by rfl) (hi : Nat.blt i m = true := by rfl) (he : lookR es i = none := by rfl) (hg : opAt N ops ⟨pickE (looks ops (ops.getD i default)) E ++ st.env, st.T⟩ i = true := by rfl) : ADrP P N ops Q st m es E i := by
  intro hc R hRl hR
  subst hRl
  have hi := blt_lt hi
  have hp := fun t x => pick_get (st := st) (o := ops.getD R.length default) hR (subL_refl _) (fun j d hj hd => chk_no hc (by omega) hd) (t := t) (x := x)
  refine adrawP_one (.inr ⟨he, fun m' => ?_⟩) (k hc _ (by simp) (rel_snoc hc hR hi hd))
  unfold One
  rw [(take_snoc R x).1, (take_snoc R x).2]
  exact .inl ⟨opAt_mono hg hp, (h m').env_mono hp⟩
theorem dPk (k : ADrP P N ops Q st m es ((d, undefV) :: E) (i + 1))
    (hd : (ops.getD i default).dst = some d := by rfl) (hi : Nat.blt i m = true := by rfl) (hg : offAt N ops ⟨pickE (looks ops (ops.getD i default)) E ++ st.env, st.T⟩ i = true := by rfl) (he : lookR es i = none := by rfl) : ADrP P N ops Q st m es E i := by
  intro hc R hRl hR
  subst hRl
  have hi := blt_lt hi
  have hp := fun t x => pick_get (st := st) (o := ops.getD R.length default) hR (subL_refl _) (fun j d hj hd => chk_no hc (by omega) hd) (t := t) (x := x)
  refine adrawP_one (.inr ⟨he, fun m' => ?_⟩) (k hc _ (by simp) (rel_snoc hc hR hi hd))
  unfold One
  rw [(take_snoc R undefV).1, (take_snoc R undefV).2]
  exact .inr ⟨offAt_mono hg hp, rfl⟩
theorem dPE' {j : Nat} {o : Ob} {k' : Option Nat} (h : ∀ m', AEff P N Q (ops.getD i default) ⟨pickE (looks ops (ops.getD i default)) E ++ st.env, tabK ops i st.T es m'⟩ x (eff1 (tabK ops i st.T es m') j o k')) (k : ADrP P N ops Q st m es ((d, x) :: E) (i + 1))
    (hd : (ops.getD i default).dst = some d := by rfl) (hi : Nat.blt i m = true := by rfl) (he : lookR es i = some (j, o, k') := by rfl) (hg : opAt N ops ⟨pickE (looks ops (ops.getD i default)) E ++ st.env, st.T⟩ i = true := by rfl) : ADrP P N ops Q st m es E i := by
  intro hc R hRl hR
  subst hRl
  have hi := blt_lt hi
  have hp := fun t x => pick_get (st := st) (o := ops.getD R.length default) hR (subL_refl _) (fun j d hj hd => chk_no hc (by omega) hd) (t := t) (x := x)
  refine adrawP_one (.inl ⟨j, o, k', he, fun m' => ?_⟩) (k hc _ (by simp) (rel_snoc hc hR hi hd))
  rw [(take_snoc R x).1, (take_snoc R x).2]
  exact ⟨opAt_mono hg hp, (h m').env_mono hp⟩
theorem dPS' {j : Nat} {o : Ob} {k' : Option Nat} (h : ∀ m', AEff P N Q (ops.getD i default) ⟨pickE (looks ops (ops.getD i default)) E ++ st.env, tabK ops i st.T es m'⟩ x (eff1 (tabK ops i st.T es m') j o k')) (k : ADrP P N ops Q st m es E (i + 1))
    (hd : (ops.getD i default).dst = none := by rfl) (hi : Nat.blt i m = true := by rfl) (he : lookR es i = some (j, o, k') := by rfl) (hg : opAt N ops ⟨pickE (looks ops (ops.getD i default)) E ++ st.env, st.T⟩ i = true := by rfl) : ADrP P N ops Q st m es E i := by
  intro hc R hRl hR
  subst hRl
  have hi := blt_lt hi
  have hp := fun t x => pick_get (st := st) (o := ops.getD R.length default) hR (subL_refl _) (fun j d hj hd => chk_no hc (by omega) hd) (t := t) (x := x)
  refine adrawP_one (x := x) (.inl ⟨j, o, k', he, fun m' => ?_⟩) (k hc (R ++ [x]) (by simp) (rel_none hR hd))
  rw [(take_snoc R x).1, (take_snoc R x).2]
  exact ⟨opAt_mono hg hp, (h m').env_mono hp⟩
theorem dPE {j : Nat} {o : Ob} (h : ∀ m', AEff P N Q (ops.getD i default) ⟨pickE (looks ops (ops.getD i default)) E ++ st.env, tabK ops i st.T es m'⟩ x (upd (tabK ops i st.T es m') j o)) (k : ADrP P N ops Q st m es ((d, x) :: E) (i + 1))
    (hd : (ops.getD i default).dst = some d := by rfl) (hi : Nat.blt i m = true := by rfl) (he : lookR es i = some (j, o, none) := by rfl) (hg : opAt N ops ⟨pickE (looks ops (ops.getD i default)) E ++ st.env, st.T⟩ i = true := by rfl) : ADrP P N ops Q st m es E i := dPE' (k' := none) h k hd hi he hg
theorem dPE2 {j q : Nat} {o : Ob} (h : ∀ m', AEff P N Q (ops.getD i default) ⟨pickE (looks ops (ops.getD i default)) E ++ st.env, tabK ops i st.T es m'⟩ x (upd (upd (tabK ops i st.T es m') q .dead) j o)) (k : ADrP P N ops Q st m es ((d, x) :: E) (i + 1))
    (hd : (ops.getD i default).dst = some d := by rfl) (hi : Nat.blt i m = true := by rfl) (he : lookR es i = some (j, o, some q) := by rfl) (hg : opAt N ops ⟨pickE (looks ops (ops.getD i default)) E ++ st.env, st.T⟩ i = true := by rfl) : ADrP P N ops Q st m es E i := dPE' (k' := some q) h k hd hi he hg
theorem dPS {j : Nat} {o : Ob} (h : ∀ m', AEff P N Q (ops.getD i default) ⟨pickE (looks ops (ops.getD i default)) E ++ st.env, tabK ops i st.T es m'⟩ x (upd (tabK ops i st.T es m') j o)) (k : ADrP P N ops Q st m es E (i + 1))
    (hd : (ops.getD i default).dst = none := by rfl) (hi : Nat.blt i m = true := by rfl) (he : lookR es i = some (j, o, none) := by rfl) (hg : opAt N ops ⟨pickE (looks ops (ops.getD i default)) E ++ st.env, st.T⟩ i = true := by rfl) : ADrP P N ops Q st m es E i := dPS' (k' := none) h k hd hi he hg
theorem dPn (h : AOps P N ops Q (List.range' m (ops.size - m)) ⟨E ++ st.env, tabM st.T es fun _ => true⟩) (hi : i = m := by rfl) : ADrP P N ops Q st m es E i := by
  intro hc R hRl hR
  obtain ⟨R', g1, g2, s, g3, g4⟩ := dn (eff := some (0, tabM st.T es fun _ => true)) (st := st) (E := E) h hi hc R hRl hR
  subst hi
  have hR' : R' = [] := by
    have := g1; rw [List.length_append] at this
    exact List.eq_nil_of_length_eq_zero (by omega)
  subst hR'
  exact ⟨[], g1, fun j h1 h2 => by omega, s, g3, g4⟩
theorem dPg {g t : Nat} {b want : Bool} (h1 : b = true → ADrP P N ops Q st m es ((t, .v (.bool true)) :: E) i) (h2 : b = false → ADrP P N ops Q st m es ((t, .v (.bool false)) :: E) i)
    (hg : (ops.getD i default).guard = some (g, want) := by rfl) (ht : (ops.getD g default).dst = some t := by rfl) (hv : get E t = some (.v (.bool b)) := by rfl) (_hn : NL b := by (fail_if_success exact NL.isT); (fail_if_success exact NL.isF); exact NL.any _) : ADrP P N ops Q st m es E i := by
  intro hc R hRl hR
  have key : ∀ c, b = c → RelRE ops R ((t, .v (.bool c)) :: E) := by
    rintro c rfl
    refine ⟨fun j d hj hd => ?_, fun q y hy => ?_⟩
    · simp only [get]
      by_cases htd : t = d
      · rw [if_pos htd]; subst htd
        have := hR.1 j t hj hd
        rw [hv] at this; exact this
      · rw [if_neg htd]; exact hR.1 j d hj hd
    · simp only [get] at hy
      by_cases htq : t = q
      · subst htq; exact hR.2 t _ hv
      · rw [if_neg htq] at hy; exact hR.2 q y hy
  cases hb : b
  · exact h2 hb hc R hRl (key false hb)
  · exact h1 hb hc R hRl (key true hb)
theorem y_lit0E {o : Oper} {T1 : Nat → Ob} {t e s : Nat} (m : Nat) (ho : o.op = .buildSlice t 0 #[] := by rfl) (ht : elOf P t = some (e, s) := by rfl) (hm : st.T m = .no := by rfl) (hT1 : upd st.T m (.live e s []) = T1 := by rfl) : AEff P N Q o st (.own m) T1 := by
  subst hT1
  intro I0 w0 β a w hr K' hK
  obtain ⟨hu, bb, hs⟩ := elOf_el ht
  obtain ⟨h1, h2⟩ := hr.row (i := m) (e := e) (s := s) (es := []) hm (n := 0) rfl (Nat.zero_le _) (cells := #[]) (by simp) (by simp) (by simp)
  have hrun : (execOp a.eval o).run P w = .ok (.value (.slice (some ⟨w.heap.size, 0, none⟩) 0 0)) (w.alloc (.cells #[] e)) := by
    simp [execOp, ho, Instr.buildSlice, run_underlying hu, (szOf_run hs w).1, newRow, Instr.fill, Array.range_zero']
  refine .inl ?_
  simp only [Oper.wp, hrun, Oper.upon]
  exact hK _ _ _ h1.below h2 h1.objs (.own m _ (by simp [upd]) fun e s es he => by simp [updV])
theorem y_appE {o : Oper} {x : AV} {T1 : Nat → Ob} {t e s by_ j : Nat} {z1 z2 : Operand} {z : List AV} {es es2 : List (List AV)} (m : Nat) (hbd : (es.length + es2.length) * by_ ≤ 140737488355328) (hm63 : es.length + es2.length ≤ 9223372036854775807) (hok : ∀ c ∈ es2, ∀ y ∈ c, cok1 st.T y = true)
    (ho : o.op = .call ⟨.builtin .append, #[z1, z2], #[t, t]⟩ := by rfl) (ht : elOf P t = some (e, s) := by rfl) (hz : zcells P e = some z := by rfl) (hby : byOf P e = some by_ := by rfl)
    (h1 : ev st z1 = some (.own j) := by rfl) (hT : st.T j = .live e s es := by rfl) (h2 : ev st z2 = some x := by rfl) (hs : srcA st x = some es2 := by rfl) (hsz : sizA st s x = true := by rfl) (hm : st.T m = .no := by rfl)
    (hT1 : upd (upd st.T j .dead) m (.live e s (es ++ es2)) = T1 := by rfl) : AEff P N Q o st (.own m) T1 := by
  subst hT1
  intro I0 w0 β a w hr K' hK
  obtain ⟨hu, hsb⟩ := elOf_el ht
  obtain ⟨info, zv, g1, g2, g3, g4, g5⟩ := ea_info hsb hz hby
  obtain ⟨ad, c, news, q1, q2, q3, q4, q5, q6, q7⟩ := src_val hr h2 hs hsz hok
  obtain ⟨p1, xs, p2, p3⟩ := hr.objs.obj j e s es hT
  have hv1 : a.eval z1 = β j := by
    have h := hr.ev h1
    generalize a.eval z1 = y at h
    cases h with
    | own _ _ _ hx => exact hx e s es hT
  obtain ⟨v', w', r1, r2, r3, r4⟩ := run_app (P := P) (w := w) w0.heap.size t o.type e info zv s by_ hu g1 g2 g3 g4 g5 (β j) es.length xs p2 ad es2.length c q2 news q4 q5 q6 (by simp only [maxLen]; omega) hbd hr.below.size
  have hes : ∀ y ∈ es ++ es2, y.length = s := fun y hy => (List.mem_append.1 hy).elim (p1 y) (q3 y)
  obtain ⟨n1, n2⟩ := hr.newObj (w' := w') (i' := m) (e := e) (s := s) (es' := es ++ es2) hm (β j).ownBlock (some j) (fun i2 h => by cases h; exact ⟨e, s, es, hT, rfl⟩) (by simp) r3 (y := v') (xs := xs ++ news) (by rw [List.length_append]; exact r2) r4 hes
    (fun q p hp => by
      rw [flat_app] at hp
      have hxl : xs.length = es.flatten.length := by rw [p2.1, flat_len p1]
      rcases Nat.lt_or_ge q es.flatten.length with hj | hj
      · rw [List.getElem?_append_left hj] at hp
        rw [List.getElem?_append_left (by omega)]
        exact p3 q p hp
      · rw [List.getElem?_append_right hj] at hp
        rw [List.getElem?_append_right (by omega), hxl]
        exact q7 _ p hp)
  have hrun : (execOp a.eval o).run P w = .ok (.value v') w' := by
    simp [execOp, ho, resolve, invoke, builtin, hv1, q1, r1]
  refine .inl ?_
  simp only [Oper.wp, hrun, Oper.upon]
  exact hK _ _ _ n1.below n2 n1.objs (.own m _ (by simp [upd]) fun e s es he => by simp [updV])
theorem aw_drawP {id : Nat} (m : Nat) (es : EffR) (h : ADrP P N ops Q st m es [] 0) (hchk : drawChk N ops st.env m = true := by rfl)
    (he : effChk ops es = true := by rfl) (hl : (es.all fun p => Nat.blt p.1 m) = true := by rfl) (hm : P.follows .mixedOrders = true := by rfl) : AWp P N (.region id ops true) Q st := by
  obtain ⟨R, h1, h2, s, h3, h4⟩ := h hchk [] rfl ⟨fun j d hj => by simp at hj, fun t x hx => by simp [get] at hx⟩
  have hem : ∀ p ∈ es, p.1 < m := fun p hp => blt_lt (List.all_eq_true.1 hl p hp)
  intro I0 w0 β a w hr
  refine wp_region_any hm ?_
  have hr' : Rel N I0 w0 st β a { w with drawn := w.drawn + 1 } := hr.world (Below.refl _ w).drew
  have hm' : m ≤ ops.size := by simp only [drawChk, Bool.and_eq_true] at hchk; simpa using hchk.1.1
  have hrep : ∀ j, j < ops.size → (Array.replicate ops.size false).getD j true = false := fun j hj => by simp [Array.getD, hj]
  refine adrawP_sound (R := R) hchk he hem (by simpa using h1) (fun i hi => by simpa using h2 i (Nat.zero_le _) hi) (by simpa using h3) h4 _ _ β _ _ st.T (by simp) ?_ (fun i _ h => hrep i h) ?_ hr' (fun e he hl => ?_) ?_
  · exact Nat.le_trans (List.length_filter_le _ _) (by simp)
  · funext q
    exact (tabM_none fun p hp _ => hrep _ (by have := hem p hp; omega)).symm
  · rw [hrep e (by omega)] at hl; cases hl
  · intro i d hi hl _
    rw [hrep i (by omega)] at hl; cases hl
end steps
end
end Go.Proofs.Ytbmldjcddpblnaa.AW
namespace Go.Proofs.Ytbmldjcddpblnaa.AW
open Go Go.RowKit
section
variable {P : Program} {N : Nat} {Q : Exit → ASt → Prop} {st : ASt} {I0 : Nat → Prop} {w0 : World} {β : Nat → Value} {a : Act} {w : World} {ops : Array Oper}
theorem flat_one {es : List (List AV)} (h : ∀ x ∈ es, x.length = 1) {j : Nat} {p : AV} (hj : es.flatten[j]? = some p) : es[j]? = some [p] := by
  obtain ⟨k, r, c, rfl, hr, hk, hc⟩ := flat_inv h hj
  have hr0 : r = 0 := by omega
  subst hr0
  have hcl := h c (List.mem_of_getElem? hk)
  obtain ⟨q, rfl⟩ := List.length_eq_one_iff.1 hcl
  simp at hc
  subst hc
  simpa using hk
theorem one_flat {es : List (List AV)} (h : ∀ x ∈ es, x.length = 1) {j : Nat} {p : AV} (hj : es[j]? = some [p]) : es.flatten[j]? = some p := by
  have := flat_get (c := [p]) (r := 0) (y := p) h hj rfl
  simpa using this
def cpd (es es2 : List (List AV)) (k : Nat) : List (List AV) := es.take k ++ es2 ++ es.drop (k + es2.length)
theorem copy_core {t e j k g cp cd ty : Nat} {z2 : Operand} {x : AV} {es es2 : List (List AV)} {yd : Value} (hr : Rel N I0 w0 st β a w) (hT : st.T j = .live e 1 es) (ht : elOf P t = some (e, 1)) (hβ : β j = .slice (some ⟨g, 0, none⟩) es.length cp)
    (hyd : yd = .slice (some ⟨g, k, none⟩) (es.length - k) cd) (h2 : ev st z2 = some x) (hs : srcA st x = some es2) (hsz : sizA st 1 x = true) (hok : ∀ c ∈ es2, ∀ y ∈ c, cok1 st.T y = true) (hl : k + es2.length ≤ es.length) :
    ∃ w', (Builtin.copy_ #[t, t] ty #[yd, a.eval z2]).run P w = .ok (goInt es2.length) w' ∧ Rel N I0 w0 ⟨st.env, upd st.T j (.live e 1 (cpd es es2 k))⟩ β a w' := by
  obtain ⟨hu, bb, hsz1⟩ := elOf_el ht
  have hinf : (P.info? e).map (·.size) = some 1 := szOf_info hsz1
  obtain ⟨ad, c, news, q1, q2, q3, q4, q5, q6, q7⟩ := src_val hr h2 hs hsz hok
  obtain ⟨p1, xs, p2, p3⟩ := hr.objs.obj j e 1 es hT
  have hnl : news.length = es2.length := by omega
  have hxl : xs.length = es.length := by have := p2.1; omega
  rw [q1, hyd]
  by_cases h0 : es2.length = 0
  · have hes : es2 = [] := List.eq_nil_of_length_eq_zero h0
    subst hes
    refine ⟨w, ?_, ?_⟩
    · exact run_copy_none w t t ty e _ _ _ _ _ _ hu hinf (by simp)
    · have h3 : cpd es [] k = es := by simp [cpd]
      rw [h3]
      have : upd st.T j (.live e 1 es) = st.T := by
        funext q; simp only [upd]; split
        · rename_i h; rw [h]; exact hT.symm
        · rfl
      rw [this]; exact hr
  · obtain ⟨b, rfl⟩ : ∃ b, ad = some b := by
      cases ad with
      | none => exact absurd (q2 rfl).1 h0
      | some b => exact ⟨b, rfl⟩
    rw [hβ] at p2
    obtain ⟨g', cap', cur, fr, hh, hb, hg, hfr, hnc, hcm, hcs, htake⟩ := p2.2.resolve_left (by rintro ⟨hh, _⟩; cases hh)
    simp at hh
    obtain ⟨rfl, rfl⟩ := hh
    have hfit : k + news.length ≤ cur.size := by rw [hcs]; omega
    have hcell : ∀ q, q < news.length → w.cell? ⟨g, k + q, none⟩ = cur[k + q]? := fun q hq => cell_of_row w g (k + q) cur e fr hg
    have hrun := run_copy_cells (P := P) w t t ty e g k (es.length - k) cd b es2.length c news hu hinf (by rw [hnl]; exact (Nat.min_eq_left (by omega)).symm) (q5 b rfl)
      (fun q hq => by rw [hcell q hq, Array.getElem?_eq_getElem (by omega)]; rfl)
      (fun q hq => by
        simp only [World.frozen?, hg]
        rcases hfr with ⟨h1, h2⟩ | h
        · simp [h2]
        · have : ¬ fr.1 ≤ k + q := by omega
          simp [this]) q6
    rw [hnl] at hrun
    rw [setCells_row g e fr news k cur w hg hfit] at hrun
    refine ⟨_, hrun, ?_⟩
    have hlen : es.length = (cpd es es2 k).length := by simp [cpd]; omega
    have hes1 : ∀ y ∈ cpd es es2 k, y.length = 1 := by
      intro y hy
      simp only [cpd, List.mem_append] at hy
      rcases hy with (hy | hy) | hy
      · exact p1 y (List.mem_of_mem_take hy)
      · exact q3 y hy
      · exact p1 y (List.mem_of_mem_drop hy)
    refine hr.turn (es' := cpd es es2 k) hT (xs := xs.take k ++ news ++ xs.drop (k + news.length)) ?_ ?_ hlen hes1 ?_
    · rw [hβ]; exact ⟨rfl, rfl, rfl, by simp [World.setRow], fun q _ hq => setRow_other w g q _ (fun e => hq (by simp [Value.ownBlock, e]))⟩
    · rw [hβ, ← hlen]
      have hcl : xs.length ≤ cur.toList.length := by
        have h1 : cur.toList.length = cp * 1 := by simpa using hcs
        omega
      refine ⟨?_, .inr ⟨g, cp, _, fr, rfl, hb, setRow_heap w g cur _ e _ hg, ?_, hnc, hcm, ?_, ?_⟩⟩
      · simp only [List.length_append, List.length_take, List.length_drop]; omega
      · have e1 : (cur.toList.take k ++ news ++ cur.toList.drop (k + news.length)).toArray.size = cur.size := by
          simp only [List.size_toArray, List.length_append, List.length_take, List.length_drop, Array.length_toList] at hcl ⊢; omega
        rw [e1]; exact hfr
      · simp only [List.size_toArray, List.length_append, List.length_take, List.length_drop, Array.length_toList] at hcl ⊢; omega
      · apply List.ext_getElem?
        intro q
        rw [mid_get xs news (by omega) rfl, Nat.mul_one]
        by_cases hq : q < es.length
        · rw [List.getElem?_take_of_lt hq, mid_get cur.toList news (by omega) rfl]
          have : xs[q]? = cur.toList[q]? := by rw [← htake, List.getElem?_take_of_lt (by omega)]
          rw [this]
        · rw [List.getElem?_eq_none (by simp; omega), if_neg (by omega), if_neg (by omega), List.getElem?_eq_none (by omega)]
    · intro q p hp
      have h1 := flat_one hes1 hp
      rw [cpd, mid_get es es2 hl rfl] at h1
      rw [mid_get xs news (by omega) rfl]
      by_cases hk : q < k
      · rw [if_pos hk] at h1 ⊢
        exact p3 q p (one_flat p1 h1)
      · rw [if_neg hk] at h1 ⊢
        by_cases hk2 : q < k + es2.length
        · rw [if_pos hk2] at h1
          rw [if_pos (by omega)]
          exact q7 _ p (one_flat q3 h1)
        · rw [if_neg hk2] at h1
          rw [if_neg (by omega)]
          exact p3 q p (one_flat p1 h1)
section steps
variable {i : Nat} {l : List Nat} {d : Nat} {x : AV}
theorem cpo {t e j : Nat} {z1 z2 : Operand} {es es2 : List (List AV)} (hl : es2.length ≤ es.length) (hne : 0 < es.length) (hok : ∀ c ∈ es2, ∀ y ∈ c, cok1 st.T y = true)
    (k : AOps P N ops Q l (ASt.mk ((d, .v (.int .i64 (es2.length : Int))) :: st.env) (upd st.T j (.live e 1 (cpd es es2 0)))))
    (ho : (ops.getD i default).op = .call ⟨.builtin .copy, #[z1, z2], #[t, t]⟩ := by rfl) (h1 : ev st z1 = some (.own j) := by rfl) (hT : st.T j = .live e 1 es := by rfl) (h2 : ev st z2 = some x := by rfl) (hs : srcA st x = some es2 := by rfl) (hsz : sizA st 1 x = true := by rfl)
    (ht : elOf P t = some (e, 1) := by rfl) (hi : Nat.blt i ops.size = true := by rfl) (hg : opAt N ops st i = true := by rfl) (hd : (ops.getD i default).dst = some d := by rfl) (hN : Nat.blt d N = true := by rfl) : AOps P N ops Q (i :: l) st := by
  refine st2 ?_ hi hg
  intro I0 w0 β a w hr K' hK
  have hv1 : a.eval z1 = β j := by
    have h := hr.ev h1
    generalize a.eval z1 = y at h
    cases h with
    | own _ _ _ hx => exact hx e 1 es hT
  obtain ⟨p1, xs, p2, p3⟩ := hr.objs.obj j e 1 es hT
  obtain ⟨g, cap, cur, fr, hh, _⟩ := p2.2.resolve_left (by rintro ⟨_, hh⟩; omega)
  obtain ⟨w', r1, r2⟩ := copy_core (k := 0) (ty := (ops.getD i default).type) (yd := a.eval z1) hr hT ht hh (by rw [Nat.sub_zero, ← hh]; exact hv1) h2 hs hsz hok (by omega)
  have hrun : (execOp a.eval (ops.getD i default)).run P w = .ok (.value (goInt es2.length)) w' := by
    unfold execOp
    rw [ho]
    simp [-Array.getD_eq_getD_getElem?, resolve, invoke, builtin, r1]
  refine .inl ?_
  simp only [Oper.wp, hrun, Oper.upon, hd]
  exact hK _ β _ w' (r2.put (blt_lt hN) (.v _)) k
theorem cps {i1 i2 d1 d2 d3 t e j kn : Nat} {kk : IntKind} {z1 z2 zq : Operand} {es es2 : List (List AV)} (hl : kn + es2.length ≤ es.length) (hlt : kn < es.length) (hok : ∀ c ∈ es2, ∀ y ∈ c, cok1 st.T y = true)
    (k : AOps P N ops Q l (ASt.mk ((d3, .v (.int .i64 (es2.length : Int))) :: (d2, x) :: wipe d1 st.env) (upd st.T j (.live e 1 (cpd es es2 kn)))))
    (hd : (ops.getD i default).dst = some d1 := by rfl) (hd1 : (ops.getD i1 default).dst = some d2 := by rfl) (hd2 : (ops.getD i2 default).dst = some d3 := by rfl)
    (ho : (ops.getD i default).op = .slice t z1 (some zq) none none := by rfl) (h1 : ev st z1 = some (.own j) := by rfl) (hq : ev st zq = some (.v (.int kk (kn : Int))) := by rfl) (hT : st.T j = .live e 1 es := by rfl)
    (ho1 : (ops.getD i1 default).op = .move z2 := by rfl) (h2 : ev ⟨wipe d1 st.env, st.T⟩ z2 = some x := by rfl)
    (ho2 : (ops.getD i2 default).op = .call ⟨.builtin .copy, #[.tmp d1, .tmp d2], #[t, t]⟩ := by rfl) (hs : srcA st x = some es2 := by rfl) (hsz : sizA st 1 x = true := by rfl)
    (ht : elOf P t = some (e, 1) := by rfl) (hi : Nat.blt i ops.size = true := by rfl) (hi1 : Nat.blt i1 ops.size = true := by rfl) (hi2 : Nat.blt i2 ops.size = true := by rfl)
    (hg : (ops.getD i default).guard = none := by rfl) (hg1 : (ops.getD i1 default).guard = none := by rfl) (hg2 : (ops.getD i2 default).guard = none := by rfl)
    (hN : Nat.blt d1 N = true := by rfl) (hN1 : Nat.blt d2 N = true := by rfl) (hN2 : Nat.blt d3 N = true := by rfl) (h12 : Nat.beq d1 d2 = false := by rfl) : AOps P N ops Q (i :: i1 :: i2 :: l) st := by
  intro I0 w0 β a w hr
  obtain ⟨hu, bb, hsz1⟩ := elOf_el ht
  have hne12 : d1 ≠ d2 := fun e => by rw [e] at h12; simp at h12
  have hv1 : a.eval z1 = β j := by
    have h := hr.ev h1
    generalize a.eval z1 = y at h
    cases h with
    | own _ _ _ hx => exact hx e 1 es hT
  obtain ⟨p1, xs, p2, p3⟩ := hr.objs.obj j e 1 es hT
  obtain ⟨g, cap, cur, fr, hh, hb, hgg, hfr, hnc, hrest⟩ := p2.2.resolve_left (by rintro ⟨_, hh⟩; omega)
  have hq' : a.eval zq = .int kk (kn : Int) := (hr.ev hq).v_inv
  have hkl : (kn : Int) ≤ (es.length : Int) := by omega
  have hkl2 : ¬ es.length < kn := by omega
  have hkl3 : kn ≤ es.length := by omega
  have hck : ¬ cap = kn := by omega
  have hrun : (execOp a.eval (ops.getD i default)).run P w = .ok (.value (.slice (some ⟨g, kn, none⟩) (es.length - kn) (cap - kn))) w := by
    unfold execOp
    rw [ho]
    simp [Instr.sliceAt, run_underlying hu, Instr.slice, hv1, hh, Instr.sliceBounds, (szOf_run hsz1 w).1, hq', Instr.sliceBound, asIntOf, hkl, hkl2, hkl3, hck, Addr.add_lit]
  have hw1 : ∀ t x, get (wipe d1 st.env) t = some x → t ≠ d1 ∧ get st.env t = some x := fun t x h => wipe_get h
  have hr1 : Rel N I0 w0 ⟨wipe d1 st.env, st.T⟩ β (a.put (some d1) (.slice (some ⟨g, kn, none⟩) (es.length - kn) (cap - kn))) w := by
    refine ⟨hr.old, by simpa [Act.put] using hr.size, hr.defers, fun t x hx => ?_, hr.objs, hr.below⟩
    obtain ⟨h3, h4⟩ := hw1 t x hx
    have e1 : (a.put (some d1) (.slice (some ⟨g, kn, none⟩) (es.length - kn) (cap - kn))).tmps.getD t undef = a.tmps.getD t undef := by simp [Act.put, Array.getD_eq_getD_getElem?, Array.getElem?_setIfInBounds_ne (Ne.symm h3)]
    rw [e1]; exact hr.env t x h4
  have hsize : (a.put (some d1) (.slice (some ⟨g, kn, none⟩) (es.length - kn) (cap - kn))).tmps.size = N := hr1.size
  generalize ha1 : a.put (some d1) (.slice (some ⟨g, kn, none⟩) (es.length - kn) (cap - kn)) = a1 at hr1 hsize
  have hr2 : Rel N I0 w0 ⟨(d2, x) :: wipe d1 st.env, st.T⟩ β (a1.put (some d2) (a1.eval z2)) w := hr1.put (st := ⟨wipe d1 st.env, st.T⟩) (blt_lt hN1) (hr1.ev h2)
  have hd1v : a1.tmps.getD d1 undef = .slice (some ⟨g, kn, none⟩) (es.length - kn) (cap - kn) := by
    have : d1 < a.tmps.size := by rw [hr.size]; exact blt_lt hN
    rw [← ha1]; simp [Act.put, Array.getD, this]
  generalize ha2 : a1.put (some d2) (a1.eval z2) = a2 at hr2
  have hd1v2 : a2.eval (.tmp d1) = .slice (some ⟨g, kn, none⟩) (es.length - kn) (cap - kn) := by
    show a2.tmps.getD d1 undef = _
    rw [← ha2, ← hd1v]; simp [Act.put, Array.getD_eq_getD_getElem?, Array.getElem?_setIfInBounds_ne (Ne.symm hne12)]
  obtain ⟨w', r1, r2⟩ := copy_core (st := ⟨(d2, x) :: wipe d1 st.env, st.T⟩) (k := kn) (ty := (ops.getD i2 default).type) (z2 := .tmp d2) (x := x) hr2 hT ht hh hd1v2 (by simp [ev, get]) hs hsz hok hl
  have hrun2 : (execOp a2.eval (ops.getD i2 default)).run P w = .ok (.value (goInt es2.length)) w' := by
    unfold execOp
    rw [ho2]
    have r1' := r1
    simp [-Array.getD_eq_getD_getElem?, hd1v2, resolve, invoke, builtin] at r1' ⊢
    simp [-Array.getD_eq_getD_getElem?, r1']
  have hfin : wpOps P ops (lift N I0 w0 Q) l (a2.put (some d3) (goInt es2.length)) w' := k I0 w0 β _ w' (r2.put (st := ⟨(d2, x) :: wipe d1 st.env, upd st.T j (.live e 1 (cpd es es2 kn))⟩) (blt_lt hN2) (.v _))
  have hop : ∀ q, Nat.blt q ops.size = true → ops[q]? = some (ops.getD q default) := fun q hq => getD_some (blt_lt hq)
  simp only [wpOps, hop i hi, Region.wanted, hg, if_true]
  refine .inl ?_
  simp only [Oper.wp, hrun, Oper.upon, hd, ha1]
  simp only [wpOps, hop i1 hi1, Region.wanted, hg1, if_true]
  refine .inl ?_
  have hrun1 : (execOp a1.eval (ops.getD i1 default)).run P w = .ok (.value (a1.eval z2)) w := by unfold execOp; rw [ho1]; rfl
  simp only [hrun1, Oper.upon, hd1, ha2]
  simp only [wpOps, hop i2 hi2, Region.wanted, hg2, if_true]
  refine .inl ?_
  simp only [hrun2, Oper.upon, hd2]
  exact hfin
end steps
end
end Go.Proofs.Ytbmldjcddpblnaa.AW
