/- What the statements' walks need. -/
import Derived.Test.YtnjihhheiiapnaaGreatMTa2
import Derived.Laws.BytesArg
import Derived.Laws.IdiomCopy
import Derived.Laws.Pointers
import Derived.Lib.ConvBytes
set_option linter.unusedVariables false
set_option linter.unusedSimpArgs false
set_option maxRecDepth 100000
namespace Go.Proofs.YtnjihhheiiapnaaGreat.AW
open Go Go.RowKit
inductive Fz (r : Nat → Nat) (T T' : Nat → Ob) : AV → AV → Prop
  | same (x : AV) : NoOwn x → Fz r T T' x x
  | nil (s : Nat) : Fz r T T' (.v (.slice none 0 0)) (.sl s [])
  | agg (l l' : List AV) : l.length = l'.length → (∀ (j : Nat) (a b : AV), l[j]? = some a → l'[j]? = some b → Fz r T T' a b) → Fz r T T' (.agg l) (.agg l')
  | tup (l l' : List AV) : l.length = l'.length → (∀ (j : Nat) (a b : AV), l[j]? = some a → l'[j]? = some b → Fz r T T' a b) → Fz r T T' (.tup l) (.tup l')
  | clo (f : Nat) (l l' : List AV) : l.length = l'.length → (∀ (j : Nat) (a b : AV), l[j]? = some a → l'[j]? = some b → Fz r T T' a b) → Fz r T T' (.clo f l) (.clo f l')
  | own (i j : Nat) : r j = i → T' j ≠ .no → Fz r T T' (.own i) (.own j)
  | ptr (i j k q : Nat) : r j = i → T' j ≠ .no → Fz r T T' (.ptr i k q) (.ptr j k q)
  | sl (i e s : Nat) (es es' : List (List AV)) : T i = .live e s es → (∀ j e s es, T' j = .live e s es → r j ≠ i) → es.length = es'.length → (∀ c ∈ es', c.length = s) →
      (∀ (j : Nat) (a b : AV), es.flatten[j]? = some a → es'.flatten[j]? = some b → Fz r T T' a b) → Fz r T T' (.own i) (.sl s es')
def FzL (r : Nat → Nat) (T T' : Nat → Ob) : List AV → List AV → Prop
  | [], [] => True
  | x :: xs, y :: ys => Fz r T T' x y ∧ FzL r T T' xs ys
  | _, _ => False
theorem FzL.get {r : Nat → Nat} {T T' : Nat → Ob} : ∀ {l l' : List AV}, FzL r T T' l l' → l.length = l'.length ∧ ∀ (j : Nat) (a b : AV), l[j]? = some a → l'[j]? = some b → Fz r T T' a b
  | [], [], _ => ⟨rfl, by simp⟩
  | x :: xs, y :: ys, ⟨h1, h2⟩ => by
    obtain ⟨h3, h4⟩ := FzL.get h2
    refine ⟨by simp [h3], fun j a b ha hb => ?_⟩
    cases j with
    | zero => simp at ha hb; subst ha; subst hb; exact h1
    | succ j => exact h4 j a b (by simpa using ha) (by simpa using hb)
  | [], _ :: _, h => h.elim
  | _ :: _, [], h => h.elim
theorem fzL_all {r : Nat → Nat} {T T' : Nat → Ob} : ∀ {l : List AV}, (∀ x ∈ l, NoOwn x) → FzL r T T' l l
  | [], _ => trivial
  | x :: xs, h => ⟨.same x (h x (.head _)), fzL_all fun y hy => h y (.tail _ hy)⟩
theorem fz_agg {r : Nat → Nat} {T T' : Nat → Ob} {l l' : List AV} (h : FzL r T T' l l') : Fz r T T' (.agg l) (.agg l') := .agg l l' h.get.1 h.get.2
theorem fz_tup {r : Nat → Nat} {T T' : Nat → Ob} {l l' : List AV} (h : FzL r T T' l l') : Fz r T T' (.tup l) (.tup l') := .tup l l' h.get.1 h.get.2
theorem fz_v {r : Nat → Nat} {T T' : Nat → Ob} (x : Value) : Fz r T T' (.v x) (.v x) := .same _ (.v x)
theorem fz_own {r : Nat → Nat} {T T' : Nat → Ob} {i j : Nat} (h : r j = i) (hT : T' j ≠ .no) : Fz r T T' (.own i) (.own j) := .own i j h hT
theorem fz_rows {r : Nat → Nat} {T T' : Nat → Ob} {i e s : Nat} {es es' : List (List AV)} (hT : T i = .live e s es) (hn : ∀ j e s es, T' j = .live e s es → r j ≠ i) (hl : es.length = es'.length) (hs0 : ∀ c ∈ es, c.length = s) (hs : ∀ c ∈ es', c.length = s)
    (h : ∀ (q : Nat) (c c' : List AV), es[q]? = some c → es'[q]? = some c' → FzL r T T' c c') : Fz r T T' (.own i) (.sl s es') := by
  refine .sl i e s es es' hT hn hl hs fun j a b ha hb => ?_
  obtain ⟨k, t, c', rfl, ht, hk, hct⟩ := flat_inv hs hb
  have hk' : k < es.length := by have := (List.getElem?_eq_some_iff.1 hk).1; omega
  have htl : t < es[k].length := by rw [hs0 _ (List.getElem_mem hk')]; exact ht
  rw [flat_get hs0 (List.getElem?_eq_getElem hk') (List.getElem?_eq_getElem htl)] at ha
  cases ha
  exact (h k _ _ (List.getElem?_eq_getElem hk') hk).get.2 t _ _ (List.getElem?_eq_getElem htl) hct
theorem fz_flat {r : Nat → Nat} {T T' : Nat → Ob} {i e s : Nat} {es : List (List AV)} (hT : T i = .live e s es) (hn : ∀ j e s es, T' j = .live e s es → r j ≠ i) (hs : ∀ c ∈ es, c.length = s) (h : ∀ c ∈ es, ∀ x ∈ c, NoOwn x) : Fz r T T' (.own i) (.sl s es) :=
  fz_rows hT hn rfl hs hs fun q c c' hc hc' => by
    rw [hc] at hc'; cases hc'
    exact fzL_all (h c (List.mem_of_getElem? hc))
structure FzT (r : Nat → Nat) (T T' : Nat → Ob) : Prop where
  live : ∀ j e s es', T' j = .live e s es' → ∃ es, T (r j) = .live e s es ∧ es.length = es'.length ∧ ∀ (q : Nat) (c c' : List AV), es[q]? = some c → es'[q]? = some c' → FzL r T T' c c'
  no : ∀ j, T' j ≠ .no → T (r j) ≠ .no
  inj : ∀ i j, T' i ≠ .no → T' j ≠ .no → r i = r j → i = j
def FzE (r : Nat → Nat) (T T' : Nat → Ob) (e : List (Nat × AV)) : List (Nat × AV) → Prop
  | [] => True
  | (t, y) :: l => (∃ x, get e t = some x ∧ Fz r T T' x y) ∧ FzE r T T' e l
theorem FzE.get {r : Nat → Nat} {T T' : Nat → Ob} {e : List (Nat × AV)} : ∀ {l : List (Nat × AV)}, FzE r T T' e l → ∀ t y, get l t = some y → ∃ x, get e t = some x ∧ Fz r T T' x y
  | [], _, t, y, h => by simp [AW.get] at h
  | (k, v) :: l, hh, t, y, h => by
    simp only [AW.get] at h
    by_cases hk : k = t
    · rw [if_pos hk] at h; cases h; exact hk ▸ hh.1
    · rw [if_neg hk] at h; exact FzE.get hh.2 t y h
section
variable {P : Program} {N : Fr} {Q : Exit → ASt → Prop} {st : ASt} {I0 : Dom} {w0 : World} {β : Nat → Value} {a : Act} {w : World}
theorem im_fz {B : Nat} {r : Nat → Nat} {T T' : Nat → Ob} (hT : FzT r T T') (b : Nat) (h : Im I0 B T β w b) : Im I0 B T' (fun j => β (r j)) w b :=
  ⟨h.1, h.2.1, fun j e s es' hj => by obtain ⟨es, h1, _⟩ := hT.live j e s es' hj; exact h.2.2 _ e s es h1⟩
theorem rep_fz {B : Nat} {r : Nat → Nat} {T T' : Nat → Ob} (hO : Objs I0 B T β w) (hT : FzT r T T') {x y : AV} (h : Fz r T T' x y) : ∀ {v : Value}, Rep (Im I0 B T β w) T β w x v → Rep (Im I0 B T' (fun j => β (r j)) w) T' (fun j => β (r j)) w y v := by
  induction h with
  | same x hx => exact fun h => (h.mono (fun b hb => ⟨im_fz hT b hb, fun o => rfl⟩) fun i hi => ⟨hi, fun e s es' h' => ⟨rfl, es', h', rfl⟩⟩).noOwn hx
  | nil s => exact fun hv => by rw [hv.v_inv]; exact .emp s none 0 fun _ => rfl
  | agg l l' hl _ ih =>
    intro v h
    cases h with
    | agg _ cs hc hr =>
      refine .agg l' cs (by omega) fun j p u hp hu => ?_
      have hlt : j < l.length := by rw [hl]; exact (List.getElem?_eq_some_iff.1 hp).1
      exact ih j _ p (List.getElem?_eq_getElem hlt) hp (hr j _ u (List.getElem?_eq_getElem hlt) hu)
  | tup l l' hl _ ih =>
    intro v h
    cases h with
    | tup _ cs hc hr =>
      refine .tup l' cs (by omega) fun j p u hp hu => ?_
      have hlt : j < l.length := by rw [hl]; exact (List.getElem?_eq_some_iff.1 hp).1
      exact ih j _ p (List.getElem?_eq_getElem hlt) hp (hr j _ u (List.getElem?_eq_getElem hlt) hu)
  | clo f l l' hl _ ih =>
    intro v h
    cases h with
    | clo _ _ cs hc hr =>
      refine .clo f l' cs (by omega) fun j p u hp hu => ?_
      have hlt : j < l.length := by rw [hl]; exact (List.getElem?_eq_some_iff.1 hp).1
      exact ih j _ p (List.getElem?_eq_getElem hlt) hp (hr j _ u (List.getElem?_eq_getElem hlt) hu)
  | own i j hr hj =>
    intro v h
    cases h with
    | own _ _ hn hx =>
      refine .own j v hj fun e s es' he => ?_
      obtain ⟨es, h1, _⟩ := hT.live j e s es' he
      subst hr
      exact hx e s es h1
  | ptr i j k q hr hj =>
    intro v h
    cases h with
    | ptr _ _ _ _ hn hx =>
      refine .ptr j k q v hj fun e s es' he => ?_
      obtain ⟨es, h1, h2, _⟩ := hT.live j e s es' he
      subst hr
      rw [← h2]
      exact hx e s es h1
  | sl i e s es es' hi hn hl hs _ ih =>
    intro v hv
    cases hv with
    | own _ _ hno hx =>
      have := hx e s es hi
      subst this
      obtain ⟨h1, xs, h2, h3⟩ := hO.obj i e s es hi
      have hfl : es.flatten.length = es'.flatten.length := by rw [flat_len h1, flat_len hs, hl]
      rcases h2.2 with ⟨hh, h0⟩ | ⟨g, cap, cur, fr, hh, hb, hg, _, hnc, _⟩
      · have : es' = [] := List.eq_nil_of_length_eq_zero (by omega)
        subst this
        rw [hh]; exact .emp s none 0 fun _ => rfl
      · have hIm : Im I0 B T' (fun j => β (r j)) w g := by
          refine ⟨.inr hb, (Array.getElem?_eq_some_iff.1 hg).1, fun j e' s' es2 hj hbj => ?_⟩
          obtain ⟨es3, h4, _⟩ := hT.live j e' s' es2 hj
          exact hn j _ _ _ hj (hO.inj _ _ _ _ _ _ _ _ g h4 hi hbj (by rw [hh]; rfl))
        rw [hh, hl]
        rw [hh] at h2
        refine .sl s es' g 0 cap (fun j => (xs[j]?).getD undef) hIm (by omega) hs (fun j p hp => ?_) (fun j p hp => ?_)
        · have hlt : j < es.flatten.length := by rw [hfl]; exact (List.getElem?_eq_some_iff.1 hp).1
          have hc := h2.cellAt j (by rw [← flat_len h1]; exact hlt)
          obtain ⟨u, hu, _⟩ := h3 j _ (List.getElem?_eq_getElem hlt)
          rw [Nat.zero_add, hc, hu]; rfl
        · have hlt : j < es.flatten.length := by rw [hfl]; exact (List.getElem?_eq_some_iff.1 hp).1
          obtain ⟨u, hu, hr⟩ := h3 j _ (List.getElem?_eq_getElem hlt)
          simp only [hu, Option.getD_some]
          exact ih j _ p (List.getElem?_eq_getElem hlt) hp hr
theorem Objs.fz {B : Nat} {r : Nat → Nat} {T T' : Nat → Ob} (hT : FzT r T T') (h : Objs I0 B T β w) : Objs I0 B T' (fun j => β (r j)) w := by
  refine ⟨fun j e s es' hj => ?_, fun i e s es j e' s' es' b hi hj hbi hbj => ?_⟩
  · obtain ⟨es, h1, h2, h3⟩ := hT.live j e s es' hj
    obtain ⟨a1, xs, a2, a3⟩ := h.obj _ e s es h1
    have hlen : ∀ c' ∈ es', c'.length = s := by
      intro c' hc'
      obtain ⟨q, hq, rfl⟩ := List.getElem_of_mem hc'
      have hq' : q < es.length := by omega
      rw [← (h3 q _ _ (List.getElem?_eq_getElem hq') (List.getElem?_eq_getElem hq)).get.1]
      exact a1 _ (List.getElem_mem hq')
    refine ⟨hlen, xs, by rw [← h2]; exact a2, fun q y hy => ?_⟩
    obtain ⟨k, t, c', rfl, ht, hk, hct⟩ := flat_inv hlen hy
    have hk' : k < es.length := by have := (List.getElem?_eq_some_iff.1 hk).1; omega
    have hrl := h3 k _ _ (List.getElem?_eq_getElem hk') hk
    have htl : t < es[k].length := by rw [a1 _ (List.getElem_mem hk')]; exact ht
    obtain ⟨u, hu, hr⟩ := a3 _ _ (flat_get a1 (List.getElem?_eq_getElem hk') (List.getElem?_eq_getElem htl))
    exact ⟨u, hu, rep_fz h hT (hrl.get.2 t _ _ (List.getElem?_eq_getElem htl) hct) hr⟩
  · obtain ⟨es1, h1, _⟩ := hT.live _ _ _ _ hi
    obtain ⟨es2, h2, _⟩ := hT.live _ _ _ _ hj
    exact hT.inj i j (by rw [hi]; simp) (by rw [hj]; simp) (h.inj _ _ _ _ _ _ _ _ b h1 h2 hbi hbj)
theorem ent_fz (r : Nat → Nat) {l : List (Nat × AV)} {T' : Nat → Ob} (hT : FzT r st.T T') (h : FzE r st.T T' st.env l) (hz : pinOk N.z r T' = true := by rfl) : Ent N st ⟨l, T'⟩ := by
  intro I0 w0 β a w hr
  refine ⟨fun j => β (r j), hr.old, hr.size, hr.defers, fun t y hy => ?_, hr.objs.fz hT, hr.below, hr.step, hr.base, hr.pins_ren hz⟩
  obtain ⟨x, hx, hxy⟩ := h.get t y hy
  exact rep_fz hr.objs hT hxy (hr.env t x hx)
theorem Ok.fz {f : Nat} {args : List AV} {R R' : AV → (Nat → Ob) → Prop} (h : Ok P f args R) (hs : ∀ x T, R x T → ∃ r T' y, R' y T' ∧ FzT r T T' ∧ Fz r T T' x y) : Ok P f args R' := by
  intro I0 w vs hI hvs
  refine (h I0 w vs hI hvs).mono ?_
  rintro en w' (hF | ⟨v, x, T, β, rfl, hR, h2, h3, h4⟩)
  · exact hF.elim
  · obtain ⟨r, T', y, r1, r2, r3⟩ := hs x T hR
    exact .inr ⟨v, y, T', _, rfl, r1, h2, h3.fz r2, rep_fz h3 r2 r3 h4⟩
end
end Go.Proofs.YtnjihhheiiapnaaGreat.AW
namespace Go.Proofs.YtnjihhheiiapnaaGreat.AW
open Go Go.RowKit
def byteRow (ns : List Int) : List (List AV) := ns.map fun n => [.v (.int .u8 n)]
@[simp] theorem len_bytes (ns : List Int) : (byteRow ns).length = ns.length := by simp [byteRow]
theorem bytes_get {ns : List Int} {k : Nat} {x : Int} (h : ns[k]? = some x) : (byteRow ns)[k]? = some [.v (.int .u8 x)] := by simp [byteRow, h]
theorem bytes_set (ns : List Int) (k : Nat) (x : Int) : (byteRow ns).set k [.v (.int .u8 x)] = byteRow (ns.set k x) := by simp [byteRow, List.map_set]
theorem bytes_flat (ns : List Int) : (byteRow ns).flatten = ns.map fun n => .v (.int .u8 n) := by
  induction ns with
  | nil => rfl
  | cons n ns ih => simp only [byteRow, List.map_cons, List.flatten_cons] at ih ⊢; rw [ih]; rfl
theorem bytes_zero (n : Nat) : List.replicate n [AV.v (.int .u8 0)] = byteRow (List.replicate n 0) := by simp [byteRow]
theorem cok_bytes (T : Nat → Ob) (ns : List Int) : ∀ c ∈ byteRow ns, ∀ y ∈ c, cok1 T y = true := by
  intro c hc x hx
  simp only [byteRow, List.mem_map] at hc
  obtain ⟨n, _, rfl⟩ := hc
  simp only [List.mem_singleton] at hx
  subst hx; rfl
def numsOf (s : ByteArray) : List Int := s.data.toList.map fun b => (b.toNat : Int)
@[simp] theorem len_numsOf (s : ByteArray) : (numsOf s).length = s.size := by simp [numsOf]
section
variable {P : Program} {N : Fr} {Q : Exit → ASt → Prop} {st : ASt} {I0 : Dom} {w0 : World} {β : Nat → Value} {a : Act} {w : World}
section ops
variable {o : Oper} {K : ASt → Prop} {d : Nat} {x y : AV}
theorem y_bstr {z : Operand} {t t' e : Nat} (ns : List Int) (hs : srcA st x = some (byteRow ns)) (ho : o.op = .convert t t' z := by rfl) (hz : ev st z = some x := by rfl) (hsz : sizA st 1 x = true := by rfl)
    (ht : P.underlying t = some (.slice e) := by rfl) (he : P.underlying e = some (.int .u8) := by rfl) (ht' : P.underlying t' = some .string := by rfl) : AYield P N Q o st (.v (.string (strOfNums ns))) :=
  AYield.still fun I0 w0 β a w hr => by
    obtain ⟨ad, c, news, q1, q2, q3, q4, q5, q6, q7⟩ := src_val hr hz hs hsz (cok_bytes _ ns)
    rw [len_bytes] at q1 q2
    have hn : news = ns.map (Value.int .u8) := by
      apply List.ext_getElem?
      intro j
      rw [List.getElem?_map]
      cases hj : ns[j]? with
      | none =>
        have : ns.length ≤ j := List.getElem?_eq_none_iff.1 hj
        rw [List.getElem?_eq_none (by rw [q4]; simpa using this)]; rfl
      | some n =>
        obtain ⟨u, hu, hr'⟩ := q7 j (.v (.int .u8 n)) (by rw [bytes_flat, List.getElem?_map, hj]; rfl)
        rw [hu, hr'.v_inv]; rfl
    refine ⟨.string (strOfNums ns), ?_, .v _⟩
    cases ad with
    | none =>
      have h0 : ns = [] := List.eq_nil_of_length_eq_zero (by simpa using (q2 rfl).1)
      subst h0
      have := run_convert_bytes_nil (P := P) w t e ht he ([] : List Int).length c t' ht'
      simp only [List.length_nil] at this q1
      have h2 : strOfNums [] = ByteArray.empty := rfl
      simp [execOp, ho, q1, this, h2]
    | some b =>
      have hl : (loadCells b ns.length).run P w = .ok (ns.map (Value.int .u8)).toArray w := by
        have := run_loadCells_list (P := P) w b (ns.map (Value.int .u8)) (by rw [← hn]; exact q5 b rfl)
        simpa using this
      have h1 : (convert t t' (.slice (some b) ns.length c)).run P w = .ok (.string (strOfNums ns)) w := by
        rw [run_convert_bytes_string w t t' e _ _ c ht he ht', run_bytesToString w _ _ c ns hl, foldl_push_bytes]
        simp [strOfNums, ByteArray.empty, ByteArray.emptyWithCapacity]
        rfl
      simp [execOp, ho, q1, h1]
theorem grown_bytes (w : World) (e : Nat) (s : ByteArray) : w.grownBy (Lib.bytesWorld w e s) none :=
  ⟨rfl, rfl, rfl, by rw [Lib.bytesWorld_size]; omega, fun k hk _ => Lib.bytesWorld_at_old w e s k hk⟩
theorem op_strb {z : Operand} {t t' e : Nat} {s : ByteArray} (i : Nat) (hi : st.T i = .no) (hsz : s.size < 1099511627776) (hd : o.dst = some d) (hN : Nat.blt d N = true)
    (K1 : K (ASt.mk ((d, .own i) :: st.env) (upd st.T i (.live e 1 (byteRow (numsOf s))))))
    (ho : o.op = .convert t t' z := by rfl) (hz : ev st z = some (.v (.string s)) := by rfl)
    (ht : P.underlying t = some .string := by rfl) (ht' : P.underlying t' = some (.slice e) := by rfl) (he : P.underlying e = some (.int .u8) := by rfl) : AOp P N o K Q st := by
  intro I0 w0 β a w hr K' hK
  have h0 := (hr.ev hz).v_inv
  have hrun := Lib.run_convert_string_bytes (P := P) w t t' e s ht ht' he
  have hge := grownCap_ge w s.size 0 e
  have hcs : (Lib.bytesCells w e s).size = grownCap w s.size 0 e := by
    simp only [Lib.bytesCells, Array.size_append, Array.size_map, Array.size_replicate]
    have : s.data.size = s.size := rfl
    omega
  have hcl : (Lib.bytesCells w e s).toList.take s.size = (numsOf s).map (Value.int .u8) := by
    simp only [Lib.bytesCells, Array.toList_append, Array.toList_map]
    rw [List.take_append_of_le_length (by simp), List.take_of_length_le (by simp)]
    simp [numsOf]
  obtain ⟨n1, n2⟩ := hr.newObj (w' := Lib.bytesWorld w e s) (i' := i) (e := e) (s := 1) (es' := byteRow (numsOf s)) hi none none (by simp) (by simp) (grown_bytes w e s)
    (y := .slice (some ⟨w.heap.size, 0, none⟩) s.size (grownCap w s.size 0 e)) (xs := (numsOf s).map (Value.int .u8))
    (by
      refine ⟨by simp, .inr ⟨w.heap.size, _, _, _, by simp, .inl hr.base, Lib.bytesWorld_at_new w e s, .inr (Nat.le_refl _), by simpa using hge, grownCap_le_maxLen w s.size 0 e (by simp only [maxLen]; omega), by rw [hcs, Nat.mul_one], ?_⟩⟩
      simpa using hcl)
    (fun b hb => by simp [Value.ownBlock] at hb; exact .inr (by omega)) (by intro c hc; simp only [byteRow, List.mem_map] at hc; obtain ⟨n, _, rfl⟩ := hc; rfl)
    (fun j p hp => by
      rw [bytes_flat, List.getElem?_map] at hp
      cases hj : (numsOf s)[j]? with
      | none => rw [hj] at hp; cases hp
      | some n =>
        rw [hj] at hp; cases hp
        exact ⟨.int .u8 n, by rw [List.getElem?_map, hj]; rfl, .v _⟩)
  have hrun2 : (execOp a.eval o).run P w = .ok (.value (.slice (some ⟨w.heap.size, 0, none⟩) s.size (grownCap w s.size 0 e))) (Lib.bytesWorld w e s) := by
    simp [execOp, ho, h0, hrun]
  refine .inl ?_
  simp only [Oper.wp, hrun2, Oper.upon, hd]
  refine hK _ _ _ _ (n1.put (blt_lt hN) (.own i _ (by simp [upd]) fun e s es he => ?_)) K1
  simp [updV]
theorem y_cuts {z : Operand} {t : Nat} {lo hi : Option Operand} {s : ByteArray} {l h : Nat} (ho : o.op = .slice t z lo hi none) (ht : P.underlying t = some .string) (hz : ev st z = some (.v (.string s)))
    (hl : ∀ q, lo = some q → ∃ k, ev st q = some (.v (.int k (l : Int)))) (hl0 : lo = none → l = 0) (hh : ∀ q, hi = some q → ∃ k, ev st q = some (.v (.int k (h : Int)))) (hh0 : hi = none → h = s.size) (hlh : l ≤ h) (hhe : h ≤ s.size) :
    AYield P N Q o st (.v (.string (s.extract l h))) :=
  AYield.still fun I0 w0 β a w hr => by
    have he := (hr.ev hz).v_inv
    have hb1 : ∀ q, lo = some q → ∃ k, a.eval q = .int k (l : Int) := fun q hq => by obtain ⟨k, hk⟩ := hl q hq; exact ⟨k, (hr.ev hk).v_inv⟩
    have hb2 : ∀ q, hi = some q → ∃ k, a.eval q = .int k (h : Int) := fun q hq => by obtain ⟨k, hk⟩ := hh q hq; exact ⟨k, (hr.ev hk).v_inv⟩
    have hhc : (h : Int) ≤ (s.size : Int) := by omega
    have hlh' : (l : Int) ≤ (h : Int) := by omega
    have hhc2 : ¬ s.size < h := by omega
    have hlh2 : ¬ h < l := by omega
    refine ⟨.string (s.extract l h), ?_, .v _⟩
    cases lo with
    | none =>
      have := hl0 rfl
      subst this
      cases hi with
      | none =>
        have := hh0 rfl
        subst this
        simp [execOp, ho, Instr.sliceAt, run_underlying ht, Instr.slice, he, Instr.sliceBounds]
      | some q2 =>
        obtain ⟨k2, hk2⟩ := hb2 q2 rfl
        simp [execOp, ho, Instr.sliceAt, run_underlying ht, Instr.slice, he, Instr.sliceBounds, hk2, Instr.sliceBound, asIntOf, hhc, hhc2, hhe]
    | some q1 =>
      obtain ⟨k1, hk1⟩ := hb1 q1 rfl
      cases hi with
      | none =>
        have := hh0 rfl
        subst this
        simp [execOp, ho, Instr.sliceAt, run_underlying ht, Instr.slice, he, Instr.sliceBounds, hk1, Instr.sliceBound, asIntOf, hlh', hlh2, hlh]
      | some q2 =>
        obtain ⟨k2, hk2⟩ := hb2 q2 rfl
        simp [execOp, ho, Instr.sliceAt, run_underlying ht, Instr.slice, he, Instr.sliceBounds, hk1, hk2, Instr.sliceBound, asIntOf, hlh', hhc, hhc2, hlh2, hlh, hhe]
end ops
section steps
variable {ops : Array Oper} {i : Nat} {l : List Nat} {d : Nat} {x y : AV}
theorem bs {z : Operand} {t t' e : Nat} (ns : List Int) (k : AOps P N ops Q l (st.put d (.v (.string (strOfNums ns))))) (ho : (ops.getD i default).op = .convert t t' z := by rfl) (hz : ev st z = some x := by rfl) (hsz : sizA st 1 x = true := by rfl)
    (ht : P.underlying t = some (.slice e) := by rfl) (he : P.underlying e = some (.int .u8) := by rfl) (ht' : P.underlying t' = some .string := by rfl) (hi : Nat.blt i ops.size = true := by rfl)
    (hg : opAt N ops st i = true := by rfl) (hd : (ops.getD i default).dst = some d := by rfl) (hN : Nat.blt d N = true := by rfl) (hs : srcA st x = some (byteRow ns)) : AOps P N ops Q (i :: l) st := st1 (y_bstr ns hs ho hz hsz ht he ht') k hi hg hd hN
theorem sb {z : Operand} {t t' e : Nat} {s : ByteArray} (m : Nat) (hm : st.T m = .no) (hsz : s.size < 1099511627776) (k : AOps P N ops Q l (ASt.mk ((d, .own m) :: st.env) (upd st.T m (.live e 1 (byteRow (numsOf s))))))
    (ho : (ops.getD i default).op = .convert t t' z := by rfl) (hz : ev st z = some (.v (.string s)) := by rfl)
    (ht : P.underlying t = some .string := by rfl) (ht' : P.underlying t' = some (.slice e) := by rfl) (he : P.underlying e = some (.int .u8) := by rfl) (hi : Nat.blt i ops.size = true := by rfl)
    (hg : opAt N ops st i = true := by rfl) (hd : (ops.getD i default).dst = some d := by rfl) (hN : Nat.blt d N = true := by rfl) : AOps P N ops Q (i :: l) st := st2 (op_strb m hm hsz hd hN k ho hz ht ht' he) hi hg
theorem mk {t e s : Nat} {zl zc : Operand} {z : List AV} {k1 k2 : IntKind} {n : Int} (m by_ : Nat)
    (k : AOps P N ops Q l (ASt.mk ((d, .own m) :: st.env) (upd st.T m (.live e s (List.replicate n.toNat z)))))
    (ho : (ops.getD i default).op = .makeSlice t zl zc := by rfl) (ht : elOf P t = some (e, s) := by rfl) (hz : zcells P e = some z := by rfl) (hby : byOf P e = some by_ := by rfl)
    (hl : ev st zl = some (.v (.int k1 n)) := by rfl) (hc : ev st zc = some (.v (.int k2 n)) := by rfl) (hi : Nat.blt i ops.size = true := by rfl)
    (hg : opAt N ops st i = true := by rfl) (hd : (ops.getD i default).dst = some d := by rfl) (hN : Nat.blt d N = true := by rfl)
    (hm : st.T m = .no := by rfl) (h0 : 0 ≤ n := by omega) (hbd : by_ * n.toNat ≤ 281474976710656 := by omega) (hle : n.toNat ≤ 9223372036854775807 := by omega) : AOps P N ops Q (i :: l) st := st2 (op_make m hm h0 hbd hle hd hN k ho ht hz hby hl hc) hi hg
end steps
end
end Go.Proofs.YtnjihhheiiapnaaGreat.AW
namespace Go.Proofs.YtnjihhheiiapnaaGreat.AW
open Go Go.RowKit
@[simp] theorem dec_rec (p : Prop) (d : Decidable p) : (Decidable.rec (motive := fun _ => Bool) (fun _ => false) (fun _ => true) d) = @decide p d := by cases d <;> rfl
theorem merge_upd (S T : Nat → Ob) (m e s : Nat) (es : List (List AV)) : mergeT S (upd T m (.live e s es)) = upd (mergeT S T) m (.live e s es) := by
  funext j
  by_cases h : j = m
  · subst h; simp [mergeT, upd]
  · simp [mergeT, upd, h]
theorem merge_noT (S : Nat → Ob) : mergeT S noT = S := by
  funext j; simp [mergeT, noT]
theorem Ok.sh {P : Program} {f : Nat} {args : List AV} {R : AV → (Nat → Ob) → Prop} {y : AV} (h : Ok P f args R) (hs : ∀ x T, R x T → Sh T x y) : Gives P f args y := by
  intro I0 w vs hI hvs
  refine (h I0 w vs hI hvs).mono ?_
  rintro e w' (hF | ⟨v, x, T, β, rfl, h1, h2, h3, h4⟩)
  · exact hF.elim
  · exact .inr ⟨v, y, noT, noβ, rfl, ⟨rfl, rfl⟩, h2, Objs.noT _, (hs x T h1).rep h3 v h4⟩
theorem Ok.mono {P : Program} {f : Nat} {args : List AV} {R R' : AV → (Nat → Ob) → Prop} (h : Ok P f args R) (hs : ∀ x T, R x T → R' x T) : Ok P f args R' := by
  intro I0 w vs hI hvs
  refine (h I0 w vs hI hvs).mono ?_
  rintro e w' (hF | ⟨v, x, T, β, rfl, h1, h2⟩)
  · exact hF.elim
  · exact .inr ⟨v, x, T, β, rfl, hs x T h1, h2⟩
section
variable {P : Program} {N : Fr} {Q : Exit → ASt → Prop} {st : ASt}
theorem y_storeU {o : Oper} {x : AV} {T1 : Nat → Ob} {t n : Nat} {ag : Bool} {zp zv : Operand} {j q r e s : Nat} {es : List (List AV)} {c : List AV} (hq : es[q]? = some c)
    (ho : o.op = .store t zp zv := by rfl) (hd : o.dst = none := by rfl) (ht : szOf P t = some (n, ag) := by rfl)
    (hp : ev st zp = some (.ptr j q r) := by rfl) (hi : st.T j = .live e s es := by rfl) (hv : ev st zv = some x := by rfl) (hn : (cellsA x).length = n := by rfl) (hrs : Nat.ble (r + n) s = true := by rfl)
    (hx : (cellsA x).all (cok1 st.T) = true := by rfl) (hT1 : upd st.T j (.live e s (es.set q (c.take r ++ cellsA x ++ c.drop (r + n)))) = T1 := by rfl) : AEff P N Q o st (.v undef) T1 :=
  y_storeE hT1 hq hx ho hd ht hp hi hv hn hrs
theorem y_storeV {o : Oper} {x : AV} {T1 : Nat → Ob} {t n : Nat} {ag : Bool} {zp zv : Operand} {j r e s : Nat} {c : List AV}
    (ho : o.op = .store t zp zv := by rfl) (hd : o.dst = none := by rfl) (ht : szOf P t = some (n, ag) := by rfl)
    (hp : ev st zp = some (.ptr j 0 r) := by rfl) (hi : st.T j = .live e s [c] := by rfl) (hv : ev st zv = some x := by rfl) (hn : (cellsA x).length = n := by rfl) (hrs : Nat.ble (r + n) s = true := by rfl)
    (hx : (cellsA x).all (cok1 st.T) = true := by rfl) (hT1 : upd st.T j (.live e s [c.take r ++ cellsA x ++ c.drop (r + n)]) = T1 := by rfl) : AEff P N Q o st (.v undef) T1 :=
  y_storeU (es := [c]) (q := 0) (c := c) rfl ho hd ht hp hi hv hn hrs hx hT1
theorem y_litU {o : Oper} {T1 : Nat → Ob} {t e s len : Nat} {parts : Array (Nat × Operand)} {ps : List (Nat × AV)} {z : List AV} (m : Nat)
    (ho : o.op = .buildSlice t len parts := by rfl) (ht : elOf P t = some (e, s) := by rfl) (hz : zcells P e = some z := by rfl) (hps : evps st parts.toList = some ps := by rfl) (hpl : ps.length = len := by rfl)
    (hsm : Nat.ble (len * s) 16777216 = true := by rfl) (hs0 : Nat.blt 0 (len * s) = true := by rfl) (hok : (ps.all fun p => (cellsA p.2).all (cok1 st.T)) = true := by rfl) (hls : (ps.all fun p => (cellsA p.2).length == s) = true := by rfl)
    (hf : fillA (fun i => some (i * s, s)) (List.replicate len z).flatten ps = some (ps.map fun p => cellsA p.2).flatten := by rfl) (hm : st.T m = .no := by rfl) (hT1 : upd st.T m (.live e s (ps.map fun p => cellsA p.2)) = T1 := by rfl) : AEff P N Q o st (.own m) T1 :=
  y_litE m hT1 hm ho ht hz hps hpl hsm hs0 hok hls hf
theorem y_bstrU {o : Oper} {x : AV} {z : Operand} {t t' e : Nat} (ns : List Int) (ho : o.op = .convert t t' z := by rfl) (hz : ev st z = some x := by rfl) (hsz : sizA st 1 x = true := by rfl)
    (ht : P.underlying t = some (.slice e) := by rfl) (he : P.underlying e = some (.int .u8) := by rfl) (ht' : P.underlying t' = some .string := by rfl) (hs : srcA st x = some (byteRow ns) := by rfl) : AYield P N Q o st (.v (.string (strOfNums ns))) :=
  y_bstr ns hs ho hz hsz ht he ht'
theorem y_cutsH {o : Oper} {z q : Operand} {t : Nat} {s : ByteArray} {k : IntKind} {n : Int} (h : Nat) (hhe : h ≤ s.size) (hn : n = (h : Int)) (ho : o.op = .slice t z none (some q) none := by rfl) (ht : P.underlying t = some .string := by rfl) (hz : ev st z = some (.v (.string s)) := by rfl)
    (hq : ev st q = some (.v (.int k n)) := by rfl) : AYield P N Q o st (.v (.string (s.extract 0 h))) :=
  y_cuts ho ht hz (fun q hq => by cases hq) (fun _ => rfl) (fun q' hq' => by cases hq'; exact ⟨k, hn ▸ hq⟩) (fun h => by cases h) (Nat.zero_le _) hhe
theorem y_cutsL {o : Oper} {z q : Operand} {t : Nat} {s : ByteArray} {k : IntKind} {n : Int} (l : Nat) (hle : l ≤ s.size) (hn : n = (l : Int)) (ho : o.op = .slice t z (some q) none none := by rfl) (ht : P.underlying t = some .string := by rfl) (hz : ev st z = some (.v (.string s)) := by rfl)
    (hq : ev st q = some (.v (.int k n)) := by rfl) : AYield P N Q o st (.v (.string (s.extract l s.size))) :=
  y_cuts ho ht hz (fun q' hq' => by cases hq'; exact ⟨k, hn ▸ hq⟩) (fun h => by cases h) (fun q hq => by cases hq) (fun _ => rfl) hle (Nat.le_refl _)
theorem aw_drawU {ops : Array Oper} {id : Nat} (m e j : Nat) (o : Ob) (h : ADr P N ops Q st m (some (e, upd st.T j o)) [] 0) (hchk : drawChk N ops st.env m = true := by rfl) (he : Nat.blt e m = true := by rfl) (hm : P.follows .mixedOrders = true := by rfl) (hnd : noDefer ops = true := by rfl) :
    AWp P N (.region id ops true) Q st := aw_draw m (some (e, upd st.T j o)) h hchk he hm hnd
section steps
variable {ops : Array Oper} {i : Nat} {l : List Nat} {d : Nat} {x y : AV}
theorem cm1 {g : Nat} {caps : List AV} {z : Operand} {xs : Array Operand} {ts : Array TypeId} {ls l' : List AV} {m e s : Nat} {es : List (List AV)} (hok : Ok P g l' fun y T => y = x ∧ T = upd noT m (.live e s es))
    (k : AOps P N ops Q l (ASt.mk ((d, x) :: st.env) (upd st.T m (.live e s es)))) (hm : st.T m = .no := by rfl) (ho : (ops.getD i default).op = .call ⟨.value z, xs, ts⟩ := by rfl)
    (hz : ev st z = some (.clo g caps) := by rfl) (hl : evs st xs.toList = some ls := by rfl) (hl' : ls ++ caps = l' := by rfl) (hg' : goFn P g = true := by rfl) (hno : NoOwnL l' := by simp [NoOwnL]) (hi : Nat.blt i ops.size = true := by rfl)
    (hg : opAt N ops st i = true := by rfl) (hd : (ops.getD i default).dst = some d := by rfl) (hN : Nat.blt d N = true := by rfl) : AOps P N ops Q (i :: l) st :=
  cm hok (by rw [merge_upd, merge_noT]) (fun j hj => by
    simp only [upd, noT] at hj
    by_cases hjm : j = m
    · rw [hjm]; exact hm
    · rw [if_neg hjm] at hj; exact absurd rfl hj) k ho hz hl hl' hg' hno hi hg hd hN
theorem ap1 {t e s by_ j : Nat} {z1 z2 : Operand} {z c : List AV} {es : List (List AV)} (m : Nat)
    (k : AOps P N ops Q l (ASt.mk ((d, .own m) :: st.env) (upd (upd st.T j .dead) m (.live e s (es ++ [c])))))
    (ho : (ops.getD i default).op = .call ⟨.builtin .append, #[z1, z2], #[t, t]⟩ := by rfl) (h1 : ev st z1 = some (.own j) := by rfl) (hT : st.T j = .live e s es := by rfl) (h2 : ev st z2 = some x := by rfl) (hs : srcA st x = some [c] := by rfl) (hsz : sizA st s x = true := by rfl)
    (ht : elOf P t = some (e, s) := by rfl) (hz : zcells P e = some z := by rfl) (hby : byOf P e = some by_ := by rfl) (hb : Nat.ble by_ 127 = true := by rfl) (hok : c.all (cok1 st.T) = true := by rfl)
    (hi : Nat.blt i ops.size = true := by rfl) (hg : opAt N ops st i = true := by rfl) (hd : (ops.getD i default).dst = some d := by rfl) (hN : Nat.blt d N = true := by rfl) (hm : st.T m = .no := by rfl) (hl : es.length < 1099511627776) : AOps P N ops Q (i :: l) st := by
  have hb' : by_ ≤ 127 := by simpa using hb
  refine ap m hm ?_ ?_ ?_ k ho h1 hT h2 hs hsz ht hz hby hi hg hd hN
  · intro c' hc' y hy
    simp only [List.mem_singleton] at hc'
    subst hc'
    exact List.all_eq_true.1 hok y hy
  · have h3 : (es.length + [c].length) * by_ ≤ 1099511627776 * 127 := Nat.mul_le_mul (by simp only [List.length_singleton]; omega) hb'
    omega
  · simp only [List.length_singleton]; omega
end steps
end
end Go.Proofs.YtnjihhheiiapnaaGreat.AW
namespace Go.Proofs.YtnjihhheiiapnaaGreat.AW
open Go Go.RowKit
def tb : List (Nat × Ob) → Nat → Ob
  | [] => noT
  | (i, o) :: l => upd (tb l) i o
theorem tb_keys : ∀ {l : List (Nat × Ob)} {j : Nat}, tb l j ≠ .no → j ∈ l.map (·.1)
  | [], j, h => absurd rfl h
  | (i, o) :: l, j, h => by
    simp only [tb, upd] at h
    by_cases hj : j = i
    · simp [hj]
    · rw [if_neg hj] at h
      exact List.mem_cons_of_mem _ (tb_keys h)
inductive FzAt (r : Nat → Nat) (T T' : Nat → Ob) (j : Nat) : Prop
  | one (e s : Nat) (c c' : List AV) : T (r j) = .live e s [c] → T' j = .live e s [c'] → FzL r T T' c c' → FzAt r T T' j
  | same (e s : Nat) (es : List (List AV)) : T (r j) = .live e s es → T' j = .live e s es → (∀ c ∈ es, ∀ x ∈ c, NoOwn x) → FzAt r T T' j
  | rows (e s : Nat) (es es' : List (List AV)) : T (r j) = .live e s es → T' j = .live e s es' → es.length = es'.length → (∀ (q : Nat) (c c' : List AV), es[q]? = some c → es'[q]? = some c' → FzL r T T' c c') → FzAt r T T' j
  | dead : T' j = .dead → T (r j) ≠ .no → FzAt r T T' j
theorem fzT_of {r : Nat → Nat} {T T' : Nat → Ob} (keys : List Nat) (hk : ∀ j, T' j ≠ .no → j ∈ keys) (h : ∀ j ∈ keys, FzAt r T T' j) (hinj : ∀ i ∈ keys, ∀ j ∈ keys, r i = r j → i = j) : FzT r T T' := by
  refine ⟨fun j e s es' hj => ?_, fun j hj => ?_, fun i j hi hj hij => hinj i (hk i hi) j (hk j hj) hij⟩
  · cases h j (hk j (by rw [hj]; simp)) with
    | one e0 s0 c c' h1 h2 h3 =>
      rw [hj] at h2; cases h2
      refine ⟨[c], h1, rfl, fun q d d' hd hd' => ?_⟩
      cases q with
      | zero => simp at hd hd'; subst hd; subst hd'; exact h3
      | succ q => simp at hd
    | same e0 s0 es h1 h2 h3 =>
      rw [hj] at h2; cases h2
      refine ⟨_, h1, rfl, fun q d d' hd hd' => ?_⟩
      rw [hd] at hd'; cases hd'
      exact fzL_all (h3 d (List.mem_of_getElem? hd))
    | rows e0 s0 es es2 h1 h2 h3 h4 =>
      rw [hj] at h2; cases h2
      exact ⟨_, h1, h3, h4⟩
    | dead h1 => rw [hj] at h1; cases h1
  · cases h j (hk j hj) with
    | one e0 s0 c c' h1 => rw [h1]; simp
    | same e0 s0 es h1 => rw [h1]; simp
    | rows e0 s0 es es2 h1 => rw [h1]; simp
    | dead _ h1 => exact h1
def FzAll (r : Nat → Nat) (T T' : Nat → Ob) : List Nat → Prop
  | [] => True
  | j :: l => FzAt r T T' j ∧ FzAll r T T' l
theorem FzAll.mem {r : Nat → Nat} {T T' : Nat → Ob} : ∀ {l : List Nat}, FzAll r T T' l → ∀ j ∈ l, FzAt r T T' j
  | [], _, j, hj => by cases hj
  | i :: l, ⟨h1, h2⟩, j, hj => by
    rcases List.mem_cons.1 hj with rfl | hj
    · exact h1
    · exact FzAll.mem h2 j hj
theorem fzT_tb {r : Nat → Nat} {T : Nat → Ob} (l : List (Nat × Ob)) (h : FzAll r T (tb l) (l.map (·.1))) (hinj : ((l.map (·.1)).all fun i => (l.map (·.1)).all fun j => !(r i == r j) || i == j) = true := by rfl) : FzT r T (tb l) :=
  fzT_of (l.map (·.1)) (fun j hj => tb_keys hj) (fun j hj => h.mem j hj) fun i hi j hj hij => by
    have := List.all_eq_true.1 (List.all_eq_true.1 hinj i hi) j hj
    simpa [hij] using this
def nm : List (Nat × Nat) → Nat → Nat
  | [], j => j
  | (a, b) :: l, j => if j = a then b else nm l j
section
variable {P : Program} {N : Fr} {Q : Exit → ASt → Prop} {st : ASt}
theorem ent_tb (r : Nat → Nat) (l : List (Nat × Ob)) {e : List (Nat × AV)} (h : FzAll r st.T (tb l) (l.map (·.1))) (he : FzE r st.T (tb l) st.env e)
    (hinj : ((l.map (·.1)).all fun i => (l.map (·.1)).all fun j => !(r i == r j) || i == j) = true := by rfl) (hz : pinOk N.z r (tb l) = true := by rfl) : Ent N st ⟨e, tb l⟩ := ent_fz r (fzT_tb l h hinj) he hz
theorem y_bw {o : Oper} {f : BinOp} {t t' : TypeId} {p q : Operand} {u v : Value} {n : Int} (ho : o.op = .binOp f t p q t' := by rfl) (hp : ev st p = some (.v u) := by rfl) (hq : ev st q = some (.v v) := by rfl)
    (hrun : ∀ w, (do eqGuard f t p q u v; binOp f t u v : Sem Value).run P w = .ok (.int .i64 (IntKind.i64.wrap n)) w := by intro w; rfl) (h : -9223372036854775808 ≤ n ∧ n ≤ 9223372036854775807 := by omega) : AYield P N Q o st (.v (.int .i64 n)) :=
  y_bin64 h ho hp hq hrun
theorem y_bt {o : Oper} {f : BinOp} {t t' : TypeId} {p q : Operand} {u v : Value} {b : Bool} (ho : o.op = .binOp f t p q t' := by rfl) (hp : ev st p = some (.v u) := by rfl) (hq : ev st q = some (.v v) := by rfl)
    (hrun : ∀ w, (do eqGuard f t p q u v; binOp f t u v : Sem Value).run P w = .ok (.bool b) w := by intro w; rfl) (h : b = true := by first | (simp; done) | (simp; omega) | (simp; assumption) | fail) : AYield P N Q o st (.v (.bool true)) :=
  y_bin ho hp hq (h ▸ hrun)
theorem y_bf {o : Oper} {f : BinOp} {t t' : TypeId} {p q : Operand} {u v : Value} {b : Bool} (ho : o.op = .binOp f t p q t' := by rfl) (hp : ev st p = some (.v u) := by rfl) (hq : ev st q = some (.v v) := by rfl)
    (hrun : ∀ w, (do eqGuard f t p q u v; binOp f t u v : Sem Value).run P w = .ok (.bool b) w := by intro w; rfl) (h : b = false := by first | (simp; done) | (simp; omega) | (simp; assumption) | fail) : AYield P N Q o st (.v (.bool false)) :=
  y_bin ho hp hq (h ▸ hrun)
section steps
variable {ops : Array Oper} {i : Nat} {l : List Nat} {d : Nat}
theorem sa {t t' : TypeId} {p q : Operand} {u v : ByteArray} (k : AOps P N ops Q l (st.put d (.v (.string (u ++ v))))) (ho : (ops.getD i default).op = .binOp .add t p q t' := by rfl) (hp : ev st p = some (.v (.string u)) := by rfl)
    (hq : ev st q = some (.v (.string v)) := by rfl) (hi : Nat.blt i ops.size = true := by rfl) (hg : opAt N ops st i = true := by rfl) (hd : (ops.getD i default).dst = some d := by rfl) (hN : Nat.blt d N = true := by rfl)
    (h : u.size + v.size ≤ 9223372036854775807) : AOps P N ops Q (i :: l) st := st1 (y_adds h ho hp hq) k hi hg hd hN
theorem bt {f : BinOp} {t t' : TypeId} {p q : Operand} {u v : Value} {b : Bool} (k : AOps P N ops Q l (st.put d (.v (.bool true)))) (ho : (ops.getD i default).op = .binOp f t p q t' := by rfl) (hp : ev st p = some (.v u) := by rfl) (hq : ev st q = some (.v v) := by rfl)
    (hrun : ∀ w, (do eqGuard f t p q u v; binOp f t u v : Sem Value).run P w = .ok (.bool b) w := by intro w; rfl) (hi : Nat.blt i ops.size = true := by rfl)
    (hg : opAt N ops st i = true := by rfl) (hd : (ops.getD i default).dst = some d := by rfl) (hN : Nat.blt d N = true := by rfl) (h : b = true := by first | (simp; done) | (simp; omega) | (simp; assumption) | fail) : AOps P N ops Q (i :: l) st := st1 (y_bin ho hp hq (h ▸ hrun)) k hi hg hd hN
theorem bf {f : BinOp} {t t' : TypeId} {p q : Operand} {u v : Value} {b : Bool} (k : AOps P N ops Q l (st.put d (.v (.bool false)))) (ho : (ops.getD i default).op = .binOp f t p q t' := by rfl) (hp : ev st p = some (.v u) := by rfl) (hq : ev st q = some (.v v) := by rfl)
    (hrun : ∀ w, (do eqGuard f t p q u v; binOp f t u v : Sem Value).run P w = .ok (.bool b) w := by intro w; rfl) (hi : Nat.blt i ops.size = true := by rfl)
    (hg : opAt N ops st i = true := by rfl) (hd : (ops.getD i default).dst = some d := by rfl) (hN : Nat.blt d N = true := by rfl) (h : b = false := by first | (simp; done) | (simp; omega) | (simp; assumption) | fail) : AOps P N ops Q (i :: l) st := st1 (y_bin ho hp hq (h ▸ hrun)) k hi hg hd hN
end steps
end
end Go.Proofs.YtnjihhheiiapnaaGreat.AW
namespace Go.Proofs.YtnjihhheiiapnaaGreat.AW
open Go Go.RowKit
section
variable {P : Program} {N : Fr} {Q : Exit → ASt → Prop} {st : ASt} {I0 : Dom} {w0 : World} {β : Nat → Value} {a : Act} {w : World}
section ops
variable {o : Oper} {K : ASt → Prop} {d : Nat} {x y : AV}
end ops
section steps
variable {ops : Array Oper} {i : Nat} {l : List Nat} {d : Nat} {x y : AV}
end steps
end
end Go.Proofs.YtnjihhheiiapnaaGreat.AW
namespace Go.Proofs.YtnjihhheiiapnaaGreat.AW
open Go Go.RowKit
section
variable {P : Program} {N : Fr} {Q : Exit → ASt → Prop} {st : ASt} {I0 : Dom} {w0 : World} {β : Nat → Value} {a : Act} {w : World}
section ops
variable {o : Oper} {K : ASt → Prop} {d : Nat} {x y : AV}
theorem y_nilc {z : Operand} {cs : List AV} (ho : o.op = .nilCheck z := by rfl) (hz : ev st z = some (.ip cs) := by rfl) : AYield P N Q o st (.ip cs) :=
  AYield.still fun I0 w0 β a w hr => by
    have h := hr.ev hz
    generalize hy : a.eval z = yv at h
    cases h with
    | ip _ b off vs h1 h2 h3 =>
      refine ⟨_, ?_, .ip cs b off vs h1 h2 h3⟩
      simp [execOp, ho, hy]
theorem y_nilcP {z : Operand} {j q r e s : Nat} {es : List (List AV)} (ho : o.op = .nilCheck z := by rfl) (hz : ev st z = some (.ptr j q r) := by rfl) (hT : st.T j = .live e s es := by rfl) : AYield P N Q o st (.ptr j q r) :=
  AYield.still fun I0 w0 β a w hr => by
    have h := hr.ev hz
    generalize hy : a.eval z = yv at h
    cases h with
    | ptr _ _ _ _ hn hx =>
      obtain ⟨h1, h2, b, n, c, h3, h4⟩ := hx e s es hT
      refine ⟨yv, ?_, .ptr j q r yv hn hx⟩
      simp [execOp, ho, hy, h4]
theorem y_pnil {z : Operand} {t t' e : TypeId} {cs : List AV} (ho : o.op = .binOp .eql t z (.const (.pointer none)) t' := by rfl) (hz : ev st z = some (.ip cs) := by rfl) (ht : P.underlying t = some (.pointer e) := by rfl) : AYield P N Q o st (.v (.bool false)) :=
  AYield.still fun I0 w0 β a w hr => by
    have h := hr.ev hz
    generalize hy : a.eval z = yv at h
    cases h with
    | ip _ b off vs h1 h2 h3 =>
      refine ⟨.bool false, ?_, .v _⟩
      have he : P.pointee t = e := by simp [Program.pointee, ht]
      have hc : a.eval (.const (.pointer none)) = .pointer none := rfl
      have hq := run_equal_pointer_nil (P := P) w t (some ⟨b, off, none⟩) (by rw [he]; exact ht)
      simp [execOp, ho, hy, hc, eqGuard_at_pointer, binOp, hq]
theorem y_pnn {z : Operand} {t t' e : TypeId} (ho : o.op = .binOp .eql t z (.const (.pointer none)) t' := by rfl) (hz : ev st z = some (.v (.pointer none)) := by rfl) (ht : P.underlying t = some (.pointer e) := by rfl) : AYield P N Q o st (.v (.bool true)) :=
  AYield.still fun I0 w0 β a w hr => by
    have h := (hr.ev hz).v_inv
    refine ⟨.bool true, ?_, .v _⟩
    have he : P.pointee t = e := by simp [Program.pointee, ht]
    have hc : a.eval (.const (.pointer none)) = .pointer none := rfl
    have hq := run_equal_pointer_nil (P := P) w t none (by rw [he]; exact ht)
    simp [execOp, ho, h, hc, eqGuard_at_pointer, binOp, hq]
end ops
theorem y_allocU {o : Oper} {t : Nat} {z : Value} {info : TypeInfo} {T1 : Nat → Ob} (j : Nat) (ho : o.op = .alloc t := by rfl) (hinfo : P.info? t = some info := by rfl) (hz : info.zero = some z := by rfl) (hj : st.T j = .no := by rfl)
    (hT1 : upd st.T j (.live t z.cells.size [z.cells.toList.map .v]) = T1 := by rfl) : AEff P N Q o st (.ptr j 0 0) T1 := by
  subst hT1
  intro I0 w0 β a w hr K' hK
  obtain ⟨h1, h2⟩ := hr.row (i := j) (e := t) (s := z.cells.size) (es := [z.cells.toList.map .v]) hj (n := 1) rfl (by decide) (cells := z.cells) (by simp) (by simp) (fun k x hx => by
    simp at hx
    obtain ⟨u, hu, rfl⟩ := hx
    exact ⟨u, hu, .v u⟩)
  have hrun : (execOp a.eval o).run P w = .ok (.value (.pointer (some ⟨w.heap.size, 0, none⟩))) (w.alloc (.cells z.cells t)) := by
    simp [execOp, ho, Instr.alloc, zeroValue, typeInfo, hinfo, hz, newVar, newRow]
  refine .inl ?_
  simp only [Oper.wp, hrun, Oper.upon]
  refine hK _ _ _ h1.held h2 h1.objs ?_
  refine .ptr j 0 0 _ (by simp [upd]) fun e s es he => ?_
  simp only [upd, if_true] at he
  cases he
  refine ⟨by simp, Nat.zero_le _, w.heap.size, 1, 1, by simp [updV], by simp⟩
theorem or_one (a : Int) (h0 : -4611686018427387904 ≤ a) (h1 : a ≤ 4611686018427387903) : IntKind.i64.wrap ((BitVec.ofInt 64 (a * 2) ||| BitVec.ofInt 64 1).toNat : Int) = a * 2 + 1 := by
  have e : (BitVec.ofInt 64 (a * 2) ||| BitVec.ofInt 64 1).toNat = ((a * 2) % 18446744073709551616).toNat + 1 := by
    rw [BitVec.toNat_or, BitVec.toNat_ofInt, show (BitVec.ofInt 64 1).toNat = 1 from rfl]
    obtain ⟨k, hk⟩ : ∃ k : Nat, ((a * 2) % ((2 ^ 64 : Nat) : Int)).toNat = k <<< 1 := ⟨((a * 2) % 18446744073709551616).toNat / 2, by rw [Nat.shiftLeft_eq]; omega⟩
    have h2 := Nat.shiftLeft_add_eq_or_of_lt (a := k) (b := 1) (i := 1) (by decide)
    have h3 : ((a * 2) % 18446744073709551616).toNat = k <<< 1 := hk
    rw [hk, h3, h2]
  rw [e]
  simp only [IntKind.wrap, IntKind.bits, IntKind.signed, Bool.true_and]
  split <;> simp at * <;> omega
section steps
theorem o1 {ops : Array Oper} {i : Nat} {l : List Nat} {d : Nat} {t t' : TypeId} {p q : Operand} {v : Int} (k : AOps P N ops Q l (st.put d (.v (.int .i64 (v * 2 + 1))))) (ho : (ops.getD i default).op = .binOp .or t p q t' := by rfl) (hp : ev st p = some (.v (.int .i64 (v * 2))) := by rfl) (hq : ev st q = some (.v (.int .i64 1)) := by rfl)
    (hi : Nat.blt i ops.size = true := by rfl) (hg : opAt N ops st i = true := by rfl) (hd : (ops.getD i default).dst = some d := by rfl) (hN : Nat.blt d N = true := by rfl) (h : -4611686018427387904 ≤ v ∧ v ≤ 4611686018427387903 := by omega) : AOps P N ops Q (i :: l) st :=
  st1 (y_bin (r := .int .i64 (v * 2 + 1)) ho hp hq fun w => by
    have h2 : (do eqGuard .or t p q (.int .i64 (v * 2)) (.int .i64 1); binOp .or t (.int .i64 (v * 2)) (.int .i64 1) : Sem Value).run P w = .ok (.int .i64 (IntKind.i64.wrap ((BitVec.ofInt 64 (v * 2) ||| BitVec.ofInt 64 1).toNat : Int))) w := rfl
    rw [h2, or_one v h.1 h.2]) k hi hg hd hN
variable {ops : Array Oper} {i : Nat} {l : List Nat} {d : Nat} {x y : AV}
theorem nk {z : Operand} {cs : List AV} (k : AOps P N ops Q l (st.put d (.ip cs))) (ho : (ops.getD i default).op = .nilCheck z := by rfl) (hz : ev st z = some (.ip cs) := by rfl) (hi : Nat.blt i ops.size = true := by rfl)
    (hg : opAt N ops st i = true := by rfl) (hd : (ops.getD i default).dst = some d := by rfl) (hN : Nat.blt d N = true := by rfl) : AOps P N ops Q (i :: l) st := st1 (y_nilc ho hz) k hi hg hd hN
theorem nkp {z : Operand} {j q r e s : Nat} {es : List (List AV)} (k : AOps P N ops Q l (st.put d (.ptr j q r))) (ho : (ops.getD i default).op = .nilCheck z := by rfl) (hz : ev st z = some (.ptr j q r) := by rfl) (hT : st.T j = .live e s es := by rfl) (hi : Nat.blt i ops.size = true := by rfl)
    (hg : opAt N ops st i = true := by rfl) (hd : (ops.getD i default).dst = some d := by rfl) (hN : Nat.blt d N = true := by rfl) : AOps P N ops Q (i :: l) st := st1 (y_nilcP ho hz hT) k hi hg hd hN
theorem pn {z : Operand} {t t' e : TypeId} {cs : List AV} (k : AOps P N ops Q l (st.put d (.v (.bool false)))) (ho : (ops.getD i default).op = .binOp .eql t z (.const (.pointer none)) t' := by rfl) (hz : ev st z = some (.ip cs) := by rfl) (ht : P.underlying t = some (.pointer e) := by rfl) (hi : Nat.blt i ops.size = true := by rfl)
    (hg : opAt N ops st i = true := by rfl) (hd : (ops.getD i default).dst = some d := by rfl) (hN : Nat.blt d N = true := by rfl) : AOps P N ops Q (i :: l) st := st1 (y_pnil ho hz ht) k hi hg hd hN
end steps
end
end Go.Proofs.YtnjihhheiiapnaaGreat.AW
namespace Go.Proofs.YtnjihhheiiapnaaGreat.AW
open Go Go.RowKit
section
variable {P : Program} {N : Fr} {Q : Exit → ASt → Prop} {st : ASt} {I0 : Dom} {w0 : World} {β : Nat → Value} {a : Act} {w : World} {ops : Array Oper}
abbrev Effs := List (Nat × (Nat → Ob))
def ei (es : Effs) (c : Nat) : Nat := (es.getD c (0, noT)).1
end
end Go.Proofs.YtnjihhheiiapnaaGreat.AW
namespace Go.Proofs.YtnjihhheiiapnaaGreat.AW
open Go Go.RowKit
section
variable {P : Program} {N : Fr} {Q : Exit → ASt → Prop} {st : ASt}
def wipe (d : Nat) : List (Nat × AV) → List (Nat × AV)
  | [] => []
  | (k, v) :: e => bif k == d then wipe d e else (k, v) :: wipe d e
theorem wipe_get {d : Nat} : ∀ {e : List (Nat × AV)} {t : Nat} {x : AV}, get (wipe d e) t = some x → t ≠ d ∧ get e t = some x
  | [], t, x, h => by simp [wipe, get] at h
  | (k, v) :: e, t, x, h => by
    simp only [wipe, Bool.cond_eq_ite] at h
    split at h
    · rename_i hk
      obtain ⟨h1, h2⟩ := wipe_get h
      refine ⟨h1, ?_⟩
      have hk : k = d := by simpa using hk
      simp only [get]
      rw [if_neg (by omega)]; exact h2
    · rename_i hk
      simp only [get] at h ⊢
      by_cases hkt : k = t
      · rw [if_pos hkt] at h ⊢
        refine ⟨?_, h⟩
        have hk : k ≠ d := by simpa using hk
        omega
      · rw [if_neg hkt] at h ⊢
        exact wipe_get h
theorem aw_wipe {c : Code} (d : Nat) (h : AWp P N c Q ⟨wipe d st.env, st.T⟩) : AWp P N c Q st :=
  fun I0 w0 β a w hr => h I0 w0 β a w (Rel.env_mono (e := st.env) hr fun t x hx => (wipe_get hx).2)
end
end Go.Proofs.YtnjihhheiiapnaaGreat.AW
namespace Go.Proofs.YtnjihhheiiapnaaGreat.AW
open Go Go.RowKit
section
variable {P : Program} {N : Fr} {Q : Exit → ASt → Prop} {st : ASt} {I0 : Dom} {w0 : World} {β : Nat → Value} {a : Act} {w : World}
theorem Rel.kill (h : Rel N I0 w0 st β a w) {i : Nat} (hi : st.T i ≠ .no) : Rel N I0 w0 ⟨st.env, upd st.T i .dead⟩ β a w ∧ ∀ x v, Rep (Im I0 w0.heap.size st.T β w) st.T β w x v → Rep (Im I0 w0.heap.size (upd st.T i .dead) β w) (upd st.T i .dead) β w x v := by
  have hlive : ∀ j e s es, upd st.T i .dead j = .live e s es → st.T j = .live e s es := by
    intro j e s es hj
    simp only [upd] at hj
    by_cases hji : j = i
    · rw [if_pos hji] at hj; cases hj
    · rw [if_neg hji] at hj; exact hj
  have hI : ∀ b, Im I0 w0.heap.size st.T β w b → Im I0 w0.heap.size (upd st.T i .dead) β w b ∧ ∀ o, w.cell? ⟨b, o, none⟩ = w.cell? ⟨b, o, none⟩ :=
    fun b ⟨h1, h2, h3⟩ => ⟨⟨h1, h2, fun j e s es hj => h3 j _ _ _ (hlive _ _ _ _ hj)⟩, fun o => rfl⟩
  have hT : ∀ j, st.T j ≠ .no → upd st.T i .dead j ≠ .no ∧ ∀ e s es', upd st.T i .dead j = .live e s es' → β j = β j ∧ ∃ es, st.T j = .live e s es ∧ es.length = es'.length := by
    intro j hj
    refine ⟨?_, fun e s es' h' => ⟨rfl, es', hlive _ _ _ _ h', rfl⟩⟩
    simp only [upd]
    split
    · simp
    · exact hj
  have hm : ∀ x v, Rep (Im I0 w0.heap.size st.T β w) st.T β w x v → Rep (Im I0 w0.heap.size (upd st.T i .dead) β w) (upd st.T i .dead) β w x v := fun x v hx => hx.mono hI hT
  refine ⟨⟨h.old, h.size, h.defers, fun t x hx => hm _ _ (h.env t x hx), ⟨?_, ?_⟩, h.below, h.step, h.base, fun j v hj => let ⟨z1, z2, z3⟩ := h.pins j v hj; ⟨z1, (hT j z2).1, z3⟩⟩, hm⟩
  · intro j e s es hj
    obtain ⟨h1, xs, h2, h3⟩ := h.objs.obj j e s es (hlive _ _ _ _ hj)
    exact ⟨h1, xs, h2, fun q x hx => let ⟨v, hv, hr⟩ := h3 q x hx; ⟨v, hv, hm _ _ hr⟩⟩
  · intro p e1 s1 es1 q e2 s2 es2 b hp hq
    exact h.objs.inj _ _ _ _ _ _ _ _ b (hlive _ _ _ _ hp) (hlive _ _ _ _ hq)
theorem Rel.freeze (h : Rel N I0 w0 st β a w) {t i e s : Nat} {es : List (List AV)} (ht : get st.env t = some (.own i)) (hi : st.T i = .live e s es) (hn : ∀ c ∈ es, ∀ x ∈ c, NoOwn x) :
    Rel N I0 w0 ⟨(t, .sl s es) :: st.env, upd st.T i .dead⟩ β a w := by
  obtain ⟨k, hm⟩ := h.kill (i := i) (by rw [hi]; simp)
  refine ⟨k.old, k.size, k.defers, fun q x hx => ?_, k.objs, k.below, k.step, k.base, k.pins⟩
  simp only [get] at hx
  by_cases hq : t = q
  · rw [if_pos hq] at hx
    cases hx
    subst hq
    have hv := h.env t _ ht
    generalize a.tmps.getD t undef = v at hv
    cases hv with
    | own _ _ hno hx =>
      have := hx e s es hi
      subst this
      obtain ⟨h1, xs, h2, h3⟩ := h.objs.obj i e s es hi
      rcases h2.2 with ⟨hh, h0⟩ | ⟨g, cap, cur, fr, hh, hb, hg, _, hnc, _⟩
      · have : es = [] := List.eq_nil_of_length_eq_zero (by omega)
        subst this
        rw [hh]; exact .emp s none 0 fun _ => rfl
      · have hIm : Im I0 w0.heap.size (upd st.T i .dead) β w g := by
          refine ⟨.inr hb, (Array.getElem?_eq_some_iff.1 hg).1, fun j e' s' es2 hj hbj => ?_⟩
          simp only [upd] at hj
          by_cases hji : j = i
          · rw [if_pos hji] at hj; cases hj
          · rw [if_neg hji] at hj
            exact hji (h.objs.inj _ _ _ _ _ _ _ _ g hj hi hbj (by rw [hh]; rfl))
        rw [hh]
        rw [hh] at h2
        refine .sl s es g 0 cap (fun j => (xs[j]?).getD undef) hIm hnc h1 (fun j p hp => ?_) (fun j p hp => ?_)
        · have hlt : j < es.flatten.length := (List.getElem?_eq_some_iff.1 hp).1
          have hc := h2.cellAt j (by rw [← flat_len h1]; exact hlt)
          obtain ⟨u, hu, _⟩ := h3 j _ (List.getElem?_eq_getElem hlt)
          rw [Nat.zero_add, hc, hu]; rfl
        · obtain ⟨u, hu, hr⟩ := h3 j _ hp
          simp only [hu, Option.getD_some]
          exact hm _ _ hr
  · rw [if_neg hq] at hx
    exact k.env q x hx
theorem ent_frz (t : Nat) {i e s : Nat} {es : List (List AV)} (hn : ∀ c ∈ es, ∀ x ∈ c, NoOwn x) (ht : get st.env t = some (.own i) := by rfl) (hi : st.T i = .live e s es := by rfl) : Ent N st ⟨(t, .sl s es) :: st.env, upd st.T i .dead⟩ :=
  fun I0 w0 β a w hr => ⟨β, hr.freeze ht hi hn⟩
theorem fzs {ops : Array Oper} {l : List Nat} (t : Nat) {i e s : Nat} {es : List (List AV)} (hn : ∀ c ∈ es, ∀ x ∈ c, NoOwn x) (k : AOps P N ops Q l ⟨(t, .sl s es) :: st.env, upd st.T i .dead⟩)
    (ht : get st.env t = some (.own i) := by rfl) (hi : st.T i = .live e s es := by rfl) : AOps P N ops Q l st := AOps.ent (st' := ⟨(t, .sl s es) :: st.env, upd st.T i .dead⟩) (ent_frz t hn ht hi) k
section ops
variable {o : Oper}
end ops
section steps
variable {ops : Array Oper} {i : Nat} {l : List Nat} {d : Nat}
end steps
theorem ne_live {o : Ob} {e s : Nat} {es : List (List AV)} (h : o = .live e s es) : o ≠ .no := by rw [h]; simp
end
end Go.Proofs.YtnjihhheiiapnaaGreat.AW
namespace Go.Proofs.YtnjihhheiiapnaaGreat.AW
open Go Go.RowKit
section
variable {P : Program} {N : Fr} {Q : Exit → ASt → Prop} {st : ASt} {I0 : Dom} {w0 : World} {β : Nat → Value} {a : Act} {w : World} {ops : Array Oper}
theorem AEff.frz {o : Oper} {x : AV} {T1 : Nat → Ob} (t : Nat) {i e s : Nat} {es : List (List AV)} (hn : ∀ c ∈ es, ∀ x ∈ c, NoOwn x) (h : AYield P N Q o ⟨(t, .sl s es) :: st.env, upd st.T i .dead⟩ x)
    (ht : get st.env t = some (.own i) := by rfl) (hi : st.T i = .live e s es := by rfl) (hT1 : upd st.T i .dead = T1 := by rfl) : AEff P N Q o st x T1 := by
  subst hT1
  intro I0 w0 β a w hr K' hK
  have hr' := hr.freeze ht hi hn
  obtain ⟨k1, k2⟩ := hr.kill (i := i) (by rw [hi]; simp)
  refine h I0 w0 β a w hr' K' fun y w' hb hy => hK y w' β ?_ ?_ ?_ hy
  · exact (hr'.world hb).held
  · exact fun p v hp => rep_world hb (k2 p v hp)
  · exact (hr'.world hb).objs
end
end Go.Proofs.YtnjihhheiiapnaaGreat.AW
namespace Go.Proofs.YtnjihhheiiapnaaGreat.AW
open Go Go.RowKit
section
variable {P : Program} {N : Fr} {Q : Exit → ASt → Prop} {st : ASt}
section steps
variable {ops : Array Oper} {i : Nat} {l : List Nat} {d : Nat}
end steps
end
end Go.Proofs.YtnjihhheiiapnaaGreat.AW
namespace Go.Proofs.YtnjihhheiiapnaaGreat.AW
open Go Go.RowKit
section
variable {P : Program} {N : Fr} {Q : Exit → ASt → Prop} {st : ASt} {I0 : Dom} {w0 : World} {β : Nat → Value} {a : Act} {w : World} {ops : Array Oper}
abbrev EffR := List (Nat × Nat × Ob × Option Nat)
def isk : Option Nat → Nat → Bool
  | none, _ => false
  | some k, q => Nat.beq q k
def eff1 (T : Nat → Ob) (j : Nat) (o : Ob) : Option Nat → Nat → Ob
  | none => upd T j o
  | some k => upd (upd T k .dead) j o
theorem beq_no {q j : Nat} (h : ¬ q = j) : Nat.beq q j = false := by
  cases hb : Nat.beq q j
  · rfl
  · exact absurd (Nat.eq_of_beq_eq_true hb) h
theorem eff1_at (T : Nat → Ob) (j : Nat) (o : Ob) (k : Option Nat) (q : Nat) : eff1 T j o k q = bif Nat.beq q j then o else bif isk k q then .dead else T q := by
  cases k with
  | none =>
    simp only [eff1, upd, isk, cond_false]
    by_cases hq : q = j
    · subst hq; simp
    · rw [if_neg hq, beq_no hq]; rfl
  | some k =>
    simp only [eff1, upd, isk]
    by_cases hq : q = j
    · subst hq; simp
    · rw [if_neg hq, beq_no hq]
      by_cases hk : q = k
      · subst hk; simp
      · rw [if_neg hk, beq_no hk]; rfl
def tch (p : Nat × Nat × Ob × Option Nat) (q : Nat) : Bool := Nat.beq q p.2.1 || isk p.2.2.2 q
def tabM (T : Nat → Ob) : EffR → (Nat → Bool) → Nat → Ob
  | [], _ => T
  | (e, j, o, k) :: es, m => tabM (fun q => bif Nat.beq q j && m e then o else bif isk k q && m e then .dead else T q) es m
theorem tabM_pt {es : EffR} {m : Nat → Bool} : ∀ {F F' : Nat → Ob} {q : Nat}, F q = F' q → tabM F es m q = tabM F' es m q := by
  induction es with
  | nil => exact fun h => h
  | cons p es ih =>
    obtain ⟨e, j, o, k⟩ := p
    intro F F' q h
    simp only [tabM]
    exact ih (by simp only [h])
theorem tabM_congr {es : EffR} {m m' : Nat → Bool} : ∀ {T : Nat → Ob}, (∀ p ∈ es, m p.1 = m' p.1) → tabM T es m = tabM T es m' := by
  induction es with
  | nil => exact fun _ => rfl
  | cons p es ih =>
    obtain ⟨e, j, o, k⟩ := p
    intro T h
    simp only [tabM]
    rw [show m e = m' e from h (e, j, o, k) (.head _)]
    exact ih fun q hq => h q (.tail _ hq)
theorem tabM_app {a b : EffR} {m : Nat → Bool} : ∀ {T : Nat → Ob}, tabM T (a ++ b) m = tabM (tabM T a m) b m := by
  induction a with
  | nil => exact rfl
  | cons p a ih => obtain ⟨e, j, o, k⟩ := p; intro T; simp only [List.cons_append, tabM]; exact ih
theorem tabM_none {es : EffR} {m : Nat → Bool} {q : Nat} : ∀ {F : Nat → Ob}, (∀ p ∈ es, tch p q = true → m p.1 = false) → tabM F es m q = F q := by
  induction es with
  | nil => exact fun _ => rfl
  | cons p es ih =>
    obtain ⟨e, j, o, k⟩ := p
    intro F h
    simp only [tabM]
    rw [ih fun p hp => h p (.tail _ hp)]
    have h0 := h (e, j, o, k) (.head _)
    simp only [tch] at h0
    cases h1 : Nat.beq q j <;> cases h2 : isk k q <;> simp [h1, h2] at h0 ⊢
    all_goals simp [h0]
def setMk (m : Nat → Bool) (i : Nat) : Nat → Bool := fun e => e == i || m e
theorem tabM_set {T : Nat → Ob} {a b : EffR} {i j : Nat} {o : Ob} {k : Option Nat} {m : Nat → Bool} (hi : m i = false) (hu : ∀ p ∈ a ++ b, p.1 ≠ i) (hb : ∀ p ∈ b, ∀ q, tch (i, j, o, k) q = true → tch p q = true → m p.1 = false) :
    tabM T (a ++ (i, j, o, k) :: b) (setMk m i) = eff1 (tabM T (a ++ (i, j, o, k) :: b) m) j o k := by
  have hs : ∀ p ∈ a ++ b, setMk m i p.1 = m p.1 := fun p hp => by simp [setMk, hu p hp]
  rw [tabM_app, tabM_app, tabM_congr (es := a) (m := setMk m i) (m' := m) fun p hp => hs p (List.mem_append_left _ hp)]
  simp only [tabM]
  rw [tabM_congr (es := b) (m := setMk m i) (m' := m) fun p hp => hs p (List.mem_append_right _ hp)]
  funext q
  rw [eff1_at]
  have hmi : setMk m i i = true := by simp [setMk]
  rw [hmi, hi]
  by_cases hq : tch (i, j, o, k) q = true
  · rw [tabM_none fun p hp ht => hb p hp q hq ht]
    simp only [tch, Bool.or_eq_true] at hq
    cases h1 : Nat.beq q j
    · rw [h1] at hq
      have hk : isk k q = true := by simpa using hq
      simp [hk]
    · simp
  · simp only [tch, Bool.or_eq_true, not_or] at hq
    have h1 : Nat.beq q j = false := eq_false_of_ne_true hq.1
    have h2 : isk k q = false := eq_false_of_ne_true hq.2
    rw [h1, h2]
    simp only [cond_false]
    exact tabM_pt (by simp [h1, h2])
def kn (ops : Array Oper) (i e : Nat) (b : Bool) : Bool := bif waits ops e i i then true else bif (e == i || waits ops i e e) then false else b
def tabK (ops : Array Oper) (i : Nat) (T : Nat → Ob) (es : EffR) (m : Nat → Bool) : Nat → Ob := tabM T es fun e => kn ops i e (m e)
def lookR : EffR → Nat → Option (Nat × Ob × Option Nat)
  | [], _ => none
  | (e, j, o, k) :: es, i => bif e == i then some (j, o, k) else lookR es i
theorem lookR_some : ∀ {es : EffR} {i j : Nat} {o : Ob} {k : Option Nat}, lookR es i = some (j, o, k) → ∃ a b, es = a ++ (i, j, o, k) :: b
  | [], i, j, o, k, h => by simp [lookR] at h
  | (e, j', o', k') :: es, i, j, o, k, h => by
    simp only [lookR, Bool.cond_eq_ite] at h
    by_cases he : e = i
    · subst he
      simp at h
      obtain ⟨rfl, rfl, rfl⟩ := h
      exact ⟨[], es, rfl⟩
    · have : (e == i) = false := by simpa using he
      rw [this] at h
      simp at h
      obtain ⟨a, b, rfl⟩ := lookR_some h
      exact ⟨_ :: a, b, rfl⟩
theorem lookR_none : ∀ {es : EffR} {i : Nat}, lookR es i = none → ∀ p ∈ es, p.1 ≠ i
  | [], i, h, p, hp => by cases hp
  | (e, j', o', k') :: es, i, h, p, hp => by
    simp only [lookR, Bool.cond_eq_ite] at h
    by_cases he : e = i
    · subst he; simp at h
    · have hb : (e == i) = false := by simpa using he
      rw [hb] at h
      simp at h
      rcases List.mem_cons.1 hp with rfl | hp
      · exact he
      · exact lookR_none h p hp
def rowsOf (p : Nat × Nat × Ob × Option Nat) : List Nat := p.2.1 :: p.2.2.2.toList
theorem tch_mem {p : Nat × Nat × Ob × Option Nat} {q : Nat} (h : tch p q = true) : q ∈ rowsOf p := by
  obtain ⟨e, j, o, k⟩ := p
  simp only [tch, Bool.or_eq_true] at h
  rcases h with h | h
  · have := Nat.eq_of_beq_eq_true h; simp [rowsOf, this]
  · cases k with
    | none => simp [isk] at h
    | some k => have := Nat.eq_of_beq_eq_true h; simp [rowsOf, this]
def effChk (ops : Array Oper) : EffR → Bool
  | [] => true
  | (e, j, o, k) :: es => (es.all fun p => Nat.blt e p.1 && (!((rowsOf p).any fun q => (j :: k.toList).contains q) || waits ops e p.1 p.1)) && effChk ops es
theorem effChk_mid {ops : Array Oper} : ∀ {a b : EffR} {i j : Nat} {o : Ob} {k : Option Nat}, effChk ops (a ++ (i, j, o, k) :: b) = true → (∀ p ∈ a ++ b, p.1 ≠ i) ∧ ∀ p ∈ b, ∀ q, tch (i, j, o, k) q = true → tch p q = true → waits ops i p.1 p.1 = true
  | [], b, i, j, o, k, h => by
    simp only [List.nil_append, effChk, Bool.and_eq_true, List.all_eq_true] at h
    refine ⟨fun p hp => ?_, fun p hp q h1 h2 => ?_⟩
    · have := blt_lt (h.1 p hp).1; omega
    · have h3 := (h.1 p hp).2
      have h4 : ((rowsOf p).any fun q => (j :: k.toList).contains q) = true := List.any_eq_true.2 ⟨q, tch_mem h2, List.contains_iff_mem.2 (tch_mem h1)⟩
      rw [h4] at h3
      simpa using h3
  | (e, j', o', k') :: a, b, i, j, o, k, h => by
    simp only [List.cons_append, effChk, Bool.and_eq_true, List.all_eq_true] at h
    obtain ⟨h1, h2⟩ := effChk_mid h.2
    refine ⟨fun p hp => ?_, h2⟩
    rcases List.mem_cons.1 hp with rfl | hp
    · have := blt_lt (h.1 (i, j, o, k) (List.mem_append_right _ (.head _))).1
      show e ≠ i
      omega
    · exact h1 p hp
def OneP (P : Program) (N : Fr) (ops : Array Oper) (Q : Exit → ASt → Prop) (st : ASt) (es : EffR) (R : List AV) (i : Nat) : Prop :=
  (∃ j o k, lookR es i = some (j, o, k) ∧ ∀ m, opAt N ops ⟨lookE ops (R.take i) (ops.getD i default) ++ st.env, tabK ops i st.T es m⟩ i = true ∧
      AEff P N Q (ops.getD i default) ⟨lookE ops (R.take i) (ops.getD i default) ++ st.env, tabK ops i st.T es m⟩ (R.getD i undefV) (eff1 (tabK ops i st.T es m) j o k)) ∨
  (lookR es i = none ∧ ∀ m, One P N ops Q st (tabK ops i st.T es m) R i) ∨
  (lookR es i = none ∧ ∀ m, opAt N ops ⟨lookE ops (R.take i) (ops.getD i default) ++ st.env, tabK ops i st.T es m⟩ i = true ∧
      AEff P N Q (ops.getD i default) ⟨lookE ops (R.take i) (ops.getD i default) ++ st.env, tabK ops i st.T es m⟩ (R.getD i undefV) (tabK ops i st.T es m))
def ADrawP (P : Program) (N : Fr) (ops : Array Oper) (Q : Exit → ASt → Prop) (st : ASt) (m : Nat) (es : EffR) (R : List AV) : Prop :=
  ∃ R', (R ++ R').length = m ∧ (∀ i, R.length ≤ i → i < m → OneP P N ops Q st es (R ++ R') i) ∧
    ∃ s, Ent N ⟨envAll ops (R ++ R') ++ st.env, tabM st.T es fun _ => true⟩ s ∧ AOps P N ops Q (List.range' m (ops.size - m)) s
theorem adrawP_one {m : Nat} {es : EffR} {R : List AV} {x : AV} (h : OneP P N ops Q st es (R ++ [x]) R.length) (k : ADrawP P N ops Q st m es (R ++ [x])) : ADrawP P N ops Q st m es R := by
  obtain ⟨R', h1, h2, h3⟩ := k
  refine ⟨x :: R', by simpa using h1, fun i hi1 hi2 => ?_, by simpa using h3⟩
  by_cases hi : i = R.length
  · subst hi
    have e1 : (R ++ x :: R').take R.length = (R ++ [x]).take R.length := by simp
    have e2 : (R ++ x :: R').getD R.length undefV = (R ++ [x]).getD R.length undefV := by simp [List.getD]
    unfold OneP One at h ⊢
    rw [e1, e2]; exact h
  · have := h2 i (by simp; omega) hi2
    simpa using this
theorem adrawP_sound {m : Nat} {es : EffR} {R : List AV} (hchk : drawChk N ops st.env m = true) (hinc : effChk ops es = true) (hem : ∀ p ∈ es, p.1 < m) (hR : R.length = m) (hone : ∀ i, i < m → OneP P N ops Q st es R i)
    {s : ASt} (hs : Ent N ⟨envAll ops R ++ st.env, tabM st.T es fun _ => true⟩ s) (hQ : AOps P N ops Q (List.range' m (ops.size - m)) s) :
    ∀ (fuel : Nat) (L : Array Bool) (β : Nat → Value) (a : Act) (w : World) (T : Nat → Ob), L.size = ops.size → ((List.range ops.size).filter fun j => !L.getD j true).length ≤ fuel →
      (∀ i, m ≤ i → i < ops.size → L.getD i true = false) → (T = tabM st.T es fun e => L.getD e true) →
      Rel N I0 w0 ⟨st.env, T⟩ β a w →
      (∀ e, e < m → L.getD e true = true → ∀ ed ∈ (ops.getD e default).after.toList, Region.binds .any ed = true → L.getD ed.on true = true) →
      (∀ i d, i < m → L.getD i true = true → (ops.getD i default).dst = some d → Rep (Im I0 w0.heap.size T β w) T β w (R.getD i undefV) (a.tmps.getD d undef)) →
      wpAny P .any ops (lift N I0 w0 Q) fuel L a w := by
  simp only [drawChk, Bool.and_eq_true] at hchk
  obtain ⟨⟨hm, hc1⟩, hc2⟩ := hchk
  have hm : m ≤ ops.size := by simpa using hm
  have hc : ∀ i, i < m → (∀ d, (ops.getD i default).dst = some d → d < N ∧ get st.env d = none ∧ ∀ j, j < m → j ≠ i → (ops.getD j default).dst ≠ some d) ∧
      (∀ ed ∈ (ops.getD i default).after.toList, Region.binds .any ed = true → ed.on < i) ∧
      (∀ t ∈ looks ops (ops.getD i default), ∀ j, j < m → (ops.getD j default).dst = some t → ∃ ed ∈ (ops.getD i default).after.toList, ed.on = j ∧ Region.binds .any ed = true) := by
    intro i hi
    have h1 := List.all_eq_true.1 hc1 i (by simpa using hi)
    simp only [Bool.and_eq_true] at h1
    obtain ⟨⟨h1, h2⟩, h3⟩ := h1
    refine ⟨fun d hd => ?_, fun ed hed hb => ?_, fun t ht j hj hjt => ?_⟩
    · rw [hd] at h1
      simp only [Bool.and_eq_true] at h1
      obtain ⟨⟨h5, h6⟩, h7⟩ := h1
      refine ⟨blt_lt h5, by simpa using h6, fun j hj hji hjd => ?_⟩
      have h8 : (j == i || !((ops.getD j default).dst == some d)) = true := List.all_eq_true.1 h7 j (by simpa using hj)
      rw [hjd] at h8
      simp [hji] at h8
    · have := List.all_eq_true.1 h2 ed hed
      simp only [hb, Bool.not_true, Bool.false_or] at this
      exact blt_lt this
    · have := List.all_eq_true.1 (List.all_eq_true.1 h3 t ht) j (by simpa using hj)
      simp only [hjt, BEq.rfl, Bool.not_true, Bool.false_or] at this
      obtain ⟨ed, h8, h9⟩ := List.any_eq_true.1 this
      simp only [Bool.and_eq_true, beq_iff_eq] at h9
      exact ⟨ed, h8, h9.1, h9.2⟩
  have ht : ∀ i, m ≤ i → i < ops.size → (∀ j, j < i → m < i → j + 1 = i → ∃ ed ∈ (ops.getD i default).after.toList, ed.on = j ∧ Region.binds .any ed = true) ∧
      (i = m → ∀ j, j < m → waits ops j m m = true) ∧
      ∀ ed ∈ (ops.getD i default).after.toList, Region.binds .any ed = true → ed.on < i := by
    intro i hi hi2
    have h1 := List.all_eq_true.1 hc2 i (by simpa using hi2)
    have hn : Nat.blt i m = false := by
      cases hb : Nat.blt i m
      · rfl
      · have := blt_lt hb; omega
    rw [hn, Bool.false_or, Bool.and_eq_true] at h1
    refine ⟨fun j hj hmi hjm => ?_, fun him j hj => ?_, fun ed hed hb => ?_⟩
    · have := List.all_eq_true.1 h1.1 j (by simpa using hj)
      have hb : (Nat.blt m i && !(j + 1 == i)) = false := by
        subst hjm; simp
      have hne : (i == m) = false := by simp; omega
      rw [hb, Bool.false_or, hne, cond_false] at this
      obtain ⟨ed, h8, h9⟩ := List.any_eq_true.1 this
      simp only [Bool.and_eq_true, beq_iff_eq] at h9
      exact ⟨ed, h8, h9.1, h9.2⟩
    · subst him
      have := List.all_eq_true.1 h1.1 j (by simpa using hj)
      rw [hn, Bool.false_and, Bool.false_or, BEq.rfl, cond_true] at this
      exact this
    · have := List.all_eq_true.1 h1.2 ed hed
      simp only [hb, Bool.not_true, Bool.false_or] at this
      exact blt_lt this
  intro fuel
  induction fuel with
  | zero =>
    intro L β a w T hL hu htl hcT hr hah hl
    have h0 : ((List.range ops.size).filter fun j => !L.getD j true) = [] := List.eq_nil_of_length_eq_zero (by omega)
    have hall : ∀ i, i < ops.size → L.getD i true = true := by
      intro i hi
      have := List.filter_eq_nil_iff.1 h0 i (by simpa using hi)
      simpa using this
    have hmn : m = ops.size := by
      rcases Nat.lt_or_ge m ops.size with h | h
      · have := htl m (Nat.le_refl _) h; rw [hall m h] at this; cases this
      · omega
    have hTe : T = tabM st.T es fun _ => true := by
      rw [hcT]; exact tabM_congr fun p hp => hall _ (by have := hem p hp; omega)
    subst hTe
    obtain ⟨γ, hγ⟩ := hs I0 w0 β a w (hr.more (st := ⟨st.env, tabM st.T es fun _ => true⟩) (e := envAll ops R) fun t x hx => by
      simp only [envAll, List.mem_filterMap, List.mem_range] at hx
      obtain ⟨j, hj, hjd⟩ := hx
      cases hd : (ops.getD j default).dst with
      | none => rw [hd] at hjd; cases hjd
      | some d =>
        rw [hd] at hjd
        simp only [Option.map_some, Option.some.injEq, Prod.mk.injEq] at hjd
        obtain ⟨rfl, rfl⟩ := hjd
        exact hl j d (by omega) (hall j (by omega)) hd)
    refine tail_sound (m := m) (fun i h1 h2 j h3 h4 => (ht i (Nat.le_of_lt h1) h2).1 j h3 h1 h4) (fun i h1 h2 => (ht i h1 h2).2.2) 0 m 0 L a w (by omega) (Nat.le_refl _) (Nat.le_refl _) hL (fun j hj => ⟨fun _ => by omega, fun _ => hall j hj⟩) ?_
    have := hQ I0 w0 γ a w hγ
    rwa [hmn, Nat.sub_self] at this
  | succ fuel ih =>
    intro L β a w T hL hu htl hcT hr hah hl
    by_cases hdone : ∀ i, i < m → L.getD i true = true
    · have hTe : T = tabM st.T es fun _ => true := by
        rw [hcT]; exact tabM_congr fun p hp => hdone _ (hem p hp)
      subst hTe
      obtain ⟨γ, hγ⟩ := hs I0 w0 β a w (hr.more (st := ⟨st.env, tabM st.T es fun _ => true⟩) (e := envAll ops R) fun t x hx => by
        simp only [envAll, List.mem_filterMap, List.mem_range] at hx
        obtain ⟨j, hj, hjd⟩ := hx
        cases hd : (ops.getD j default).dst with
        | none => rw [hd] at hjd; cases hjd
        | some d =>
          rw [hd] at hjd
          simp only [Option.map_some, Option.some.injEq, Prod.mk.injEq] at hjd
          obtain ⟨rfl, rfl⟩ := hjd
          exact hl j d (by omega) (hdone j (by omega)) hd)
      have hlen : ops.size - m ≤ fuel + 1 := by
        refine Nat.le_trans ?_ hu
        have e1 : ((List.range ops.size).filter fun j => !L.getD j true) = (List.range ops.size).filter fun j => decide (m ≤ j) := by
          apply List.filter_congr
          intro j hj
          have hj : j < ops.size := by simpa using hj
          by_cases hjm : m ≤ j
          · rw [htl j hjm hj]; simp [hjm]
          · rw [hdone j (by omega)]; simp [hjm]
        rw [e1]
        have e2 : (List.range ops.size).filter (fun j => decide (m ≤ j)) = List.range' m (ops.size - m) := by
          have hsplit : List.range ops.size = List.range m ++ List.range' m (ops.size - m) := by
            rw [List.range_eq_range', List.range_eq_range', show ops.size = m + (ops.size - m) by omega, ← List.range'_append_1]; simp
          rw [hsplit, List.filter_append]
          rw [List.filter_eq_nil_iff.2 (by intro j hj; simp at hj ⊢; exact hj), List.filter_eq_self.2 (by intro j hj; simp [List.mem_range'_1] at hj ⊢; omega)]
          simp
        rw [e2]; simp
      exact tail_sound (m := m) (fun i h1 h2 j h3 h4 => (ht i (Nat.le_of_lt h1) h2).1 j h3 h1 h4) (fun i h1 h2 => (ht i h1 h2).2.2) (ops.size - m) m (fuel + 1) L a w (by omega) (Nat.le_refl _) hlen hL
        (fun j hj => ⟨fun h => by
          rcases Nat.lt_or_ge j m with h1 | h1
          · exact h1
          · rw [htl j h1 hj] at h; exact absurd h (by decide), fun h => hdone j h⟩) (hQ I0 w0 γ a w hγ)
    · obtain ⟨i0, hi0, hi0'⟩ : ∃ i, i < m ∧ L.getD i true = false := by
        refine Classical.byContradiction fun hno => hdone fun i hi => ?_
        cases hb : L.getD i true
        · exact absurd ⟨i, hi, hb⟩ hno
        · rfl
      have hex : ∃ i, i ∈ Region.ready .any ops L := by
        obtain ⟨k, ⟨hk1, hk2⟩, hk3⟩ := least_exists (p := fun i => i < m ∧ L.getD i true = false) ⟨i0, hi0, hi0'⟩
        refine ⟨k, mem_ready.2 ⟨by omega, hk2, fun ed hed hb => ?_⟩⟩
        obtain ⟨_, h5, _⟩ := hc k hk1
        have hlt := h5 ed hed hb
        refine listed_all hL (by omega) ?_
        cases hbb : L.getD ed.on true
        · have := hk3 ed.on ⟨by omega, hbb⟩; omega
        · rfl
      refine ⟨fun hrdy => (by obtain ⟨i, hi⟩ := hex; rw [hrdy] at hi; cases hi), fun i hi => ?_⟩
      obtain ⟨hi1, hi2, hi3⟩ := mem_ready.1 hi
      have him : i < m := by
        rcases Nat.lt_or_ge i m with h | h
        · exact h
        · have hli : ∀ ed ∈ (ops.getD i default).after.toList, Region.binds .any ed = true → L.getD ed.on true = true := fun ed hed hb => by
            have := hi3 ed hed hb
            have hs : ed.on < L.size := by have := (ht i h hi1).2.2 ed hed hb; omega
            simpa [Array.getD, hs] using this
          by_cases him : i = m
          · subst him
            have h' := waits_listed (fun q hq => (hc q hq).2.1) hah i i (fun ed hed hb => ⟨hli ed hed hb, (ht i h hi1).2.2 ed hed hb⟩) ((ht i h hi1).2.1 rfl i0 hi0)
            rw [hi0'] at h'; cases h'
          · obtain ⟨ed, hed, hon, hb⟩ := (ht i h hi1).1 (i - 1) (by omega) (by omega) (by omega)
            have h' := hli ed hed hb
            rw [hon, htl (i - 1) (by omega) (by omega)] at h'; cases h'
      obtain ⟨hcd, h5, h6⟩ := hc i him
      have hmon : ∀ j, L.getD j true = true → (L.setIfInBounds i true).getD j true = true := fun j hj => by
        by_cases hji : j = i
        · subst hji; simp [Array.getD, hL, hi1]
        · rw [show (L.setIfInBounds i true).getD j true = L.getD j true by simp [Array.getD_eq_getD_getElem?, Array.getElem?_setIfInBounds_ne (Ne.symm hji)]]; exact hj
      have hah' : ∀ e, e < m → (L.setIfInBounds i true).getD e true = true → ∀ ed ∈ (ops.getD e default).after.toList, Region.binds .any ed = true → (L.setIfInBounds i true).getD ed.on true = true := by
        intro e hem hle ed hed hb
        by_cases hei : e = i
        · subst hei
          refine hmon _ ?_
          have := hi3 ed hed hb
          have hs : ed.on < L.size := by have := h5 ed hed hb; omega
          simpa [Array.getD, hs] using this
        · refine hmon _ (hah e hem ?_ ed hed hb)
          rwa [show (L.setIfInBounds i true).getD e true = L.getD e true by simp [Array.getD_eq_getD_getElem?, Array.getElem?_setIfInBounds_ne (Ne.symm hei)]] at hle
      have hs' : Rel N I0 w0 ⟨lookE ops (R.take i) (ops.getD i default) ++ st.env, T⟩ β a w := by
        refine hr.more (st := ⟨st.env, T⟩) fun t x hx => ?_
        simp only [lookE, List.mem_filterMap, List.mem_range] at hx
        obtain ⟨j, hj, hjx⟩ := hx
        have hjm : j < m := by simp at hj; omega
        cases ht' : (ops.getD j default).dst with
        | none => rw [ht'] at hjx; cases hjx
        | some t' =>
          rw [ht'] at hjx
          by_cases hct : (looks ops (ops.getD i default)).contains t' = true
          · simp only [hct, if_true] at hjx
            simp only [Option.some.injEq, Prod.mk.injEq] at hjx
            obtain ⟨rfl, rfl⟩ := hjx
            have hmem : t' ∈ looks ops (ops.getD i default) := by simpa using hct
            obtain ⟨ed, hed, hon, hb⟩ := h6 t' hmem j hjm ht'
            have hli := hi3 ed hed hb
            rw [hon] at hli
            have hli' : L.getD j true = true := by
              have hs : j < L.size := by omega
              simpa [Array.getD, hs] using hli
            have := hl j t' hjm hli' ht'
            have e : (R.take i).getD j undefV = R.getD j undefV := by
              have hji : j < i := by simp at hj; omega
              simp [List.getD, List.getElem?_take_of_lt hji]
            rw [e]; exact this
          · simp only [hct] at hjx
            cases hjx
      have hcount : ((List.range ops.size).filter fun j => !(L.setIfInBounds i true).getD j true).length ≤ fuel := by
        have := unl_lt ops.size L hL hi1 hi2; omega
      have hset : ∀ j, j ≠ i → (L.setIfInBounds i true).getD j true = L.getD j true := fun j hji => by simp [Array.getD_eq_getD_getElem?, Array.getElem?_setIfInBounds_ne (Ne.symm hji)]
      have hseti : (L.setIfInBounds i true).getD i true = true := by simp [Array.getD, hL, hi1]
      have htl' : ∀ j, m ≤ j → j < ops.size → (L.setIfInBounds i true).getD j true = false := fun j h1 h2 => by rw [hset j (by omega)]; exact htl j h1 h2
      unfold wpOp
      rw [getD_some hi1]
      have htmp : ∀ (T' : Nat → Ob) (β2 : Nat → Value) (y : Value) (w' : World), (∀ p v, Rep (Im I0 w0.heap.size T β w) T β w p v → Rep (Im I0 w0.heap.size T' β2 w') T' β2 w' p v) → Rep (Im I0 w0.heap.size T' β2 w') T' β2 w' (R.getD i undefV) y →
          ∀ j dj, j < m → (L.setIfInBounds i true).getD j true = true → (ops.getD j default).dst = some dj → Rep (Im I0 w0.heap.size T' β2 w') T' β2 w' (R.getD j undefV) ((a.put (ops.getD i default).dst y).tmps.getD dj undef) := by
        intro T' β2 y w' htr hx j dj hj hlj hdj
        by_cases hji : j = i
        · subst hji
          rw [hdj]
          have : dj < a.tmps.size := by rw [hr.size]; exact (hcd dj hdj).1
          simpa [Act.put, Array.getD, this] using hx
        · have e1 : (a.put (ops.getD i default).dst y).tmps.getD dj undef = a.tmps.getD dj undef := put_ne fun d hd e => (hcd d hd).2.2 j hj hji (by rw [hdj, e])
          rw [e1]
          rw [hset j hji] at hlj
          exact htr _ _ (hl j dj hj hlj hdj)
      have rest : lookR es i = none → One P N ops Q st T R i →
          if Region.wanted (ops.getD i default) (yielded ops a.tmps) = true then (ops.getD i default).wp P a w (fun a' w' => wpAny P .any ops (lift N I0 w0 Q) fuel (L.setIfInBounds i true) a' w') (lift N I0 w0 Q) ∨ False
          else wpAny P .any ops (lift N I0 w0 Q) fuel (L.setIfInBounds i true) (a.put (ops.getD i default).dst undef) w := by
        intro hne hone'
        have hnext : ∀ (y : Value) (w' : World), Below w.heap.size w w' → Rep (Im I0 w0.heap.size T β w') T β w' (R.getD i undefV) y →
            wpAny P .any ops (lift N I0 w0 Q) fuel (L.setIfInBounds i true) (a.put (ops.getD i default).dst y) w' := by
          intro y w' hb hy
          refine ih _ β _ _ T (by simpa using hL) hcount htl' ?_ ((hr.world hb).putO' (st := ⟨st.env, T⟩) fun d hd => (hcd d hd).2.1) hah' (htmp T β y w' (fun p v h => rep_world hb h) hy)
          rw [hcT]
          exact tabM_congr fun p hp => (hset _ (lookR_none hne p hp)).symm
        rcases hone' with ⟨hw, hy⟩ | ⟨hw, hx⟩
        · have h1 := wanted_of hs' hw
          simp only [h1, if_true]
          exact hy I0 w0 β a w hs' _ hnext
        · have h1 := off_of hs' hw
          simp only [h1, Bool.false_eq_true, if_false]
          exact hnext undef w (Below.refl _ w) (by rw [hx]; exact .v undef)
      have hlis : ∀ ed ∈ (ops.getD i default).after.toList, Region.binds .any ed = true → L.getD ed.on true = true ∧ ed.on < m := fun ed hed hb => by
        have hlt := h5 ed hed hb
        have hs : ed.on < L.size := by omega
        refine ⟨?_, by omega⟩
        have := hi3 ed hed hb
        simpa [Array.getD, hs] using this
      have hfor : ∀ j, waits ops j i i = true → L.getD j true = true := fun j hj => waits_listed (fun q hq => (hc q hq).2.1) hah i i hlis hj
      have hnot : ∀ e, e < m → waits ops i e e = true → L.getD e true = false := fun e he hw => by
        cases hle : L.getD e true
        · rfl
        · have := waits_listed (fun q hq => (hc q hq).2.1) hah e e (fun ed hed hb => ⟨hah _ he hle ed hed hb, Nat.lt_trans ((hc _ he).2.1 ed hed hb) he⟩) hw
          rw [hi2] at this; cases this
      have hkn : ∀ p ∈ es, kn ops i p.1 (L.getD p.1 true) = L.getD p.1 true := fun p hp => by
        simp only [kn, Bool.cond_eq_ite]
        by_cases h7 : waits ops p.1 i i = true
        · rw [if_pos h7, hfor _ h7]
        · rw [if_neg h7]
          by_cases h8 : (p.1 == i || waits ops i p.1 p.1) = true
          · rw [if_pos h8]
            simp only [Bool.or_eq_true, beq_iff_eq] at h8
            rcases h8 with h8 | h8
            · rw [h8, hi2]
            · exact (hnot _ (hem p hp) h8).symm
          · rw [if_neg h8]
      have hTk : tabK ops i st.T es (fun e => L.getD e true) = T := by rw [hcT]; exact tabM_congr hkn
      rcases hone i him with ⟨j, o, k, hlk, hall⟩ | ⟨hne, hst⟩ | ⟨hne, hst⟩
      · obtain ⟨hw, hy⟩ := hall fun e => L.getD e true
        rw [hTk] at hw hy
        obtain ⟨ea, eb, hes⟩ := lookR_some hlk
        rw [hes] at hinc
        obtain ⟨hu1, hu2⟩ := effChk_mid hinc
        have hT' : eff1 T j o k = tabM st.T es fun e => (L.setIfInBounds i true).getD e true := by
          rw [hcT, hes, ← tabM_set (m := fun e => L.getD e true) hi2 hu1 fun p hp q h1 h2 => hnot _ (hem p (by rw [hes]; exact List.mem_append_right _ (.tail _ hp))) (hu2 p hp q h1 h2)]
          refine tabM_congr fun p hp => ?_
          simp only [setMk]
          by_cases hpi : p.1 = i
          · rw [hpi, hseti]; simp
          · rw [hset _ hpi]; simp [hpi]
        have h1 := wanted_of hs' hw
        simp only [h1, if_true]
        refine hy I0 w0 β a w hs' _ fun y w' β2 hb htr hO hx => ?_
        refine ih _ β2 _ _ (eff1 T j o k) (by simpa using hL) hcount htl' hT' ?_ hah' (htmp _ β2 y w' htr hx)
        have hr2 : Rel N I0 w0 ⟨st.env, eff1 T j o k⟩ β2 a w' :=
          ⟨hr.old, hr.size, hb.marks, fun t x hx => htr _ _ (hr.env t x hx), hO, hb.bel, hr.step, hb.base, hb.pins⟩
        exact hr2.putO' fun d hd => (hcd d hd).2.1
      · refine rest hne ?_
        have := hst fun e => L.getD e true
        rw [hTk] at this
        exact this
      · obtain ⟨hw, hy⟩ := hst fun e => L.getD e true
        rw [hTk] at hw hy
        have h1 := wanted_of hs' hw
        simp only [h1, if_true]
        refine hy I0 w0 β a w hs' _ fun y w' β2 hb htr hO hx => ?_
        refine ih _ β2 _ _ T (by simpa using hL) hcount htl' (by rw [hcT]; exact tabM_congr fun p hp => (hset _ (lookR_none hne p hp)).symm) ?_ hah' (htmp _ β2 y w' htr hx)
        have hr2 : Rel N I0 w0 ⟨st.env, T⟩ β2 a w' :=
          ⟨hr.old, hr.size, hb.marks, fun t x hx => htr _ _ (hr.env t x hx), hO, hb.bel, hr.step, hb.base, hb.pins⟩
        exact hr2.putO' fun d hd => (hcd d hd).2.1
def ADrP (P : Program) (N : Fr) (ops : Array Oper) (Q : Exit → ASt → Prop) (st : ASt) (m : Nat) (es : EffR) (E : List (Nat × AV)) (i : Nat) : Prop :=
  drawChk N ops st.env m = true → ∀ R, R.length = i → RelRE ops R E → ADrawP P N ops Q st m es R
section steps
variable {m i d : Nat} {es : EffR} {E : List (Nat × AV)} {x : AV}
theorem dP (h : ∀ m', AYield P N Q (ops.getD i default) ⟨pickE (looks ops (ops.getD i default)) E ++ st.env, tabK ops i st.T es m'⟩ x) (k : ADrP P N ops Q st m es ((d, x) :: E) (i + 1))
    (hd : (ops.getD i default).dst = some d := by rfl) (hi : Nat.blt i m = true := by rfl) (he : lookR es i = none := by rfl) (hg : opAt N ops ⟨pickE (looks ops (ops.getD i default)) E ++ st.env, st.T⟩ i = true := by rfl) : ADrP P N ops Q st m es E i := by
  intro hc R hRl hR
  subst hRl
  have hi := blt_lt hi
  have hp := fun t x => pick_get (st := st) (o := ops.getD R.length default) hR (subL_refl _) (fun j d hj hd => chk_no hc (by omega) hd) (t := t) (x := x)
  refine adrawP_one (.inr (.inl ⟨he, fun m' => ?_⟩)) (k hc _ (by simp) (rel_snoc hc hR hi hd))
  unfold One
  rw [(take_snoc R x).1, (take_snoc R x).2]
  exact .inl ⟨opAt_mono hg hp, (h m').env_mono hp⟩
theorem dPs (h : ∀ m', AEff P N Q (ops.getD i default) ⟨pickE (looks ops (ops.getD i default)) E ++ st.env, tabK ops i st.T es m'⟩ x (tabK ops i st.T es m')) (k : ADrP P N ops Q st m es ((d, x) :: E) (i + 1))
    (hd : (ops.getD i default).dst = some d := by rfl) (hi : Nat.blt i m = true := by rfl) (he : lookR es i = none := by rfl) (hg : opAt N ops ⟨pickE (looks ops (ops.getD i default)) E ++ st.env, st.T⟩ i = true := by rfl) : ADrP P N ops Q st m es E i := by
  intro hc R hRl hR
  subst hRl
  have hi := blt_lt hi
  have hp := fun t x => pick_get (st := st) (o := ops.getD R.length default) hR (subL_refl _) (fun j d hj hd => chk_no hc (by omega) hd) (t := t) (x := x)
  refine adrawP_one (.inr (.inr ⟨he, fun m' => ?_⟩)) (k hc _ (by simp) (rel_snoc hc hR hi hd))
  rw [(take_snoc R x).1, (take_snoc R x).2]
  exact ⟨opAt_mono hg hp, (h m').env_mono hp⟩
theorem dPk (k : ADrP P N ops Q st m es ((d, undefV) :: E) (i + 1))
    (hd : (ops.getD i default).dst = some d := by rfl) (hi : Nat.blt i m = true := by rfl) (hg : offAt N ops ⟨pickE (looks ops (ops.getD i default)) E ++ st.env, st.T⟩ i = true := by rfl) (he : lookR es i = none := by rfl) : ADrP P N ops Q st m es E i := by
  intro hc R hRl hR
  subst hRl
  have hi := blt_lt hi
  have hp := fun t x => pick_get (st := st) (o := ops.getD R.length default) hR (subL_refl _) (fun j d hj hd => chk_no hc (by omega) hd) (t := t) (x := x)
  refine adrawP_one (.inr (.inl ⟨he, fun m' => ?_⟩)) (k hc _ (by simp) (rel_snoc hc hR hi hd))
  unfold One
  rw [(take_snoc R undefV).1, (take_snoc R undefV).2]
  exact .inr ⟨offAt_mono hg hp, rfl⟩
theorem dPE' {j : Nat} {o : Ob} {k' : Option Nat} (h : ∀ m', AEff P N Q (ops.getD i default) ⟨pickE (looks ops (ops.getD i default)) E ++ st.env, tabK ops i st.T es m'⟩ x (eff1 (tabK ops i st.T es m') j o k')) (k : ADrP P N ops Q st m es ((d, x) :: E) (i + 1))
    (hd : (ops.getD i default).dst = some d := by rfl) (hi : Nat.blt i m = true := by rfl) (he : lookR es i = some (j, o, k') := by rfl) (hg : opAt N ops ⟨pickE (looks ops (ops.getD i default)) E ++ st.env, st.T⟩ i = true := by rfl) : ADrP P N ops Q st m es E i := by
  intro hc R hRl hR
  subst hRl
  have hi := blt_lt hi
  have hp := fun t x => pick_get (st := st) (o := ops.getD R.length default) hR (subL_refl _) (fun j d hj hd => chk_no hc (by omega) hd) (t := t) (x := x)
  refine adrawP_one (.inl ⟨j, o, k', he, fun m' => ?_⟩) (k hc _ (by simp) (rel_snoc hc hR hi hd))
  rw [(take_snoc R x).1, (take_snoc R x).2]
  exact ⟨opAt_mono hg hp, (h m').env_mono hp⟩
theorem dPS' {j : Nat} {o : Ob} {k' : Option Nat} (h : ∀ m', AEff P N Q (ops.getD i default) ⟨pickE (looks ops (ops.getD i default)) E ++ st.env, tabK ops i st.T es m'⟩ x (eff1 (tabK ops i st.T es m') j o k')) (k : ADrP P N ops Q st m es E (i + 1))
    (hd : (ops.getD i default).dst = none := by rfl) (hi : Nat.blt i m = true := by rfl) (he : lookR es i = some (j, o, k') := by rfl) (hg : opAt N ops ⟨pickE (looks ops (ops.getD i default)) E ++ st.env, st.T⟩ i = true := by rfl) : ADrP P N ops Q st m es E i := by
  intro hc R hRl hR
  subst hRl
  have hi := blt_lt hi
  have hp := fun t x => pick_get (st := st) (o := ops.getD R.length default) hR (subL_refl _) (fun j d hj hd => chk_no hc (by omega) hd) (t := t) (x := x)
  refine adrawP_one (x := x) (.inl ⟨j, o, k', he, fun m' => ?_⟩) (k hc (R ++ [x]) (by simp) (rel_none hR hd))
  rw [(take_snoc R x).1, (take_snoc R x).2]
  exact ⟨opAt_mono hg hp, (h m').env_mono hp⟩
theorem dPE {j : Nat} {o : Ob} (h : ∀ m', AEff P N Q (ops.getD i default) ⟨pickE (looks ops (ops.getD i default)) E ++ st.env, tabK ops i st.T es m'⟩ x (upd (tabK ops i st.T es m') j o)) (k : ADrP P N ops Q st m es ((d, x) :: E) (i + 1))
    (hd : (ops.getD i default).dst = some d := by rfl) (hi : Nat.blt i m = true := by rfl) (he : lookR es i = some (j, o, none) := by rfl) (hg : opAt N ops ⟨pickE (looks ops (ops.getD i default)) E ++ st.env, st.T⟩ i = true := by rfl) : ADrP P N ops Q st m es E i := dPE' (k' := none) h k hd hi he hg
theorem dPS {j : Nat} {o : Ob} (h : ∀ m', AEff P N Q (ops.getD i default) ⟨pickE (looks ops (ops.getD i default)) E ++ st.env, tabK ops i st.T es m'⟩ x (upd (tabK ops i st.T es m') j o)) (k : ADrP P N ops Q st m es E (i + 1))
    (hd : (ops.getD i default).dst = none := by rfl) (hi : Nat.blt i m = true := by rfl) (he : lookR es i = some (j, o, none) := by rfl) (hg : opAt N ops ⟨pickE (looks ops (ops.getD i default)) E ++ st.env, st.T⟩ i = true := by rfl) : ADrP P N ops Q st m es E i := dPS' (k' := none) h k hd hi he hg
theorem dPn (h : AOps P N ops Q (List.range' m (ops.size - m)) ⟨E ++ st.env, tabM st.T es fun _ => true⟩) (hi : i = m := by rfl) : ADrP P N ops Q st m es E i := by
  intro hc R hRl hR
  obtain ⟨R', g1, g2, s, g3, g4⟩ := dn (eff := some (0, tabM st.T es fun _ => true)) (st := st) (E := E) h hi hc R hRl hR
  subst hi
  have hR' : R' = [] := by
    have := g1; rw [List.length_append] at this
    exact List.eq_nil_of_length_eq_zero (by omega)
  subst hR'
  exact ⟨[], g1, fun j h1 h2 => by omega, s, g3, g4⟩
theorem aw_drawP {id : Nat} (m : Nat) (es : EffR) (h : ADrP P N ops Q st m es [] 0) (hchk : drawChk N ops st.env m = true := by rfl)
    (he : effChk ops es = true := by rfl) (hl : (es.all fun p => Nat.blt p.1 m) = true := by rfl) (hm : P.follows .mixedOrders = true := by rfl) (hnd : noDefer ops = true := by rfl) : AWp P N (.region id ops true) Q st := by
  obtain ⟨R, h1, h2, s, h3, h4⟩ := h hchk [] rfl ⟨fun j d hj => by simp at hj, fun t x hx => by simp [get] at hx⟩
  have hem : ∀ p ∈ es, p.1 < m := fun p hp => blt_lt (List.all_eq_true.1 hl p hp)
  intro I0 w0 β a w hr
  refine wpR_any hnd hm ?_
  have hr' : Rel N I0 w0 st β a { w with drawn := w.drawn + 1 } := hr.world (Below.refl _ w).drew
  have hm' : m ≤ ops.size := by simp only [drawChk, Bool.and_eq_true] at hchk; simpa using hchk.1.1
  have hrep : ∀ j, j < ops.size → (Array.replicate ops.size false).getD j true = false := fun j hj => by simp [Array.getD, hj]
  refine adrawP_sound (R := R) hchk he hem (by simpa using h1) (fun i hi => by simpa using h2 i (Nat.zero_le _) hi) (by simpa using h3) h4 _ _ β _ _ st.T (by simp) ?_ (fun i _ h => hrep i h) ?_ hr' (fun e he hl => ?_) ?_
  · exact Nat.le_trans (List.length_filter_le _ _) (by simp)
  · funext q
    exact (tabM_none fun p hp _ => hrep _ (by have := hem p hp; omega)).symm
  · rw [hrep e (by omega)] at hl; cases hl
  · intro i d hi hl _
    rw [hrep i (by omega)] at hl; cases hl
end steps
end
end Go.Proofs.YtnjihhheiiapnaaGreat.AW
namespace Go.Proofs.YtnjihhheiiapnaaGreat.AW
open Go Go.RowKit
section
variable {P : Program} {N : Fr} {Q : Exit → ASt → Prop} {st : ASt} {I0 : Dom} {w0 : World} {β : Nat → Value} {a : Act} {w : World} {ops : Array Oper}
section steps
variable {i : Nat} {l : List Nat} {d : Nat} {x : AV}
end steps
end
end Go.Proofs.YtnjihhheiiapnaaGreat.AW
namespace Go.Proofs.YtnjihhheiiapnaaGreat.AW
open Go Go.RowKit
def raisedA (v : Value) : List PanicEntry := [{ v, recovered := false }]
def deadL (z : List Nat) : List (Nat × Ob) := z.map fun i => (i, .dead)
def OkM (P : Program) (f : Nat) (L : List (Nat × Ob)) (args : List AV) (R : AV → List (Nat × Ob) → Prop) (E : Value → Prop) : Prop :=
  ∀ (D : Dom) (w : World) (β : Nat → Value) (vs : List Value), (∀ b, D.I b → b < w.heap.size) → Objs D w.heap.size (tb L) β w → All2 (Rep (Im D w.heap.size (tb L) β w) (tb L) β w) args vs →
    Calls P f vs.toArray w fun e w' =>
      (∃ v x L' β', e = .returned v ∧ R x L' ∧ BelowK D.K w.heap.size w w' ∧ Objs D w.heap.size (tb L') β' w' ∧ (∀ i, (L.map (·.1)).contains i = true → tb L' i ≠ .no ∧ β' i = β i) ∧ Rep (Im D w.heap.size (tb L') β' w') (tb L') β' w' x v) ∨
      (∃ v β', e = .panicked (raisedA v) ∧ E v ∧ BelowK D.K w.heap.size w w' ∧ Objs D w.heap.size (tb (deadL (L.map (·.1)))) β' w' ∧ ∀ i, (L.map (·.1)).contains i = true → β' i = β i)
theorem OkM.mono {P : Program} {f : Nat} {L : List (Nat × Ob)} {args : List AV} {R R' : AV → List (Nat × Ob) → Prop} {E E' : Value → Prop} (h : OkM P f L args R E) (hR : ∀ x L', R x L' → R' x L') (hE : ∀ v, E v → E' v) : OkM P f L args R' E' := by
  intro D w β vs h1 h2 h3
  refine (h D w β vs h1 h2 h3).mono ?_
  rintro e w' (⟨v, x, L', β', a1, a2, a3⟩ | ⟨v, β', a1, a2, a3⟩)
  · exact .inl ⟨v, x, L', β', a1, hR _ _ a2, a3⟩
  · exact .inr ⟨v, β', a1, hE _ a2, a3⟩
theorem dead_get {z : List Nat} {i : Nat} : tb (deadL z) i = .no ∨ tb (deadL z) i = .dead := by
  induction z with
  | nil => exact .inl rfl
  | cons j z ih =>
    simp only [deadL, List.map_cons, tb, upd]
    split
    · exact .inr rfl
    · exact ih
theorem dead_mem {z : List Nat} {i : Nat} (h : z.contains i = true) : tb (deadL z) i = .dead := by
  induction z with
  | nil => simp at h
  | cons j z ih =>
    simp only [deadL, List.map_cons, tb, upd]
    split
    · rfl
    · rename_i hne
      refine ih ?_
      simp only [List.contains_cons, Bool.or_eq_true, beq_iff_eq] at h
      exact h.resolve_left hne
theorem dead_key {z : List Nat} {i : Nat} (h : tb (deadL z) i ≠ .no) : z.contains i = true := by
  have := tb_keys h
  simp only [deadL, List.map_map] at this
  have h2 : (Prod.fst ∘ fun i : Nat => (i, Ob.dead)) = id := rfl
  rw [h2, List.map_id] at this
  simpa using this
section
variable {P : Program} {N : Fr} {Q : Exit → ASt → Prop} {st : ASt} {I0 : Dom} {w0 : World} {β : Nat → Value} {a : Act} {w : World}
def EndR (z : List Nat) (T : Nat → Ob) (x : AV) (R : AV → List (Nat × Ob) → Prop) : Prop :=
  ∃ r L' y, R y L' ∧ FzT r T (tb L') ∧ Fz r T (tb L') x y ∧ pinOk z r (tb L') = true
def endM (P : Program) (fn : Func) (z : List Nat) (R : AV → List (Nat × Ob) → Prop) (E : Value → Prop) : Exit → ASt → Prop
  | .ret, st | .normal, st => ∃ x, resA P fn st = some x ∧ EndR z st.T x R
  | .panic ch, _ => ∃ v, ch = raisedA v ∧ E v
  | _, _ => False
theorem endR {z : List Nat} {T : Nat → Ob} {x y : AV} {R : AV → List (Nat × Ob) → Prop} (r : Nat → Nat) (L' : List (Nat × Ob)) (hR : R y L') (h : FzAll r T (tb L') (L'.map (·.1))) (hx : Fz r T (tb L') x y)
    (hinj : ((L'.map (·.1)).all fun i => (L'.map (·.1)).all fun j => !(r i == r j) || i == j) = true := by rfl) (hz : pinOk z r (tb L') = true := by rfl) : EndR z T x R :=
  ⟨r, L', y, hR, fzT_tb L' h hinj, hx, hz⟩
theorem Rel.dead (h : Rel N I0 w0 st β a w) : Objs I0 w0.heap.size (tb (deadL N.z)) β w := by
  have hno : ∀ i e s es, tb (deadL N.z) i ≠ .live e s es := fun i e s es hi => by rcases dead_get (z := N.z) (i := i) with h | h <;> rw [h] at hi <;> cases hi
  exact ⟨fun i e s es hi => absurd hi (hno _ _ _ _), fun i e s es j e' s' es' b hi => absurd hi (hno _ _ _ _)⟩
theorem okM_of {f : Nat} {fn : Func} {c : Code} {L : List (Nat × Ob)} {args : List AV} {R : AV → List (Nat × Ob) → Prop} {E : Value → Prop} (hf : P.funcs[f]? = some fn) (hb : fn.body = some c) (hn : args.length ≤ fn.ntmps)
    (h : AWp P ⟨fn.ntmps, L.map (·.1), none, true⟩ c (endM P fn (L.map (·.1)) R E) ⟨argEnv 0 args, tb L⟩) (hz : pinOk (L.map (·.1)) id (tb L) = true := by rfl) : OkM P f L args R E := by
  intro D0 w β vs hI hO hvs
  have hl := hvs.length
  let D : Dom := { I := D0.I, K := D0.K, pin := fun i => if (L.map (·.1)).contains i = true then some (β i) else none, ds := [], Bel := BelowK D0.K w.heap.size w }
  have hr0 : Rel ⟨fn.ntmps, L.map (·.1), none, true⟩ D w ⟨argEnv 0 args, tb L⟩ β { tmps := vs.toArray ++ Array.replicate (fn.ntmps - vs.toArray.size) undef, defers := [] } w := by
    refine ⟨hI, ?_, ⟨[], rfl, .nil, fun D hD => (by cases hD), fun _ => rfl⟩, ?_, ⟨hO.obj, hO.inj⟩, BelowK.refl _ _ w, fun _ _ h1 h2 => BelowK.trans h1 h2, Nat.le_refl _, fun i v hi => ?_⟩
    · simp; omega
    · intro t x hx
      obtain ⟨_, h1⟩ := argEnv_get args 0 t x hx
      obtain ⟨y, h2, h3⟩ := hvs.get h1
      simp only [Nat.sub_zero] at h2
      have hlt : t < vs.length := (List.getElem?_eq_some_iff.1 h2).1
      have e1 : (vs.toArray ++ Array.replicate (fn.ntmps - vs.toArray.size) undef).getD t undef = y := by
        rw [Array.getD_eq_getD_getElem?, Array.getElem?_append_left (by simpa using hlt)]
        simp [h2]
      rw [e1]
      exact h3
    · have hi' : (if (L.map (·.1)).contains i = true then some (β i) else none) = some v := hi
      split at hi'
      · rename_i hc
        cases hi'
        refine ⟨hc, fun e => ?_, rfl⟩
        have := List.all_eq_true.1 hz i (by simpa using hc)
        rw [show tb L i = .no from e] at this
        simp at this
      · cases hi'
  refine calls_of_walk hf hb rfl rfl hr0 h ?_
  intro e st' β' a' w' _ h2
  have hpin : ∀ {a'' w''}, Rel ⟨fn.ntmps, L.map (·.1), none, true⟩ D w st' β' a'' w'' → ∀ i, (L.map (·.1)).contains i = true → st'.T i ≠ .no ∧ β' i = β i := fun h1 i hi => (h1.pins i (β i) (by show (if _ then _ else _) = _; rw [if_pos hi])).2
  have told : (∃ x, resA P fn st' = some x ∧ EndR (L.map (·.1)) st'.T x R) → ∀ a'' w'', Rel ⟨fn.ntmps, L.map (·.1), none, true⟩ D w st' β' a'' w'' → a''.tmps = a'.tmps → ∃ v, (results fn a'.tmps).run P w'' = .ok v w'' ∧
      ((∃ v' x L' β', Ending.returned v = .returned v' ∧ R x L' ∧ BelowK D0.K w.heap.size w w'' ∧ Objs D0 w.heap.size (tb L') β' w'' ∧ (∀ i, (L.map (·.1)).contains i = true → tb L' i ≠ .no ∧ β' i = β i) ∧ Rep (Im D0 w.heap.size (tb L') β' w'') (tb L') β' w'' x v') ∨
      (∃ v' β', Ending.returned v = .panicked (raisedA v') ∧ E v' ∧ BelowK D0.K w.heap.size w w'' ∧ Objs D0 w.heap.size (tb (deadL (L.map (·.1)))) β' w'' ∧ ∀ i, (L.map (·.1)).contains i = true → β' i = β i)) := by
    rintro ⟨x, h3, r, L', y, hR, hT, hx, hpz⟩ a'' w'' h1 ht
    obtain ⟨v, hv1, hv2⟩ := res_run h1 h3
    rw [ht] at hv1
    refine ⟨v, hv1, .inl ⟨v, y, L', fun j => β' (r j), rfl, hR, h1.below, ?_, fun i hi => ?_, rep_fz h1.objs hT hx hv2⟩⟩
    · have := h1.objs.fz hT
      exact ⟨this.obj, this.inj⟩
    · have := List.all_eq_true.1 hpz i (by simpa using hi)
      simp only [Bool.and_eq_true, beq_iff_eq] at this
      refine ⟨fun e => ?_, by show β' (r i) = β i; rw [this.1]; exact (hpin h1 i hi).2⟩
      rw [e] at this; cases this.2
  cases e with
  | ret => exact told h2
  | normal => exact told h2
  | panic ch =>
    obtain ⟨v, rfl, hv⟩ := h2
    intro a'' w'' h1 ht
    refine .inr ⟨v, β', rfl, hv, h1.below, ?_, fun i hi => (hpin h1 i hi).2⟩
    have := h1.dead
    exact ⟨this.obj, this.inj⟩
  | _ => exact h2.elim
inductive InZ (z : List Nat) : AV → Prop
  | no (x : AV) : NoOwn x → InZ z x
  | agg (l : List AV) : (∀ x ∈ l, InZ z x) → InZ z (.agg l)
  | tup (l : List AV) : (∀ x ∈ l, InZ z x) → InZ z (.tup l)
  | clo (f : Nat) (l : List AV) : (∀ x ∈ l, InZ z x) → InZ z (.clo f l)
  | own (i : Nat) : z.contains i = true → InZ z (.own i)
  | ptr (i k r : Nat) : z.contains i = true → InZ z (.ptr i k r)
theorem Rep.inZ {z : List Nat} {I : Nat → Prop} {T T' : Nat → Ob} {β : Nat → Value} {w : World} {x : AV} {y : Value} (hT : ∀ i, z.contains i = true → T' i = T i) (hx : InZ z x) : ∀ {y : Value}, Rep I T β w x y → Rep I T' β w x y := by
  induction hx with
  | no x hx => exact fun h => h.noOwn hx
  | agg l _ ih => intro y h; cases h with | agg _ cs hl hc => exact .agg l cs hl fun j p c hp hcc => ih p (List.mem_of_getElem? hp) (hc j p c hp hcc)
  | tup l _ ih => intro y h; cases h with | tup _ cs hl hc => exact .tup l cs hl fun j p c hp hcc => ih p (List.mem_of_getElem? hp) (hc j p c hp hcc)
  | clo f l _ ih => intro y h; cases h with | clo _ _ cs hl hc => exact .clo f l cs hl fun j p c hp hcc => ih p (List.mem_of_getElem? hp) (hc j p c hp hcc)
  | own i hi => intro y h; cases h with | own _ _ hn hx => exact .own i y (by rw [hT i hi]; exact hn) fun e s es he => hx e s es (by rw [← hT i hi]; exact he)
  | ptr i k r hi => intro y h; cases h with | ptr _ _ _ _ hn hx => exact .ptr i k r y (by rw [hT i hi]; exact hn) fun e s es he => hx e s es (by rw [← hT i hi]; exact he)
def InZL (z : List Nat) : List AV → Prop
  | [] => True
  | x :: l => InZ z x ∧ InZL z l
def InZLL (z : List Nat) : List (List AV) → Prop
  | [] => True
  | c :: l => InZL z c ∧ InZLL z l
theorem InZL.mem {z : List Nat} : ∀ {l : List AV}, InZL z l → ∀ x ∈ l, InZ z x
  | _ :: _, ⟨h, _⟩, _, .head _ => h
  | _ :: _, ⟨_, h⟩, x, .tail _ hx => InZL.mem h x hx
theorem InZLL.mem {z : List Nat} : ∀ {l : List (List AV)}, InZLL z l → ∀ c ∈ l, ∀ x ∈ c, InZ z x
  | _ :: _, ⟨h, _⟩, _, .head _, x, hx => h.mem x hx
  | _ :: _, ⟨_, h⟩, c, .tail _ hc, x, hx => InZLL.mem h c hc x hx
theorem inZL_no {z : List Nat} : ∀ {l : List AV}, (∀ x ∈ l, NoOwn x) → InZL z l
  | [], _ => trivial
  | x :: l, h => ⟨.no x (h x (.head _)), inZL_no fun y hy => h y (.tail _ hy)⟩
theorem inZLL_no {z : List Nat} : ∀ {l : List (List AV)}, (∀ c ∈ l, ∀ x ∈ c, NoOwn x) → InZLL z l
  | [], _ => trivial
  | x :: l, h => ⟨inZL_no (h x (.head _)), inZLL_no fun y hy => h y (.tail _ hy)⟩
def RowsZ (z : List Nat) : List (Nat × Ob) → Prop
  | [] => True
  | (_, .live _ _ es) :: l => InZLL z es ∧ RowsZ z l
  | _ :: l => RowsZ z l
theorem RowsZ.get {z : List Nat} : ∀ {L : List (Nat × Ob)}, RowsZ z L → ∀ {i e s : Nat} {es : List (List AV)}, tb L i = .live e s es → ∀ c ∈ es, ∀ x ∈ c, InZ z x
  | [], _, i, e, s, es, h => by cases h
  | (j, o) :: l, hz, i, e, s, es, h => by
    simp only [tb, upd] at h
    by_cases hj : i = j
    · rw [if_pos hj] at h; subst h; exact hz.1.mem
    · rw [if_neg hj] at h
      cases o with
      | live => exact RowsZ.get hz.2 h
      | no => exact RowsZ.get (L := l) hz h
      | dead => exact RowsZ.get (L := l) hz h
def AgreeL (T : Nat → Ob) (L : List (Nat × Ob)) : List Nat → Prop
  | [] => True
  | i :: z => T i = tb L i ∧ AgreeL T L z
theorem AgreeL.get {T : Nat → Ob} {L : List (Nat × Ob)} : ∀ {z : List Nat}, AgreeL T L z → ∀ i, z.contains i = true → T i = tb L i
  | [], _, i, h => by simp at h
  | j :: z, ⟨h1, h2⟩, i, h => by
    simp only [List.contains_cons, Bool.or_eq_true, beq_iff_eq] at h
    rcases h with rfl | h
    · exact h1
    · exact AgreeL.get h2 i h
theorem tb_in {L : List (Nat × Ob)} {i : Nat} (h : tb L i ≠ .no) : (L.map (·.1)).contains i = true := by simpa using tb_keys h
theorem Rel.lend (h : Rel N I0 w0 st β a w) {L : List (Nat × Ob)} (hag : AgreeL st.T L (L.map (·.1))) (hrows : RowsZ (L.map (·.1)) L) :
    Objs (subD I0 w0.heap.size st.T β w (L.map (·.1))) w.heap.size (tb L) β w ∧
      ∀ x v, InZ (L.map (·.1)) x → Rep (Im I0 w0.heap.size st.T β w) st.T β w x v → Rep (Im (subD I0 w0.heap.size st.T β w (L.map (·.1))) w.heap.size (tb L) β w) (tb L) β w x v := by
  have hT := hag.get
  have hlive : ∀ i e s es, tb L i = .live e s es → (L.map (·.1)).contains i = true ∧ st.T i = .live e s es := fun i e s es hi =>
    have hc := tb_in (i := i) (L := L) (by rw [hi]; simp)
    ⟨hc, by rw [hT i hc]; exact hi⟩
  have hrep : ∀ x v, InZ (L.map (·.1)) x → Rep (Im I0 w0.heap.size st.T β w) st.T β w x v → Rep (Im (subD I0 w0.heap.size st.T β w (L.map (·.1))) w.heap.size (tb L) β w) (tb L) β w x v := by
    intro x v hx hr
    have h1 : Rep (Im I0 w0.heap.size st.T β w) (tb L) β w x v := hr.inZ (y := v) (fun i hi => (hT i hi).symm) hx
    exact h1.mono (fun b hb => ⟨⟨.inl hb, hb.2.1, fun i e s es hi => hb.2.2 i e s es (hlive i e s es hi).2⟩, fun o => rfl⟩) fun i hi => ⟨hi, fun e s es' h' => ⟨rfl, es', h', rfl⟩⟩
  refine ⟨⟨fun i e s es hi => ?_, fun i e s es j e' s' es' b hi hj => h.objs.inj i e s es j e' s' es' b (hlive _ _ _ _ hi).2 (hlive _ _ _ _ hj).2⟩, hrep⟩
  obtain ⟨hc, hi'⟩ := hlive i e s es hi
  obtain ⟨h1, xs, h2, h3⟩ := h.objs.obj i e s es hi'
  refine ⟨h1, xs, ⟨h2.1, h2.2.imp id ?_⟩, fun j y hy => ?_⟩
  · rintro ⟨g, cap, cur, fr, e1, e2, e3⟩
    exact ⟨g, cap, cur, fr, e1, .inr ⟨i, e, s, es, hc, hi', by rw [e1]; rfl⟩, e3⟩
  · obtain ⟨u, hu, hr⟩ := h3 j y hy
    refine ⟨u, hu, hrep _ _ ?_ hr⟩
    obtain ⟨c, hcm, hyc⟩ := List.mem_flatten.1 (List.mem_of_getElem? hy)
    exact hrows.get hi c hcm y hyc
theorem callM_runs (hr : Rel N I0 w0 st β a w) {o : Oper} {g : Nat} {caps : List AV} {z : Operand} {xs : Array Operand} {ts : Array TypeId} {l : List AV} {L : List (Nat × Ob)} {R : AV → List (Nat × Ob) → Prop} {E : Value → Prop} (ho : o.op = .call ⟨.value z, xs, ts⟩)
    (hz : ev st z = some (.clo g caps)) (hg : goFn P g = true) (hl : xs.toList.map (ev st) = l.map some) (hno : ∀ x ∈ l ++ caps, InZ (L.map (·.1)) x) (hag : AgreeL st.T L (L.map (·.1))) (hrows : RowsZ (L.map (·.1)) L) (hok : OkM P g L (l ++ caps) R E) :
    ∃ args : Array Value, (execOp a.eval o).run P w = .ok (.enter g args) w ∧ Calls P g args w fun e w' =>
      (∃ v x L' β', e = .returned v ∧ R x L' ∧ BelowK (subD I0 w0.heap.size st.T β w (L.map (·.1))).K w.heap.size w w' ∧ Objs (subD I0 w0.heap.size st.T β w (L.map (·.1))) w.heap.size (tb L') β' w' ∧
        (∀ i, (L.map (·.1)).contains i = true → tb L' i ≠ .no ∧ β' i = β i) ∧ Rep (Im (subD I0 w0.heap.size st.T β w (L.map (·.1))) w.heap.size (tb L') β' w') (tb L') β' w' x v) ∨
      (∃ v β', e = .panicked (raisedA v) ∧ E v ∧ BelowK (subD I0 w0.heap.size st.T β w (L.map (·.1))).K w.heap.size w w' ∧ Objs (subD I0 w0.heap.size st.T β w (L.map (·.1))) w.heap.size (tb (deadL (L.map (·.1)))) β' w' ∧
        ∀ i, (L.map (·.1)).contains i = true → β' i = β i) := by
  obtain ⟨hO, hrep⟩ := hr.lend hag hrows
  have hzr := hr.ev hz
  generalize hy : a.eval z = y at hzr
  cases hzr with
  | clo g caps vs hvl hvc =>
    have hlen : l.length = xs.size := by have := congrArg List.length hl; simpa using this.symm
    have hargs : All2 (Rep (Im (subD I0 w0.heap.size st.T β w (L.map (·.1))) w.heap.size (tb L) β w) (tb L) β w) (l ++ caps) ((xs.map a.eval) ++ vs).toList := by
      refine all2_of (by simp [hlen, hvl]) fun j p v hp hv => ?_
      have hn := hno p (List.mem_of_getElem? hp)
      rcases Nat.lt_or_ge j l.length with hj | hj
      · rw [List.getElem?_append_left hj] at hp
        have h1 : (xs.toList.map (ev st))[j]? = some (some p) := by rw [hl]; simp [hp]
        simp only [List.getElem?_map, Array.getElem?_toList] at h1
        cases hcj : xs[j]? with
        | none => simp [hcj] at h1
        | some q =>
          simp only [hcj, Option.map_some, Option.some.injEq] at h1
          have hv' : v = a.eval q := by
            rw [Array.toList_append, List.getElem?_append_left (by simp; omega)] at hv
            simp [hcj] at hv
            exact hv.symm
          subst hv'
          exact hrep _ _ hn (hr.ev h1)
      · rw [List.getElem?_append_right hj] at hp
        rw [Array.toList_append, List.getElem?_append_right (by simp; omega)] at hv
        simp only [Array.toList_map, List.length_map, Array.length_toList, Array.getElem?_toList] at hv
        rw [← hlen] at hv
        exact hrep _ _ hn (hvc _ _ _ hp hv)
    have hc := hok (subD I0 w0.heap.size st.T β w (L.map (·.1))) w β _ (fun b hb => hb.2.1) hO hargs
    simp only [Array.toArray_toList] at hc
    refine ⟨(xs.map a.eval) ++ vs, ?_, hc⟩
    have := run_callFunc hg ((xs.map a.eval) ++ vs) w
    simp [execOp, ho, resolve, hy, Deferred.ofValue, invoke, this]
def FitL (T : Nat → Ob) (L L' : List (Nat × Ob)) : Prop :=
  (∀ j, tb L' j ≠ .no → T j = .no ∨ (L.map (·.1)).contains j = true) ∧ ∀ j e s es', (L.map (·.1)).contains j = true → tb L' j = .live e s es' → ∃ es, T j = .live e s es ∧ es.length = es'.length
def fitOne (T : Nat → Ob) (z : List Nat) : Nat × Ob → Prop
  | (j, .live e s es') => bif z.contains j then (∃ es, T j = .live e s es ∧ es.length = es'.length) else T j = .no
  | (j, _) => bif z.contains j then True else T j = .no
def FitAll (T : Nat → Ob) (z : List Nat) : List (Nat × Ob) → Prop
  | [] => True
  | p :: l => fitOne T z p ∧ FitAll T z l
theorem fit_of {T : Nat → Ob} {L : List (Nat × Ob)} : ∀ {L' : List (Nat × Ob)}, FitAll T (L.map (·.1)) L' → FitL T L L'
  | [], _ => ⟨fun j hj => absurd rfl hj, fun j e s es' _ h => by cases h⟩
  | (k, o) :: l, ⟨h1, h2⟩ => by
    obtain ⟨a1, a2⟩ := fit_of h2
    refine ⟨fun j hj => ?_, fun j e s es' hz hj => ?_⟩
    · simp only [tb, upd] at hj
      by_cases hjk : j = k
      · subst hjk
        cases hc : (L.map (·.1)).contains j with
        | true => exact .inr rfl
        | false => left; cases o <;> (simp only [fitOne, hc, cond_false] at h1; exact h1)
      · rw [if_neg hjk] at hj; exact a1 j hj
    · simp only [tb, upd] at hj
      by_cases hjk : j = k
      · subst hjk
        rw [if_pos rfl] at hj; subst hj
        simp only [fitOne, hz, cond_true] at h1; exact h1
      · rw [if_neg hjk] at hj; exact a2 j e s es' hz hj
section ops
variable {o : Oper} {K : ASt → Prop} {d : Nat} {x y : AV}
theorem op_callM {g : Nat} {caps : List AV} {z : Operand} {xs : Array Operand} {ts : Array TypeId} {l : List AV} {L : List (Nat × Ob)} {R : AV → List (Nat × Ob) → Prop} {E : Value → Prop} (ho : o.op = .call ⟨.value z, xs, ts⟩) (hd : ∀ t, o.dst = some t → t < N.n)
    (hz : ev st z = some (.clo g caps)) (hg : goFn P g = true) (hl : xs.toList.map (ev st) = l.map some) (hno : ∀ x ∈ l ++ caps, InZ (L.map (·.1)) x) (hag : AgreeL st.T L (L.map (·.1))) (hrows : RowsZ (L.map (·.1)) L) (hok : OkM P g L (l ++ caps) R E)
    (k : ∀ x L', R x L' → FitL st.T L L' ∧ K (ASt.putO ⟨st.env, mergeT st.T (tb L')⟩ o.dst x)) (kE : ∀ v, E v → Q (.panic (raisedA v)) ⟨st.env, mergeT st.T (tb (deadL (L.map (·.1))))⟩) : AOp P N o K Q st := by
  intro I0 w0 β a w hr K' hK
  obtain ⟨args, hrun, hc⟩ := callM_runs hr ho hz hg hl hno hag hrows hok
  refine .inl ?_
  simp only [Oper.wp, hrun, Oper.upon]
  refine hc.mono ?_
  rintro e w' (⟨v, x, L', β', rfl, h1, h2, h3, h4, h5⟩ | ⟨v, β', rfl, h1, h2, h3, h4⟩)
  · obtain ⟨⟨f1, f2⟩, hk⟩ := k x L' h1
    obtain ⟨β2, m1, _, m3, _⟩ := hr.mergeK h2 h3 f1 h4 f2
    exact hK _ β2 _ w' (m1.putO hd (m3 x v h5)) hk
  · obtain ⟨β2, m1, _⟩ := hr.mergeK h2 h3 (fun j hj => .inr (dead_key hj)) (fun j hj => ⟨by rw [dead_mem hj]; simp, h4 j hj⟩) (fun j e s es' hj h => by rw [dead_mem hj] at h; cases h)
    exact .inr ⟨_, β2, m1, kE v h1⟩
end ops
end
end Go.Proofs.YtnjihhheiiapnaaGreat.AW
namespace Go.Proofs.YtnjihhheiiapnaaGreat.AW
open Go Go.RowKit
theorem inZ_agg {z : List Nat} {l : List AV} (h : InZL z l) : InZ z (.agg l) := .agg l h.mem
def Mut (P : Program) (f : Nat) (L : List (Nat × Ob)) (args : List AV) (x : AV) (L' : List (Nat × Ob)) : Prop := OkM P f L args (fun y M => y = x ∧ M = L') (fun _ => False)
def Fails (P : Program) (f : Nat) (L : List (Nat × Ob)) (args : List AV) (v : Value) : Prop := OkM P f L args (fun _ _ => False) (fun u => u = v)
theorem Mut.to {P : Program} {f : Nat} {L L' M : List (Nat × Ob)} {args : List AV} {x y : AV} (h : Mut P f L args x L') (e : x = y) (e' : L' = M) : Mut P f L args y M := by subst e; subst e'; exact h
theorem Gives.to' {P : Program} {f : Nat} {args : List AV} {x y : AV} (h : Gives P f args x) (e : x = y) : Gives P f args y := e ▸ h
def updL (T : Nat → Ob) : List (Nat × Ob) → Nat → Ob
  | [] => T
  | (i, o) :: l => upd (updL T l) i o
def yesL (L : List (Nat × Ob)) : Bool := L.all fun p => match p.2 with | .no => false | _ => true
theorem mergeT_tb {T : Nat → Ob} : ∀ {L : List (Nat × Ob)}, yesL L = true → mergeT T (tb L) = updL T L
  | [], _ => by funext j; rfl
  | (i, o) :: l, h => by
    simp only [yesL, List.all_cons, Bool.and_eq_true] at h
    have ih := mergeT_tb (T := T) (L := l) h.2
    funext j
    simp only [updL, upd, ← ih]
    by_cases hj : j = i
    · subst hj
      have : tb ((j, o) :: l) j ≠ .no := by simp only [tb, upd, if_pos]; intro e; rw [e] at h; cases h.1
      rw [mergeT_some this, if_pos rfl]; simp [tb, upd]
    · rw [if_neg hj]
      simp only [mergeT, tb, upd, if_neg hj]
section
variable {P : Program} {N : Fr} {Q : Exit → ASt → Prop} {st : ASt} {I0 : Dom} {w0 : World} {β : Nat → Value} {a : Act} {w : World}
section ops
variable {o : Oper} {K : ASt → Prop} {d : Nat} {x y : AV}
theorem op_mut {g : Nat} {caps : List AV} {z : Operand} {xs : Array Operand} {ts : Array TypeId} {l l' : List AV} {L L' : List (Nat × Ob)} (hok : Mut P g L l' x L') (ho : o.op = .call ⟨.value z, xs, ts⟩) (hd : ∀ t, o.dst = some t → t < N.n)
    (hz : ev st z = some (.clo g caps)) (hl : evs st xs.toList = some l) (hl' : l ++ caps = l') (hg : goFn P g = true) (hno : InZL (L.map (·.1)) l') (hag : AgreeL st.T L (L.map (·.1))) (hrows : RowsZ (L.map (·.1)) L) (hfit : FitAll st.T (L.map (·.1)) L') (hy : yesL L' = true)
    (k : K (ASt.putO ⟨st.env, updL st.T L'⟩ o.dst x)) : AOp P N o K Q st := by
  subst hl'
  refine op_callM ho hd hz hg (evs_map hl) hno.mem hag hrows hok ?_ fun v h => h.elim
  rintro y M ⟨rfl, rfl⟩
  exact ⟨fit_of hfit, by rw [mergeT_tb hy]; exact k⟩
theorem op_fails {g : Nat} {caps : List AV} {z : Operand} {xs : Array Operand} {ts : Array TypeId} {l l' : List AV} {L : List (Nat × Ob)} {v : Value} (hok : Fails P g L l' v) (ho : o.op = .call ⟨.value z, xs, ts⟩) (hd : ∀ t, o.dst = some t → t < N.n)
    (hz : ev st z = some (.clo g caps)) (hl : evs st xs.toList = some l) (hl' : l ++ caps = l') (hg : goFn P g = true) (hno : InZL (L.map (·.1)) l') (hag : AgreeL st.T L (L.map (·.1))) (hrows : RowsZ (L.map (·.1)) L)
    (k : ∀ s, Q (.panic (raisedA v)) s) : AOp P N o K Q st := by
  subst hl'
  refine op_callM ho hd hz hg (evs_map hl) hno.mem hag hrows hok (fun y M h => h.elim) fun u h => ?_
  subst h; exact k _
theorem op_panic {z : Operand} {t : TypeId} {v : Value} (ho : o.op = .panic z) (hz : ev st z = some (.v (.iface t v))) (k : ∀ s, Q (.panic (raisedA (.iface t v))) s) : AOp P N o K Q st := by
  intro I0 w0 β a w hr K' hK
  have hv := (hr.ev hz).v_inv
  have hrun : (execOp a.eval o).run P w = .halt (.panic (.iface t v)) w := by
    simp [execOp, ho, hv, Instr.panic, goPanic, Sem.run, Sem.halt]
  refine .inl ?_
  simp only [Oper.wp, hrun, Oper.upon]
  exact .inr ⟨st, β, hr, k st⟩
def plainV : AV → Option Value
  | .v x => some x
  | .agg l => bif l.all (fun x => match x with | .v _ => true | _ => false) then some (.agg (l.map fun x => match x with | .v u => u | _ => undef).toArray) else none
  | _ => none
theorem plain_rep {I : Nat → Prop} {T : Nat → Ob} {x : AV} {u v : Value} (h : Rep I T β w x u) (hp : plainV x = some v) : u = v := by
  cases h with
  | v => simp only [plainV, Option.some.injEq] at hp; exact hp
  | agg l cs hl hc =>
    simp only [plainV, Bool.cond_eq_ite] at hp
    split at hp
    · rename_i ha
      cases hp
      congr 1
      apply Array.ext
      · simpa using hl.symm
      · intro i h1 h2
        have hlt : i < l.length := by rw [hl]; exact h1
        have hr := hc i _ _ (List.getElem?_eq_getElem hlt) (Array.getElem?_eq_getElem h1)
        have hk := List.all_eq_true.1 ha _ (List.getElem_mem hlt)
        simp only [List.getElem_toArray, List.getElem_map]
        revert hr hk
        generalize l[i] = p
        generalize cs[i] = u
        intro hr hk
        cases hr <;> first | rfl | cases hk
    · cases hp
  | _ => simp [plainV] at hp
def isIface (P : Program) (t : TypeId) : Bool := match P.underlying t with
  | some (.interface _) => true
  | some _ => false
  | none => true
theorem y_iface {z : Operand} {t : TypeId} {v : Value} (ho : o.op = .makeInterface t z := by rfl) (hz : ev st z = some x := by rfl) (hp : plainV x = some v := by rfl) (ht : isIface P t = false := by rfl) : AYield P N Q o st (.v (.iface t v)) :=
  AYield.still fun I0 w0 β a w hr => by
    refine ⟨.iface t v, ?_, .v _⟩
    have h1 := plain_rep (hr.ev hz) hp
    unfold isIface at ht
    cases hu : P.underlying t with
    | none => rw [hu] at ht; cases ht
    | some d =>
      rw [hu] at ht
      cases d <;> first | (cases ht; done) | simp [execOp, ho, Instr.makeInterface, run_underlying hu, h1]
theorem y_pnilN {z : Operand} {t t' e : TypeId} {cs : List AV} (ho : o.op = .binOp .neq t z (.const (.pointer none)) t' := by rfl) (hz : ev st z = some (.ip cs) := by rfl) (ht : P.underlying t = some (.pointer e) := by rfl) : AYield P N Q o st (.v (.bool true)) :=
  AYield.still fun I0 w0 β a w hr => by
    have h := hr.ev hz
    refine ⟨.bool true, ?_, .v _⟩
    have he : P.pointee t = e := by simp [Program.pointee, ht]
    generalize hy : a.eval z = y at h
    cases h with
    | ip cs b off vs =>
      have hc : a.eval (.const (.pointer none)) = .pointer none := rfl
      have hq := run_equal_pointer_nil (P := P) w t (some ⟨b, off, none⟩) (by rw [he]; exact ht)
      simp [execOp, ho, hy, hc, eqGuard_at_pointer, binOp, hq]
theorem y_mut {g : Nat} {caps : List AV} {z : Operand} {xs : Array Operand} {ts : Array TypeId} {l l' : List AV} {L L' : List (Nat × Ob)} {T1 : Nat → Ob} (hok : Mut P g L l' x L') (hT1 : updL st.T L' = T1 := by rfl) (ho : o.op = .call ⟨.value z, xs, ts⟩ := by rfl)
    (hz : ev st z = some (.clo g caps) := by rfl) (hl : evs st xs.toList = some l := by rfl) (hl' : l ++ caps = l' := by rfl) (hg : goFn P g = true := by rfl)
    (hno : InZL (L.map (·.1)) l' := by repeat' (first | exact trivial | (refine .no _ ?_; simp <;> fail) | exact .ptr _ _ _ rfl | exact .own _ rfl | refine inZ_agg ?_ | refine ⟨?_, ?_⟩))
    (hag : AgreeL st.T L (L.map (·.1)) := by repeat' (first | exact trivial | refine ⟨rfl, ?_⟩)) (hrows : RowsZ (L.map (·.1)) L := by repeat' (first | exact trivial | (refine inZLL_no ?_; simp <;> fail) | (refine .no _ ?_; simp <;> fail) | exact .ptr _ _ _ rfl | exact .own _ rfl | refine inZ_agg ?_ | refine ⟨?_, ?_⟩))
    (hfit : FitAll st.T (L.map (·.1)) L' := by repeat' (first | exact trivial | exact ⟨_, rfl, rfl⟩ | exact rfl | refine ⟨?_, ?_⟩)) (hy : yesL L' = true := by rfl) : AEff P N Q o st x T1 := by
  subst hT1
  subst hl'
  intro I0 w0 β a w hr K' hK
  obtain ⟨args, hrun, hc⟩ := callM_runs hr ho hz hg (evs_map hl) hno.mem hag hrows hok
  refine .inl ?_
  simp only [Oper.wp, hrun, Oper.upon]
  refine hc.mono ?_
  rintro e w' (⟨v, x, M, β', rfl, ⟨rfl, rfl⟩, h2, h3, h4, h5⟩ | ⟨v, β', _, h1, _⟩)
  · obtain ⟨f1, f2⟩ := fit_of hfit
    obtain ⟨β2, m1, m2, m3, _⟩ := hr.mergeK h2 h3 f1 h4 f2
    rw [mergeT_tb hy] at m1 m2 m3
    exact hK v w' β2 m1.held m2 m1.objs (m3 _ v h5)
  · exact h1.elim
theorem updL_at {T : Nat → Ob} {j : Nat} : ∀ {L : List (Nat × Ob)}, updL T L j = if (L.map (·.1)).contains j = true then tb L j else T j
  | [] => by simp [updL]
  | (i, o) :: l => by
    have ih := updL_at (T := T) (j := j) (L := l)
    simp only [updL, upd, tb, List.map_cons, List.contains_cons, Bool.or_eq_true, beq_iff_eq]
    by_cases hj : j = i
    · simp [hj]
    · simp only [hj, if_false, false_or]; exact ih
theorem updL_agree {T : Nat → Ob} {L : List (Nat × Ob)} (h : AgreeL T L (L.map (·.1))) : updL T L = T := by
  funext j
  rw [updL_at]
  split
  · rename_i hc; exact (h.get j hc).symm
  · rfl
theorem fit_same {T : Nat → Ob} {L : List (Nat × Ob)} (h : AgreeL T L (L.map (·.1))) : FitL T L L :=
  ⟨fun j hj => .inr (tb_in hj), fun j e s es' hz hj => ⟨es', by rw [h.get j hz]; exact hj, rfl⟩⟩
theorem y_mutS {g : Nat} {caps : List AV} {z : Operand} {xs : Array Operand} {ts : Array TypeId} {l l' : List AV} {L : List (Nat × Ob)} (hok : Mut P g L l' x L) (ho : o.op = .call ⟨.value z, xs, ts⟩ := by rfl)
    (hz : ev st z = some (.clo g caps) := by rfl) (hl : evs st xs.toList = some l := by rfl) (hl' : l ++ caps = l' := by rfl) (hg : goFn P g = true := by rfl)
    (hno : InZL (L.map (·.1)) l' := by repeat' (first | exact trivial | (refine .no _ ?_; simp <;> fail) | exact .ptr _ _ _ rfl | exact .own _ rfl | refine inZ_agg ?_ | refine ⟨?_, ?_⟩))
    (hag : AgreeL st.T L (L.map (·.1)) := by repeat' (first | exact trivial | refine ⟨rfl, ?_⟩)) (hrows : RowsZ (L.map (·.1)) L := by repeat' (first | exact trivial | (refine inZLL_no ?_; simp <;> fail) | (refine .no _ ?_; simp <;> fail) | exact .ptr _ _ _ rfl | exact .own _ rfl | refine inZ_agg ?_ | refine ⟨?_, ?_⟩))
    (hy : yesL L = true := by rfl) : AEff P N Q o st x st.T := by
  subst hl'
  intro I0 w0 β a w hr K' hK
  obtain ⟨args, hrun, hc⟩ := callM_runs hr ho hz hg (evs_map hl) hno.mem hag hrows hok
  refine .inl ?_
  simp only [Oper.wp, hrun, Oper.upon]
  refine hc.mono ?_
  rintro e w' (⟨v, x, M, β', rfl, ⟨rfl, rfl⟩, h2, h3, h4, h5⟩ | ⟨v, β', _, h1, _⟩)
  · obtain ⟨f1, f2⟩ := fit_same hag
    obtain ⟨β2, m1, m2, m3, _⟩ := hr.mergeK h2 h3 f1 h4 f2
    rw [mergeT_tb hy, updL_agree hag] at m1 m2 m3
    exact hK v w' β2 m1.held m2 m1.objs (m3 _ v h5)
  · exact h1.elim
theorem y_fails {g : Nat} {caps : List AV} {z : Operand} {xs : Array Operand} {ts : Array TypeId} {l l' : List AV} {L : List (Nat × Ob)} {v : Value} (hok : Fails P g L l' v) (k : ∀ s, Q (.panic (raisedA v)) s) (ho : o.op = .call ⟨.value z, xs, ts⟩ := by rfl)
    (hz : ev st z = some (.clo g caps) := by rfl) (hl : evs st xs.toList = some l := by rfl) (hl' : l ++ caps = l' := by rfl) (hg : goFn P g = true := by rfl)
    (hno : InZL (L.map (·.1)) l' := by repeat' (first | exact trivial | (refine .no _ ?_; simp <;> fail) | exact .ptr _ _ _ rfl | exact .own _ rfl | refine inZ_agg ?_ | refine ⟨?_, ?_⟩))
    (hag : AgreeL st.T L (L.map (·.1)) := by repeat' (first | exact trivial | refine ⟨rfl, ?_⟩)) (hrows : RowsZ (L.map (·.1)) L := by repeat' (first | exact trivial | (refine inZLL_no ?_; simp <;> fail) | (refine .no _ ?_; simp <;> fail) | exact .ptr _ _ _ rfl | exact .own _ rfl | refine inZ_agg ?_ | refine ⟨?_, ?_⟩)) : AYield P N Q o st x := by
  subst hl'
  intro I0 w0 β a w hr K' hK
  obtain ⟨args, hrun, hc⟩ := callM_runs hr ho hz hg (evs_map hl) hno.mem hag hrows hok
  refine .inl ?_
  simp only [Oper.wp, hrun, Oper.upon]
  refine hc.mono ?_
  rintro e w' (⟨_, _, _, _, _, h, _⟩ | ⟨u, β', rfl, rfl, h2, h3, h4⟩)
  · exact h.elim
  · obtain ⟨β2, m1, _⟩ := hr.mergeK h2 h3 (fun j hj => .inr (dead_key hj)) (fun j hj => ⟨by rw [dead_mem hj]; simp, h4 j hj⟩) (fun j e s es' hj h => by rw [dead_mem hj] at h; cases h)
    exact .inr ⟨_, β2, m1, k _⟩
end ops
section steps
variable {ops : Array Oper} {i : Nat} {l : List Nat} {d : Nat} {x y : AV}
theorem cM {g : Nat} {caps : List AV} {z : Operand} {xs : Array Operand} {ts : Array TypeId} {ls l' : List AV} {L L' : List (Nat × Ob)} (hok : Mut P g L l' x L') (k : AOps P N ops Q l ⟨(d, x) :: st.env, updL st.T L'⟩) (ho : (ops.getD i default).op = .call ⟨.value z, xs, ts⟩ := by rfl)
    (hz : ev st z = some (.clo g caps) := by rfl) (hl : evs st xs.toList = some ls := by rfl) (hl' : ls ++ caps = l' := by rfl) (hg' : goFn P g = true := by rfl)
    (hno : InZL (L.map (·.1)) l' := by repeat' (first | exact trivial | (refine .no _ ?_; simp <;> fail) | exact .ptr _ _ _ rfl | exact .own _ rfl | refine inZ_agg ?_ | refine ⟨?_, ?_⟩))
    (hag : AgreeL st.T L (L.map (·.1)) := by repeat' (first | exact trivial | refine ⟨rfl, ?_⟩)) (hrows : RowsZ (L.map (·.1)) L := by repeat' (first | exact trivial | (refine inZLL_no ?_; simp <;> fail) | (refine .no _ ?_; simp <;> fail) | exact .ptr _ _ _ rfl | exact .own _ rfl | refine inZ_agg ?_ | refine ⟨?_, ?_⟩))
    (hfit : FitAll st.T (L.map (·.1)) L' := by repeat' (first | exact trivial | exact ⟨_, rfl, rfl⟩ | exact rfl | refine ⟨?_, ?_⟩)) (hy : yesL L' = true := by rfl)
    (hi : Nat.blt i ops.size = true := by rfl) (hg : opAt N ops st i = true := by rfl) (hd : (ops.getD i default).dst = some d := by rfl) (hN : Nat.blt d N = true := by rfl) : AOps P N ops Q (i :: l) st :=
  st2 (op_mut hok ho (fun t ht => by rw [hd] at ht; cases ht; exact blt_lt hN) hz hl hl' hg' hno hag hrows hfit hy (by rw [hd]; exact k)) hi hg
theorem cF {g : Nat} {caps : List AV} {z : Operand} {xs : Array Operand} {ts : Array TypeId} {ls l' : List AV} {L : List (Nat × Ob)} {v : Value} (hok : Fails P g L l' v) (k : ∀ s, Q (.panic (raisedA v)) s) (ho : (ops.getD i default).op = .call ⟨.value z, xs, ts⟩ := by rfl)
    (hz : ev st z = some (.clo g caps) := by rfl) (hl : evs st xs.toList = some ls := by rfl) (hl' : ls ++ caps = l' := by rfl) (hg' : goFn P g = true := by rfl)
    (hno : InZL (L.map (·.1)) l' := by repeat' (first | exact trivial | (refine .no _ ?_; simp <;> fail) | exact .ptr _ _ _ rfl | exact .own _ rfl | refine inZ_agg ?_ | refine ⟨?_, ?_⟩))
    (hag : AgreeL st.T L (L.map (·.1)) := by repeat' (first | exact trivial | refine ⟨rfl, ?_⟩)) (hrows : RowsZ (L.map (·.1)) L := by repeat' (first | exact trivial | (refine inZLL_no ?_; simp <;> fail) | (refine .no _ ?_; simp <;> fail) | exact .ptr _ _ _ rfl | exact .own _ rfl | refine inZ_agg ?_ | refine ⟨?_, ?_⟩))
    (hi : Nat.blt i ops.size = true := by rfl) (hg : opAt N ops st i = true := by rfl) (hN : (match (ops.getD i default).dst with | none => true | some d => Nat.blt d N) = true := by rfl) : AOps P N ops Q (i :: l) st :=
  st2 (op_fails hok ho (fun t ht => by rw [ht] at hN; exact blt_lt hN) hz hl hl' hg' hno hag hrows k) hi hg
theorem pnN {z : Operand} {t t' e : TypeId} {cs : List AV} (k : AOps P N ops Q l (st.put d (.v (.bool true)))) (ho : (ops.getD i default).op = .binOp .neq t z (.const (.pointer none)) t' := by rfl) (hz : ev st z = some (.ip cs) := by rfl) (ht : P.underlying t = some (.pointer e) := by rfl) (hi : Nat.blt i ops.size = true := by rfl)
    (hg : opAt N ops st i = true := by rfl) (hd : (ops.getD i default).dst = some d := by rfl) (hN : Nat.blt d N = true := by rfl) : AOps P N ops Q (i :: l) st := st1 (y_pnilN ho hz ht) k hi hg hd hN
theorem pc {z : Operand} {t : TypeId} {v : Value} (k : ∀ s, Q (.panic (raisedA (.iface t v))) s) (ho : (ops.getD i default).op = .panic z := by rfl) (hz : ev st z = some (.v (.iface t v)) := by rfl)
    (hi : Nat.blt i ops.size = true := by rfl) (hg : opAt N ops st i = true := by rfl) : AOps P N ops Q (i :: l) st := st2 (op_panic ho hz k) hi hg
theorem mi {z : Operand} {t : TypeId} {v : Value} (k : AOps P N ops Q l (st.put d (.v (.iface t v)))) (ho : (ops.getD i default).op = .makeInterface t z := by rfl) (hz : ev st z = some x := by rfl) (hp : plainV x = some v := by rfl) (ht : isIface P t = false := by rfl)
    (hi : Nat.blt i ops.size = true := by rfl) (hg : opAt N ops st i = true := by rfl) (hd : (ops.getD i default).dst = some d := by rfl) (hN : Nat.blt d N = true := by rfl) : AOps P N ops Q (i :: l) st := st1 (y_iface ho hz hp ht) k hi hg hd hN
end steps
def badV : AV := .own 999983
def hasBad (e : List (Nat × AV)) : Bool := e.any fun p => match get e p.1 with | some (.own n) => Nat.beq n 999983 | _ => false
theorem Rel.bad (h : Rel N I0 w0 st β a w) (hb : hasBad st.env = true) (hT : st.T 999983 = .no) : False := by
  obtain ⟨p, _, hp⟩ := List.any_eq_true.1 hb
  split at hp
  · rename_i n hg
    have hn : n = 999983 := by simpa using hp
    subst hn
    have := h.env _ _ hg
    generalize a.tmps.getD p.1 undef = v at this
    cases this with
    | own _ _ hno _ => exact hno hT
  · cases hp
theorem y_bad {o : Oper} (hb : hasBad st.env = true := by rfl) (hT : st.T 999983 = .no := by rfl) : AYield P N Q o st badV := fun I0 w0 β a w hr => (hr.bad hb hT).elim
theorem aops_bad {ops : Array Oper} {l : List Nat} (hb : hasBad st.env = true := by rfl) (hT : st.T 999983 = .no := by rfl) : AOps P N ops Q l st := fun I0 w0 β a w hr => (hr.bad hb hT).elim
theorem y_failsB {o : Oper} {g : Nat} {caps : List AV} {z : Operand} {xs : Array Operand} {ts : Array TypeId} {l l' : List AV} {L : List (Nat × Ob)} {v : Value} (hok : Fails P g L l' v) (k : ∀ s, Q (.panic (raisedA v)) s) (ho : o.op = .call ⟨.value z, xs, ts⟩ := by rfl)
    (hz : ev st z = some (.clo g caps) := by rfl) (hl : evs st xs.toList = some l := by rfl) (hl' : l ++ caps = l' := by rfl) (hg : goFn P g = true := by rfl)
    (hno : InZL (L.map (·.1)) l' := by repeat' (first | exact trivial | (refine .no _ ?_; simp <;> fail) | exact .ptr _ _ _ rfl | exact .own _ rfl | refine inZ_agg ?_ | refine ⟨?_, ?_⟩))
    (hag : AgreeL st.T L (L.map (·.1)) := by repeat' (first | exact trivial | refine ⟨rfl, ?_⟩)) (hrows : RowsZ (L.map (·.1)) L := by repeat' (first | exact trivial | (refine inZLL_no ?_; simp <;> fail) | (refine .no _ ?_; simp <;> fail) | exact .ptr _ _ _ rfl | exact .own _ rfl | refine inZ_agg ?_ | refine ⟨?_, ?_⟩)) : AYield P N Q o st badV :=
  y_fails hok k ho hz hl hl' hg hno hag hrows
theorem panE {E : Value → Prop} {v : Value} (h : E v) : ∃ u, raisedA v = raisedA u ∧ E u := ⟨v, rfl, h⟩
theorem finN {fn : Func} {x y : AV} (h : Sh st.T x y) (hx : resA P fn st = some x := by rfl) : (Exit.normal = Exit.ret ∨ Exit.normal = Exit.normal) ∧ ∃ x, resA P fn st = some x ∧ Sh st.T x y := ⟨.inr rfl, x, hx, h⟩
theorem finM {fn : Func} {z : List Nat} {R : AV → List (Nat × Ob) → Prop} {x y : AV} (L' : List (Nat × Ob)) (hR : R y L') (h : FzAll id st.T (tb L') (L'.map (·.1))) (hx : Fz id st.T (tb L') x y) (hres : resA P fn st = some x := by rfl)
    (hinj : ((L'.map (·.1)).all fun i => (L'.map (·.1)).all fun j => !(id i == id j) || i == j) = true := by rfl) (hz : pinOk z id (tb L') = true := by rfl) : ∃ x, resA P fn st = some x ∧ EndR z st.T x R := ⟨x, hres, endR id L' hR h hx hinj hz⟩
theorem finMn {fn : Func} {z : List Nat} {R : AV → List (Nat × Ob) → Prop} {x y : AV} (L' : List (Nat × Ob)) (hR : R y L') (h : FzAll id st.T (tb L') (L'.map (·.1))) (hx : Fz id st.T (tb L') x y) (hres : resA P fn st = some x := by rfl)
    (hinj : ((L'.map (·.1)).all fun i => (L'.map (·.1)).all fun j => !(id i == id j) || i == j) = true := by rfl) (hz : pinOk z id (tb L') = true := by rfl) : ∃ x, resA P fn st = some x ∧ EndR z st.T x R := ⟨x, hres, endR id L' hR h hx hinj hz⟩
end
end Go.Proofs.YtnjihhheiiapnaaGreat.AW
namespace Go.Proofs.YtnjihhheiiapnaaGreat.AW
open Go Go.RowKit
section
variable {P : Program} {N : Fr} {st : ASt} {I0 : Dom} {w0 : World} {β : Nat → Value} {a : Act} {w : World}
def RawW (P : Program) (N : Fr) (I0 : Dom) (w0 : World) (c : Code) (Qr : Exit → Act → World → Prop) (st : ASt) : Prop :=
  ∀ β a w, Rel N I0 w0 st β a w → c.wpIn (FW N.rd) 0 P Qr a w
def rawQ (P : Program) (N : Fr) (I0 : Dom) (w0 : World) (y : Code) (Qr : Exit → Act → World → Prop) : Exit → ASt → Prop
  | .normal, st => RawW P N I0 w0 y Qr st
  | e, st => ∀ β a w, Rel N I0 w0 st β a w → Qr e a w
theorem raw_seq {x y : Code} {Qr : Exit → Act → World → Prop} (h : AWp P N x (rawQ P N I0 w0 y Qr) st) : RawW P N I0 w0 (.seq x y) Qr st := by
  intro β a w hr
  refine wpIn_seq (wpIn_mono (h I0 w0 β a w hr) ?_)
  rintro e a w (hF | ⟨st, β, h1, h2⟩)
  · exact hF.elim
  · cases e with
    | _ => exact h2 β a w h1
theorem raw_cut {ι : Sort _} {x y : Code} {Qr : Exit → Act → World → Prop} (J : ι → List (Nat × AV)) (h : AWp P N x (thenA (fun s => ∃ i, s.T = st.T ∧ Has s.env (J i)) (rawQ P N I0 w0 y Qr)) st) (k : ∀ i, RawW P N I0 w0 y Qr ⟨J i, st.T⟩) : RawW P N I0 w0 (.seq x y) Qr st := by
  refine raw_seq (h.mono fun e s hs => ?_)
  cases e with
  | normal =>
    obtain ⟨i, h1, h2⟩ := hs
    obtain ⟨e, T⟩ := s
    simp only at h1; subst h1
    intro β a w hr
    obtain ⟨β', hr'⟩ := ent_env h2 I0 w0 β a w hr
    exact k i β' a w hr'
  | _ => exact hs
def OkE (R : AV → (Nat → Ob) → Prop) (I0 : Dom) (w : World) (e : Ending) (w' : World) : Prop :=
  False ∨ ∃ v x T β, e = .returned v ∧ R x T ∧ Below w.heap.size w w' ∧ Objs I0 w.heap.size T β w' ∧ Rep (Im I0 w.heap.size T β w') T β w' x v
def domD (D0 : Dom) (w0 : World) : Dom := { I := D0.I, K := D0.K, pin := fun _ => none, ds := [], Bel := BelowK D0.K w0.heap.size w0 }
def domX (D0 : Dom) (w0 : World) (z : List Nat) (β0 : Nat → Value) (d : Deferred) : Dom :=
  { I := D0.I, K := D0.K, pin := fun i => if z.contains i = true then some (β0 i) else none, ds := [d], Bel := BelowK D0.K w0.heap.size w0 }
theorem okD_top {f : Nat} {fn : Func} {c : Code} {args : List AV} {R : AV → (Nat → Ob) → Prop} (hf : P.funcs[f]? = some fn) (hb : fn.body = some c) (hn : args.length ≤ fn.ntmps)
    (h : ∀ D0 w0, (∀ b, ¬ Dom.K D0 b) → RawW P ⟨fn.ntmps, [], none, false⟩ (domD D0 w0) w0 c (bodyPostD P fn (OkE R D0 w0)) ⟨argEnv 0 args, noT⟩) : Ok P f args R := by
  intro I0 w vs hI hvs
  have hl := hvs.length
  have hr0 : Rel ⟨fn.ntmps, [], none, false⟩ (domD I0 w) w ⟨argEnv 0 args, noT⟩ noβ { tmps := vs.toArray ++ Array.replicate (fn.ntmps - vs.toArray.size) undef, defers := [] } w := by
    refine ⟨fun b hb => (hI b).1 hb, ?_, ⟨[], rfl, .nil, fun D hD => (by cases hD), fun _ => rfl⟩, ?_, ⟨fun i e s es hh => (by cases hh), fun i e s es j e' s' es' b hh => (by cases hh)⟩, BelowK.refl _ _ w, fun _ _ h1 h2 => BelowK.trans h1 h2, Nat.le_refl _, fun i v hi => (by cases hi)⟩
    · simp; omega
    · intro t x hx
      obtain ⟨_, h1⟩ := argEnv_get args 0 t x hx
      obtain ⟨y, h2, h3⟩ := hvs.get h1
      simp only [Nat.sub_zero] at h2
      have hlt : t < vs.length := (List.getElem?_eq_some_iff.1 h2).1
      have e1 : (vs.toArray ++ Array.replicate (fn.ntmps - vs.toArray.size) undef).getD t undef = y := by
        rw [Array.getD_eq_getD_getElem?, Array.getElem?_append_left (by simpa using hlt)]
        simp [h2]
      rw [e1]
      exact h3.mono (fun b hb => ⟨⟨.inl hb, (hI b).1 hb, fun i e s es h => (by cases h)⟩, fun o => rfl⟩) (fun i hi => absurd rfl hi)
  exact calls_of_wp_defers hf hb (wpIn_wide.1 (h I0 w (fun b => (hI b).2) noβ _ w hr0))
theorem no_marks {n : Nat} {z : List Nat} {rd : Option Nat} (h : Rel ⟨n, z, rd, false⟩ I0 w0 st β a w) : a.defers = I0.ds := by
  obtain ⟨ms, h1, _, _, h4⟩ := h.defers
  rw [h1, h4 rfl]; rfl
theorem raw_ret {n : Nat} {fn : Func} {D0 : Dom} {R : AV → (Nat → Ob) → Prop} {x : AV} {e : Exit} (hK : ∀ b, ¬ Dom.K D0 b) (he : e = .ret ∨ e = .normal) (hx : resA P fn st = some x) (hR : R x st.T) :
    ∀ β a w, Rel ⟨n, [], none, false⟩ (domD D0 w0) w0 st β a w → bodyPostD P fn (OkE R D0 w0) e a w := by
  intro β a w h1
  obtain ⟨v, hv1, hv2⟩ := res_run h1 hx
  have hd : a.defers = [] := no_marks h1
  have key : Leaves P fn a.tmps (OkE R D0 w0) a.defers .returning w := by
    rw [hd]
    exact ⟨v, hv1, .inr ⟨v, x, st.T, β, rfl, hR, BelowK.below h1.below hK, ⟨h1.objs.obj, h1.objs.inj⟩, hv2⟩⟩
  rcases he with rfl | rfl <;> exact key
def liveB (T : Nat → Ob) (i : Nat) : Bool := match T i with | .live _ _ (_ :: _) => true | _ => false
theorem liveB_of {T : Nat → Ob} {i : Nat} (h : liveB T i = true) : ∃ e s c es, T i = .live e s (c :: es) := by
  unfold liveB at h
  split at h
  · exact ⟨_, _, _, _, ‹_›⟩
  · cases h
def boxesA (z : List Nat) : List AV := z.map fun i => .ptr i 0 0
def OkD (P : Program) (g : Nat) (L : List (Nat × Ob)) (args : List AV) (u : FrameMode) (R : FrameMode → List (Nat × Ob) → Prop) : Prop :=
  ∀ (D : Dom) (w : World) (β : Nat → Value) (vs : List Value), (∀ b, D.I b → b < w.heap.size) → Objs D w.heap.size (tb L) β w → All2 (Rep (Im D w.heap.size (tb L) β w) (tb L) β w) args vs →
    CallsD P g vs.toArray u w fun e u' w' => ∃ v L' β', e = .returned v ∧ R u' L' ∧ BelowK D.K w.heap.size w w' ∧ Objs D w.heap.size (tb L') β' w' ∧ ∀ i, (L.map (·.1)).contains i = true → tb L' i ≠ .no ∧ β' i = β i
def EndX (P : Program) (fn : Func) (z : List Nat) (g : Nat) (R : AV → (Nat → Ob) → Prop) (u : FrameMode) (st : ASt) : Prop :=
  ∃ (L : List (Nat × Ob)) (R' : FrameMode → List (Nat × Ob) → Prop), L.map (·.1) = z ∧ AgreeL st.T L z ∧ RowsZ z L ∧ (z.all (liveB (tb L))) = true ∧ OkD P g L (boxesA z) u R' ∧
    ∀ u' L', R' u' L' → settle u' = .returning ∧ FitL st.T L L' ∧ ∃ x, resA P fn ⟨st.env, mergeT st.T (tb L')⟩ = some x ∧ R x (mergeT st.T (tb L'))
def endX (P : Program) (fn : Func) (z : List Nat) (g : Nat) (R : AV → (Nat → Ob) → Prop) : Exit → ASt → Prop
  | .ret, st | .normal, st => EndX P fn z g R .returning st
  | .panic ch, st => EndX P fn z g R (.panicking ch) st
  | _, _ => False
theorem leaves_endX {n : Nat} {fn : Func} {D0 : Dom} {z : List Nat} {g : Nat} {β0 : Nat → Value} {vs : Array Value} {R : AV → (Nat → Ob) → Prop} {u : FrameMode} (hK : ∀ b, ¬ Dom.K D0 b) (hg : goFn P g = true) (hu : u ≠ .run)
    (hvs : vs.size = z.length) (hv : ∀ (j i : Nat), z[j]? = some i → ∃ b nn c, β0 i = .slice (some ⟨b, 0, none⟩) nn c ∧ vs[j]? = some (Value.pointer (some ⟨b, 0, none⟩)))
    (hr : Rel ⟨n, z, none, false⟩ (domX D0 w0 z β0 { target := .fn (.func g) vs, args := #[] }) w0 st β a w) (he : EndX P fn z g R u st) : Leaves P fn a.tmps (OkE R D0 w0) a.defers u w := by
  obtain ⟨L, R', hz, hag, hrows, hlive, hok, hend⟩ := he
  rw [no_marks hr]
  subst hz
  obtain ⟨hO, hrep⟩ := hr.lend hag hrows
  have hpin : ∀ i, (L.map (·.1)).contains i = true → st.T i ≠ .no ∧ β i = β0 i := fun i hi => (hr.pins i (β0 i) (by show (if _ then _ else _) = _; rw [if_pos hi])).2
  refine leaves_cons hu (f := g) (args := vs) ?_ ?_
  · have := run_callFunc hg (#[] ++ vs) w
    simp [invoke] at this ⊢
    exact this
  have hargs : All2 (Rep (Im (subD (domX D0 w0 (L.map (·.1)) β0 { target := .fn (.func g) vs, args := #[] }) w0.heap.size st.T β w (L.map (·.1))) w.heap.size (tb L) β w) (tb L) β w) (boxesA (L.map (·.1))) vs.toList := by
    refine all2_of (by simp [boxesA, hvs]) fun j p v hp hvv => ?_
    simp only [boxesA, List.getElem?_map] at hp
    cases hi : (L.map (·.1))[j]? with
    | none => rw [List.getElem?_map] at hi; rw [hi] at hp; cases hp
    | some i =>
      have hp' : AV.ptr i 0 0 = p := by
        rw [List.getElem?_map] at hi; rw [hi] at hp; simpa using hp
      subst hp'
      obtain ⟨b, nn, c, e1, e2⟩ := hv j i hi
      have hc : (L.map (·.1)).contains i = true := by simpa using List.mem_of_getElem? hi
      have e3 : v = .pointer (some ⟨b, 0, none⟩) := by
        simp only [Array.getElem?_toList] at hvv
        rw [e2] at hvv; cases hvv; rfl
      subst e3
      obtain ⟨e, s, c0, es, hT⟩ := liveB_of (List.all_eq_true.1 hlive i (by simpa using hc))
      refine .ptr i 0 0 _ (by rw [hT]; simp) fun e' s' es' he => ?_
      rw [hT] at he
      cases he
      exact ⟨by simp, Nat.zero_le _, b, nn, c, by rw [(hpin i hc).2, e1], by simp⟩
  have hc := hok (subD (domX D0 w0 (L.map (·.1)) β0 { target := .fn (.func g) vs, args := #[] }) w0.heap.size st.T β w (L.map (·.1))) w β vs.toList (fun b hb => hb.2.1) hO hargs
  simp only [Array.toArray_toList] at hc
  refine hc.mono ?_
  rintro e u' w' ⟨v, L', β', rfl, h1, h2, h3, h4⟩
  obtain ⟨s1, ⟨f1, f2⟩, x, hx, hR⟩ := hend u' L' h1
  obtain ⟨β2, m1, _⟩ := hr.mergeK h2 h3 f1 h4 f2
  obtain ⟨y, hv1, hv2⟩ := res_run m1 hx
  show Leaves P fn a.tmps _ [] (settle u') w'
  rw [s1]
  exact ⟨y, hv1, .inr ⟨y, x, _, β2, rfl, hR, BelowK.below m1.below hK, ⟨m1.objs.obj, m1.objs.inj⟩, hv2⟩⟩
theorem raw_defer {n t g id : Nat} {fn : Func} {D0 : Dom} {ops : Array Oper} {co : Array Operand} {ts : Array TypeId} {z : List Nat} {rest : Code} {R : AV → (Nat → Ob) → Prop} (hK : ∀ b, ¬ Dom.K D0 b)
    (h : AWp P ⟨n, z, none, false⟩ rest (endX P fn z g R) ⟨(t, .clo g (boxesA z)) :: st.env, st.T⟩) (h2 : ops.size = 2 := by rfl)
    (o0 : (ops.getD 0 default).op = .makeFunc (.func g) #[] co := by rfl) (g0 : (ops.getD 0 default).guard = none := by rfl) (d0 : (ops.getD 0 default).dst = some t := by rfl)
    (o1 : (ops.getD 1 default).op = .defer ⟨.value (.tmp t), #[], ts⟩ := by rfl) (g1 : (ops.getD 1 default).guard = none := by rfl) (d1 : (ops.getD 1 default).dst = none := by rfl)
    (hc : evs st co.toList = some (boxesA z) := by rfl) (hl : (z.all (liveB st.T)) = true := by rfl) (ht : Nat.blt t n = true := by rfl) (hg : goFn P g = true := by rfl) :
    RawW P ⟨n, [], none, false⟩ (domD D0 w0) w0 (.seq (.region id ops false) rest) (bodyPostD P fn (OkE R D0 w0)) st := by
  intro β a w hr
  refine wpIn_seq (wpIn_wide.2 (wp_region ?_))
  have r2 : List.range ops.size = [0, 1] := by rw [h2]; rfl
  have k0 := getD_some (ops := ops) (i := 0) (by omega)
  have k1 := getD_some (ops := ops) (i := 1) (by omega)
  have hmap := evs_map hc
  have ht' : t < n := blt_lt ht
  have hlen : co.size = z.length := by have := congrArg List.length hmap; simpa [boxesA] using this
  rw [r2]
  generalize ops.getD 0 default = q0 at *
  generalize ops.getD 1 default = q1 at *
  simp only [Go.wpOps, k0, k1, Region.wanted, g0, g1, if_true, Oper.wp]
  have x0 : (execOp a.eval q0).run P w = .ok (.value (.func (.func g) #[] (co.map a.eval))) w := by simp [execOp, o0, Instr.makeFunc]
  rw [x0]
  simp only [Oper.upon]
  left
  have hr1 : Rel ⟨n, [], none, false⟩ (domD D0 w0) w0 ⟨(t, .clo g (boxesA z)) :: st.env, st.T⟩ β (a.put (some t) (.func (.func g) #[] (co.map a.eval))) w :=
    hr.put ht' (.clo g (boxesA z) _ (by simp [boxesA, hlen]) fun j p v hp hvv => by
      have hj : j < co.size := by have := (Array.getElem?_eq_some_iff.1 hvv).1; simpa using this
      have h2 : (co.toList.map (ev st))[j]? = some (some p) := by rw [hmap]; simp [hp]
      simp only [List.getElem?_map, Array.getElem?_toList, Array.getElem?_eq_getElem hj, Option.map_some, Option.some.injEq] at h2
      rw [Array.getElem?_map, Array.getElem?_eq_getElem hj, Option.map_some] at hvv
      cases hvv
      exact hr.ev h2)
  rw [d0]
  generalize a.put (some t) (.func (.func g) #[] (co.map a.eval)) = a1 at hr1 ⊢
  have hz := hr1.ev (o := .tmp t) (x := .clo g (boxesA z)) (by simp [ev, get])
  generalize hy : a1.eval (.tmp t) = y at hz
  cases hz with
  | clo _ _ vs hvl hvc =>
    have hv : ∀ (j i : Nat), z[j]? = some i → ∃ b nn c, β i = .slice (some ⟨b, 0, none⟩) nn c ∧ vs[j]? = some (Value.pointer (some ⟨b, 0, none⟩)) := by
      intro j i hi
      have hj : j < vs.size := by have := (List.getElem?_eq_some_iff.1 hi).1; rw [← hvl]; simpa [boxesA] using this
      have h3 := hvc j (.ptr i 0 0) vs[j] (by simp [boxesA, hi]) (Array.getElem?_eq_getElem hj)
      obtain ⟨e, s, c0, es, hT⟩ := liveB_of (List.all_eq_true.1 hl i (List.mem_of_getElem? hi))
      generalize hy2 : vs[j] = y2 at h3
      cases h3 with
      | ptr _ _ _ _ _ hx =>
        obtain ⟨_, _, b, nn, c, e1, e2⟩ := hx _ _ _ hT
        refine ⟨b, nn, c, e1, ?_⟩
        rw [Array.getElem?_eq_getElem hj, hy2, e2]
        simp
    have x1 : (execOp a1.eval q1).run P w = .ok (.defer { target := .fn (.func g) vs, args := #[] }) w := by
      simp [execOp, o1, resolve, hy, Deferred.ofValue]
    rw [x1, d1]
    left
    have hr2 : Rel ⟨n, z, none, false⟩ (domX D0 w0 z β { target := .fn (.func g) vs, args := #[] }) w0 ⟨(t, .clo g (boxesA z)) :: st.env, st.T⟩ β { a1 with defers := { target := .fn (.func g) vs, args := #[] } :: a1.defers } w := by
      refine ⟨hr1.old, hr1.size, ⟨[], ?_, .nil, fun D hD => (by cases hD), fun _ => rfl⟩, hr1.env, ⟨hr1.objs.obj, hr1.objs.inj⟩, hr1.below, hr1.step, hr1.base, fun i v hi => ?_⟩
      · rw [no_marks hr1]; rfl
      · have hi' : (if z.contains i = true then some (β i) else none) = some v := hi
        split at hi'
        · rename_i hc2
          cases hi'
          refine ⟨hc2, ?_, rfl⟩
          obtain ⟨e, s, c0, es, hT⟩ := liveB_of (List.all_eq_true.1 hl i (by simpa using hc2))
          show st.T i ≠ .no
          rw [hT]; simp
        · cases hi'
    have h5 := h _ _ _ _ _ hr2
    refine wpIn_mono h5 ?_
    rintro e a' w' (hF | ⟨st', β', m1, m2⟩)
    · exact hF.elim
    have hvs : vs.size = z.length := by rw [← hvl]; simp [boxesA]
    cases e with
    | ret => exact leaves_endX hK hg (by simp) hvs hv m1 m2
    | normal => exact leaves_endX hK hg (by simp) hvs hv m1 m2
    | panic ch => exact leaves_endX hK hg (by simp) hvs hv m1 m2
    | _ => exact m2.elim
end
end Go.Proofs.YtnjihhheiiapnaaGreat.AW
