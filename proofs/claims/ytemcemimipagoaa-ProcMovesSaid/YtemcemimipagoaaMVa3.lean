/- What the statements' walks need. -/
import Derived.Test.YtemcemimipagoaaMVa2
import Derived.Laws.BytesArg
import Derived.Laws.IdiomCopy
import Derived.Laws.Pointers
import Derived.Lib.ConvBytes
import Derived.LoopNIn
import Derived.Recover
set_option linter.unusedVariables false
set_option linter.unusedSimpArgs false
set_option maxRecDepth 100000
namespace Go.Proofs.Ytemcemimipagoaa.AW
open Go Go.RowKit
inductive Fz (r : Nat → Nat) (T T' : Nat → Ob) : AV → AV → Prop
  | same (x : AV) : NoOwn x → Fz r T T' x x
  | nil (s : Nat) : Fz r T T' (.v (.slice none 0 0)) (.sl s [])
  | agg (l l' : List AV) : l.length = l'.length → (∀ (j : Nat) (a b : AV), l[j]? = some a → l'[j]? = some b → Fz r T T' a b) → Fz r T T' (.agg l) (.agg l')
  | tup (l l' : List AV) : l.length = l'.length → (∀ (j : Nat) (a b : AV), l[j]? = some a → l'[j]? = some b → Fz r T T' a b) → Fz r T T' (.tup l) (.tup l')
  | clo (f : Nat) (l l' : List AV) : l.length = l'.length → (∀ (j : Nat) (a b : AV), l[j]? = some a → l'[j]? = some b → Fz r T T' a b) → Fz r T T' (.clo f l) (.clo f l')
  | own (i j : Nat) : r j = i → T' j ≠ .no → Fz r T T' (.own i) (.own j)
  | ptr (i j k q : Nat) : r j = i → T' j ≠ .no → Fz r T T' (.ptr i k q) (.ptr j k q)
  | sl (i e s : Nat) (es es' : List (List AV)) : T i = .live e s es → (∀ j e s es, T' j = .live e s es → r j ≠ i) → es.length = es'.length → (∀ c ∈ es', c.length = s) →
      (∀ (j : Nat) (a b : AV), es.flatten[j]? = some a → es'.flatten[j]? = some b → Fz r T T' a b) → Fz r T T' (.own i) (.sl s es')
def FzL (r : Nat → Nat) (T T' : Nat → Ob) : List AV → List AV → Prop
  | [], [] => True
  | x :: xs, y :: ys => Fz r T T' x y ∧ FzL r T T' xs ys
  | _, _ => False
theorem FzL.get {r : Nat → Nat} {T T' : Nat → Ob} : ∀ {l l' : List AV}, FzL r T T' l l' → l.length = l'.length ∧ ∀ (j : Nat) (a b : AV), l[j]? = some a → l'[j]? = some b → Fz r T T' a b
  | [], [], _ => ⟨rfl, by simp⟩
  | x :: xs, y :: ys, ⟨h1, h2⟩ => by
    obtain ⟨h3, h4⟩ := FzL.get h2
    refine ⟨by simp [h3], fun j a b ha hb => ?_⟩
    cases j with
    | zero => simp at ha hb; subst ha; subst hb; exact h1
    | succ j => exact h4 j a b (by simpa using ha) (by simpa using hb)
  | [], _ :: _, h => h.elim
  | _ :: _, [], h => h.elim
theorem fzL_all {r : Nat → Nat} {T T' : Nat → Ob} : ∀ {l : List AV}, (∀ x ∈ l, NoOwn x) → FzL r T T' l l
  | [], _ => trivial
  | x :: xs, h => ⟨.same x (h x (.head _)), fzL_all fun y hy => h y (.tail _ hy)⟩
theorem fz_agg {r : Nat → Nat} {T T' : Nat → Ob} {l l' : List AV} (h : FzL r T T' l l') : Fz r T T' (.agg l) (.agg l') := .agg l l' h.get.1 h.get.2
theorem fz_tup {r : Nat → Nat} {T T' : Nat → Ob} {l l' : List AV} (h : FzL r T T' l l') : Fz r T T' (.tup l) (.tup l') := .tup l l' h.get.1 h.get.2
theorem fz_v {r : Nat → Nat} {T T' : Nat → Ob} (x : Value) : Fz r T T' (.v x) (.v x) := .same _ (.v x)
theorem fz_own {r : Nat → Nat} {T T' : Nat → Ob} {i j : Nat} (h : r j = i) (hT : T' j ≠ .no) : Fz r T T' (.own i) (.own j) := .own i j h hT
theorem fz_rows {r : Nat → Nat} {T T' : Nat → Ob} {i e s : Nat} {es es' : List (List AV)} (hT : T i = .live e s es) (hn : ∀ j e s es, T' j = .live e s es → r j ≠ i) (hl : es.length = es'.length) (hs0 : ∀ c ∈ es, c.length = s) (hs : ∀ c ∈ es', c.length = s)
    (h : ∀ (q : Nat) (c c' : List AV), es[q]? = some c → es'[q]? = some c' → FzL r T T' c c') : Fz r T T' (.own i) (.sl s es') := by
  refine .sl i e s es es' hT hn hl hs fun j a b ha hb => ?_
  obtain ⟨k, t, c', rfl, ht, hk, hct⟩ := flat_inv hs hb
  have hk' : k < es.length := by have := (List.getElem?_eq_some_iff.1 hk).1; omega
  have htl : t < es[k].length := by rw [hs0 _ (List.getElem_mem hk')]; exact ht
  rw [flat_get hs0 (List.getElem?_eq_getElem hk') (List.getElem?_eq_getElem htl)] at ha
  cases ha
  exact (h k _ _ (List.getElem?_eq_getElem hk') hk).get.2 t _ _ (List.getElem?_eq_getElem htl) hct
theorem fz_flat {r : Nat → Nat} {T T' : Nat → Ob} {i e s : Nat} {es : List (List AV)} (hT : T i = .live e s es) (hn : ∀ j e s es, T' j = .live e s es → r j ≠ i) (hs : ∀ c ∈ es, c.length = s) (h : ∀ c ∈ es, ∀ x ∈ c, NoOwn x) : Fz r T T' (.own i) (.sl s es) :=
  fz_rows hT hn rfl hs hs fun q c c' hc hc' => by
    rw [hc] at hc'; cases hc'
    exact fzL_all (h c (List.mem_of_getElem? hc))
structure FzT (r : Nat → Nat) (T T' : Nat → Ob) : Prop where
  live : ∀ j e s es', T' j = .live e s es' → ∃ es, T (r j) = .live e s es ∧ es.length = es'.length ∧ ∀ (q : Nat) (c c' : List AV), es[q]? = some c → es'[q]? = some c' → FzL r T T' c c'
  no : ∀ j, T' j ≠ .no → T (r j) ≠ .no
  inj : ∀ i j, T' i ≠ .no → T' j ≠ .no → r i = r j → i = j
def FzE (r : Nat → Nat) (T T' : Nat → Ob) (e : List (Nat × AV)) : List (Nat × AV) → Prop
  | [] => True
  | (t, y) :: l => (∃ x, get e t = some x ∧ Fz r T T' x y) ∧ FzE r T T' e l
theorem FzE.get {r : Nat → Nat} {T T' : Nat → Ob} {e : List (Nat × AV)} : ∀ {l : List (Nat × AV)}, FzE r T T' e l → ∀ t y, get l t = some y → ∃ x, get e t = some x ∧ Fz r T T' x y
  | [], _, t, y, h => by simp [AW.get] at h
  | (k, v) :: l, hh, t, y, h => by
    simp only [AW.get] at h
    by_cases hk : k = t
    · rw [if_pos hk] at h; cases h; exact hk ▸ hh.1
    · rw [if_neg hk] at h; exact FzE.get hh.2 t y h
section
variable {P : Program} {N : Fr} {Q : Exit → ASt → Prop} {st : ASt} {I0 : Dom} {w0 : World} {β : Nat → Value} {a : Act} {w : World}
theorem im_fz {B : Nat} {r : Nat → Nat} {T T' : Nat → Ob} (hT : FzT r T T') (b : Nat) (h : Im I0 B T β w b) : Im I0 B T' (fun j => β (r j)) w b :=
  ⟨h.1, h.2.1, fun j e s es' hj => by obtain ⟨es, h1, _⟩ := hT.live j e s es' hj; exact h.2.2 _ e s es h1⟩
theorem rep_fz {B : Nat} {r : Nat → Nat} {T T' : Nat → Ob} (hO : Objs I0 B T β w) (hT : FzT r T T') {x y : AV} (h : Fz r T T' x y) : ∀ {v : Value}, Rep (Im I0 B T β w) T β w x v → Rep (Im I0 B T' (fun j => β (r j)) w) T' (fun j => β (r j)) w y v := by
  induction h with
  | same x hx => exact fun h => (h.mono (fun b hb => ⟨im_fz hT b hb, fun o => rfl⟩) fun i hi => ⟨hi, fun e s es' h' => ⟨rfl, es', h', rfl⟩⟩).noOwn hx
  | nil s => exact fun hv => by rw [hv.v_inv]; exact .emp s none 0 fun _ => rfl
  | agg l l' hl _ ih =>
    intro v h
    cases h with
    | agg _ cs hc hr =>
      refine .agg l' cs (by omega) fun j p u hp hu => ?_
      have hlt : j < l.length := by rw [hl]; exact (List.getElem?_eq_some_iff.1 hp).1
      exact ih j _ p (List.getElem?_eq_getElem hlt) hp (hr j _ u (List.getElem?_eq_getElem hlt) hu)
  | tup l l' hl _ ih =>
    intro v h
    cases h with
    | tup _ cs hc hr =>
      refine .tup l' cs (by omega) fun j p u hp hu => ?_
      have hlt : j < l.length := by rw [hl]; exact (List.getElem?_eq_some_iff.1 hp).1
      exact ih j _ p (List.getElem?_eq_getElem hlt) hp (hr j _ u (List.getElem?_eq_getElem hlt) hu)
  | clo f l l' hl _ ih =>
    intro v h
    cases h with
    | clo _ _ cs hc hr =>
      refine .clo f l' cs (by omega) fun j p u hp hu => ?_
      have hlt : j < l.length := by rw [hl]; exact (List.getElem?_eq_some_iff.1 hp).1
      exact ih j _ p (List.getElem?_eq_getElem hlt) hp (hr j _ u (List.getElem?_eq_getElem hlt) hu)
  | own i j hr hj =>
    intro v h
    cases h with
    | own _ _ hn hx =>
      refine .own j v hj fun e s es' he => ?_
      obtain ⟨es, h1, _⟩ := hT.live j e s es' he
      subst hr
      exact hx e s es h1
  | ptr i j k q hr hj =>
    intro v h
    cases h with
    | ptr _ _ _ _ hn hx =>
      refine .ptr j k q v hj fun e s es' he => ?_
      obtain ⟨es, h1, h2, _⟩ := hT.live j e s es' he
      subst hr
      rw [← h2]
      exact hx e s es h1
  | sl i e s es es' hi hn hl hs _ ih =>
    intro v hv
    cases hv with
    | own _ _ hno hx =>
      have := hx e s es hi
      subst this
      obtain ⟨h1, xs, h2, h3⟩ := hO.obj i e s es hi
      have hfl : es.flatten.length = es'.flatten.length := by rw [flat_len h1, flat_len hs, hl]
      rcases h2.2 with ⟨hh, h0⟩ | ⟨g, cap, cur, fr, hh, hb, hg, _, hnc, _⟩
      · have : es' = [] := List.eq_nil_of_length_eq_zero (by omega)
        subst this
        rw [hh]; exact .emp s none 0 fun _ => rfl
      · have hIm : Im I0 B T' (fun j => β (r j)) w g := by
          refine ⟨.inr hb, (Array.getElem?_eq_some_iff.1 hg).1, fun j e' s' es2 hj hbj => ?_⟩
          obtain ⟨es3, h4, _⟩ := hT.live j e' s' es2 hj
          exact hn j _ _ _ hj (hO.inj _ _ _ _ _ _ _ _ g h4 hi hbj (by rw [hh]; rfl))
        rw [hh, hl]
        rw [hh] at h2
        refine .sl s es' g 0 cap (fun j => (xs[j]?).getD undef) hIm (by omega) hs (fun j p hp => ?_) (fun j p hp => ?_)
        · have hlt : j < es.flatten.length := by rw [hfl]; exact (List.getElem?_eq_some_iff.1 hp).1
          have hc := h2.cellAt j (by rw [← flat_len h1]; exact hlt)
          obtain ⟨u, hu, _⟩ := h3 j _ (List.getElem?_eq_getElem hlt)
          rw [Nat.zero_add, hc, hu]; rfl
        · have hlt : j < es.flatten.length := by rw [hfl]; exact (List.getElem?_eq_some_iff.1 hp).1
          obtain ⟨u, hu, hr⟩ := h3 j _ (List.getElem?_eq_getElem hlt)
          simp only [hu, Option.getD_some]
          exact ih j _ p (List.getElem?_eq_getElem hlt) hp hr
theorem Objs.fz {B : Nat} {r : Nat → Nat} {T T' : Nat → Ob} (hT : FzT r T T') (h : Objs I0 B T β w) : Objs I0 B T' (fun j => β (r j)) w := by
  refine ⟨fun j e s es' hj => ?_, fun i e s es j e' s' es' b hi hj hbi hbj => ?_⟩
  · obtain ⟨es, h1, h2, h3⟩ := hT.live j e s es' hj
    obtain ⟨a1, xs, a2, a3⟩ := h.obj _ e s es h1
    have hlen : ∀ c' ∈ es', c'.length = s := by
      intro c' hc'
      obtain ⟨q, hq, rfl⟩ := List.getElem_of_mem hc'
      have hq' : q < es.length := by omega
      rw [← (h3 q _ _ (List.getElem?_eq_getElem hq') (List.getElem?_eq_getElem hq)).get.1]
      exact a1 _ (List.getElem_mem hq')
    refine ⟨hlen, xs, by rw [← h2]; exact a2, fun q y hy => ?_⟩
    obtain ⟨k, t, c', rfl, ht, hk, hct⟩ := flat_inv hlen hy
    have hk' : k < es.length := by have := (List.getElem?_eq_some_iff.1 hk).1; omega
    have hrl := h3 k _ _ (List.getElem?_eq_getElem hk') hk
    have htl : t < es[k].length := by rw [a1 _ (List.getElem_mem hk')]; exact ht
    obtain ⟨u, hu, hr⟩ := a3 _ _ (flat_get a1 (List.getElem?_eq_getElem hk') (List.getElem?_eq_getElem htl))
    exact ⟨u, hu, rep_fz h hT (hrl.get.2 t _ _ (List.getElem?_eq_getElem htl) hct) hr⟩
  · obtain ⟨es1, h1, _⟩ := hT.live _ _ _ _ hi
    obtain ⟨es2, h2, _⟩ := hT.live _ _ _ _ hj
    exact hT.inj i j (by rw [hi]; simp) (by rw [hj]; simp) (h.inj _ _ _ _ _ _ _ _ b h1 h2 hbi hbj)
theorem ent_fz (r : Nat → Nat) {l : List (Nat × AV)} {T' : Nat → Ob} (hT : FzT r st.T T') (h : FzE r st.T T' st.env l) (hz : pinOk N.z r T' = true := by rfl) : Ent N st ⟨l, T'⟩ := by
  intro I0 w0 β a w hr
  refine ⟨fun j => β (r j), hr.old, hr.size, hr.defers, fun t y hy => ?_, hr.objs.fz hT, hr.below, hr.step, hr.base, hr.pins_ren hz⟩
  obtain ⟨x, hx, hxy⟩ := h.get t y hy
  exact rep_fz hr.objs hT hxy (hr.env t x hx)
theorem Ok.fz {f : Nat} {args : List AV} {R R' : AV → (Nat → Ob) → Prop} (h : Ok P f args R) (hs : ∀ x T, R x T → ∃ r T' y, R' y T' ∧ FzT r T T' ∧ Fz r T T' x y) : Ok P f args R' := by
  intro I0 w vs hI hvs
  refine (h I0 w vs hI hvs).mono ?_
  rintro en w' (hF | ⟨v, x, T, β, rfl, hR, h2, h3, h4⟩)
  · exact hF.elim
  · obtain ⟨r, T', y, r1, r2, r3⟩ := hs x T hR
    exact .inr ⟨v, y, T', _, rfl, r1, h2, h3.fz r2, rep_fz h3 r2 r3 h4⟩
end
end Go.Proofs.Ytemcemimipagoaa.AW
namespace Go.Proofs.Ytemcemimipagoaa.AW
open Go Go.RowKit
def byteRow (ns : List Int) : List (List AV) := ns.map fun n => [.v (.int .u8 n)]
@[simp] theorem len_bytes (ns : List Int) : (byteRow ns).length = ns.length := by simp [byteRow]
def numsOf (s : ByteArray) : List Int := s.data.toList.map fun b => (b.toNat : Int)
@[simp] theorem len_numsOf (s : ByteArray) : (numsOf s).length = s.size := by simp [numsOf]
section
variable {P : Program} {N : Fr} {Q : Exit → ASt → Prop} {st : ASt} {I0 : Dom} {w0 : World} {β : Nat → Value} {a : Act} {w : World}
section ops
variable {o : Oper} {K : ASt → Prop} {d : Nat} {x y : AV}
end ops
section steps
variable {ops : Array Oper} {i : Nat} {l : List Nat} {d : Nat} {x y : AV}
theorem mk {t e s : Nat} {zl zc : Operand} {z : List AV} {k1 k2 : IntKind} {n : Int} (m by_ : Nat)
    (k : AOps P N ops Q l (ASt.mk ((d, .own m) :: st.env) (upd st.T m (.live e s (List.replicate n.toNat z)))))
    (ho : (ops.getD i default).op = .makeSlice t zl zc := by rfl) (ht : elOf P t = some (e, s) := by rfl) (hz : zcells P e = some z := by rfl) (hby : byOf P e = some by_ := by rfl)
    (hl : ev st zl = some (.v (.int k1 n)) := by rfl) (hc : ev st zc = some (.v (.int k2 n)) := by rfl) (hi : Nat.blt i ops.size = true := by rfl)
    (hg : opAt N ops st i = true := by rfl) (hd : (ops.getD i default).dst = some d := by rfl) (hN : Nat.blt d N = true := by rfl)
    (hm : st.T m = .no := by rfl) (h0 : 0 ≤ n := by omega) (hbd : by_ * n.toNat ≤ 281474976710656 := by omega) (hle : n.toNat ≤ 9223372036854775807 := by omega) : AOps P N ops Q (i :: l) st := st2 (op_make m hm h0 hbd hle hd hN k ho ht hz hby hl hc) hi hg
end steps
end
end Go.Proofs.Ytemcemimipagoaa.AW
namespace Go.Proofs.Ytemcemimipagoaa.AW
open Go Go.RowKit
@[simp] theorem dec_rec (p : Prop) (d : Decidable p) : (Decidable.rec (motive := fun _ => Bool) (fun _ => false) (fun _ => true) d) = @decide p d := by cases d <;> rfl
theorem merge_upd (S T : Nat → Ob) (m e s : Nat) (es : List (List AV)) : mergeT S (upd T m (.live e s es)) = upd (mergeT S T) m (.live e s es) := by
  funext j
  by_cases h : j = m
  · subst h; simp [mergeT, upd]
  · simp [mergeT, upd, h]
theorem merge_noT (S : Nat → Ob) : mergeT S noT = S := by
  funext j; simp [mergeT, noT]
theorem Ok.sh {P : Program} {f : Nat} {args : List AV} {R : AV → (Nat → Ob) → Prop} {y : AV} (h : Ok P f args R) (hs : ∀ x T, R x T → Sh T x y) : Gives P f args y := by
  intro I0 w vs hI hvs
  refine (h I0 w vs hI hvs).mono ?_
  rintro e w' (hF | ⟨v, x, T, β, rfl, h1, h2, h3, h4⟩)
  · exact hF.elim
  · exact .inr ⟨v, y, noT, noβ, rfl, ⟨rfl, rfl⟩, h2, Objs.noT _, (hs x T h1).rep h3 v h4⟩
theorem Ok.mono {P : Program} {f : Nat} {args : List AV} {R R' : AV → (Nat → Ob) → Prop} (h : Ok P f args R) (hs : ∀ x T, R x T → R' x T) : Ok P f args R' := by
  intro I0 w vs hI hvs
  refine (h I0 w vs hI hvs).mono ?_
  rintro e w' (hF | ⟨v, x, T, β, rfl, h1, h2⟩)
  · exact hF.elim
  · exact .inr ⟨v, x, T, β, rfl, hs x T h1, h2⟩
section
variable {P : Program} {N : Fr} {Q : Exit → ASt → Prop} {st : ASt}
theorem y_storeU {o : Oper} {x : AV} {T1 : Nat → Ob} {t n : Nat} {ag : Bool} {zp zv : Operand} {j q r e s : Nat} {es : List (List AV)} {c : List AV} (hq : es[q]? = some c)
    (ho : o.op = .store t zp zv := by rfl) (hd : o.dst = none := by rfl) (ht : szOf P t = some (n, ag) := by rfl)
    (hp : ev st zp = some (.ptr j q r) := by rfl) (hi : st.T j = .live e s es := by rfl) (hv : ev st zv = some x := by rfl) (hn : (cellsA x).length = n := by rfl) (hrs : Nat.ble (r + n) s = true := by rfl)
    (hx : (cellsA x).all (cok1 st.T) = true := by rfl) (hT1 : upd st.T j (.live e s (es.set q (c.take r ++ cellsA x ++ c.drop (r + n)))) = T1 := by rfl) : AEff P N Q o st (.v undef) T1 :=
  y_storeE hT1 hq hx ho hd ht hp hi hv hn hrs
theorem y_storeV {o : Oper} {x : AV} {T1 : Nat → Ob} {t n : Nat} {ag : Bool} {zp zv : Operand} {j r e s : Nat} {c : List AV}
    (ho : o.op = .store t zp zv := by rfl) (hd : o.dst = none := by rfl) (ht : szOf P t = some (n, ag) := by rfl)
    (hp : ev st zp = some (.ptr j 0 r) := by rfl) (hi : st.T j = .live e s [c] := by rfl) (hv : ev st zv = some x := by rfl) (hn : (cellsA x).length = n := by rfl) (hrs : Nat.ble (r + n) s = true := by rfl)
    (hx : (cellsA x).all (cok1 st.T) = true := by rfl) (hT1 : upd st.T j (.live e s [c.take r ++ cellsA x ++ c.drop (r + n)]) = T1 := by rfl) : AEff P N Q o st (.v undef) T1 :=
  y_storeU (es := [c]) (q := 0) (c := c) rfl ho hd ht hp hi hv hn hrs hx hT1
theorem y_litU {o : Oper} {T1 : Nat → Ob} {t e s len : Nat} {parts : Array (Nat × Operand)} {ps : List (Nat × AV)} {z : List AV} (m : Nat)
    (ho : o.op = .buildSlice t len parts := by rfl) (ht : elOf P t = some (e, s) := by rfl) (hz : zcells P e = some z := by rfl) (hps : evps st parts.toList = some ps := by rfl) (hpl : ps.length = len := by rfl)
    (hsm : Nat.ble (len * s) 16777216 = true := by rfl) (hs0 : Nat.blt 0 (len * s) = true := by rfl) (hok : (ps.all fun p => (cellsA p.2).all (cok1 st.T)) = true := by rfl) (hls : (ps.all fun p => (cellsA p.2).length == s) = true := by rfl)
    (hf : fillA (fun i => some (i * s, s)) (List.replicate len z).flatten ps = some (ps.map fun p => cellsA p.2).flatten := by rfl) (hm : st.T m = .no := by rfl) (hT1 : upd st.T m (.live e s (ps.map fun p => cellsA p.2)) = T1 := by rfl) : AEff P N Q o st (.own m) T1 :=
  y_litE m hT1 hm ho ht hz hps hpl hsm hs0 hok hls hf
section steps
variable {ops : Array Oper} {i : Nat} {l : List Nat} {d : Nat} {x y : AV}
theorem cm1 {g : Nat} {caps : List AV} {z : Operand} {xs : Array Operand} {ts : Array TypeId} {ls l' : List AV} {m e s : Nat} {es : List (List AV)} (hok : Ok P g l' fun y T => y = x ∧ T = upd noT m (.live e s es))
    (k : AOps P N ops Q l (ASt.mk ((d, x) :: st.env) (upd st.T m (.live e s es)))) (hm : st.T m = .no := by rfl) (ho : (ops.getD i default).op = .call ⟨.value z, xs, ts⟩ := by rfl)
    (hz : ev st z = some (.clo g caps) := by rfl) (hl : evs st xs.toList = some ls := by rfl) (hl' : ls ++ caps = l' := by rfl) (hg' : goFn P g = true := by rfl) (hno : NoOwnL l' := by simp [NoOwnL]) (hi : Nat.blt i ops.size = true := by rfl)
    (hg : opAt N ops st i = true := by rfl) (hd : (ops.getD i default).dst = some d := by rfl) (hN : Nat.blt d N = true := by rfl) : AOps P N ops Q (i :: l) st :=
  cm hok (by rw [merge_upd, merge_noT]) (fun j hj => by
    simp only [upd, noT] at hj
    by_cases hjm : j = m
    · rw [hjm]; exact hm
    · rw [if_neg hjm] at hj; exact absurd rfl hj) k ho hz hl hl' hg' hno hi hg hd hN
theorem ap1 {t e s by_ j : Nat} {z1 z2 : Operand} {z c : List AV} {es : List (List AV)} (m : Nat)
    (k : AOps P N ops Q l (ASt.mk ((d, .own m) :: st.env) (upd (upd st.T j .dead) m (.live e s (es ++ [c])))))
    (ho : (ops.getD i default).op = .call ⟨.builtin .append, #[z1, z2], #[t, t]⟩ := by rfl) (h1 : ev st z1 = some (.own j) := by rfl) (hT : st.T j = .live e s es := by rfl) (h2 : ev st z2 = some x := by rfl) (hs : srcA st x = some [c] := by rfl) (hsz : sizA st s x = true := by rfl)
    (ht : elOf P t = some (e, s) := by rfl) (hz : zcells P e = some z := by rfl) (hby : byOf P e = some by_ := by rfl) (hb : Nat.ble by_ 127 = true := by rfl) (hok : c.all (cok1 st.T) = true := by rfl)
    (hi : Nat.blt i ops.size = true := by rfl) (hg : opAt N ops st i = true := by rfl) (hd : (ops.getD i default).dst = some d := by rfl) (hN : Nat.blt d N = true := by rfl) (hm : st.T m = .no := by rfl) (hl : es.length < 1099511627776) : AOps P N ops Q (i :: l) st := by
  have hb' : by_ ≤ 127 := by simpa using hb
  refine ap m hm ?_ ?_ ?_ k ho h1 hT h2 hs hsz ht hz hby hi hg hd hN
  · intro c' hc' y hy
    simp only [List.mem_singleton] at hc'
    subst hc'
    exact List.all_eq_true.1 hok y hy
  · have h3 : (es.length + [c].length) * by_ ≤ 1099511627776 * 127 := Nat.mul_le_mul (by simp only [List.length_singleton]; omega) hb'
    omega
  · simp only [List.length_singleton]; omega
end steps
end
end Go.Proofs.Ytemcemimipagoaa.AW
namespace Go.Proofs.Ytemcemimipagoaa.AW
open Go Go.RowKit
def tb : List (Nat × Ob) → Nat → Ob
  | [] => noT
  | (i, o) :: l => upd (tb l) i o
theorem tb_keys : ∀ {l : List (Nat × Ob)} {j : Nat}, tb l j ≠ .no → j ∈ l.map (·.1)
  | [], j, h => absurd rfl h
  | (i, o) :: l, j, h => by
    simp only [tb, upd] at h
    by_cases hj : j = i
    · simp [hj]
    · rw [if_neg hj] at h
      exact List.mem_cons_of_mem _ (tb_keys h)
inductive FzAt (r : Nat → Nat) (T T' : Nat → Ob) (j : Nat) : Prop
  | one (e s : Nat) (c c' : List AV) : T (r j) = .live e s [c] → T' j = .live e s [c'] → FzL r T T' c c' → FzAt r T T' j
  | same (e s : Nat) (es : List (List AV)) : T (r j) = .live e s es → T' j = .live e s es → (∀ c ∈ es, ∀ x ∈ c, NoOwn x) → FzAt r T T' j
  | rows (e s : Nat) (es es' : List (List AV)) : T (r j) = .live e s es → T' j = .live e s es' → es.length = es'.length → (∀ (q : Nat) (c c' : List AV), es[q]? = some c → es'[q]? = some c' → FzL r T T' c c') → FzAt r T T' j
  | dead : T' j = .dead → T (r j) ≠ .no → FzAt r T T' j
theorem fzT_of {r : Nat → Nat} {T T' : Nat → Ob} (keys : List Nat) (hk : ∀ j, T' j ≠ .no → j ∈ keys) (h : ∀ j ∈ keys, FzAt r T T' j) (hinj : ∀ i ∈ keys, ∀ j ∈ keys, r i = r j → i = j) : FzT r T T' := by
  refine ⟨fun j e s es' hj => ?_, fun j hj => ?_, fun i j hi hj hij => hinj i (hk i hi) j (hk j hj) hij⟩
  · cases h j (hk j (by rw [hj]; simp)) with
    | one e0 s0 c c' h1 h2 h3 =>
      rw [hj] at h2; cases h2
      refine ⟨[c], h1, rfl, fun q d d' hd hd' => ?_⟩
      cases q with
      | zero => simp at hd hd'; subst hd; subst hd'; exact h3
      | succ q => simp at hd
    | same e0 s0 es h1 h2 h3 =>
      rw [hj] at h2; cases h2
      refine ⟨_, h1, rfl, fun q d d' hd hd' => ?_⟩
      rw [hd] at hd'; cases hd'
      exact fzL_all (h3 d (List.mem_of_getElem? hd))
    | rows e0 s0 es es2 h1 h2 h3 h4 =>
      rw [hj] at h2; cases h2
      exact ⟨_, h1, h3, h4⟩
    | dead h1 => rw [hj] at h1; cases h1
  · cases h j (hk j hj) with
    | one e0 s0 c c' h1 => rw [h1]; simp
    | same e0 s0 es h1 => rw [h1]; simp
    | rows e0 s0 es es2 h1 => rw [h1]; simp
    | dead _ h1 => exact h1
def FzAll (r : Nat → Nat) (T T' : Nat → Ob) : List Nat → Prop
  | [] => True
  | j :: l => FzAt r T T' j ∧ FzAll r T T' l
theorem FzAll.mem {r : Nat → Nat} {T T' : Nat → Ob} : ∀ {l : List Nat}, FzAll r T T' l → ∀ j ∈ l, FzAt r T T' j
  | [], _, j, hj => by cases hj
  | i :: l, ⟨h1, h2⟩, j, hj => by
    rcases List.mem_cons.1 hj with rfl | hj
    · exact h1
    · exact FzAll.mem h2 j hj
theorem fzT_tb {r : Nat → Nat} {T : Nat → Ob} (l : List (Nat × Ob)) (h : FzAll r T (tb l) (l.map (·.1))) (hinj : ((l.map (·.1)).all fun i => (l.map (·.1)).all fun j => !(r i == r j) || i == j) = true := by rfl) : FzT r T (tb l) :=
  fzT_of (l.map (·.1)) (fun j hj => tb_keys hj) (fun j hj => h.mem j hj) fun i hi j hj hij => by
    have := List.all_eq_true.1 (List.all_eq_true.1 hinj i hi) j hj
    simpa [hij] using this
def nm : List (Nat × Nat) → Nat → Nat
  | [], j => j
  | (a, b) :: l, j => if j = a then b else nm l j
section
variable {P : Program} {N : Fr} {Q : Exit → ASt → Prop} {st : ASt}
theorem ent_tb (r : Nat → Nat) (l : List (Nat × Ob)) {e : List (Nat × AV)} (h : FzAll r st.T (tb l) (l.map (·.1))) (he : FzE r st.T (tb l) st.env e)
    (hinj : ((l.map (·.1)).all fun i => (l.map (·.1)).all fun j => !(r i == r j) || i == j) = true := by rfl) (hz : pinOk N.z r (tb l) = true := by rfl) : Ent N st ⟨e, tb l⟩ := ent_fz r (fzT_tb l h hinj) he hz
theorem y_bw {o : Oper} {f : BinOp} {t t' : TypeId} {p q : Operand} {u v : Value} {n : Int} (ho : o.op = .binOp f t p q t' := by rfl) (hp : ev st p = some (.v u) := by rfl) (hq : ev st q = some (.v v) := by rfl)
    (hrun : ∀ w, (do eqGuard f t p q u v; binOp f t u v : Sem Value).run P w = .ok (.int .i64 (IntKind.i64.wrap n)) w := by intro w; rfl) (h : -9223372036854775808 ≤ n ∧ n ≤ 9223372036854775807 := by omega) : AYield P N Q o st (.v (.int .i64 n)) :=
  y_bin64 h ho hp hq hrun
theorem y_bt {o : Oper} {f : BinOp} {t t' : TypeId} {p q : Operand} {u v : Value} {b : Bool} (ho : o.op = .binOp f t p q t' := by rfl) (hp : ev st p = some (.v u) := by rfl) (hq : ev st q = some (.v v) := by rfl)
    (hrun : ∀ w, (do eqGuard f t p q u v; binOp f t u v : Sem Value).run P w = .ok (.bool b) w := by intro w; rfl) (h : b = true := by first | (simp; done) | (simp; omega) | (simp; assumption) | fail) : AYield P N Q o st (.v (.bool true)) :=
  y_bin ho hp hq (h ▸ hrun)
theorem y_bf {o : Oper} {f : BinOp} {t t' : TypeId} {p q : Operand} {u v : Value} {b : Bool} (ho : o.op = .binOp f t p q t' := by rfl) (hp : ev st p = some (.v u) := by rfl) (hq : ev st q = some (.v v) := by rfl)
    (hrun : ∀ w, (do eqGuard f t p q u v; binOp f t u v : Sem Value).run P w = .ok (.bool b) w := by intro w; rfl) (h : b = false := by first | (simp; done) | (simp; omega) | (simp; assumption) | fail) : AYield P N Q o st (.v (.bool false)) :=
  y_bin ho hp hq (h ▸ hrun)
section steps
variable {ops : Array Oper} {i : Nat} {l : List Nat} {d : Nat}
theorem bt {f : BinOp} {t t' : TypeId} {p q : Operand} {u v : Value} {b : Bool} (k : AOps P N ops Q l (st.put d (.v (.bool true)))) (ho : (ops.getD i default).op = .binOp f t p q t' := by rfl) (hp : ev st p = some (.v u) := by rfl) (hq : ev st q = some (.v v) := by rfl)
    (hrun : ∀ w, (do eqGuard f t p q u v; binOp f t u v : Sem Value).run P w = .ok (.bool b) w := by intro w; rfl) (hi : Nat.blt i ops.size = true := by rfl)
    (hg : opAt N ops st i = true := by rfl) (hd : (ops.getD i default).dst = some d := by rfl) (hN : Nat.blt d N = true := by rfl) (h : b = true := by first | (simp; done) | (simp; omega) | (simp; assumption) | fail) : AOps P N ops Q (i :: l) st := st1 (y_bin ho hp hq (h ▸ hrun)) k hi hg hd hN
theorem bf {f : BinOp} {t t' : TypeId} {p q : Operand} {u v : Value} {b : Bool} (k : AOps P N ops Q l (st.put d (.v (.bool false)))) (ho : (ops.getD i default).op = .binOp f t p q t' := by rfl) (hp : ev st p = some (.v u) := by rfl) (hq : ev st q = some (.v v) := by rfl)
    (hrun : ∀ w, (do eqGuard f t p q u v; binOp f t u v : Sem Value).run P w = .ok (.bool b) w := by intro w; rfl) (hi : Nat.blt i ops.size = true := by rfl)
    (hg : opAt N ops st i = true := by rfl) (hd : (ops.getD i default).dst = some d := by rfl) (hN : Nat.blt d N = true := by rfl) (h : b = false := by first | (simp; done) | (simp; omega) | (simp; assumption) | fail) : AOps P N ops Q (i :: l) st := st1 (y_bin ho hp hq (h ▸ hrun)) k hi hg hd hN
end steps
end
end Go.Proofs.Ytemcemimipagoaa.AW
namespace Go.Proofs.Ytemcemimipagoaa.AW
open Go Go.RowKit
section
variable {P : Program} {N : Fr} {Q : Exit → ASt → Prop} {st : ASt} {I0 : Dom} {w0 : World} {β : Nat → Value} {a : Act} {w : World}
section ops
variable {o : Oper} {K : ASt → Prop} {d : Nat} {x y : AV}
end ops
section steps
variable {ops : Array Oper} {i : Nat} {l : List Nat} {d : Nat} {x y : AV}
end steps
end
end Go.Proofs.Ytemcemimipagoaa.AW
namespace Go.Proofs.Ytemcemimipagoaa.AW
open Go Go.RowKit
section
variable {P : Program} {N : Fr} {Q : Exit → ASt → Prop} {st : ASt} {I0 : Dom} {w0 : World} {β : Nat → Value} {a : Act} {w : World}
section ops
variable {o : Oper} {K : ASt → Prop} {d : Nat} {x y : AV}
end ops
section steps
variable {ops : Array Oper} {i : Nat} {l : List Nat} {d : Nat} {x y : AV}
end steps
end
end Go.Proofs.Ytemcemimipagoaa.AW
namespace Go.Proofs.Ytemcemimipagoaa.AW
open Go Go.RowKit
section
variable {P : Program} {N : Fr} {Q : Exit → ASt → Prop} {st : ASt} {I0 : Dom} {w0 : World} {β : Nat → Value} {a : Act} {w : World} {ops : Array Oper}
abbrev Effs := List (Nat × (Nat → Ob))
def ei (es : Effs) (c : Nat) : Nat := (es.getD c (0, noT)).1
end
end Go.Proofs.Ytemcemimipagoaa.AW
namespace Go.Proofs.Ytemcemimipagoaa.AW
open Go Go.RowKit
section
variable {P : Program} {N : Fr} {Q : Exit → ASt → Prop} {st : ASt}
end
end Go.Proofs.Ytemcemimipagoaa.AW
namespace Go.Proofs.Ytemcemimipagoaa.AW
open Go Go.RowKit
section
variable {P : Program} {N : Fr} {Q : Exit → ASt → Prop} {st : ASt} {I0 : Dom} {w0 : World} {β : Nat → Value} {a : Act} {w : World}
theorem Rel.kill (h : Rel N I0 w0 st β a w) {i : Nat} (hi : st.T i ≠ .no) : Rel N I0 w0 ⟨st.env, upd st.T i .dead⟩ β a w ∧ ∀ x v, Rep (Im I0 w0.heap.size st.T β w) st.T β w x v → Rep (Im I0 w0.heap.size (upd st.T i .dead) β w) (upd st.T i .dead) β w x v := by
  have hlive : ∀ j e s es, upd st.T i .dead j = .live e s es → st.T j = .live e s es := by
    intro j e s es hj
    simp only [upd] at hj
    by_cases hji : j = i
    · rw [if_pos hji] at hj; cases hj
    · rw [if_neg hji] at hj; exact hj
  have hI : ∀ b, Im I0 w0.heap.size st.T β w b → Im I0 w0.heap.size (upd st.T i .dead) β w b ∧ ∀ o, w.cell? ⟨b, o, none⟩ = w.cell? ⟨b, o, none⟩ :=
    fun b ⟨h1, h2, h3⟩ => ⟨⟨h1, h2, fun j e s es hj => h3 j _ _ _ (hlive _ _ _ _ hj)⟩, fun o => rfl⟩
  have hT : ∀ j, st.T j ≠ .no → upd st.T i .dead j ≠ .no ∧ ∀ e s es', upd st.T i .dead j = .live e s es' → β j = β j ∧ ∃ es, st.T j = .live e s es ∧ es.length = es'.length := by
    intro j hj
    refine ⟨?_, fun e s es' h' => ⟨rfl, es', hlive _ _ _ _ h', rfl⟩⟩
    simp only [upd]
    split
    · simp
    · exact hj
  have hm : ∀ x v, Rep (Im I0 w0.heap.size st.T β w) st.T β w x v → Rep (Im I0 w0.heap.size (upd st.T i .dead) β w) (upd st.T i .dead) β w x v := fun x v hx => hx.mono hI hT
  refine ⟨⟨h.old, h.size, h.defers, fun t x hx => hm _ _ (h.env t x hx), ⟨?_, ?_⟩, h.below, h.step, h.base, fun j v hj => let ⟨z1, z2, z3⟩ := h.pins j v hj; ⟨z1, (hT j z2).1, z3⟩⟩, hm⟩
  · intro j e s es hj
    obtain ⟨h1, xs, h2, h3⟩ := h.objs.obj j e s es (hlive _ _ _ _ hj)
    exact ⟨h1, xs, h2, fun q x hx => let ⟨v, hv, hr⟩ := h3 q x hx; ⟨v, hv, hm _ _ hr⟩⟩
  · intro p e1 s1 es1 q e2 s2 es2 b hp hq
    exact h.objs.inj _ _ _ _ _ _ _ _ b (hlive _ _ _ _ hp) (hlive _ _ _ _ hq)
theorem Rel.freeze (h : Rel N I0 w0 st β a w) {t i e s : Nat} {es : List (List AV)} (ht : get st.env t = some (.own i)) (hi : st.T i = .live e s es) (hn : ∀ c ∈ es, ∀ x ∈ c, NoOwn x) :
    Rel N I0 w0 ⟨(t, .sl s es) :: st.env, upd st.T i .dead⟩ β a w := by
  obtain ⟨k, hm⟩ := h.kill (i := i) (by rw [hi]; simp)
  refine ⟨k.old, k.size, k.defers, fun q x hx => ?_, k.objs, k.below, k.step, k.base, k.pins⟩
  simp only [get] at hx
  by_cases hq : t = q
  · rw [if_pos hq] at hx
    cases hx
    subst hq
    have hv := h.env t _ ht
    generalize a.tmps.getD t undef = v at hv
    cases hv with
    | own _ _ hno hx =>
      have := hx e s es hi
      subst this
      obtain ⟨h1, xs, h2, h3⟩ := h.objs.obj i e s es hi
      rcases h2.2 with ⟨hh, h0⟩ | ⟨g, cap, cur, fr, hh, hb, hg, _, hnc, _⟩
      · have : es = [] := List.eq_nil_of_length_eq_zero (by omega)
        subst this
        rw [hh]; exact .emp s none 0 fun _ => rfl
      · have hIm : Im I0 w0.heap.size (upd st.T i .dead) β w g := by
          refine ⟨.inr hb, (Array.getElem?_eq_some_iff.1 hg).1, fun j e' s' es2 hj hbj => ?_⟩
          simp only [upd] at hj
          by_cases hji : j = i
          · rw [if_pos hji] at hj; cases hj
          · rw [if_neg hji] at hj
            exact hji (h.objs.inj _ _ _ _ _ _ _ _ g hj hi hbj (by rw [hh]; rfl))
        rw [hh]
        rw [hh] at h2
        refine .sl s es g 0 cap (fun j => (xs[j]?).getD undef) hIm hnc h1 (fun j p hp => ?_) (fun j p hp => ?_)
        · have hlt : j < es.flatten.length := (List.getElem?_eq_some_iff.1 hp).1
          have hc := h2.cellAt j (by rw [← flat_len h1]; exact hlt)
          obtain ⟨u, hu, _⟩ := h3 j _ (List.getElem?_eq_getElem hlt)
          rw [Nat.zero_add, hc, hu]; rfl
        · obtain ⟨u, hu, hr⟩ := h3 j _ hp
          simp only [hu, Option.getD_some]
          exact hm _ _ hr
  · rw [if_neg hq] at hx
    exact k.env q x hx
section ops
variable {o : Oper}
end ops
section steps
variable {ops : Array Oper} {i : Nat} {l : List Nat} {d : Nat}
end steps
theorem fzL_to {r : Nat → Nat} {T T' : Nat → Ob} {l l' : List AV} (h : ∀ x ∈ l', NoOwn x) (e : l = l' := by rfl) : FzL r T T' l l' := by subst e; exact fzL_all h
theorem ne_live {o : Ob} {e s : Nat} {es : List (List AV)} (h : o = .live e s es) : o ≠ .no := by rw [h]; simp
end
end Go.Proofs.Ytemcemimipagoaa.AW
namespace Go.Proofs.Ytemcemimipagoaa.AW
open Go Go.RowKit
section
variable {P : Program} {N : Fr} {Q : Exit → ASt → Prop} {st : ASt} {I0 : Dom} {w0 : World} {β : Nat → Value} {a : Act} {w : World} {ops : Array Oper}
theorem AEff.frz {o : Oper} {x : AV} {T1 : Nat → Ob} (t : Nat) {i e s : Nat} {es : List (List AV)} (hn : ∀ c ∈ es, ∀ x ∈ c, NoOwn x) (h : AYield P N Q o ⟨(t, .sl s es) :: st.env, upd st.T i .dead⟩ x)
    (ht : get st.env t = some (.own i) := by rfl) (hi : st.T i = .live e s es := by rfl) (hT1 : upd st.T i .dead = T1 := by rfl) : AEff P N Q o st x T1 := by
  subst hT1
  intro I0 w0 β a w hr K' hK
  have hr' := hr.freeze ht hi hn
  obtain ⟨k1, k2⟩ := hr.kill (i := i) (by rw [hi]; simp)
  refine h I0 w0 β a w hr' K' fun y w' hb hy => hK y w' β ?_ ?_ ?_ hy
  · exact (hr'.world hb).held
  · exact fun p v hp => rep_world hb (k2 p v hp)
  · exact (hr'.world hb).objs
end
end Go.Proofs.Ytemcemimipagoaa.AW
namespace Go.Proofs.Ytemcemimipagoaa.AW
open Go Go.RowKit
section
variable {P : Program} {N : Fr} {Q : Exit → ASt → Prop} {st : ASt}
section steps
variable {ops : Array Oper} {i : Nat} {l : List Nat} {d : Nat}
end steps
end
end Go.Proofs.Ytemcemimipagoaa.AW
namespace Go.Proofs.Ytemcemimipagoaa.AW
open Go Go.RowKit
section
variable {P : Program} {N : Fr} {Q : Exit → ASt → Prop} {st : ASt} {I0 : Dom} {w0 : World} {β : Nat → Value} {a : Act} {w : World} {ops : Array Oper}
abbrev EffR := List (Nat × Nat × Ob × Option Nat)
def isk : Option Nat → Nat → Bool
  | none, _ => false
  | some k, q => Nat.beq q k
def eff1 (T : Nat → Ob) (j : Nat) (o : Ob) : Option Nat → Nat → Ob
  | none => upd T j o
  | some k => upd (upd T k .dead) j o
theorem beq_no {q j : Nat} (h : ¬ q = j) : Nat.beq q j = false := by
  cases hb : Nat.beq q j
  · rfl
  · exact absurd (Nat.eq_of_beq_eq_true hb) h
theorem eff1_at (T : Nat → Ob) (j : Nat) (o : Ob) (k : Option Nat) (q : Nat) : eff1 T j o k q = bif Nat.beq q j then o else bif isk k q then .dead else T q := by
  cases k with
  | none =>
    simp only [eff1, upd, isk, cond_false]
    by_cases hq : q = j
    · subst hq; simp
    · rw [if_neg hq, beq_no hq]; rfl
  | some k =>
    simp only [eff1, upd, isk]
    by_cases hq : q = j
    · subst hq; simp
    · rw [if_neg hq, beq_no hq]
      by_cases hk : q = k
      · subst hk; simp
      · rw [if_neg hk, beq_no hk]; rfl
def tch (p : Nat × Nat × Ob × Option Nat) (q : Nat) : Bool := Nat.beq q p.2.1 || isk p.2.2.2 q
def tabM (T : Nat → Ob) : EffR → (Nat → Bool) → Nat → Ob
  | [], _ => T
  | (e, j, o, k) :: es, m => tabM (fun q => bif Nat.beq q j && m e then o else bif isk k q && m e then .dead else T q) es m
theorem tabM_pt {es : EffR} {m : Nat → Bool} : ∀ {F F' : Nat → Ob} {q : Nat}, F q = F' q → tabM F es m q = tabM F' es m q := by
  induction es with
  | nil => exact fun h => h
  | cons p es ih =>
    obtain ⟨e, j, o, k⟩ := p
    intro F F' q h
    simp only [tabM]
    exact ih (by simp only [h])
theorem tabM_congr {es : EffR} {m m' : Nat → Bool} : ∀ {T : Nat → Ob}, (∀ p ∈ es, m p.1 = m' p.1) → tabM T es m = tabM T es m' := by
  induction es with
  | nil => exact fun _ => rfl
  | cons p es ih =>
    obtain ⟨e, j, o, k⟩ := p
    intro T h
    simp only [tabM]
    rw [show m e = m' e from h (e, j, o, k) (.head _)]
    exact ih fun q hq => h q (.tail _ hq)
theorem tabM_app {a b : EffR} {m : Nat → Bool} : ∀ {T : Nat → Ob}, tabM T (a ++ b) m = tabM (tabM T a m) b m := by
  induction a with
  | nil => exact rfl
  | cons p a ih => obtain ⟨e, j, o, k⟩ := p; intro T; simp only [List.cons_append, tabM]; exact ih
theorem tabM_none {es : EffR} {m : Nat → Bool} {q : Nat} : ∀ {F : Nat → Ob}, (∀ p ∈ es, tch p q = true → m p.1 = false) → tabM F es m q = F q := by
  induction es with
  | nil => exact fun _ => rfl
  | cons p es ih =>
    obtain ⟨e, j, o, k⟩ := p
    intro F h
    simp only [tabM]
    rw [ih fun p hp => h p (.tail _ hp)]
    have h0 := h (e, j, o, k) (.head _)
    simp only [tch] at h0
    cases h1 : Nat.beq q j <;> cases h2 : isk k q <;> simp [h1, h2] at h0 ⊢
    all_goals simp [h0]
def setMk (m : Nat → Bool) (i : Nat) : Nat → Bool := fun e => e == i || m e
theorem tabM_set {T : Nat → Ob} {a b : EffR} {i j : Nat} {o : Ob} {k : Option Nat} {m : Nat → Bool} (hi : m i = false) (hu : ∀ p ∈ a ++ b, p.1 ≠ i) (hb : ∀ p ∈ b, ∀ q, tch (i, j, o, k) q = true → tch p q = true → m p.1 = false) :
    tabM T (a ++ (i, j, o, k) :: b) (setMk m i) = eff1 (tabM T (a ++ (i, j, o, k) :: b) m) j o k := by
  have hs : ∀ p ∈ a ++ b, setMk m i p.1 = m p.1 := fun p hp => by simp [setMk, hu p hp]
  rw [tabM_app, tabM_app, tabM_congr (es := a) (m := setMk m i) (m' := m) fun p hp => hs p (List.mem_append_left _ hp)]
  simp only [tabM]
  rw [tabM_congr (es := b) (m := setMk m i) (m' := m) fun p hp => hs p (List.mem_append_right _ hp)]
  funext q
  rw [eff1_at]
  have hmi : setMk m i i = true := by simp [setMk]
  rw [hmi, hi]
  by_cases hq : tch (i, j, o, k) q = true
  · rw [tabM_none fun p hp ht => hb p hp q hq ht]
    simp only [tch, Bool.or_eq_true] at hq
    cases h1 : Nat.beq q j
    · rw [h1] at hq
      have hk : isk k q = true := by simpa using hq
      simp [hk]
    · simp
  · simp only [tch, Bool.or_eq_true, not_or] at hq
    have h1 : Nat.beq q j = false := eq_false_of_ne_true hq.1
    have h2 : isk k q = false := eq_false_of_ne_true hq.2
    rw [h1, h2]
    simp only [cond_false]
    exact tabM_pt (by simp [h1, h2])
def kn (ops : Array Oper) (i e : Nat) (b : Bool) : Bool := bif waits ops e i i then true else bif (e == i || waits ops i e e) then false else b
def tabK (ops : Array Oper) (i : Nat) (T : Nat → Ob) (es : EffR) (m : Nat → Bool) : Nat → Ob := tabM T es fun e => kn ops i e (m e)
def lookR : EffR → Nat → Option (Nat × Ob × Option Nat)
  | [], _ => none
  | (e, j, o, k) :: es, i => bif e == i then some (j, o, k) else lookR es i
theorem lookR_some : ∀ {es : EffR} {i j : Nat} {o : Ob} {k : Option Nat}, lookR es i = some (j, o, k) → ∃ a b, es = a ++ (i, j, o, k) :: b
  | [], i, j, o, k, h => by simp [lookR] at h
  | (e, j', o', k') :: es, i, j, o, k, h => by
    simp only [lookR, Bool.cond_eq_ite] at h
    by_cases he : e = i
    · subst he
      simp at h
      obtain ⟨rfl, rfl, rfl⟩ := h
      exact ⟨[], es, rfl⟩
    · have : (e == i) = false := by simpa using he
      rw [this] at h
      simp at h
      obtain ⟨a, b, rfl⟩ := lookR_some h
      exact ⟨_ :: a, b, rfl⟩
theorem lookR_none : ∀ {es : EffR} {i : Nat}, lookR es i = none → ∀ p ∈ es, p.1 ≠ i
  | [], i, h, p, hp => by cases hp
  | (e, j', o', k') :: es, i, h, p, hp => by
    simp only [lookR, Bool.cond_eq_ite] at h
    by_cases he : e = i
    · subst he; simp at h
    · have hb : (e == i) = false := by simpa using he
      rw [hb] at h
      simp at h
      rcases List.mem_cons.1 hp with rfl | hp
      · exact he
      · exact lookR_none h p hp
def rowsOf (p : Nat × Nat × Ob × Option Nat) : List Nat := p.2.1 :: p.2.2.2.toList
theorem tch_mem {p : Nat × Nat × Ob × Option Nat} {q : Nat} (h : tch p q = true) : q ∈ rowsOf p := by
  obtain ⟨e, j, o, k⟩ := p
  simp only [tch, Bool.or_eq_true] at h
  rcases h with h | h
  · have := Nat.eq_of_beq_eq_true h; simp [rowsOf, this]
  · cases k with
    | none => simp [isk] at h
    | some k => have := Nat.eq_of_beq_eq_true h; simp [rowsOf, this]
def effChk (ops : Array Oper) : EffR → Bool
  | [] => true
  | (e, j, o, k) :: es => (es.all fun p => Nat.blt e p.1 && (!((rowsOf p).any fun q => (j :: k.toList).contains q) || waits ops e p.1 p.1)) && effChk ops es
theorem effChk_mid {ops : Array Oper} : ∀ {a b : EffR} {i j : Nat} {o : Ob} {k : Option Nat}, effChk ops (a ++ (i, j, o, k) :: b) = true → (∀ p ∈ a ++ b, p.1 ≠ i) ∧ ∀ p ∈ b, ∀ q, tch (i, j, o, k) q = true → tch p q = true → waits ops i p.1 p.1 = true
  | [], b, i, j, o, k, h => by
    simp only [List.nil_append, effChk, Bool.and_eq_true, List.all_eq_true] at h
    refine ⟨fun p hp => ?_, fun p hp q h1 h2 => ?_⟩
    · have := blt_lt (h.1 p hp).1; omega
    · have h3 := (h.1 p hp).2
      have h4 : ((rowsOf p).any fun q => (j :: k.toList).contains q) = true := List.any_eq_true.2 ⟨q, tch_mem h2, List.contains_iff_mem.2 (tch_mem h1)⟩
      rw [h4] at h3
      simpa using h3
  | (e, j', o', k') :: a, b, i, j, o, k, h => by
    simp only [List.cons_append, effChk, Bool.and_eq_true, List.all_eq_true] at h
    obtain ⟨h1, h2⟩ := effChk_mid h.2
    refine ⟨fun p hp => ?_, h2⟩
    rcases List.mem_cons.1 hp with rfl | hp
    · have := blt_lt (h.1 (i, j, o, k) (List.mem_append_right _ (.head _))).1
      show e ≠ i
      omega
    · exact h1 p hp
def OneP (P : Program) (N : Fr) (ops : Array Oper) (Q : Exit → ASt → Prop) (st : ASt) (es : EffR) (R : List AV) (i : Nat) : Prop :=
  (∃ j o k, lookR es i = some (j, o, k) ∧ ∀ m, opAt N ops ⟨lookE ops (R.take i) (ops.getD i default) ++ st.env, tabK ops i st.T es m⟩ i = true ∧
      AEff P N Q (ops.getD i default) ⟨lookE ops (R.take i) (ops.getD i default) ++ st.env, tabK ops i st.T es m⟩ (R.getD i undefV) (eff1 (tabK ops i st.T es m) j o k)) ∨
  (lookR es i = none ∧ ∀ m, One P N ops Q st (tabK ops i st.T es m) R i) ∨
  (lookR es i = none ∧ ∀ m, opAt N ops ⟨lookE ops (R.take i) (ops.getD i default) ++ st.env, tabK ops i st.T es m⟩ i = true ∧
      AEff P N Q (ops.getD i default) ⟨lookE ops (R.take i) (ops.getD i default) ++ st.env, tabK ops i st.T es m⟩ (R.getD i undefV) (tabK ops i st.T es m))
def ADrawP (P : Program) (N : Fr) (ops : Array Oper) (Q : Exit → ASt → Prop) (st : ASt) (m : Nat) (es : EffR) (R : List AV) : Prop :=
  ∃ R', (R ++ R').length = m ∧ (∀ i, R.length ≤ i → i < m → OneP P N ops Q st es (R ++ R') i) ∧
    ∃ s, Ent N ⟨envAll ops (R ++ R') ++ st.env, tabM st.T es fun _ => true⟩ s ∧ AOps P N ops Q (List.range' m (ops.size - m)) s
theorem adrawP_one {m : Nat} {es : EffR} {R : List AV} {x : AV} (h : OneP P N ops Q st es (R ++ [x]) R.length) (k : ADrawP P N ops Q st m es (R ++ [x])) : ADrawP P N ops Q st m es R := by
  obtain ⟨R', h1, h2, h3⟩ := k
  refine ⟨x :: R', by simpa using h1, fun i hi1 hi2 => ?_, by simpa using h3⟩
  by_cases hi : i = R.length
  · subst hi
    have e1 : (R ++ x :: R').take R.length = (R ++ [x]).take R.length := by simp
    have e2 : (R ++ x :: R').getD R.length undefV = (R ++ [x]).getD R.length undefV := by simp [List.getD]
    unfold OneP One at h ⊢
    rw [e1, e2]; exact h
  · have := h2 i (by simp; omega) hi2
    simpa using this
theorem adrawP_sound {m : Nat} {es : EffR} {R : List AV} (hchk : drawChk N ops st.env m = true) (hinc : effChk ops es = true) (hem : ∀ p ∈ es, p.1 < m) (hR : R.length = m) (hone : ∀ i, i < m → OneP P N ops Q st es R i)
    {s : ASt} (hs : Ent N ⟨envAll ops R ++ st.env, tabM st.T es fun _ => true⟩ s) (hQ : AOps P N ops Q (List.range' m (ops.size - m)) s) :
    ∀ (fuel : Nat) (L : Array Bool) (β : Nat → Value) (a : Act) (w : World) (T : Nat → Ob), L.size = ops.size → ((List.range ops.size).filter fun j => !L.getD j true).length ≤ fuel →
      (∀ i, m ≤ i → i < ops.size → L.getD i true = false) → (T = tabM st.T es fun e => L.getD e true) →
      Rel N I0 w0 ⟨st.env, T⟩ β a w →
      (∀ e, e < m → L.getD e true = true → ∀ ed ∈ (ops.getD e default).after.toList, Region.binds .any ed = true → L.getD ed.on true = true) →
      (∀ i d, i < m → L.getD i true = true → (ops.getD i default).dst = some d → Rep (Im I0 w0.heap.size T β w) T β w (R.getD i undefV) (a.tmps.getD d undef)) →
      wpAny P .any ops (lift N I0 w0 Q) fuel L a w := by
  simp only [drawChk, Bool.and_eq_true] at hchk
  obtain ⟨⟨hm, hc1⟩, hc2⟩ := hchk
  have hm : m ≤ ops.size := by simpa using hm
  have hc : ∀ i, i < m → (∀ d, (ops.getD i default).dst = some d → d < N ∧ get st.env d = none ∧ ∀ j, j < m → j ≠ i → (ops.getD j default).dst ≠ some d) ∧
      (∀ ed ∈ (ops.getD i default).after.toList, Region.binds .any ed = true → ed.on < i) ∧
      (∀ t ∈ looks ops (ops.getD i default), ∀ j, j < m → (ops.getD j default).dst = some t → ∃ ed ∈ (ops.getD i default).after.toList, ed.on = j ∧ Region.binds .any ed = true) := by
    intro i hi
    have h1 := List.all_eq_true.1 hc1 i (by simpa using hi)
    simp only [Bool.and_eq_true] at h1
    obtain ⟨⟨h1, h2⟩, h3⟩ := h1
    refine ⟨fun d hd => ?_, fun ed hed hb => ?_, fun t ht j hj hjt => ?_⟩
    · rw [hd] at h1
      simp only [Bool.and_eq_true] at h1
      obtain ⟨⟨h5, h6⟩, h7⟩ := h1
      refine ⟨blt_lt h5, by simpa using h6, fun j hj hji hjd => ?_⟩
      have h8 : (j == i || !((ops.getD j default).dst == some d)) = true := List.all_eq_true.1 h7 j (by simpa using hj)
      rw [hjd] at h8
      simp [hji] at h8
    · have := List.all_eq_true.1 h2 ed hed
      simp only [hb, Bool.not_true, Bool.false_or] at this
      exact blt_lt this
    · have := List.all_eq_true.1 (List.all_eq_true.1 h3 t ht) j (by simpa using hj)
      simp only [hjt, BEq.rfl, Bool.not_true, Bool.false_or] at this
      obtain ⟨ed, h8, h9⟩ := List.any_eq_true.1 this
      simp only [Bool.and_eq_true, beq_iff_eq] at h9
      exact ⟨ed, h8, h9.1, h9.2⟩
  have ht : ∀ i, m ≤ i → i < ops.size → (∀ j, j < i → m < i → j + 1 = i → ∃ ed ∈ (ops.getD i default).after.toList, ed.on = j ∧ Region.binds .any ed = true) ∧
      (i = m → ∀ j, j < m → waits ops j m m = true) ∧
      ∀ ed ∈ (ops.getD i default).after.toList, Region.binds .any ed = true → ed.on < i := by
    intro i hi hi2
    have h1 := List.all_eq_true.1 hc2 i (by simpa using hi2)
    have hn : Nat.blt i m = false := by
      cases hb : Nat.blt i m
      · rfl
      · have := blt_lt hb; omega
    rw [hn, Bool.false_or, Bool.and_eq_true] at h1
    refine ⟨fun j hj hmi hjm => ?_, fun him j hj => ?_, fun ed hed hb => ?_⟩
    · have := List.all_eq_true.1 h1.1 j (by simpa using hj)
      have hb : (Nat.blt m i && !(j + 1 == i)) = false := by
        subst hjm; simp
      have hne : (i == m) = false := by simp; omega
      rw [hb, Bool.false_or, hne, cond_false] at this
      obtain ⟨ed, h8, h9⟩ := List.any_eq_true.1 this
      simp only [Bool.and_eq_true, beq_iff_eq] at h9
      exact ⟨ed, h8, h9.1, h9.2⟩
    · subst him
      have := List.all_eq_true.1 h1.1 j (by simpa using hj)
      rw [hn, Bool.false_and, Bool.false_or, BEq.rfl, cond_true] at this
      exact this
    · have := List.all_eq_true.1 h1.2 ed hed
      simp only [hb, Bool.not_true, Bool.false_or] at this
      exact blt_lt this
  intro fuel
  induction fuel with
  | zero =>
    intro L β a w T hL hu htl hcT hr hah hl
    have h0 : ((List.range ops.size).filter fun j => !L.getD j true) = [] := List.eq_nil_of_length_eq_zero (by omega)
    have hall : ∀ i, i < ops.size → L.getD i true = true := by
      intro i hi
      have := List.filter_eq_nil_iff.1 h0 i (by simpa using hi)
      simpa using this
    have hmn : m = ops.size := by
      rcases Nat.lt_or_ge m ops.size with h | h
      · have := htl m (Nat.le_refl _) h; rw [hall m h] at this; cases this
      · omega
    have hTe : T = tabM st.T es fun _ => true := by
      rw [hcT]; exact tabM_congr fun p hp => hall _ (by have := hem p hp; omega)
    subst hTe
    obtain ⟨γ, hγ⟩ := hs I0 w0 β a w (hr.more (st := ⟨st.env, tabM st.T es fun _ => true⟩) (e := envAll ops R) fun t x hx => by
      simp only [envAll, List.mem_filterMap, List.mem_range] at hx
      obtain ⟨j, hj, hjd⟩ := hx
      cases hd : (ops.getD j default).dst with
      | none => rw [hd] at hjd; cases hjd
      | some d =>
        rw [hd] at hjd
        simp only [Option.map_some, Option.some.injEq, Prod.mk.injEq] at hjd
        obtain ⟨rfl, rfl⟩ := hjd
        exact hl j d (by omega) (hall j (by omega)) hd)
    refine tail_sound (m := m) (fun i h1 h2 j h3 h4 => (ht i (Nat.le_of_lt h1) h2).1 j h3 h1 h4) (fun i h1 h2 => (ht i h1 h2).2.2) 0 m 0 L a w (by omega) (Nat.le_refl _) (Nat.le_refl _) hL (fun j hj => ⟨fun _ => by omega, fun _ => hall j hj⟩) ?_
    have := hQ I0 w0 γ a w hγ
    rwa [hmn, Nat.sub_self] at this
  | succ fuel ih =>
    intro L β a w T hL hu htl hcT hr hah hl
    by_cases hdone : ∀ i, i < m → L.getD i true = true
    · have hTe : T = tabM st.T es fun _ => true := by
        rw [hcT]; exact tabM_congr fun p hp => hdone _ (hem p hp)
      subst hTe
      obtain ⟨γ, hγ⟩ := hs I0 w0 β a w (hr.more (st := ⟨st.env, tabM st.T es fun _ => true⟩) (e := envAll ops R) fun t x hx => by
        simp only [envAll, List.mem_filterMap, List.mem_range] at hx
        obtain ⟨j, hj, hjd⟩ := hx
        cases hd : (ops.getD j default).dst with
        | none => rw [hd] at hjd; cases hjd
        | some d =>
          rw [hd] at hjd
          simp only [Option.map_some, Option.some.injEq, Prod.mk.injEq] at hjd
          obtain ⟨rfl, rfl⟩ := hjd
          exact hl j d (by omega) (hdone j (by omega)) hd)
      have hlen : ops.size - m ≤ fuel + 1 := by
        refine Nat.le_trans ?_ hu
        have e1 : ((List.range ops.size).filter fun j => !L.getD j true) = (List.range ops.size).filter fun j => decide (m ≤ j) := by
          apply List.filter_congr
          intro j hj
          have hj : j < ops.size := by simpa using hj
          by_cases hjm : m ≤ j
          · rw [htl j hjm hj]; simp [hjm]
          · rw [hdone j (by omega)]; simp [hjm]
        rw [e1]
        have e2 : (List.range ops.size).filter (fun j => decide (m ≤ j)) = List.range' m (ops.size - m) := by
          have hsplit : List.range ops.size = List.range m ++ List.range' m (ops.size - m) := by
            rw [List.range_eq_range', List.range_eq_range', show ops.size = m + (ops.size - m) by omega, ← List.range'_append_1]; simp
          rw [hsplit, List.filter_append]
          rw [List.filter_eq_nil_iff.2 (by intro j hj; simp at hj ⊢; exact hj), List.filter_eq_self.2 (by intro j hj; simp [List.mem_range'_1] at hj ⊢; omega)]
          simp
        rw [e2]; simp
      exact tail_sound (m := m) (fun i h1 h2 j h3 h4 => (ht i (Nat.le_of_lt h1) h2).1 j h3 h1 h4) (fun i h1 h2 => (ht i h1 h2).2.2) (ops.size - m) m (fuel + 1) L a w (by omega) (Nat.le_refl _) hlen hL
        (fun j hj => ⟨fun h => by
          rcases Nat.lt_or_ge j m with h1 | h1
          · exact h1
          · rw [htl j h1 hj] at h; exact absurd h (by decide), fun h => hdone j h⟩) (hQ I0 w0 γ a w hγ)
    · obtain ⟨i0, hi0, hi0'⟩ : ∃ i, i < m ∧ L.getD i true = false := by
        refine Classical.byContradiction fun hno => hdone fun i hi => ?_
        cases hb : L.getD i true
        · exact absurd ⟨i, hi, hb⟩ hno
        · rfl
      have hex : ∃ i, i ∈ Region.ready .any ops L := by
        obtain ⟨k, ⟨hk1, hk2⟩, hk3⟩ := least_exists (p := fun i => i < m ∧ L.getD i true = false) ⟨i0, hi0, hi0'⟩
        refine ⟨k, mem_ready.2 ⟨by omega, hk2, fun ed hed hb => ?_⟩⟩
        obtain ⟨_, h5, _⟩ := hc k hk1
        have hlt := h5 ed hed hb
        refine listed_all hL (by omega) ?_
        cases hbb : L.getD ed.on true
        · have := hk3 ed.on ⟨by omega, hbb⟩; omega
        · rfl
      refine ⟨fun hrdy => (by obtain ⟨i, hi⟩ := hex; rw [hrdy] at hi; cases hi), fun i hi => ?_⟩
      obtain ⟨hi1, hi2, hi3⟩ := mem_ready.1 hi
      have him : i < m := by
        rcases Nat.lt_or_ge i m with h | h
        · exact h
        · have hli : ∀ ed ∈ (ops.getD i default).after.toList, Region.binds .any ed = true → L.getD ed.on true = true := fun ed hed hb => by
            have := hi3 ed hed hb
            have hs : ed.on < L.size := by have := (ht i h hi1).2.2 ed hed hb; omega
            simpa [Array.getD, hs] using this
          by_cases him : i = m
          · subst him
            have h' := waits_listed (fun q hq => (hc q hq).2.1) hah i i (fun ed hed hb => ⟨hli ed hed hb, (ht i h hi1).2.2 ed hed hb⟩) ((ht i h hi1).2.1 rfl i0 hi0)
            rw [hi0'] at h'; cases h'
          · obtain ⟨ed, hed, hon, hb⟩ := (ht i h hi1).1 (i - 1) (by omega) (by omega) (by omega)
            have h' := hli ed hed hb
            rw [hon, htl (i - 1) (by omega) (by omega)] at h'; cases h'
      obtain ⟨hcd, h5, h6⟩ := hc i him
      have hmon : ∀ j, L.getD j true = true → (L.setIfInBounds i true).getD j true = true := fun j hj => by
        by_cases hji : j = i
        · subst hji; simp [Array.getD, hL, hi1]
        · rw [show (L.setIfInBounds i true).getD j true = L.getD j true by simp [Array.getD_eq_getD_getElem?, Array.getElem?_setIfInBounds_ne (Ne.symm hji)]]; exact hj
      have hah' : ∀ e, e < m → (L.setIfInBounds i true).getD e true = true → ∀ ed ∈ (ops.getD e default).after.toList, Region.binds .any ed = true → (L.setIfInBounds i true).getD ed.on true = true := by
        intro e hem hle ed hed hb
        by_cases hei : e = i
        · subst hei
          refine hmon _ ?_
          have := hi3 ed hed hb
          have hs : ed.on < L.size := by have := h5 ed hed hb; omega
          simpa [Array.getD, hs] using this
        · refine hmon _ (hah e hem ?_ ed hed hb)
          rwa [show (L.setIfInBounds i true).getD e true = L.getD e true by simp [Array.getD_eq_getD_getElem?, Array.getElem?_setIfInBounds_ne (Ne.symm hei)]] at hle
      have hs' : Rel N I0 w0 ⟨lookE ops (R.take i) (ops.getD i default) ++ st.env, T⟩ β a w := by
        refine hr.more (st := ⟨st.env, T⟩) fun t x hx => ?_
        simp only [lookE, List.mem_filterMap, List.mem_range] at hx
        obtain ⟨j, hj, hjx⟩ := hx
        have hjm : j < m := by simp at hj; omega
        cases ht' : (ops.getD j default).dst with
        | none => rw [ht'] at hjx; cases hjx
        | some t' =>
          rw [ht'] at hjx
          by_cases hct : (looks ops (ops.getD i default)).contains t' = true
          · simp only [hct, if_true] at hjx
            simp only [Option.some.injEq, Prod.mk.injEq] at hjx
            obtain ⟨rfl, rfl⟩ := hjx
            have hmem : t' ∈ looks ops (ops.getD i default) := by simpa using hct
            obtain ⟨ed, hed, hon, hb⟩ := h6 t' hmem j hjm ht'
            have hli := hi3 ed hed hb
            rw [hon] at hli
            have hli' : L.getD j true = true := by
              have hs : j < L.size := by omega
              simpa [Array.getD, hs] using hli
            have := hl j t' hjm hli' ht'
            have e : (R.take i).getD j undefV = R.getD j undefV := by
              have hji : j < i := by simp at hj; omega
              simp [List.getD, List.getElem?_take_of_lt hji]
            rw [e]; exact this
          · simp only [hct] at hjx
            cases hjx
      have hcount : ((List.range ops.size).filter fun j => !(L.setIfInBounds i true).getD j true).length ≤ fuel := by
        have := unl_lt ops.size L hL hi1 hi2; omega
      have hset : ∀ j, j ≠ i → (L.setIfInBounds i true).getD j true = L.getD j true := fun j hji => by simp [Array.getD_eq_getD_getElem?, Array.getElem?_setIfInBounds_ne (Ne.symm hji)]
      have hseti : (L.setIfInBounds i true).getD i true = true := by simp [Array.getD, hL, hi1]
      have htl' : ∀ j, m ≤ j → j < ops.size → (L.setIfInBounds i true).getD j true = false := fun j h1 h2 => by rw [hset j (by omega)]; exact htl j h1 h2
      unfold wpOp
      rw [getD_some hi1]
      have htmp : ∀ (T' : Nat → Ob) (β2 : Nat → Value) (y : Value) (w' : World), (∀ p v, Rep (Im I0 w0.heap.size T β w) T β w p v → Rep (Im I0 w0.heap.size T' β2 w') T' β2 w' p v) → Rep (Im I0 w0.heap.size T' β2 w') T' β2 w' (R.getD i undefV) y →
          ∀ j dj, j < m → (L.setIfInBounds i true).getD j true = true → (ops.getD j default).dst = some dj → Rep (Im I0 w0.heap.size T' β2 w') T' β2 w' (R.getD j undefV) ((a.put (ops.getD i default).dst y).tmps.getD dj undef) := by
        intro T' β2 y w' htr hx j dj hj hlj hdj
        by_cases hji : j = i
        · subst hji
          rw [hdj]
          have : dj < a.tmps.size := by rw [hr.size]; exact (hcd dj hdj).1
          simpa [Act.put, Array.getD, this] using hx
        · have e1 : (a.put (ops.getD i default).dst y).tmps.getD dj undef = a.tmps.getD dj undef := put_ne fun d hd e => (hcd d hd).2.2 j hj hji (by rw [hdj, e])
          rw [e1]
          rw [hset j hji] at hlj
          exact htr _ _ (hl j dj hj hlj hdj)
      have rest : lookR es i = none → One P N ops Q st T R i →
          if Region.wanted (ops.getD i default) (yielded ops a.tmps) = true then (ops.getD i default).wp P a w (fun a' w' => wpAny P .any ops (lift N I0 w0 Q) fuel (L.setIfInBounds i true) a' w') (lift N I0 w0 Q) ∨ False
          else wpAny P .any ops (lift N I0 w0 Q) fuel (L.setIfInBounds i true) (a.put (ops.getD i default).dst undef) w := by
        intro hne hone'
        have hnext : ∀ (y : Value) (w' : World), Below w.heap.size w w' → Rep (Im I0 w0.heap.size T β w') T β w' (R.getD i undefV) y →
            wpAny P .any ops (lift N I0 w0 Q) fuel (L.setIfInBounds i true) (a.put (ops.getD i default).dst y) w' := by
          intro y w' hb hy
          refine ih _ β _ _ T (by simpa using hL) hcount htl' ?_ ((hr.world hb).putO' (st := ⟨st.env, T⟩) fun d hd => (hcd d hd).2.1) hah' (htmp T β y w' (fun p v h => rep_world hb h) hy)
          rw [hcT]
          exact tabM_congr fun p hp => (hset _ (lookR_none hne p hp)).symm
        rcases hone' with ⟨hw, hy⟩ | ⟨hw, hx⟩
        · have h1 := wanted_of hs' hw
          simp only [h1, if_true]
          exact hy I0 w0 β a w hs' _ hnext
        · have h1 := off_of hs' hw
          simp only [h1, Bool.false_eq_true, if_false]
          exact hnext undef w (Below.refl _ w) (by rw [hx]; exact .v undef)
      have hlis : ∀ ed ∈ (ops.getD i default).after.toList, Region.binds .any ed = true → L.getD ed.on true = true ∧ ed.on < m := fun ed hed hb => by
        have hlt := h5 ed hed hb
        have hs : ed.on < L.size := by omega
        refine ⟨?_, by omega⟩
        have := hi3 ed hed hb
        simpa [Array.getD, hs] using this
      have hfor : ∀ j, waits ops j i i = true → L.getD j true = true := fun j hj => waits_listed (fun q hq => (hc q hq).2.1) hah i i hlis hj
      have hnot : ∀ e, e < m → waits ops i e e = true → L.getD e true = false := fun e he hw => by
        cases hle : L.getD e true
        · rfl
        · have := waits_listed (fun q hq => (hc q hq).2.1) hah e e (fun ed hed hb => ⟨hah _ he hle ed hed hb, Nat.lt_trans ((hc _ he).2.1 ed hed hb) he⟩) hw
          rw [hi2] at this; cases this
      have hkn : ∀ p ∈ es, kn ops i p.1 (L.getD p.1 true) = L.getD p.1 true := fun p hp => by
        simp only [kn, Bool.cond_eq_ite]
        by_cases h7 : waits ops p.1 i i = true
        · rw [if_pos h7, hfor _ h7]
        · rw [if_neg h7]
          by_cases h8 : (p.1 == i || waits ops i p.1 p.1) = true
          · rw [if_pos h8]
            simp only [Bool.or_eq_true, beq_iff_eq] at h8
            rcases h8 with h8 | h8
            · rw [h8, hi2]
            · exact (hnot _ (hem p hp) h8).symm
          · rw [if_neg h8]
      have hTk : tabK ops i st.T es (fun e => L.getD e true) = T := by rw [hcT]; exact tabM_congr hkn
      rcases hone i him with ⟨j, o, k, hlk, hall⟩ | ⟨hne, hst⟩ | ⟨hne, hst⟩
      · obtain ⟨hw, hy⟩ := hall fun e => L.getD e true
        rw [hTk] at hw hy
        obtain ⟨ea, eb, hes⟩ := lookR_some hlk
        rw [hes] at hinc
        obtain ⟨hu1, hu2⟩ := effChk_mid hinc
        have hT' : eff1 T j o k = tabM st.T es fun e => (L.setIfInBounds i true).getD e true := by
          rw [hcT, hes, ← tabM_set (m := fun e => L.getD e true) hi2 hu1 fun p hp q h1 h2 => hnot _ (hem p (by rw [hes]; exact List.mem_append_right _ (.tail _ hp))) (hu2 p hp q h1 h2)]
          refine tabM_congr fun p hp => ?_
          simp only [setMk]
          by_cases hpi : p.1 = i
          · rw [hpi, hseti]; simp
          · rw [hset _ hpi]; simp [hpi]
        have h1 := wanted_of hs' hw
        simp only [h1, if_true]
        refine hy I0 w0 β a w hs' _ fun y w' β2 hb htr hO hx => ?_
        refine ih _ β2 _ _ (eff1 T j o k) (by simpa using hL) hcount htl' hT' ?_ hah' (htmp _ β2 y w' htr hx)
        have hr2 : Rel N I0 w0 ⟨st.env, eff1 T j o k⟩ β2 a w' :=
          ⟨hr.old, hr.size, hb.marks, fun t x hx => htr _ _ (hr.env t x hx), hO, hb.bel, hr.step, hb.base, hb.pins⟩
        exact hr2.putO' fun d hd => (hcd d hd).2.1
      · refine rest hne ?_
        have := hst fun e => L.getD e true
        rw [hTk] at this
        exact this
      · obtain ⟨hw, hy⟩ := hst fun e => L.getD e true
        rw [hTk] at hw hy
        have h1 := wanted_of hs' hw
        simp only [h1, if_true]
        refine hy I0 w0 β a w hs' _ fun y w' β2 hb htr hO hx => ?_
        refine ih _ β2 _ _ T (by simpa using hL) hcount htl' (by rw [hcT]; exact tabM_congr fun p hp => (hset _ (lookR_none hne p hp)).symm) ?_ hah' (htmp _ β2 y w' htr hx)
        have hr2 : Rel N I0 w0 ⟨st.env, T⟩ β2 a w' :=
          ⟨hr.old, hr.size, hb.marks, fun t x hx => htr _ _ (hr.env t x hx), hO, hb.bel, hr.step, hb.base, hb.pins⟩
        exact hr2.putO' fun d hd => (hcd d hd).2.1
def ADrP (P : Program) (N : Fr) (ops : Array Oper) (Q : Exit → ASt → Prop) (st : ASt) (m : Nat) (es : EffR) (E : List (Nat × AV)) (i : Nat) : Prop :=
  drawChk N ops st.env m = true → ∀ R, R.length = i → RelRE ops R E → ADrawP P N ops Q st m es R
section steps
variable {m i d : Nat} {es : EffR} {E : List (Nat × AV)} {x : AV}
theorem dP (h : ∀ m', AYield P N Q (ops.getD i default) ⟨pickE (looks ops (ops.getD i default)) E ++ st.env, tabK ops i st.T es m'⟩ x) (k : ADrP P N ops Q st m es ((d, x) :: E) (i + 1))
    (hd : (ops.getD i default).dst = some d := by rfl) (hi : Nat.blt i m = true := by rfl) (he : lookR es i = none := by rfl) (hg : opAt N ops ⟨pickE (looks ops (ops.getD i default)) E ++ st.env, st.T⟩ i = true := by rfl) : ADrP P N ops Q st m es E i := by
  intro hc R hRl hR
  subst hRl
  have hi := blt_lt hi
  have hp := fun t x => pick_get (st := st) (o := ops.getD R.length default) hR (subL_refl _) (fun j d hj hd => chk_no hc (by omega) hd) (t := t) (x := x)
  refine adrawP_one (.inr (.inl ⟨he, fun m' => ?_⟩)) (k hc _ (by simp) (rel_snoc hc hR hi hd))
  unfold One
  rw [(take_snoc R x).1, (take_snoc R x).2]
  exact .inl ⟨opAt_mono hg hp, (h m').env_mono hp⟩
theorem dPk (k : ADrP P N ops Q st m es ((d, undefV) :: E) (i + 1))
    (hd : (ops.getD i default).dst = some d := by rfl) (hi : Nat.blt i m = true := by rfl) (hg : offAt N ops ⟨pickE (looks ops (ops.getD i default)) E ++ st.env, st.T⟩ i = true := by rfl) (he : lookR es i = none := by rfl) : ADrP P N ops Q st m es E i := by
  intro hc R hRl hR
  subst hRl
  have hi := blt_lt hi
  have hp := fun t x => pick_get (st := st) (o := ops.getD R.length default) hR (subL_refl _) (fun j d hj hd => chk_no hc (by omega) hd) (t := t) (x := x)
  refine adrawP_one (.inr (.inl ⟨he, fun m' => ?_⟩)) (k hc _ (by simp) (rel_snoc hc hR hi hd))
  unfold One
  rw [(take_snoc R undefV).1, (take_snoc R undefV).2]
  exact .inr ⟨offAt_mono hg hp, rfl⟩
theorem dPE' {j : Nat} {o : Ob} {k' : Option Nat} (h : ∀ m', AEff P N Q (ops.getD i default) ⟨pickE (looks ops (ops.getD i default)) E ++ st.env, tabK ops i st.T es m'⟩ x (eff1 (tabK ops i st.T es m') j o k')) (k : ADrP P N ops Q st m es ((d, x) :: E) (i + 1))
    (hd : (ops.getD i default).dst = some d := by rfl) (hi : Nat.blt i m = true := by rfl) (he : lookR es i = some (j, o, k') := by rfl) (hg : opAt N ops ⟨pickE (looks ops (ops.getD i default)) E ++ st.env, st.T⟩ i = true := by rfl) : ADrP P N ops Q st m es E i := by
  intro hc R hRl hR
  subst hRl
  have hi := blt_lt hi
  have hp := fun t x => pick_get (st := st) (o := ops.getD R.length default) hR (subL_refl _) (fun j d hj hd => chk_no hc (by omega) hd) (t := t) (x := x)
  refine adrawP_one (.inl ⟨j, o, k', he, fun m' => ?_⟩) (k hc _ (by simp) (rel_snoc hc hR hi hd))
  rw [(take_snoc R x).1, (take_snoc R x).2]
  exact ⟨opAt_mono hg hp, (h m').env_mono hp⟩
theorem dPS' {j : Nat} {o : Ob} {k' : Option Nat} (h : ∀ m', AEff P N Q (ops.getD i default) ⟨pickE (looks ops (ops.getD i default)) E ++ st.env, tabK ops i st.T es m'⟩ x (eff1 (tabK ops i st.T es m') j o k')) (k : ADrP P N ops Q st m es E (i + 1))
    (hd : (ops.getD i default).dst = none := by rfl) (hi : Nat.blt i m = true := by rfl) (he : lookR es i = some (j, o, k') := by rfl) (hg : opAt N ops ⟨pickE (looks ops (ops.getD i default)) E ++ st.env, st.T⟩ i = true := by rfl) : ADrP P N ops Q st m es E i := by
  intro hc R hRl hR
  subst hRl
  have hi := blt_lt hi
  have hp := fun t x => pick_get (st := st) (o := ops.getD R.length default) hR (subL_refl _) (fun j d hj hd => chk_no hc (by omega) hd) (t := t) (x := x)
  refine adrawP_one (x := x) (.inl ⟨j, o, k', he, fun m' => ?_⟩) (k hc (R ++ [x]) (by simp) (rel_none hR hd))
  rw [(take_snoc R x).1, (take_snoc R x).2]
  exact ⟨opAt_mono hg hp, (h m').env_mono hp⟩
theorem dPE {j : Nat} {o : Ob} (h : ∀ m', AEff P N Q (ops.getD i default) ⟨pickE (looks ops (ops.getD i default)) E ++ st.env, tabK ops i st.T es m'⟩ x (upd (tabK ops i st.T es m') j o)) (k : ADrP P N ops Q st m es ((d, x) :: E) (i + 1))
    (hd : (ops.getD i default).dst = some d := by rfl) (hi : Nat.blt i m = true := by rfl) (he : lookR es i = some (j, o, none) := by rfl) (hg : opAt N ops ⟨pickE (looks ops (ops.getD i default)) E ++ st.env, st.T⟩ i = true := by rfl) : ADrP P N ops Q st m es E i := dPE' (k' := none) h k hd hi he hg
theorem dPE2 {j q : Nat} {o : Ob} (h : ∀ m', AEff P N Q (ops.getD i default) ⟨pickE (looks ops (ops.getD i default)) E ++ st.env, tabK ops i st.T es m'⟩ x (upd (upd (tabK ops i st.T es m') q .dead) j o)) (k : ADrP P N ops Q st m es ((d, x) :: E) (i + 1))
    (hd : (ops.getD i default).dst = some d := by rfl) (hi : Nat.blt i m = true := by rfl) (he : lookR es i = some (j, o, some q) := by rfl) (hg : opAt N ops ⟨pickE (looks ops (ops.getD i default)) E ++ st.env, st.T⟩ i = true := by rfl) : ADrP P N ops Q st m es E i := dPE' (k' := some q) h k hd hi he hg
theorem dPS {j : Nat} {o : Ob} (h : ∀ m', AEff P N Q (ops.getD i default) ⟨pickE (looks ops (ops.getD i default)) E ++ st.env, tabK ops i st.T es m'⟩ x (upd (tabK ops i st.T es m') j o)) (k : ADrP P N ops Q st m es E (i + 1))
    (hd : (ops.getD i default).dst = none := by rfl) (hi : Nat.blt i m = true := by rfl) (he : lookR es i = some (j, o, none) := by rfl) (hg : opAt N ops ⟨pickE (looks ops (ops.getD i default)) E ++ st.env, st.T⟩ i = true := by rfl) : ADrP P N ops Q st m es E i := dPS' (k' := none) h k hd hi he hg
theorem dPn (h : AOps P N ops Q (List.range' m (ops.size - m)) ⟨E ++ st.env, tabM st.T es fun _ => true⟩) (hi : i = m := by rfl) : ADrP P N ops Q st m es E i := by
  intro hc R hRl hR
  obtain ⟨R', g1, g2, s, g3, g4⟩ := dn (eff := some (0, tabM st.T es fun _ => true)) (st := st) (E := E) h hi hc R hRl hR
  subst hi
  have hR' : R' = [] := by
    have := g1; rw [List.length_append] at this
    exact List.eq_nil_of_length_eq_zero (by omega)
  subst hR'
  exact ⟨[], g1, fun j h1 h2 => by omega, s, g3, g4⟩
theorem y_lit0E {o : Oper} {T1 : Nat → Ob} {t e s : Nat} (m : Nat) (ho : o.op = .buildSlice t 0 #[] := by rfl) (ht : elOf P t = some (e, s) := by rfl) (hm : st.T m = .no := by rfl) (hT1 : upd st.T m (.live e s []) = T1 := by rfl) : AEff P N Q o st (.own m) T1 := by
  subst hT1
  intro I0 w0 β a w hr K' hK
  obtain ⟨hu, bb, hs⟩ := elOf_el ht
  obtain ⟨h1, h2⟩ := hr.row (i := m) (e := e) (s := s) (es := []) hm (n := 0) rfl (Nat.zero_le _) (cells := #[]) (by simp) (by simp) (by simp)
  have hrun : (execOp a.eval o).run P w = .ok (.value (.slice (some ⟨w.heap.size, 0, none⟩) 0 0)) (w.alloc (.cells #[] e)) := by
    simp [execOp, ho, Instr.buildSlice, run_underlying hu, (szOf_run hs w).1, newRow, Instr.fill, Array.range_zero']
  refine .inl ?_
  simp only [Oper.wp, hrun, Oper.upon]
  exact hK _ _ _ h1.held h2 h1.objs (.own m _ (by simp [upd]) fun e s es he => by simp [updV])
theorem y_appE {o : Oper} {x : AV} {T1 : Nat → Ob} {t e s by_ j : Nat} {z1 z2 : Operand} {z : List AV} {es es2 : List (List AV)} (m : Nat) (hbd : (es.length + es2.length) * by_ ≤ 140737488355328) (hm63 : es.length + es2.length ≤ 9223372036854775807) (hok : ∀ c ∈ es2, ∀ y ∈ c, cok1 st.T y = true)
    (ho : o.op = .call ⟨.builtin .append, #[z1, z2], #[t, t]⟩ := by rfl) (ht : elOf P t = some (e, s) := by rfl) (hz : zcells P e = some z := by rfl) (hby : byOf P e = some by_ := by rfl)
    (h1 : ev st z1 = some (.own j) := by rfl) (hT : st.T j = .live e s es := by rfl) (h2 : ev st z2 = some x := by rfl) (hs : srcA st x = some es2 := by rfl) (hsz : sizA st s x = true := by rfl) (hm : st.T m = .no := by rfl)
    (hT1 : upd (upd st.T j .dead) m (.live e s (es ++ es2)) = T1 := by rfl) : AEff P N Q o st (.own m) T1 := by
  subst hT1
  intro I0 w0 β a w hr K' hK
  obtain ⟨hu, hsb⟩ := elOf_el ht
  obtain ⟨info, zv, g1, g2, g3, g4, g5⟩ := ea_info hsb hz hby
  obtain ⟨ad, c, news, q1, q2, q3, q4, q5, q6, q7⟩ := src_val hr h2 hs hsz hok
  obtain ⟨p1, xs, p2, p3⟩ := hr.objs.obj j e s es hT
  have hv1 : a.eval z1 = β j := by
    have h := hr.ev h1
    generalize a.eval z1 = y at h
    cases h with
    | own _ _ _ hx => exact hx e s es hT
  obtain ⟨v', w', r1, r2, r3, r4⟩ := run_app (P := P) (w := w) (I0.own w0.heap.size) t o.type e info zv s by_ hu g1 g2 g3 g4 g5 (β j) es.length xs p2 ad es2.length c q2 news q4 q5 q6 (by simp only [maxLen]; omega) hbd (.inl hr.base)
  have hes : ∀ y ∈ es ++ es2, y.length = s := fun y hy => (List.mem_append.1 hy).elim (p1 y) (q3 y)
  obtain ⟨n1, n2⟩ := hr.newObj (w' := w') (i' := m) (e := e) (s := s) (es' := es ++ es2) hm (β j).ownBlock (some j) (fun i2 h => by cases h; exact ⟨e, s, es, hT, rfl⟩) (by simp) r3 (y := v') (xs := xs ++ news) (by rw [List.length_append]; exact r2) r4 hes
    (fun q p hp => by
      rw [flat_app] at hp
      have hxl : xs.length = es.flatten.length := by rw [p2.1, flat_len p1]
      rcases Nat.lt_or_ge q es.flatten.length with hj | hj
      · rw [List.getElem?_append_left hj] at hp
        rw [List.getElem?_append_left (by omega)]
        exact p3 q p hp
      · rw [List.getElem?_append_right hj] at hp
        rw [List.getElem?_append_right (by omega), hxl]
        exact q7 _ p hp)
  have hrun : (execOp a.eval o).run P w = .ok (.value v') w' := by
    simp [execOp, ho, resolve, invoke, builtin, hv1, q1, r1]
  refine .inl ?_
  simp only [Oper.wp, hrun, Oper.upon]
  exact hK _ _ _ n1.held n2 n1.objs (.own m _ (by simp [upd]) fun e s es he => by simp [updV])
theorem aw_drawP {id : Nat} (m : Nat) (es : EffR) (h : ADrP P N ops Q st m es [] 0) (hchk : drawChk N ops st.env m = true := by rfl)
    (he : effChk ops es = true := by rfl) (hl : (es.all fun p => Nat.blt p.1 m) = true := by rfl) (hm : P.follows .mixedOrders = true := by rfl) (hnd : noDefer ops = true := by rfl) : AWp P N (.region id ops true) Q st := by
  obtain ⟨R, h1, h2, s, h3, h4⟩ := h hchk [] rfl ⟨fun j d hj => by simp at hj, fun t x hx => by simp [get] at hx⟩
  have hem : ∀ p ∈ es, p.1 < m := fun p hp => blt_lt (List.all_eq_true.1 hl p hp)
  intro I0 w0 β a w hr
  refine wpR_any hnd hm ?_
  have hr' : Rel N I0 w0 st β a { w with drawn := w.drawn + 1 } := hr.world (Below.refl _ w).drew
  have hm' : m ≤ ops.size := by simp only [drawChk, Bool.and_eq_true] at hchk; simpa using hchk.1.1
  have hrep : ∀ j, j < ops.size → (Array.replicate ops.size false).getD j true = false := fun j hj => by simp [Array.getD, hj]
  refine adrawP_sound (R := R) hchk he hem (by simpa using h1) (fun i hi => by simpa using h2 i (Nat.zero_le _) hi) (by simpa using h3) h4 _ _ β _ _ st.T (by simp) ?_ (fun i _ h => hrep i h) ?_ hr' (fun e he hl => ?_) ?_
  · exact Nat.le_trans (List.length_filter_le _ _) (by simp)
  · funext q
    exact (tabM_none fun p hp _ => hrep _ (by have := hem p hp; omega)).symm
  · rw [hrep e (by omega)] at hl; cases hl
  · intro i d hi hl _
    rw [hrep i (by omega)] at hl; cases hl
end steps
end
end Go.Proofs.Ytemcemimipagoaa.AW
namespace Go.Proofs.Ytemcemimipagoaa.AW
open Go Go.RowKit
section
variable {P : Program} {N : Fr} {Q : Exit → ASt → Prop} {st : ASt} {I0 : Dom} {w0 : World} {β : Nat → Value} {a : Act} {w : World} {ops : Array Oper}
section steps
variable {i : Nat} {l : List Nat} {d : Nat} {x : AV}
end steps
end
end Go.Proofs.Ytemcemimipagoaa.AW
namespace Go.Proofs.Ytemcemimipagoaa.AW
open Go Go.RowKit
def raisedA (v : Value) : List PanicEntry := [{ v, recovered := false }]
def deadL (z : List Nat) : List (Nat × Ob) := z.map fun i => (i, .dead)
def OkM (P : Program) (f : Nat) (L : List (Nat × Ob)) (args : List AV) (R : AV → List (Nat × Ob) → Prop) (E : Value → Prop) : Prop :=
  ∀ (D : Dom) (w : World) (β : Nat → Value) (vs : List Value), (∀ b, D.I b → b < w.heap.size) → Objs D w.heap.size (tb L) β w → All2 (Rep (Im D w.heap.size (tb L) β w) (tb L) β w) args vs →
    Calls P f vs.toArray w fun e w' =>
      (∃ v x L' β', e = .returned v ∧ R x L' ∧ BelowK D.K w.heap.size w w' ∧ Objs D w.heap.size (tb L') β' w' ∧ (∀ i, (L.map (·.1)).contains i = true → tb L' i ≠ .no ∧ β' i = β i) ∧ Rep (Im D w.heap.size (tb L') β' w') (tb L') β' w' x v) ∨
      (∃ v β', e = .panicked (raisedA v) ∧ E v ∧ BelowK D.K w.heap.size w w' ∧ Objs D w.heap.size (tb (deadL (L.map (·.1)))) β' w' ∧ ∀ i, (L.map (·.1)).contains i = true → β' i = β i)
theorem OkM.mono {P : Program} {f : Nat} {L : List (Nat × Ob)} {args : List AV} {R R' : AV → List (Nat × Ob) → Prop} {E E' : Value → Prop} (h : OkM P f L args R E) (hR : ∀ x L', R x L' → R' x L') (hE : ∀ v, E v → E' v) : OkM P f L args R' E' := by
  intro D w β vs h1 h2 h3
  refine (h D w β vs h1 h2 h3).mono ?_
  rintro e w' (⟨v, x, L', β', a1, a2, a3⟩ | ⟨v, β', a1, a2, a3⟩)
  · exact .inl ⟨v, x, L', β', a1, hR _ _ a2, a3⟩
  · exact .inr ⟨v, β', a1, hE _ a2, a3⟩
theorem dead_get {z : List Nat} {i : Nat} : tb (deadL z) i = .no ∨ tb (deadL z) i = .dead := by
  induction z with
  | nil => exact .inl rfl
  | cons j z ih =>
    simp only [deadL, List.map_cons, tb, upd]
    split
    · exact .inr rfl
    · exact ih
theorem dead_mem {z : List Nat} {i : Nat} (h : z.contains i = true) : tb (deadL z) i = .dead := by
  induction z with
  | nil => simp at h
  | cons j z ih =>
    simp only [deadL, List.map_cons, tb, upd]
    split
    · rfl
    · rename_i hne
      refine ih ?_
      simp only [List.contains_cons, Bool.or_eq_true, beq_iff_eq] at h
      exact h.resolve_left hne
theorem dead_key {z : List Nat} {i : Nat} (h : tb (deadL z) i ≠ .no) : z.contains i = true := by
  have := tb_keys h
  simp only [deadL, List.map_map] at this
  have h2 : (Prod.fst ∘ fun i : Nat => (i, Ob.dead)) = id := rfl
  rw [h2, List.map_id] at this
  simpa using this
section
variable {P : Program} {N : Fr} {Q : Exit → ASt → Prop} {st : ASt} {I0 : Dom} {w0 : World} {β : Nat → Value} {a : Act} {w : World}
theorem Rel.dead (h : Rel N I0 w0 st β a w) : Objs I0 w0.heap.size (tb (deadL N.z)) β w := by
  have hno : ∀ i e s es, tb (deadL N.z) i ≠ .live e s es := fun i e s es hi => by rcases dead_get (z := N.z) (i := i) with h | h <;> rw [h] at hi <;> cases hi
  exact ⟨fun i e s es hi => absurd hi (hno _ _ _ _), fun i e s es j e' s' es' b hi => absurd hi (hno _ _ _ _)⟩
inductive InZ (z : List Nat) : AV → Prop
  | no (x : AV) : NoOwn x → InZ z x
  | agg (l : List AV) : (∀ x ∈ l, InZ z x) → InZ z (.agg l)
  | tup (l : List AV) : (∀ x ∈ l, InZ z x) → InZ z (.tup l)
  | clo (f : Nat) (l : List AV) : (∀ x ∈ l, InZ z x) → InZ z (.clo f l)
  | own (i : Nat) : z.contains i = true → InZ z (.own i)
  | ptr (i k r : Nat) : z.contains i = true → InZ z (.ptr i k r)
theorem Rep.inZ {z : List Nat} {I : Nat → Prop} {T T' : Nat → Ob} {β : Nat → Value} {w : World} {x : AV} {y : Value} (hT : ∀ i, z.contains i = true → T' i = T i) (hx : InZ z x) : ∀ {y : Value}, Rep I T β w x y → Rep I T' β w x y := by
  induction hx with
  | no x hx => exact fun h => h.noOwn hx
  | agg l _ ih => intro y h; cases h with | agg _ cs hl hc => exact .agg l cs hl fun j p c hp hcc => ih p (List.mem_of_getElem? hp) (hc j p c hp hcc)
  | tup l _ ih => intro y h; cases h with | tup _ cs hl hc => exact .tup l cs hl fun j p c hp hcc => ih p (List.mem_of_getElem? hp) (hc j p c hp hcc)
  | clo f l _ ih => intro y h; cases h with | clo _ _ cs hl hc => exact .clo f l cs hl fun j p c hp hcc => ih p (List.mem_of_getElem? hp) (hc j p c hp hcc)
  | own i hi => intro y h; cases h with | own _ _ hn hx => exact .own i y (by rw [hT i hi]; exact hn) fun e s es he => hx e s es (by rw [← hT i hi]; exact he)
  | ptr i k r hi => intro y h; cases h with | ptr _ _ _ _ hn hx => exact .ptr i k r y (by rw [hT i hi]; exact hn) fun e s es he => hx e s es (by rw [← hT i hi]; exact he)
def InZL (z : List Nat) : List AV → Prop
  | [] => True
  | x :: l => InZ z x ∧ InZL z l
def InZLL (z : List Nat) : List (List AV) → Prop
  | [] => True
  | c :: l => InZL z c ∧ InZLL z l
theorem InZL.mem {z : List Nat} : ∀ {l : List AV}, InZL z l → ∀ x ∈ l, InZ z x
  | _ :: _, ⟨h, _⟩, _, .head _ => h
  | _ :: _, ⟨_, h⟩, x, .tail _ hx => InZL.mem h x hx
theorem InZLL.mem {z : List Nat} : ∀ {l : List (List AV)}, InZLL z l → ∀ c ∈ l, ∀ x ∈ c, InZ z x
  | _ :: _, ⟨h, _⟩, _, .head _, x, hx => h.mem x hx
  | _ :: _, ⟨_, h⟩, c, .tail _ hc, x, hx => InZLL.mem h c hc x hx
theorem inZL_no {z : List Nat} : ∀ {l : List AV}, (∀ x ∈ l, NoOwn x) → InZL z l
  | [], _ => trivial
  | x :: l, h => ⟨.no x (h x (.head _)), inZL_no fun y hy => h y (.tail _ hy)⟩
theorem inZLL_no {z : List Nat} : ∀ {l : List (List AV)}, (∀ c ∈ l, ∀ x ∈ c, NoOwn x) → InZLL z l
  | [], _ => trivial
  | x :: l, h => ⟨inZL_no (h x (.head _)), inZLL_no fun y hy => h y (.tail _ hy)⟩
def RowsZ (z : List Nat) : List (Nat × Ob) → Prop
  | [] => True
  | (_, .live _ _ es) :: l => InZLL z es ∧ RowsZ z l
  | _ :: l => RowsZ z l
theorem RowsZ.get {z : List Nat} : ∀ {L : List (Nat × Ob)}, RowsZ z L → ∀ {i e s : Nat} {es : List (List AV)}, tb L i = .live e s es → ∀ c ∈ es, ∀ x ∈ c, InZ z x
  | [], _, i, e, s, es, h => by cases h
  | (j, o) :: l, hz, i, e, s, es, h => by
    simp only [tb, upd] at h
    by_cases hj : i = j
    · rw [if_pos hj] at h; subst h; exact hz.1.mem
    · rw [if_neg hj] at h
      cases o with
      | live => exact RowsZ.get hz.2 h
      | no => exact RowsZ.get (L := l) hz h
      | dead => exact RowsZ.get (L := l) hz h
def AgreeL (T : Nat → Ob) (L : List (Nat × Ob)) : List Nat → Prop
  | [] => True
  | i :: z => T i = tb L i ∧ AgreeL T L z
theorem AgreeL.get {T : Nat → Ob} {L : List (Nat × Ob)} : ∀ {z : List Nat}, AgreeL T L z → ∀ i, z.contains i = true → T i = tb L i
  | [], _, i, h => by simp at h
  | j :: z, ⟨h1, h2⟩, i, h => by
    simp only [List.contains_cons, Bool.or_eq_true, beq_iff_eq] at h
    rcases h with rfl | h
    · exact h1
    · exact AgreeL.get h2 i h
theorem tb_in {L : List (Nat × Ob)} {i : Nat} (h : tb L i ≠ .no) : (L.map (·.1)).contains i = true := by simpa using tb_keys h
theorem Rel.lend (h : Rel N I0 w0 st β a w) {L : List (Nat × Ob)} (hag : AgreeL st.T L (L.map (·.1))) (hrows : RowsZ (L.map (·.1)) L) :
    Objs (subD I0 w0.heap.size st.T β w (L.map (·.1))) w.heap.size (tb L) β w ∧
      ∀ x v, InZ (L.map (·.1)) x → Rep (Im I0 w0.heap.size st.T β w) st.T β w x v → Rep (Im (subD I0 w0.heap.size st.T β w (L.map (·.1))) w.heap.size (tb L) β w) (tb L) β w x v := by
  have hT := hag.get
  have hlive : ∀ i e s es, tb L i = .live e s es → (L.map (·.1)).contains i = true ∧ st.T i = .live e s es := fun i e s es hi =>
    have hc := tb_in (i := i) (L := L) (by rw [hi]; simp)
    ⟨hc, by rw [hT i hc]; exact hi⟩
  have hrep : ∀ x v, InZ (L.map (·.1)) x → Rep (Im I0 w0.heap.size st.T β w) st.T β w x v → Rep (Im (subD I0 w0.heap.size st.T β w (L.map (·.1))) w.heap.size (tb L) β w) (tb L) β w x v := by
    intro x v hx hr
    have h1 : Rep (Im I0 w0.heap.size st.T β w) (tb L) β w x v := hr.inZ (y := v) (fun i hi => (hT i hi).symm) hx
    exact h1.mono (fun b hb => ⟨⟨.inl hb, hb.2.1, fun i e s es hi => hb.2.2 i e s es (hlive i e s es hi).2⟩, fun o => rfl⟩) fun i hi => ⟨hi, fun e s es' h' => ⟨rfl, es', h', rfl⟩⟩
  refine ⟨⟨fun i e s es hi => ?_, fun i e s es j e' s' es' b hi hj => h.objs.inj i e s es j e' s' es' b (hlive _ _ _ _ hi).2 (hlive _ _ _ _ hj).2⟩, hrep⟩
  obtain ⟨hc, hi'⟩ := hlive i e s es hi
  obtain ⟨h1, xs, h2, h3⟩ := h.objs.obj i e s es hi'
  refine ⟨h1, xs, ⟨h2.1, h2.2.imp id ?_⟩, fun j y hy => ?_⟩
  · rintro ⟨g, cap, cur, fr, e1, e2, e3⟩
    exact ⟨g, cap, cur, fr, e1, .inr ⟨i, e, s, es, hc, hi', by rw [e1]; rfl⟩, e3⟩
  · obtain ⟨u, hu, hr⟩ := h3 j y hy
    refine ⟨u, hu, hrep _ _ ?_ hr⟩
    obtain ⟨c, hcm, hyc⟩ := List.mem_flatten.1 (List.mem_of_getElem? hy)
    exact hrows.get hi c hcm y hyc
theorem callM_runs (hr : Rel N I0 w0 st β a w) {o : Oper} {g : Nat} {caps : List AV} {z : Operand} {xs : Array Operand} {ts : Array TypeId} {l : List AV} {L : List (Nat × Ob)} {R : AV → List (Nat × Ob) → Prop} {E : Value → Prop} (ho : o.op = .call ⟨.value z, xs, ts⟩)
    (hz : ev st z = some (.clo g caps)) (hg : goFn P g = true) (hl : xs.toList.map (ev st) = l.map some) (hno : ∀ x ∈ l ++ caps, InZ (L.map (·.1)) x) (hag : AgreeL st.T L (L.map (·.1))) (hrows : RowsZ (L.map (·.1)) L) (hok : OkM P g L (l ++ caps) R E) :
    ∃ args : Array Value, (execOp a.eval o).run P w = .ok (.enter g args) w ∧ Calls P g args w fun e w' =>
      (∃ v x L' β', e = .returned v ∧ R x L' ∧ BelowK (subD I0 w0.heap.size st.T β w (L.map (·.1))).K w.heap.size w w' ∧ Objs (subD I0 w0.heap.size st.T β w (L.map (·.1))) w.heap.size (tb L') β' w' ∧
        (∀ i, (L.map (·.1)).contains i = true → tb L' i ≠ .no ∧ β' i = β i) ∧ Rep (Im (subD I0 w0.heap.size st.T β w (L.map (·.1))) w.heap.size (tb L') β' w') (tb L') β' w' x v) ∨
      (∃ v β', e = .panicked (raisedA v) ∧ E v ∧ BelowK (subD I0 w0.heap.size st.T β w (L.map (·.1))).K w.heap.size w w' ∧ Objs (subD I0 w0.heap.size st.T β w (L.map (·.1))) w.heap.size (tb (deadL (L.map (·.1)))) β' w' ∧
        ∀ i, (L.map (·.1)).contains i = true → β' i = β i) := by
  obtain ⟨hO, hrep⟩ := hr.lend hag hrows
  have hzr := hr.ev hz
  generalize hy : a.eval z = y at hzr
  cases hzr with
  | clo g caps vs hvl hvc =>
    have hlen : l.length = xs.size := by have := congrArg List.length hl; simpa using this.symm
    have hargs : All2 (Rep (Im (subD I0 w0.heap.size st.T β w (L.map (·.1))) w.heap.size (tb L) β w) (tb L) β w) (l ++ caps) ((xs.map a.eval) ++ vs).toList := by
      refine all2_of (by simp [hlen, hvl]) fun j p v hp hv => ?_
      have hn := hno p (List.mem_of_getElem? hp)
      rcases Nat.lt_or_ge j l.length with hj | hj
      · rw [List.getElem?_append_left hj] at hp
        have h1 : (xs.toList.map (ev st))[j]? = some (some p) := by rw [hl]; simp [hp]
        simp only [List.getElem?_map, Array.getElem?_toList] at h1
        cases hcj : xs[j]? with
        | none => simp [hcj] at h1
        | some q =>
          simp only [hcj, Option.map_some, Option.some.injEq] at h1
          have hv' : v = a.eval q := by
            rw [Array.toList_append, List.getElem?_append_left (by simp; omega)] at hv
            simp [hcj] at hv
            exact hv.symm
          subst hv'
          exact hrep _ _ hn (hr.ev h1)
      · rw [List.getElem?_append_right hj] at hp
        rw [Array.toList_append, List.getElem?_append_right (by simp; omega)] at hv
        simp only [Array.toList_map, List.length_map, Array.length_toList, Array.getElem?_toList] at hv
        rw [← hlen] at hv
        exact hrep _ _ hn (hvc _ _ _ hp hv)
    have hc := hok (subD I0 w0.heap.size st.T β w (L.map (·.1))) w β _ (fun b hb => hb.2.1) hO hargs
    simp only [Array.toArray_toList] at hc
    refine ⟨(xs.map a.eval) ++ vs, ?_, hc⟩
    have := run_callFunc hg ((xs.map a.eval) ++ vs) w
    simp [execOp, ho, resolve, hy, Deferred.ofValue, invoke, this]
def FitL (T : Nat → Ob) (L L' : List (Nat × Ob)) : Prop :=
  (∀ j, tb L' j ≠ .no → T j = .no ∨ (L.map (·.1)).contains j = true) ∧ ∀ j e s es', (L.map (·.1)).contains j = true → tb L' j = .live e s es' → ∃ es, T j = .live e s es ∧ es.length = es'.length
def fitOne (T : Nat → Ob) (z : List Nat) : Nat × Ob → Prop
  | (j, .live e s es') => bif z.contains j then (∃ es, T j = .live e s es ∧ es.length = es'.length) else T j = .no
  | (j, _) => bif z.contains j then True else T j = .no
def FitAll (T : Nat → Ob) (z : List Nat) : List (Nat × Ob) → Prop
  | [] => True
  | p :: l => fitOne T z p ∧ FitAll T z l
theorem fit_of {T : Nat → Ob} {L : List (Nat × Ob)} : ∀ {L' : List (Nat × Ob)}, FitAll T (L.map (·.1)) L' → FitL T L L'
  | [], _ => ⟨fun j hj => absurd rfl hj, fun j e s es' _ h => by cases h⟩
  | (k, o) :: l, ⟨h1, h2⟩ => by
    obtain ⟨a1, a2⟩ := fit_of h2
    refine ⟨fun j hj => ?_, fun j e s es' hz hj => ?_⟩
    · simp only [tb, upd] at hj
      by_cases hjk : j = k
      · subst hjk
        cases hc : (L.map (·.1)).contains j with
        | true => exact .inr rfl
        | false => left; cases o <;> (simp only [fitOne, hc, cond_false] at h1; exact h1)
      · rw [if_neg hjk] at hj; exact a1 j hj
    · simp only [tb, upd] at hj
      by_cases hjk : j = k
      · subst hjk
        rw [if_pos rfl] at hj; subst hj
        simp only [fitOne, hz, cond_true] at h1; exact h1
      · rw [if_neg hjk] at hj; exact a2 j e s es' hz hj
section ops
variable {o : Oper} {K : ASt → Prop} {d : Nat} {x y : AV}
theorem op_callM {g : Nat} {caps : List AV} {z : Operand} {xs : Array Operand} {ts : Array TypeId} {l : List AV} {L : List (Nat × Ob)} {R : AV → List (Nat × Ob) → Prop} {E : Value → Prop} (ho : o.op = .call ⟨.value z, xs, ts⟩) (hd : ∀ t, o.dst = some t → t < N.n)
    (hz : ev st z = some (.clo g caps)) (hg : goFn P g = true) (hl : xs.toList.map (ev st) = l.map some) (hno : ∀ x ∈ l ++ caps, InZ (L.map (·.1)) x) (hag : AgreeL st.T L (L.map (·.1))) (hrows : RowsZ (L.map (·.1)) L) (hok : OkM P g L (l ++ caps) R E)
    (k : ∀ x L', R x L' → FitL st.T L L' ∧ K (ASt.putO ⟨st.env, mergeT st.T (tb L')⟩ o.dst x)) (kE : ∀ v, E v → Q (.panic (raisedA v)) ⟨st.env, mergeT st.T (tb (deadL (L.map (·.1))))⟩) : AOp P N o K Q st := by
  intro I0 w0 β a w hr K' hK
  obtain ⟨args, hrun, hc⟩ := callM_runs hr ho hz hg hl hno hag hrows hok
  refine .inl ?_
  simp only [Oper.wp, hrun, Oper.upon]
  refine hc.mono ?_
  rintro e w' (⟨v, x, L', β', rfl, h1, h2, h3, h4, h5⟩ | ⟨v, β', rfl, h1, h2, h3, h4⟩)
  · obtain ⟨⟨f1, f2⟩, hk⟩ := k x L' h1
    obtain ⟨β2, m1, _, m3, _⟩ := hr.mergeK h2 h3 f1 h4 f2
    exact hK _ β2 _ w' (m1.putO hd (m3 x v h5)) hk
  · obtain ⟨β2, m1, _⟩ := hr.mergeK h2 h3 (fun j hj => .inr (dead_key hj)) (fun j hj => ⟨by rw [dead_mem hj]; simp, h4 j hj⟩) (fun j e s es' hj h => by rw [dead_mem hj] at h; cases h)
    exact .inr ⟨_, β2, m1, kE v h1⟩
end ops
end
end Go.Proofs.Ytemcemimipagoaa.AW
namespace Go.Proofs.Ytemcemimipagoaa.AW
open Go Go.RowKit
theorem inZ_agg {z : List Nat} {l : List AV} (h : InZL z l) : InZ z (.agg l) := .agg l h.mem
def Mut (P : Program) (f : Nat) (L : List (Nat × Ob)) (args : List AV) (x : AV) (L' : List (Nat × Ob)) : Prop := OkM P f L args (fun y M => y = x ∧ M = L') (fun _ => False)
def Fails (P : Program) (f : Nat) (L : List (Nat × Ob)) (args : List AV) (v : Value) : Prop := OkM P f L args (fun _ _ => False) (fun u => u = v)
theorem Mut.to {P : Program} {f : Nat} {L L' M : List (Nat × Ob)} {args : List AV} {x y : AV} (h : Mut P f L args x L') (e : x = y) (e' : L' = M) : Mut P f L args y M := by subst e; subst e'; exact h
theorem Gives.to' {P : Program} {f : Nat} {args : List AV} {x y : AV} (h : Gives P f args x) (e : x = y) : Gives P f args y := e ▸ h
def updL (T : Nat → Ob) : List (Nat × Ob) → Nat → Ob
  | [] => T
  | (i, o) :: l => upd (updL T l) i o
def yesL (L : List (Nat × Ob)) : Bool := L.all fun p => match p.2 with | .no => false | _ => true
theorem mergeT_tb {T : Nat → Ob} : ∀ {L : List (Nat × Ob)}, yesL L = true → mergeT T (tb L) = updL T L
  | [], _ => by funext j; rfl
  | (i, o) :: l, h => by
    simp only [yesL, List.all_cons, Bool.and_eq_true] at h
    have ih := mergeT_tb (T := T) (L := l) h.2
    funext j
    simp only [updL, upd, ← ih]
    by_cases hj : j = i
    · subst hj
      have : tb ((j, o) :: l) j ≠ .no := by simp only [tb, upd, if_pos]; intro e; rw [e] at h; cases h.1
      rw [mergeT_some this, if_pos rfl]; simp [tb, upd]
    · rw [if_neg hj]
      simp only [mergeT, tb, upd, if_neg hj]
section
variable {P : Program} {N : Fr} {Q : Exit → ASt → Prop} {st : ASt} {I0 : Dom} {w0 : World} {β : Nat → Value} {a : Act} {w : World}
section ops
variable {o : Oper} {K : ASt → Prop} {d : Nat} {x y : AV}
theorem op_fails {g : Nat} {caps : List AV} {z : Operand} {xs : Array Operand} {ts : Array TypeId} {l l' : List AV} {L : List (Nat × Ob)} {v : Value} (hok : Fails P g L l' v) (ho : o.op = .call ⟨.value z, xs, ts⟩) (hd : ∀ t, o.dst = some t → t < N.n)
    (hz : ev st z = some (.clo g caps)) (hl : evs st xs.toList = some l) (hl' : l ++ caps = l') (hg : goFn P g = true) (hno : InZL (L.map (·.1)) l') (hag : AgreeL st.T L (L.map (·.1))) (hrows : RowsZ (L.map (·.1)) L)
    (k : ∀ s, Q (.panic (raisedA v)) s) : AOp P N o K Q st := by
  subst hl'
  refine op_callM ho hd hz hg (evs_map hl) hno.mem hag hrows hok (fun y M h => h.elim) fun u h => ?_
  subst h; exact k _
theorem y_mut {g : Nat} {caps : List AV} {z : Operand} {xs : Array Operand} {ts : Array TypeId} {l l' : List AV} {L L' : List (Nat × Ob)} {T1 : Nat → Ob} (hok : Mut P g L l' x L') (hT1 : updL st.T L' = T1 := by rfl) (ho : o.op = .call ⟨.value z, xs, ts⟩ := by rfl)
    (hz : ev st z = some (.clo g caps) := by rfl) (hl : evs st xs.toList = some l := by rfl) (hl' : l ++ caps = l' := by rfl) (hg : goFn P g = true := by rfl)
    (hno : InZL (L.map (·.1)) l' := by repeat' (first | exact trivial | (refine .no _ ?_; simp <;> fail) | exact .ptr _ _ _ rfl | exact .own _ rfl | refine inZ_agg ?_ | refine ⟨?_, ?_⟩))
    (hag : AgreeL st.T L (L.map (·.1)) := by repeat' (first | exact trivial | refine ⟨rfl, ?_⟩)) (hrows : RowsZ (L.map (·.1)) L := by repeat' (first | exact trivial | (refine inZLL_no ?_; simp <;> fail) | (refine .no _ ?_; simp <;> fail) | exact .ptr _ _ _ rfl | exact .own _ rfl | refine inZ_agg ?_ | refine ⟨?_, ?_⟩))
    (hfit : FitAll st.T (L.map (·.1)) L' := by repeat' (first | exact trivial | exact ⟨_, rfl, rfl⟩ | exact rfl | refine ⟨?_, ?_⟩)) (hy : yesL L' = true := by rfl) : AEff P N Q o st x T1 := by
  subst hT1
  subst hl'
  intro I0 w0 β a w hr K' hK
  obtain ⟨args, hrun, hc⟩ := callM_runs hr ho hz hg (evs_map hl) hno.mem hag hrows hok
  refine .inl ?_
  simp only [Oper.wp, hrun, Oper.upon]
  refine hc.mono ?_
  rintro e w' (⟨v, x, M, β', rfl, ⟨rfl, rfl⟩, h2, h3, h4, h5⟩ | ⟨v, β', _, h1, _⟩)
  · obtain ⟨f1, f2⟩ := fit_of hfit
    obtain ⟨β2, m1, m2, m3, _⟩ := hr.mergeK h2 h3 f1 h4 f2
    rw [mergeT_tb hy] at m1 m2 m3
    exact hK v w' β2 m1.held m2 m1.objs (m3 _ v h5)
  · exact h1.elim
end ops
section steps
variable {ops : Array Oper} {i : Nat} {l : List Nat} {d : Nat} {x y : AV}
theorem cF {g : Nat} {caps : List AV} {z : Operand} {xs : Array Operand} {ts : Array TypeId} {ls l' : List AV} {L : List (Nat × Ob)} {v : Value} (hok : Fails P g L l' v) (k : ∀ s, Q (.panic (raisedA v)) s) (ho : (ops.getD i default).op = .call ⟨.value z, xs, ts⟩ := by rfl)
    (hz : ev st z = some (.clo g caps) := by rfl) (hl : evs st xs.toList = some ls := by rfl) (hl' : ls ++ caps = l' := by rfl) (hg' : goFn P g = true := by rfl)
    (hno : InZL (L.map (·.1)) l' := by repeat' (first | exact trivial | (refine .no _ ?_; simp <;> fail) | exact .ptr _ _ _ rfl | exact .own _ rfl | refine inZ_agg ?_ | refine ⟨?_, ?_⟩))
    (hag : AgreeL st.T L (L.map (·.1)) := by repeat' (first | exact trivial | refine ⟨rfl, ?_⟩)) (hrows : RowsZ (L.map (·.1)) L := by repeat' (first | exact trivial | (refine inZLL_no ?_; simp <;> fail) | (refine .no _ ?_; simp <;> fail) | exact .ptr _ _ _ rfl | exact .own _ rfl | refine inZ_agg ?_ | refine ⟨?_, ?_⟩))
    (hi : Nat.blt i ops.size = true := by rfl) (hg : opAt N ops st i = true := by rfl) (hN : (match (ops.getD i default).dst with | none => true | some d => Nat.blt d N) = true := by rfl) : AOps P N ops Q (i :: l) st :=
  st2 (op_fails hok ho (fun t ht => by rw [ht] at hN; exact blt_lt hN) hz hl hl' hg' hno hag hrows k) hi hg
end steps
end
end Go.Proofs.Ytemcemimipagoaa.AW
namespace Go.Proofs.Ytemcemimipagoaa.AW
open Go Go.RowKit
theorem tb_append {i : Nat} : ∀ {A B : List (Nat × Ob)}, tb (A ++ B) i = if (A.map (·.1)).contains i = true then tb A i else tb B i
  | [], B => by simp
  | (j, o) :: A, B => by
    have ih := tb_append (i := i) (A := A) (B := B)
    simp only [List.cons_append, tb, upd, List.map_cons, List.contains_cons, Bool.or_eq_true, beq_iff_eq]
    by_cases hj : i = j
    · simp [hj]
    · simp only [hj, if_false, false_or]; exact ih
theorem wpIn_monoQ {F : Fence} {n : Nat} {P : Program} {o : Oper} {a : Act} {w : World} {K K' : Act → World → Prop} {Q Q' : Exit → Act → World → Prop} (h : ∀ a w, K a w → K' a w) (hQ : ∀ e a w, Q e a w → Q' e a w)
    (hh : o.wpIn F n P a w K Q) : o.wpIn F n P a w K' Q' := by
  unfold Oper.wpIn at *
  refine ⟨hh.1, ?_⟩
  have hh := hh.2
  generalize (o.semAt F.round a.eval).run P w = r at *
  have hL : LetsOut Q → LetsOut Q' := fun ⟨a, w, hq⟩ => ⟨a, w, hQ _ _ _ hq⟩
  cases r with
  | ok x w' =>
    cases x <;> simp only [Oper.uponIn] at hh ⊢ <;>
      first
        | exact h _ _ hh
        | exact ⟨hh.1, CallsIn.mono hh.2 (fun e w'' he => by cases e <;> first | exact h _ _ he | exact hQ _ _ _ he | exact hL he)⟩
        | exact ⟨hh.1, RowsIn.mono hh.2 (fun _ _ he => h _ _ he)⟩
        | exact ⟨hh.1, RoundIn.mono hh.2 (fun e w'' he => by cases e <;> first | exact h _ _ he | exact hQ _ _ _ he | exact hL he)⟩
  | halt x w' => cases x <;> simp only [Oper.uponIn] at hh ⊢ <;> first | exact hQ _ _ _ hh | exact hh
theorem wpOpsIn_monoQ {F : Fence} {n : Nat} {P : Program} {ops : Array Oper} {Q Q' : Exit → Act → World → Prop} (hQ : ∀ e a w, Q e a w → Q' e a w) : ∀ (l : List Nat) (a : Act) (w : World), wpOpsIn F n P ops Q l a w → wpOpsIn F n P ops Q' l a w
  | [], a, w, h => hQ _ _ _ h
  | i :: l, a, w, h => by
    simp only [wpOpsIn] at h ⊢
    cases ho : ops[i]? with
    | none => rw [ho] at h; exact wpOpsIn_monoQ hQ l a w h
    | some o =>
      rw [ho] at h
      simp only at h ⊢
      split
      · rename_i hw
        rw [if_pos hw] at h
        exact wpIn_monoQ (fun a w hk => wpOpsIn_monoQ hQ l a w hk) hQ h
      · rename_i hw
        rw [if_neg hw] at h
        exact ⟨h.1, wpOpsIn_monoQ hQ l _ _ h.2⟩
def thenOps (F : Fence) (n : Nat) (P : Program) (ops : Array Oper) (Q : Exit → Act → World → Prop) (l2 : List Nat) : Exit → Act → World → Prop
  | .normal, a, w => wpOpsIn F n P ops Q l2 a w
  | e, a, w => Q e a w
theorem opsIn_append {F : Fence} {n : Nat} {P : Program} {ops : Array Oper} {Q : Exit → Act → World → Prop} {l2 : List Nat} : ∀ (l1 : List Nat) (a : Act) (w : World), wpOpsIn F n P ops (thenOps F n P ops Q l2) l1 a w → wpOpsIn F n P ops Q (l1 ++ l2) a w
  | [], a, w, h => h
  | i :: l1, a, w, h => by
    simp only [wpOpsIn, List.cons_append] at h ⊢
    cases ho : ops[i]? with
    | none => rw [ho] at h; exact opsIn_append l1 a w h
    | some o =>
      rw [ho] at h
      simp only at h ⊢
      split
      · rename_i hw
        rw [if_pos hw] at h
        have key : ∀ (r : Result Next), o.uponIn F n P a (wpOpsIn F n P ops (thenOps F n P ops Q l2) l1) (thenOps F n P ops Q l2) r → o.uponIn F n P a (wpOpsIn F n P ops Q (l1 ++ l2)) Q r := by
          intro r hh
          have hL : LetsOut (thenOps F n P ops Q l2) → LetsOut Q := fun ⟨a, w, hq⟩ => ⟨a, w, hq⟩
          cases r with
          | ok x w' =>
            cases x <;> simp only [Oper.uponIn] at hh ⊢ <;>
              first
                | exact opsIn_append l1 _ _ hh
                | exact ⟨hh.1, CallsIn.mono hh.2 (fun e w'' he => by cases e <;> first | exact opsIn_append l1 _ _ he | exact he | exact hL he)⟩
                | exact ⟨hh.1, RowsIn.mono hh.2 (fun _ _ he => opsIn_append l1 _ _ he)⟩
                | exact ⟨hh.1, RoundIn.mono hh.2 (fun e w'' he => by cases e <;> first | exact opsIn_append l1 _ _ he | exact he | exact hL he)⟩
          | halt x w' => cases x <;> simp only [Oper.uponIn] at hh ⊢ <;> exact hh
        exact ⟨h.1, key _ h.2⟩
      · rename_i hw
        rw [if_neg hw] at h
        exact ⟨h.1, opsIn_append l1 _ _ h.2⟩
section
variable {P : Program} {N : Fr} {Q : Exit → ASt → Prop} {st : ASt} {I0 : Dom} {w0 : World} {β : Nat → Value} {a : Act} {w : World}
def Aux (I0 : Dom) (B : Nat) (T : Nat → Ob) (β : Nat → Value) (w : World) (env : List (Nat × AV)) (a' : Act) : Prop := ∀ t x, get env t = some x → Rep (Im I0 B T β w) T β w x (a'.tmps.getD t undef)
def lentN (n : Nat) (z : List Nat) (rd : Option Nat) : Fr := ⟨n, z, rd, false⟩
theorem lent_rel (h : Rel N I0 w0 st β a w) {n' : Nat} {rd : Option Nat} {L : List (Nat × Ob)} {env : List (Nat × AV)} {a' : Act} (hag : AgreeL st.T L (L.map (·.1))) (hrows : RowsZ (L.map (·.1)) L) (hz : pinOk (L.map (·.1)) id (tb L) = true)
    (hs : a'.tmps.size = n') (hd : a'.defers = []) (hx : Aux I0 w0.heap.size st.T β w env a') (hin : ∀ t x, get env t = some x → InZ (L.map (·.1)) x) :
    Rel (lentN n' (L.map (·.1)) rd) (subD I0 w0.heap.size st.T β w (L.map (·.1))) w ⟨env, tb L⟩ β a' w := by
  obtain ⟨hO, hrep⟩ := h.lend hag hrows
  refine ⟨fun b hb => hb.2.1, hs, ⟨[], by simpa [subD] using hd, .nil, fun D hD => (by cases hD), fun _ => rfl⟩, fun t x ht => hrep x _ (hin t x ht) (hx t x ht), hO, BelowK.refl _ _ w, fun _ _ h1 h2 => BelowK.trans h1 h2, Nat.le_refl _, fun i v hi => ?_⟩
  have hi' : (if (L.map (·.1)).contains i = true then some (β i) else none) = some v := hi
  split at hi'
  · rename_i hc
    cases hi'
    refine ⟨hc, fun e => ?_, rfl⟩
    have := List.all_eq_true.1 hz i (by simpa using hc)
    rw [show tb L i = .no from e] at this
    simp at this
  · cases hi'
theorem lent_back (h : Rel N I0 w0 st β a w) {n' : Nat} {rd : Option Nat} {L L' : List (Nat × Ob)} {env' : List (Nat × AV)} {β' : Nat → Value} {a2 : Act} {w2 : World} (hfit : FitL st.T L L')
    (h2 : Rel (lentN n' (L.map (·.1)) rd) (subD I0 w0.heap.size st.T β w (L.map (·.1))) w ⟨env', tb L'⟩ β' a2 w2) :
    ∃ β2, Rel N I0 w0 ⟨st.env, mergeT st.T (tb L')⟩ β2 a w2 ∧ Aux I0 w0.heap.size (mergeT st.T (tb L')) β2 w2 env' a2 ∧ a2.tmps.size = n' ∧ a2.defers = [] ∧
      (∀ (b : Nat) (o : Obj), w.heap[b]? = some o → o.isCells = false → w2.heap[b]? = some o) ∧ (∀ x v, Rep (Im I0 w0.heap.size st.T β w) st.T β w x v → Rep (Im I0 w0.heap.size (mergeT st.T (tb L')) β2 w2) (mergeT st.T (tb L')) β2 w2 x v) ∧ (∀ i, (L.map (·.1)).contains i = true → tb L' i ≠ .no) := by
  have hpin : ∀ i, (L.map (·.1)).contains i = true → tb L' i ≠ .no ∧ β' i = β i := fun i hi => (h2.pins i (β i) (by show (if _ then _ else _) = _; rw [if_pos hi])).2
  obtain ⟨β2, m1, m2, m3, _⟩ := h.mergeK h2.below ⟨h2.objs.obj, h2.objs.inj⟩ hfit.1 hpin hfit.2
  have hdef : a2.defers = [] := by
    obtain ⟨ms, e, _, _, hk⟩ := h2.defers
    rw [hk rfl] at e; simpa [subD] using e
  refine ⟨β2, m1, fun t x ht => m3 _ _ (h2.env t x ht), h2.size, hdef, fun b o hb ho => ?_, m2, fun i hi => (hpin i hi).1⟩
  refine (h2.below.block b (Array.getElem?_eq_some_iff.1 hb).1 fun ⟨i, e, s, es, _, hi, hbi⟩ => ?_).trans hb
  obtain ⟨_, xs, how, _⟩ := h.objs.obj i e s es hi
  rcases how.2 with ⟨h1, _⟩ | ⟨g, cap, cur, fr, h1, _, hg, _⟩
  · rw [h1] at hbi; simp [Value.ownBlock] at hbi
  · rw [h1] at hbi; simp [Value.ownBlock] at hbi; subst hbi; rw [hg] at hb; cases hb; simp [Obj.isCells] at ho
def pieceQ (n' : Nat) (L : List (Nat × Ob)) (rd : Option Nat) (T : Nat → Ob) (Q' : Exit → List (Nat × AV) → List (Nat × Ob) → Prop) : Exit → ASt → Prop := fun e s =>
  ∃ env' L', Ent (lentN n' (L.map (·.1)) rd) s ⟨env', tb L'⟩ ∧ FitL T L L' ∧ Q' e env' L'
def pieceW (N : Fr) (I0 : Dom) (w0 : World) (st : ASt) (β : Nat → Value) (a : Act) (w : World) (n' : Nat) (L : List (Nat × Ob)) (Q' : Exit → List (Nat × AV) → List (Nat × Ob) → Prop) : Exit → Act → World → Prop := fun e a2 w2 =>
  ∃ env' L' β2, Q' e env' L' ∧ Rel N I0 w0 ⟨st.env, mergeT st.T (tb L')⟩ β2 a w2 ∧ Aux I0 w0.heap.size (mergeT st.T (tb L')) β2 w2 env' a2 ∧ a2.tmps.size = n' ∧ a2.defers = [] ∧ (∀ (b : Nat) (o : Obj), w.heap[b]? = some o → o.isCells = false → w2.heap[b]? = some o) ∧
    (∀ x v, Rep (Im I0 w0.heap.size st.T β w) st.T β w x v → Rep (Im I0 w0.heap.size (mergeT st.T (tb L')) β2 w2) (mergeT st.T (tb L')) β2 w2 x v) ∧ ∀ i, (L.map (·.1)).contains i = true → tb L' i ≠ .no
theorem piece (h : Rel N I0 w0 st β a w) {n' : Nat} {rd : Option Nat} {L : List (Nat × Ob)} {env : List (Nat × AV)} {a' : Act} {c : Code} {Q' : Exit → List (Nat × AV) → List (Nat × Ob) → Prop} (hag : AgreeL st.T L (L.map (·.1))) (hrows : RowsZ (L.map (·.1)) L) (hz : pinOk (L.map (·.1)) id (tb L) = true)
    (hs : a'.tmps.size = n') (hd : a'.defers = []) (hx : Aux I0 w0.heap.size st.T β w env a') (hin : ∀ t x, get env t = some x → InZ (L.map (·.1)) x)
    (hc : AWp P (lentN n' (L.map (·.1)) rd) c (pieceQ n' L rd st.T Q') ⟨env, tb L⟩) : c.wpIn (FW rd) 0 P (pieceW N I0 w0 st β a w n' L Q') a' w := by
  refine wpIn_mono (hc _ w β a' w (lent_rel h hag hrows hz hs hd hx hin)) ?_
  rintro e a2 w2 (hF | ⟨s, β1, h1, env', L', hE, hfit, hq⟩)
  · exact hF.elim
  obtain ⟨β', h2⟩ := hE _ w β1 a2 w2 h1
  obtain ⟨β2, m1, m2, m3, m4, m5, m6⟩ := lent_back h hfit h2
  exact ⟨env', L', β2, hq, m1, m2, m3, m4, m5, m6⟩
theorem piece_ops (h : Rel N I0 w0 st β a w) {n' : Nat} {rd : Option Nat} {L : List (Nat × Ob)} {env : List (Nat × AV)} {a' : Act} {ops : Array Oper} {l : List Nat} {Q' : Exit → List (Nat × AV) → List (Nat × Ob) → Prop} (hag : AgreeL st.T L (L.map (·.1))) (hrows : RowsZ (L.map (·.1)) L) (hz : pinOk (L.map (·.1)) id (tb L) = true)
    (hs : a'.tmps.size = n') (hd : a'.defers = []) (hx : Aux I0 w0.heap.size st.T β w env a') (hin : ∀ t x, get env t = some x → InZ (L.map (·.1)) x) (hnd : noDefer ops = true)
    (hc : AOps P (lentN n' (L.map (·.1)) rd) ops (pieceQ n' L rd st.T Q') l ⟨env, tb L⟩) : wpOpsIn (FW rd) 0 P ops (pieceW N I0 w0 st β a w n' L Q') l a' w := by
  have h0 := opsIn_of (r := rd) hnd _ _ _ (hc _ w β a' w (lent_rel h hag hrows hz hs hd hx hin))
  refine wpOpsIn_monoQ ?_ _ _ _ h0
  rintro e a2 w2 (hF | ⟨s, β1, h1, env', L', hE, hfit, hq⟩)
  · exact hF.elim
  obtain ⟨β', h2⟩ := hE _ w β1 a2 w2 h1
  obtain ⟨β2, m1, m2, m3, m4, m5, m6⟩ := lent_back h hfit h2
  exact ⟨env', L', β2, hq, m1, m2, m3, m4, m5, m6⟩
theorem Rel.dies (h : Rel N I0 w0 st β a w) {T' : Nat → Ob} (hT : ∀ i, T' i = st.T i ∨ (st.T i ≠ .no ∧ T' i = .dead)) : Rel N I0 w0 ⟨st.env, T'⟩ β a w := by
  have hlive : ∀ j e s es, T' j = .live e s es → st.T j = .live e s es := fun j e s es hj => by
    rcases hT j with h1 | ⟨_, h1⟩
    · rw [← h1]; exact hj
    · rw [h1] at hj; cases hj
  have hno : ∀ j, st.T j ≠ .no → T' j ≠ .no := fun j hj => by
    rcases hT j with h1 | ⟨_, h1⟩
    · rw [h1]; exact hj
    · rw [h1]; simp
  have hI : ∀ b, Im I0 w0.heap.size st.T β w b → Im I0 w0.heap.size T' β w b ∧ ∀ o, w.cell? ⟨b, o, none⟩ = w.cell? ⟨b, o, none⟩ := fun b ⟨h1, h2, h3⟩ => ⟨⟨h1, h2, fun j e s es hj => h3 j e s es (hlive j e s es hj)⟩, fun o => rfl⟩
  have hm : ∀ x v, Rep (Im I0 w0.heap.size st.T β w) st.T β w x v → Rep (Im I0 w0.heap.size T' β w) T' β w x v := fun x v hx => hx.mono hI fun j hj => ⟨hno j hj, fun e s es' h' => ⟨rfl, es', hlive _ _ _ _ h', rfl⟩⟩
  refine ⟨h.old, h.size, h.defers, fun t x hx => hm _ _ (h.env t x hx), ⟨fun j e s es hj => ?_, fun p e1 s1 es1 q e2 s2 es2 b hp hq => h.objs.inj _ _ _ _ _ _ _ _ b (hlive _ _ _ _ hp) (hlive _ _ _ _ hq)⟩, h.below, h.step, h.base, fun i v hi => let ⟨z1, z2, z3⟩ := h.pins i v hi; ⟨z1, hno i z2, z3⟩⟩
  obtain ⟨h1, xs, h2, h3⟩ := h.objs.obj j e s es (hlive j e s es hj)
  exact ⟨h1, xs, h2, fun q x hx => let ⟨v, hv, hr⟩ := h3 q x hx; ⟨v, hv, hm _ _ hr⟩⟩
inductive Ph where
  | go (k : Nat)
  | stop (c : Code) (L : List (Nat × Ob))
def tabPh (J : Nat → List (Nat × Ob)) : Ph → List (Nat × Ob)
  | .go k => J k
  | .stop _ L => L
def recPh (rec : LoopState → Option Code → Loop) : Ph → Loop
  | .go _ => rec .ready none
  | .stop c _ => rec .done (some c)
structure IterI (P : Program) (n' : Nat) (xs : List (List AV)) (z : List Nat) (yv : Value) (G : Ph → List (Nat × Ob) → List (Nat × AV) → Act → World → Prop) : Prop where
  piece : ∀ {ph Lc env a' W c} {Q' : Exit → List (Nat × AV) → List (Nat × Ob) → Prop}, G ph Lc env a' W → RowsZ z Lc → (∀ t x, get env t = some x → InZ z x) →
    AWp P (lentN n' z none) c (fun e s => ∃ env' L', Ent (lentN n' z none) s ⟨env', tb L'⟩ ∧ FitAll (tb Lc) z L' ∧ L'.map (·.1) = z ∧ yesL L' = true ∧ Q' e env' L') ⟨env, tb Lc⟩ →
    c.wpIn (FW none) 0 P (fun e a2 W2 => ∃ env' L', Q' e env' L' ∧ G ph L' env' a2 W2) a' W
  ops : ∀ {ph Lc env a' W ops l} {Q' : Exit → List (Nat × AV) → List (Nat × Ob) → Prop}, G ph Lc env a' W → RowsZ z Lc → (∀ t x, get env t = some x → InZ z x) → noDefer ops = true →
    AOps P (lentN n' z none) ops (fun e s => ∃ env' L', Ent (lentN n' z none) s ⟨env', tb L'⟩ ∧ FitAll (tb Lc) z L' ∧ L'.map (·.1) = z ∧ yesL L' = true ∧ Q' e env' L') l ⟨env, tb Lc⟩ →
    wpOpsIn (FW none) 0 P ops (fun e a2 W2 => ∃ env' L', Q' e env' L' ∧ G ph L' env' a2 W2) l a' W
  yield : ∀ {k Lc env a' W} {o : Oper} {z args ts d ys} {K : Act → World → Prop} {Q : Exit → Act → World → Prop}, G (.go k) Lc env a' W → xs[k]? = some ys → o.op = .call ⟨.value z, args, ts⟩ → ev ⟨env, noT⟩ z = some (.v yv) →
    evs ⟨env, noT⟩ args.toList = some ys → o.dst = some d → d < n' → (∀ a2 W2, G (.go (k + 1)) Lc ((d, .v (.bool true)) :: env) a2 W2 → K a2 W2) → (∀ c L a2 W2, G (.stop c L) Lc ((d, .v (.bool false)) :: env) a2 W2 → K a2 W2) →
    o.wpIn (FW none) 0 P a' W K Q
  size : ∀ {ph Lc env a' W}, G ph Lc env a' W → a'.tmps.size = n' ∧ a'.defers = []
  env : ∀ {ph Lc env env' a' W}, G ph Lc env a' W → Has env env' → G ph Lc env' a' W
  cond : ∀ {ph Lc env a' W z} {b : Bool}, G ph Lc env a' W → ev ⟨env, noT⟩ z = some (.v (.bool b)) → a'.eval z = .bool b
def iterEnd (G : Ph → List (Nat × Ob) → List (Nat × AV) → Act → World → Prop) (n : Nat) : Exit → Act → World → Prop := fun e a' W =>
  (e = .ret ∨ e = .normal) ∧ ∃ ph Lc env, G ph Lc env a' W ∧ match ph with | .go k => k = n | .stop _ _ => True
def IterOk (P : Program) (gf : Nat) (caps : List AV) (L0 : List (Nat × Ob)) (xs : List (List AV)) : Prop :=
  ∃ fn c, P.funcs[gf]? = some fn ∧ fn.body = some c ∧ fn.results = #[] ∧ caps.length + 1 ≤ fn.ntmps ∧ goFn P gf = true ∧ ∀ yv G, IterI P fn.ntmps xs (L0.map (·.1)) yv G → ∀ a0 W, G (.go 0) L0 (argEnv 0 (.v yv :: caps)) a0 W → c.wpIn (FW none) 0 P (iterEnd G xs.length) a0 W
theorem mergeT_front {A A' X : List (Nat × Ob)} (hk : A'.map (·.1) = A.map (·.1)) (hy : yesL A' = true) : mergeT (tb (A ++ X)) (tb A') = tb (A' ++ X) := by
  have hyes : ∀ {L : List (Nat × Ob)}, yesL L = true → ∀ j, (L.map (·.1)).contains j = true → tb L j ≠ .no := by
    intro L
    induction L with
    | nil => intro _ j hj; simp at hj
    | cons p L ih =>
      obtain ⟨i, o⟩ := p
      intro hy j hj
      simp only [yesL, List.all_cons, Bool.and_eq_true] at hy
      simp only [tb, upd]
      by_cases hji : j = i
      · rw [if_pos hji]; intro e; rw [e] at hy; cases hy.1
      · rw [if_neg hji]
        refine ih hy.2 j ?_
        simp only [List.map_cons, List.contains_cons, Bool.or_eq_true, beq_iff_eq] at hj
        exact hj.resolve_left hji
  funext j
  rw [tb_append]
  by_cases hj : (A'.map (·.1)).contains j = true
  · rw [if_pos hj, mergeT_some (hyes hy j hj)]
  · rw [if_neg hj]
    have hno : tb A' j = .no := Classical.byContradiction fun h => hj (by simpa using tb_keys h)
    rw [mergeT_no hno, tb_append, if_neg (by rw [← hk]; exact hj)]
theorem mergeT_back {A B B' : List (Nat × Ob)} (hd : ((B'.map (·.1)).all fun i => !(A.map (·.1)).contains i) = true) (hB : ∀ i, tb B i ≠ .no → tb B' i ≠ .no) : mergeT (tb (A ++ B)) (tb B') = tb (A ++ B') := by
  funext j
  rw [tb_append]
  by_cases hj : (A.map (·.1)).contains j = true
  · rw [if_pos hj]
    have hno : tb B' j = .no := Classical.byContradiction fun h => by
      have := List.all_eq_true.1 hd j (tb_keys h)
      rw [hj] at this; cases this
    rw [mergeT_no hno, tb_append, if_pos hj]
  · rw [if_neg hj]
    by_cases hn : tb B' j = .no
    · rw [mergeT_no hn, tb_append, if_neg hj, hn]
      exact Classical.byContradiction fun h => hB j h hn
    · rw [mergeT_some hn]
theorem agree_front {A B : List (Nat × Ob)} : AgreeL (tb (A ++ B)) A (A.map (·.1)) := by
  have : ∀ z : List Nat, (∀ i ∈ z, (A.map (·.1)).contains i = true) → AgreeL (tb (A ++ B)) A z := by
    intro z
    induction z with
    | nil => intro _; trivial
    | cons i z ih => intro h; exact ⟨by rw [tb_append, if_pos (h i (.head _))], ih fun j hj => h j (.tail _ hj)⟩
  exact this _ fun i hi => by simpa using hi
theorem agree_back {A B : List (Nat × Ob)} (hd : ((B.map (·.1)).all fun i => !(A.map (·.1)).contains i) = true) : AgreeL (tb (A ++ B)) B (B.map (·.1)) := by
  have : ∀ z : List Nat, (∀ i ∈ z, (A.map (·.1)).contains i = false) → AgreeL (tb (A ++ B)) B z := by
    intro z
    induction z with
    | nil => intro _; trivial
    | cons i z ih => intro h; exact ⟨by rw [tb_append, if_neg (by rw [h i (.head _)]; simp)], ih fun j hj => h j (.tail _ hj)⟩
  exact this _ fun i hi => by simpa using List.all_eq_true.1 hd i hi
theorem pin_yes {L : List (Nat × Ob)} (hy : yesL L = true) : pinOk (L.map (·.1)) id (tb L) = true := by
  have h : ∀ j, (L.map (·.1)).contains j = true → tb L j ≠ .no := by
    induction L with
    | nil => intro j hj; simp at hj
    | cons p L ih =>
      obtain ⟨i, o⟩ := p
      intro j hj
      simp only [yesL, List.all_cons, Bool.and_eq_true] at hy
      simp only [tb, upd]
      by_cases hji : j = i
      · rw [if_pos hji]; intro e; rw [e] at hy; cases hy.1
      · rw [if_neg hji]
        refine ih hy.2 j ?_
        simp only [List.map_cons, List.contains_cons, Bool.or_eq_true, beq_iff_eq] at hj
        exact hj.resolve_left hji
  refine List.all_eq_true.2 fun i hi => ?_
  have := h i (by simpa using hi)
  cases ht : tb L i <;> simp_all
theorem fitL_mono {T T' : Nat → Ob} {L L' : List (Nat × Ob)} (h : FitAll T (L.map (·.1)) L') (hT : ∀ i, (L.map (·.1)).contains i = true → T' i = T i) (hn : ∀ i, (L.map (·.1)).contains i = false → tb L' i ≠ .no → T' i = .no) : FitL T' L L' := by
  obtain ⟨h1, h2⟩ := fit_of h
  refine ⟨fun j hj => ?_, fun j e s es' hz hj => by rw [hT j hz]; exact h2 j e s es' hz hj⟩
  cases hc : (L.map (·.1)).contains j with
  | true => exact .inr rfl
  | false => exact .inl (hn j hc hj)
def Joint (N : Fr) (I0 : Dom) (w0 : World) (E : List (Nat × AV)) (a : Act) (l : Nat) (rec : LoopState → Option Code → Loop) (J : Nat → List (Nat × Ob)) (z : List Nat) (n' : Nat) (S : Code → List (Nat × Ob) → Prop) (ph : Ph) (Lc : List (Nat × Ob)) (env : List (Nat × AV)) (a' : Act) (W : World) : Prop :=
  ∃ β, Rel N I0 w0 ⟨E, tb (Lc ++ tabPh J ph)⟩ β a W ∧ Aux I0 w0.heap.size (tb (Lc ++ tabPh J ph)) β W env a' ∧ a'.tmps.size = n' ∧ a'.defers = [] ∧ W.heap[l]? = some (.loop (recPh rec ph)) ∧ w0.heap.size ≤ l ∧
    Lc.map (·.1) = z ∧ yesL Lc = true ∧ match ph with | .go _ => True | .stop c L => S c L
end
end Go.Proofs.Ytemcemimipagoaa.AW
namespace Go.Proofs.Ytemcemimipagoaa.AW
open Go Go.RowKit
def setP : List Nat → List AV → List (Nat × AV) → List (Nat × AV)
  | p :: ps, y :: ys, E => setP ps ys ((p, y) :: E)
  | _, _, E => E
section
variable {P : Program} {N : Fr} {Q : Exit → ASt → Prop} {st : ASt} {I0 : Dom} {w0 : World} {β : Nat → Value} {a : Act} {w : World}
theorem Aux.ev {B : Nat} {T : Nat → Ob} {env : List (Nat × AV)} {a' : Act} (h : Aux I0 B T β w env a') {z : Operand} {x : AV} (hz : AW.ev ⟨env, noT⟩ z = some x) : Rep (Im I0 B T β w) T β w x (a'.eval z) := by
  cases z with
  | tmp t => exact h t x hz
  | const y => simp only [AW.ev, Option.some.injEq] at hz; subst hz; exact cv_rep _ _ _ _ y
  | global g => simp [AW.ev] at hz
  | func f => simp only [AW.ev, Option.some.injEq] at hz; subst hz; exact .clo f [] #[] rfl (by simp)
theorem Aux.put {B : Nat} {T : Nat → Ob} {env : List (Nat × AV)} {a' : Act} (h : Aux I0 B T β w env a') {d : Nat} (hd : d < a'.tmps.size) {x : AV} {v : Value} (hx : Rep (Im I0 B T β w) T β w x v) : Aux I0 B T β w ((d, x) :: env) (a'.put (some d) v) := by
  intro t y ht
  simp only [get] at ht
  by_cases hdt : d = t
  · rw [if_pos hdt] at ht; cases ht; subst hdt
    simpa [Act.put, Array.getD, hd] using hx
  · rw [if_neg hdt] at ht
    have e : (a'.put (some d) v).tmps.getD t undef = a'.tmps.getD t undef := by simp [Act.put, Array.getD_eq_getD_getElem?, Array.getElem?_setIfInBounds_ne hdt]
    rw [e]; exact h t y ht
theorem aux_setP {B : Nat} {T : Nat → Ob} : ∀ (ps : List Nat) (ys : List AV) (vs : List Value) (env : List (Nat × AV)) (tm : Array Value), All2 (Rep (Im I0 B T β w) T β w) ys vs → ps.length = ys.length → (∀ p ∈ ps, p < tm.size) →
    Aux I0 B T β w env { tmps := tm, defers := [] } → Aux I0 B T β w (setP ps ys env) { tmps := (ps.zip vs).foldl (fun t (p : Nat × Value) => t.setIfInBounds p.1 p.2) tm, defers := [] } ∧ ((ps.zip vs).foldl (fun t (p : Nat × Value) => t.setIfInBounds p.1 p.2) tm).size = tm.size
  | [], [], [], env, tm, _, _, _, h => ⟨h, rfl⟩
  | p :: ps, y :: ys, v :: vs, env, tm, ⟨h1, h2⟩, hl, hp, h => by
    have h3 := aux_setP ps ys vs ((p, y) :: env) (tm.setIfInBounds p v) h2 (by simpa using hl) (fun q hq => by simpa using hp q (.tail _ hq)) (h.put (a' := { tmps := tm, defers := [] }) (hp p (.head _)) h1)
    exact ⟨h3.1, by simpa using h3.2⟩
  | [], _ :: _, _, _, _, _, hl, _, _ => by simp at hl
  | _ :: _, [], _, _, _, _, hl, _, _ => by simp at hl
  | [], [], _ :: _, _, _, h, _, _, _ => h.elim
  | _ :: _, _ :: _, [], _, _, h, _, _, _ => h.elim
theorem rep_other {B : Nat} {T : Nat → Ob} {D : Nat} {o o' : Obj} (hD : w.heap[D]? = some o) (ho : o.isCells = false) (ho' : o'.isCells = false) {x : AV} {v : Value} (h : Rep (Im I0 B T β w) T β w x v) : Rep (Im I0 B T β (w.putObj D o')) T β (w.putObj D o') x v :=
  h.mono (fun b ⟨h1, h2, h3⟩ => ⟨⟨h1, by simpa using h2, h3⟩, fun q => cell_other hD ho ho' _⟩) fun i hi => ⟨hi, fun e s es' h' => ⟨rfl, es', h', rfl⟩⟩
theorem Rel.loop (h : Rel N I0 w0 st β a w) {l : Nat} {r r' : Loop} (hl : w.heap[l]? = some (.loop r)) (hB : w0.heap.size ≤ l) : Rel N I0 w0 st β a (w.putObj l (.loop r')) :=
  h.other hl rfl rfl hB rfl (h.defers.step fun D _ hD => World.putObj_heap_other (by intro e; subst e; rw [hl] at hD; cases hD))
def roundQ (J : Nat → List (Nat × Ob)) (S : Code → List (Nat × Ob) → Prop) (z : List Nat) (k : Nat) : Exit → List (Nat × AV) → List (Nat × Ob) → Prop
  | .normal, _, L' => L' = J (k + 1)
  | .ret, _, L' => S .ret L' ∧ ((L'.map (·.1)).all fun i => !z.contains i) = true
  | .exit id, _, L' => S (.exit id) L' ∧ ((L'.map (·.1)).all fun i => !z.contains i) = true
  | _, _, _ => False
def rowsOk (J : Nat → List (Nat × Ob)) (z : List Nat) (n : Nat) : Prop :=
  ∀ k, k ≤ n → RowsZ ((J k).map (·.1)) (J k) ∧ yesL (J k) = true ∧ (((J k).map (·.1)).all fun i => !z.contains i) = true
def assignQ (L : List (Nat × Ob)) (er : List (Nat × AV)) : Exit → List (Nat × AV) → List (Nat × Ob) → Prop := fun e env' L' => e = .normal ∧ env' = er ∧ L' = L
def recOf (fid : Nat) (tm : Array Value) (ps : Array Nat) (assign body : Code) (D : Nat) : LoopState → Option Code → Loop := fun s q => { state := s, pending := q, fn := fid, tmps := tm, params := ps, assign, body, defers := D }
theorem joint_iter {E : List (Nat × AV)} {l : Nat} {J : Nat → List (Nat × Ob)} {z : List Nat} {n' : Nat} {S : Code → List (Nat × Ob) → Prop} {xs : List (List AV)} {ps : Array Nat} {assign body : Code} {fid D : Nat}
    (hJ : rowsOk J z xs.length) (hps : ∀ p ∈ ps.toList, p < N.n) (hys : ∀ (k : Nat) (ys : List AV), xs[k]? = some ys → ys.length = ps.size ∧ ∀ y ∈ ys, NoOwn y) (er : Nat → List (Nat × AV))
    (hinE : ∀ k ys t x, xs[k]? = some ys → get (setP ps.toList ys E) t = some x → InZ ((J k).map (·.1)) x) (hinR : ∀ k t x, k < xs.length → get (er k) t = some x → InZ ((J k).map (·.1)) x)
    (hassign : ∀ k ys, xs[k]? = some ys → AWp P (lentN N.n ((J k).map (·.1)) (some l)) assign (fun e s => ∃ env' L', Ent (lentN N.n ((J k).map (·.1)) (some l)) s ⟨env', tb L'⟩ ∧ FitAll (tb (J k)) ((J k).map (·.1)) L' ∧ assignQ (J k) (er k) e env' L') ⟨setP ps.toList ys E, tb (J k)⟩)
    (hbody : ∀ k, k < xs.length → AWp P (lentN N.n ((J k).map (·.1)) (some l)) body (fun e s => ∃ env' L', Ent (lentN N.n ((J k).map (·.1)) (some l)) s ⟨env', tb L'⟩ ∧ FitAll (tb (J k)) ((J k).map (·.1)) L' ∧ roundQ J S z k e env' L') ⟨er k, tb (J k)⟩) :
    IterI P n' xs z (.func (.yield l) #[] #[]) (Joint N I0 w0 E a l (recOf fid a.tmps ps assign body D) J z n' S) := by
  have hJz : ∀ {k : Nat} {L' : List (Nat × Ob)} {Lc : List (Nat × Ob)}, Lc.map (·.1) = z → ((L'.map (·.1)).all fun i => !z.contains i) = true → FitAll (tb (J k)) ((J k).map (·.1)) L' → k ≤ xs.length → FitL (tb (Lc ++ J k)) (J k) L' := by
    intro k L' Lc hz hd hf hk
    have hdk := (hJ k hk).2.2
    refine fitL_mono hf (fun i hi => ?_) fun i hi hn => ?_
    · rw [tb_append, if_neg]
      rw [hz]
      have := List.all_eq_true.1 hdk i (by simpa using hi)
      intro hc; rw [hc] at this; cases this
    · have hi' := List.all_eq_true.1 hd i (tb_keys hn)
      rw [tb_append, if_neg (by rw [hz]; intro hc; rw [hc] at hi'; cases hi')]
      exact Classical.byContradiction fun h => by
        have := tb_keys h
        rw [show ((J k).map (·.1)).contains i = true by simpa using this] at hi; cases hi
  have front : ∀ {Lc L' X : List (Nat × Ob)}, L'.map (·.1) = Lc.map (·.1) → FitAll (tb Lc) (Lc.map (·.1)) L' → FitL (tb (Lc ++ X)) Lc L' := by
    intro Lc L' X hk hf
    refine fitL_mono hf (fun i hi => by rw [tb_append, if_pos hi]) fun i hi hn => ?_
    have := tb_keys hn
    rw [hk] at this
    rw [show (Lc.map (·.1)).contains i = true by simpa using this] at hi; cases hi
  refine ⟨?_, ?_, ?_, ?_, ?_, ?_⟩
  · rintro ph Lc env a' W c Q' ⟨β, hr, hx, hs, hd, hl, hB, hz, hy, hph⟩ hrows hin hc
    subst hz
    refine wpIn_mono (piece hr agree_front hrows (pin_yes hy) hs hd hx hin (hc.mono (Q' := pieceQ n' Lc none (tb (Lc ++ tabPh J ph)) fun e env' L' => L'.map (·.1) = Lc.map (·.1) ∧ yesL L' = true ∧ Q' e env' L') ?_)) ?_
    · rintro e s ⟨env', L', h1, h2, h3, h4, h5⟩
      exact ⟨env', L', h1, front h3 h2, h3, h4, h5⟩
    · rintro e a2 W2 ⟨env', L', β2, ⟨q1, q2, q3⟩, m1, m2, m3, m4, m5, m6, m7⟩
      dsimp only at m1 m2
      rw [mergeT_front q1 q2] at m1 m2
      exact ⟨env', L', q3, β2, m1, m2, m3, m4, m5 _ _ hl rfl, hB, q1, q2, hph⟩
  · rintro ph Lc env a' W ops l1 Q' ⟨β, hr, hx, hs, hd, hl, hB, hz, hy, hph⟩ hrows hin hnd hc
    subst hz
    refine wpOpsIn_monoQ ?_ _ _ _ (piece_ops hr agree_front hrows (pin_yes hy) hs hd hx hin hnd (Q' := fun e env' L' => L'.map (·.1) = Lc.map (·.1) ∧ yesL L' = true ∧ Q' e env' L') (hc.mono' ?_))
    · rintro e a2 W2 ⟨env', L', β2, ⟨q1, q2, q3⟩, m1, m2, m3, m4, m5, m6, m7⟩
      dsimp only at m1 m2
      rw [mergeT_front q1 q2] at m1 m2
      exact ⟨env', L', q3, β2, m1, m2, m3, m4, m5 _ _ hl rfl, hB, q1, q2, hph⟩
    · rintro e s ⟨env', L', h1, h2, h3, h4, h5⟩
      exact ⟨env', L', h1, front h3 h2, h3, h4, h5⟩
  · rintro k Lc env a' W o zz args ts d ys K Q ⟨β, hr, hx, hs, hd, hl, hB, hz, hy, hph⟩ hk ho hzz hargs hdst hdn hgo hstop
    have hkl : k < xs.length := (List.getElem?_eq_some_iff.1 hk).1
    obtain ⟨hyl, hyn⟩ := hys k ys hk
    obtain ⟨j1, j2, j3⟩ := hJ k (Nat.le_of_lt hkl)
    subst hz
    have hev : a'.eval zz = .func (.yield l) #[] #[] := (hx.ev hzz).v_inv
    have hvals : All2 (Rep (Im I0 w0.heap.size (tb (Lc ++ J k)) β W) (tb (Lc ++ J k)) β W) ys (args.map a'.eval).toList := by
      have hm := evs_map hargs
      have hlen : ys.length = args.size := by have := congrArg List.length hm; simpa using this.symm
      refine all2_of (by simp [hlen]) fun j p v hp hv => ?_
      have h1 : (args.toList.map (ev ⟨env, noT⟩))[j]? = some (some p) := by rw [hm]; simp [hp]
      simp only [List.getElem?_map, Array.getElem?_toList] at h1
      cases hcj : args[j]? with
      | none => simp [hcj] at h1
      | some q =>
        simp only [hcj, Option.map_some, Option.some.injEq] at h1
        simp [hcj] at hv
        subst hv
        exact hx.ev h1
    have hyield := run_yield (P := P) (w := W) (args := args.map a'.eval) hl (by simp [recPh, recOf]; have := hvals.length; simp at this; omega)
    have hrun : (execOp a'.eval o).run P W = .ok (.round l fid ((ps.zip (args.map a'.eval)).foldl (fun tmps (p : Nat × Value) => tmps.setIfInBounds p.1 p.2) a.tmps) assign body) W := by
      have h0 : (execOp a'.eval o).run P W = (Instr.yield l (args.map a'.eval)).run P W := by simp [execOp, ho, resolve, hev, Deferred.ofValue, invoke]
      rw [h0]
      exact hyield
    refine ⟨fun _ _ => trivial, ?_⟩
    rw [show (FW none).round = none from rfl, Oper.semAt_none, hrun]
    refine ⟨fun h => by simp [FW, Fence.wide] at h, roundIn_of_wpIn trivial ?_⟩
    have htm : (ps.zip (args.map a'.eval)).foldl (fun tmps (p : Nat × Value) => tmps.setIfInBounds p.1 p.2) a.tmps = (ps.toList.zip (args.map a'.eval).toList).foldl (fun t (p : Nat × Value) => t.setIfInBounds p.1 p.2) a.tmps := by
      rw [← Array.foldl_toList, Array.toList_zip]
    rw [htm]
    have hset := aux_setP ps.toList ys (args.map a'.eval).toList E a.tmps hvals (by simpa using hyl.symm) (fun p hp => by rw [hr.size]; exact hps p hp) (fun t x ht => hr.env t x ht)
    have hag : AgreeL (tb (Lc ++ J k)) (J k) ((J k).map (·.1)) := agree_back j3
    have hBk : ∀ {L' : List (Nat × Ob)}, (∀ i, ((J k).map (·.1)).contains i = true → tb L' i ≠ .no) → ∀ i, tb (J k) i ≠ .no → tb L' i ≠ .no := fun h i hi => h i (tb_in hi)
    refine wpIn_mono (piece (rd := some l) hr hag j1 (pin_yes j2) (hset.2.trans hr.size) rfl hset.1 (fun t x ht => hinE k ys t x hk ht) ((hassign k ys hk).mono (Q' := pieceQ N.n (J k) (some l) (tb (Lc ++ J k)) (assignQ (J k) (er k))) ?_)) ?_
    · rintro e s ⟨env', L', h1, h2, h3⟩
      refine ⟨env', L', h1, hJz rfl ?_ h2 (Nat.le_of_lt hkl), h3⟩
      obtain ⟨_, _, rfl⟩ := h3
      exact j3
    rintro e a1 W1 ⟨env1, L1, β1, ⟨rfl, rfl, rfl⟩, m1, m2, m3, m4, m5, m6, m7⟩
    have hkeep : ∀ i, tb (J k) i ≠ .no → tb (J k) i ≠ .no := fun i hi => hi
    dsimp only [tabPh] at m1 m2 m6
    rw [mergeT_back j3 hkeep] at m1 m2 m6
    have hl1 := m5 _ _ hl rfl
    have hbeg := run_beginRound (P := P) hl1 rfl
    refine ⟨_, hbeg, ?_⟩
    have n1 := m1.loop (r' := { recPh (recOf fid a.tmps ps assign body D) (.go k) with state := .busy }) hl1 hB
    have n2 : Aux I0 w0.heap.size (tb (Lc ++ J k)) β1 (W1.putObj l (.loop { recPh (recOf fid a.tmps ps assign body D) (.go k) with state := .busy })) (er k) a1 := fun t x ht => rep_other hl1 rfl rfl (m2 t x ht)
    have hl2 : (W1.putObj l (.loop { recPh (recOf fid a.tmps ps assign body D) (.go k) with state := .busy })).heap[l]? = some (.loop { recPh (recOf fid a.tmps ps assign body D) (.go k) with state := .busy }) := World.putObj_heap_same (Array.getElem?_eq_some_iff.1 hl1).1
    refine wpIn_mono (piece (rd := some l) n1 hag j1 (pin_yes j2) m3 m4 n2 (fun t x ht => hinR k t x hkl ht) ((hbody k hkl).mono (Q' := pieceQ N.n (J k) (some l) (tb (Lc ++ J k)) (fun e env' L' => ((L'.map (·.1)).all fun i => !(Lc.map (·.1)).contains i) = true ∧ roundQ J S (Lc.map (·.1)) k e env' L')) ?_)) ?_
    · rintro e s ⟨env', L', h1, h2, h3⟩
      have hd' : ((L'.map (·.1)).all fun i => !(Lc.map (·.1)).contains i) = true := by
        cases e with
        | normal => obtain rfl := h3; exact (hJ (k + 1) hkl).2.2
        | ret => exact h3.2
        | exit id => exact h3.2
        | _ => exact h3.elim
      exact ⟨env', L', h1, hJz rfl hd' h2 (Nat.le_of_lt hkl), hd', h3⟩
    rintro e a3 W3 ⟨env3, L3, β3, ⟨q1, q2⟩, p1, p2, p3, p4, p5, p6, p7⟩
    have hl3 := p5 _ _ hl2 rfl
    have hno3 : ∀ i, tb (J k) i ≠ .no → tb L3 i ≠ .no := by
      exact hBk p7
    dsimp only [tabPh] at p1 p6
    rw [mergeT_back q1 hno3] at p1 p6
    have fin : ∀ (jump : Option Code) (ph : Ph), recPh (recOf fid a.tmps ps assign body D) ph = { recPh (recOf fid a.tmps ps assign body D) (.go k) with state := if jump.isNone then .ready else .done, pending := jump } → tabPh J ph = L3 → (match ph with | .go _ => True | .stop c L => S c L) →
        ∃ w', (Instr.endRound l jump).run P W3 = .ok (.bool jump.isNone) w' ∧ Joint N I0 w0 E a l (recOf fid a.tmps ps assign body D) J (Lc.map (·.1)) n' S ph Lc ((d, .v (.bool jump.isNone)) :: env) (a'.put o.dst (.bool jump.isNone)) w' := by
      intro jump ph e1 e2 e3
      refine ⟨_, run_endRound jump hl3, β3, ?_, ?_, ?_, ?_, ?_, hB, rfl, hy, e3⟩
      · rw [e2]; exact p1.loop hl3 hB
      · rw [e2, hdst]
        refine Aux.put (fun t x ht => rep_other hl3 rfl rfl (p6 _ _ (rep_other hl1 rfl rfl (m6 _ _ (hx t x ht))))) (by rw [hs]; exact hdn) (.v _)
      · rw [hdst]; simpa [Act.put] using hs
      · rw [hdst]; exact hd
      · rw [e1]; exact World.putObj_heap_same (Array.getElem?_eq_some_iff.1 hl3).1
    cases e with
    | normal =>
      obtain ⟨w', f1, f2⟩ := fin none (.go (k + 1)) rfl q2.symm trivial
      exact ⟨_, w', f1, hgo _ _ f2⟩
    | ret =>
      obtain ⟨w', f1, f2⟩ := fin (some .ret) (.stop .ret L3) rfl rfl q2.1
      exact ⟨_, w', f1, hstop _ _ _ _ f2⟩
    | exit id =>
      obtain ⟨w', f1, f2⟩ := fin (some (.exit id)) (.stop (.exit id) L3) rfl rfl q2.1
      exact ⟨_, w', f1, hstop _ _ _ _ f2⟩
    | _ => exact q2.elim
  · rintro ph Lc env a' W ⟨β, hr, hx, hs, hd, _⟩
    exact ⟨hs, hd⟩
  · rintro ph Lc env env' a' W ⟨β, hr, hx, rest⟩ hh
    exact ⟨β, hr, fun t x ht => hx t x (Has.get hh t x ht), rest⟩
  · rintro ph Lc env a' W zz b ⟨β, hr, hx, rest⟩ hzz
    exact (hx.ev hzz).v_inv
end
end Go.Proofs.Ytemcemimipagoaa.AW
namespace Go.Proofs.Ytemcemimipagoaa.AW
open Go Go.RowKit
theorem dead_keys (z : List Nat) : (deadL z).map (·.1) = z := by
  simp only [deadL, List.map_map]
  have h2 : (Prod.fst ∘ fun i : Nat => (i, Ob.dead)) = id := rfl
  rw [h2, List.map_id]
theorem yes_get {L : List (Nat × Ob)} (hy : yesL L = true) {i : Nat} (hi : (L.map (·.1)).contains i = true) : tb L i ≠ .no := by
  have := List.all_eq_true.1 (pin_yes hy) i (by simpa using hi)
  intro e; rw [e] at this; simp at this
section
variable {P : Program} {N : Fr} {Q : Exit → ASt → Prop} {st : ASt} {I0 : Dom} {w0 : World} {β : Nat → Value} {a : Act} {w : World}
theorem aw_range {gop : Operand} {ps : Array Nat} {assign body : Code} {gf : Nat} {caps : List AV} {E : List (Nat × AV)} (L0 : List (Nat × Ob)) (J : Nat → List (Nat × Ob)) (xs : List (List AV)) (S : Code → List (Nat × Ob) → Prop) (er : Nat → List (Nat × AV))
    (hst : st = ⟨E, tb (L0 ++ J 0)⟩) (hit : IterOk P gf caps L0 xs) (hJ : rowsOk J (L0.map (·.1)) xs.length)
    (hys : ∀ (k : Nat) (ys : List AV), xs[k]? = some ys → ys.length = ps.size ∧ ∀ y ∈ ys, NoOwn y)
    (hinE : ∀ k ys t x, k ≤ xs.length → xs[k]? = some ys → get (setP ps.toList ys E) t = some x → InZ ((J k).map (·.1)) x) (hinR : ∀ k t x, k < xs.length → get (er k) t = some x → InZ ((J k).map (·.1)) x)
    (hassign : ∀ l k ys, xs[k]? = some ys → AWp P (lentN N.n ((J k).map (·.1)) (some l)) assign (fun e s => ∃ env' L', Ent (lentN N.n ((J k).map (·.1)) (some l)) s ⟨env', tb L'⟩ ∧ FitAll (tb (J k)) ((J k).map (·.1)) L' ∧ assignQ (J k) (er k) e env' L') ⟨setP ps.toList ys E, tb (J k)⟩)
    (hbody : ∀ l k, k < xs.length → AWp P (lentN N.n ((J k).map (·.1)) (some l)) body (fun e s => ∃ env' L', Ent (lentN N.n ((J k).map (·.1)) (some l)) s ⟨env', tb L'⟩ ∧ FitAll (tb (J k)) ((J k).map (·.1)) L' ∧ roundQ J S (L0.map (·.1)) k e env' L') ⟨er k, tb (J k)⟩)
    (hdone : Q .normal ⟨E, tb (deadL (L0.map (·.1)) ++ J xs.length)⟩)
    (hstop : ∀ c L, S c L → (c = .ret ∧ Q .ret ⟨E, tb (deadL (L0.map (·.1)) ++ L)⟩) ∨ ∃ id, c = .exit id ∧ Q (.exit id) ⟨E, tb (deadL (L0.map (·.1)) ++ L)⟩)
    (hg : ev st gop = some (.clo gf caps) := by rfl) (hrd : N.rd = none := by rfl) (hmm : N.mm = true := by rfl) (hps : (ps.toList.all fun p => Nat.blt p N.n) = true := by rfl) (hy0 : yesL L0 = true := by rfl) : AWp P N (.rangeFunc gop ps assign body) Q st := by
  subst hst
  intro I0 w0 β a w hr
  rw [hrd]
  refine wpIn_rangeFunc ?_
  intro fid _
  have hgv := hr.ev hg
  generalize hgy : a.eval gop = gy at hgv
  cases hgv with
  | clo gf caps lb hcl hcr =>
    obtain ⟨fn', c, hf, hb, hres, hnt, hgo, hwalk⟩ := hit
    obtain ⟨W1, hW1⟩ : ∃ W1, (w.alloc (.deferred (some []))).alloc (.loop (recOf fid a.tmps ps assign body w.heap.size .ready none)) = W1 := ⟨_, rfl⟩
    have hL1 : W1.heap[w.heap.size + 1]? = some (.loop (recOf fid a.tmps ps assign body w.heap.size .ready none)) := by
      rw [← hW1]; have := World.alloc_heap_new (w.alloc (.deferred (some []))) (.loop (recOf fid a.tmps ps assign body w.heap.size .ready none)); rwa [World.size_alloc] at this
    have hK1 : W1.heap[w.heap.size]? = some (.deferred (some [])) := by
      rw [← hW1]; exact (Below.heap_alloc _ _ _ (by simp)).trans (World.alloc_heap_new w _)
    have hb1 : Below w.heap.size w W1 := by
      rw [← hW1]; exact ((Below.refl _ w).alloc (Nat.le_refl _) _).alloc (by simp) _
    have hr1 := hr.world hb1
    have hmk : Marks N.mm I0 w0.heap.size { a with defers := [markOf w.heap.size] ++ a.defers } W1 := by
      obtain ⟨ms, e1, e2, e3, e4⟩ := hr.defers
      refine ⟨w.heap.size :: ms, by simp [e1], List.nodup_cons.2 ⟨fun h => ?_, e2⟩, fun D hD => ?_, fun h => by rw [hmm] at h; cases h⟩
      · have := (Array.getElem?_eq_some_iff.1 (e3 _ h).2).1; omega
      · rcases List.mem_cons.1 hD with rfl | hD
        · exact ⟨hr.base, hK1⟩
        · exact ⟨(e3 D hD).1, (hb1.block D (Array.getElem?_eq_some_iff.1 (e3 D hD).2).1).trans (e3 D hD).2⟩
    have hr2 : Rel N I0 w0 ⟨E, tb (L0 ++ J 0)⟩ β { a with defers := [markOf w.heap.size] ++ a.defers } W1 := ⟨hr1.old, hr1.size, hmk, hr1.env, hr1.objs, hr1.below, hr1.step, hr1.base, hr1.pins⟩
    have hI := joint_iter (P := P) (N := N) (I0 := I0) (w0 := w0) (a := { a with defers := [markOf w.heap.size] ++ a.defers }) (E := E) (l := w.heap.size + 1) (n' := fn'.ntmps) (S := S) (D := w.heap.size) (fid := fid) (z := L0.map (·.1)) (ps := ps) hJ (fun p hp => blt_lt (List.all_eq_true.1 hps p hp)) hys er
      (fun k ys t x hk ht => hinE k ys t x (Nat.le_of_lt (List.getElem?_eq_some_iff.1 hk).1) hk ht) hinR (hassign _) (hbody _)
    refine ⟨w.heap.size + 1, [markOf w.heap.size], W1, { target := .fn (.func gf) lb, args := #[.func (.yield (w.heap.size + 1)) #[] #[]] }, W1, gf, #[.func (.yield (w.heap.size + 1)) #[] #[]] ++ lb, W1, ?_, ?_, fun _ _ => trivial, ?_, fun h => by simp [FW, Fence.wide] at h, ?_⟩
    · rw [← hW1]; exact run_enterLoop_outer _ _ _ _ _
    · simp only [resolve, hgy]
      simp [go_sem]
    · simp [invoke, run_callFunc hgo]
    · refine callsIn_of_wp hf hb trivial ?_
      have hsz : ((#[Value.func (.yield (w.heap.size + 1)) #[] #[]] ++ lb) ++ Array.replicate (fn'.ntmps - (#[Value.func (.yield (w.heap.size + 1)) #[] #[]] ++ lb).size) undef).size = fn'.ntmps := by simp; omega
      refine wpIn_mono (hwalk _ _ hI _ W1 ⟨β, hr2, ?_, hsz, rfl, hL1, by have := hr.base; omega, rfl, hy0, trivial⟩) ?_
      · intro t x ht
        obtain ⟨_, h1⟩ := argEnv_get _ 0 t x ht
        simp only [Nat.sub_zero] at h1
        have hlt : t < 1 + lb.size := by have := (List.getElem?_eq_some_iff.1 h1).1; simp at this; omega
        have e1 : ((#[Value.func (.yield (w.heap.size + 1)) #[] #[]] ++ lb) ++ Array.replicate (fn'.ntmps - (#[Value.func (.yield (w.heap.size + 1)) #[] #[]] ++ lb).size) undef).getD t undef = (#[Value.func (.yield (w.heap.size + 1)) #[] #[]] ++ lb).getD t undef := by
          rw [Array.getD_eq_getD_getElem?, Array.getElem?_append_left (by simp; omega), ← Array.getD_eq_getD_getElem?]
        show Rep _ _ _ _ _ (Array.getD _ _ _)
        rw [e1]
        cases t with
        | zero =>
          simp at h1; subst h1
          have e2 : (#[Value.func (.yield (w.heap.size + 1)) #[] #[]] ++ lb).getD 0 undef = .func (.yield (w.heap.size + 1)) #[] #[] := by
            rw [Array.getD_eq_getD_getElem?, Array.getElem?_append_left (by simp)]; rfl
          rw [e2]; exact .v _
        | succ t =>
          simp only [List.getElem?_cons_succ] at h1
          have ht' : t < lb.size := by omega
          have e2 : (#[Value.func (.yield (w.heap.size + 1)) #[] #[]] ++ lb).getD (t + 1) undef = lb[t] := by
            rw [Array.getD_eq_getD_getElem?, Array.getElem?_append_right (by simp)]
            simp [ht']
          rw [e2]
          have := hcr t x lb[t] h1 (Array.getElem?_eq_getElem ht')
          have hT : ∀ i, (tb (L0 ++ J 0)) i ≠ .no → (tb (L0 ++ J 0)) i ≠ .no ∧ ∀ e s es', (tb (L0 ++ J 0)) i = .live e s es' → β i = β i ∧ ∃ es, (tb (L0 ++ J 0)) i = .live e s es ∧ es.length = es'.length := fun i hi => ⟨hi, fun e s es' h' => ⟨rfl, es', h', rfl⟩⟩
          exact this.mono (fun b ⟨b1, b2, b3⟩ => ⟨⟨b1, Nat.lt_of_lt_of_le b2 hb1.size, b3⟩, fun o => hb1.cell (p := ⟨b, o, none⟩) b2⟩) hT
      · rintro e a' W3 ⟨he, ph, Lc, env, ⟨β3, g1, g2, g3, g4, g5, g6, g7, g8, g9⟩, hph⟩
        have hdie : ∀ i, tb (deadL (L0.map (·.1)) ++ tabPh J ph) i = tb (Lc ++ tabPh J ph) i ∨ (tb (Lc ++ tabPh J ph) i ≠ .no ∧ tb (deadL (L0.map (·.1)) ++ tabPh J ph) i = .dead) := by
          intro i
          rw [tb_append, tb_append, dead_keys, g7]
          by_cases hi : (L0.map (·.1)).contains i = true
          · rw [if_pos hi, if_pos hi]
            exact .inr ⟨yes_get g8 (by rw [g7]; exact hi), dead_mem hi⟩
          · rw [if_neg hi, if_neg hi]; exact .inl rfl
        have hend : ∀ v, rangePost (FW none) 0 P (w.heap.size + 1) (lift N I0 w0 Q) { a with defers := [markOf w.heap.size] ++ a.defers } (.returned v) W3 := by
          intro v
          have r1 := g1.loop (r' := { recPh (recOf fid a.tmps ps assign body w.heap.size) ph with state := .exhausted }) g5 g6
          have r2 := r1.dies (T' := tb (deadL (L0.map (·.1)) ++ tabPh J ph)) hdie
          have hrun := run_endLoop (P := P) g5 (by cases ph <;> simp [recPh, recOf])
          cases ph with
          | go k =>
            obtain rfl : k = xs.length := hph
            exact ⟨none, _, hrun, .inr ⟨_, β3, r2, hdone⟩⟩
          | stop c L =>
            refine ⟨some c, _, hrun, ?_⟩
            rcases hstop c L g9 with ⟨rfl, hq⟩ | ⟨id, rfl, hq⟩
            · exact wpIn_ret (.inr ⟨_, β3, r2, hq⟩)
            · exact wpIn_exit (.inr ⟨_, β3, r2, hq⟩)
        have hresv : (results fn' a'.tmps).run P W3 = .ok (.tuple #[]) W3 := by simp [results, hres]
        rcases he with rfl | rfl
        · exact ⟨g4, _, hresv, hend _⟩
        · exact ⟨g4, _, hresv, hend _⟩
end
end Go.Proofs.Ytemcemimipagoaa.AW
namespace Go.Proofs.Ytemcemimipagoaa.AW
open Go Go.RowKit
abbrev IGoal := Ph → List (Nat × Ob) → List (Nat × AV) → Act → World → Prop
def IQ (G : IGoal) (Q : Exit → Ph → List (Nat × Ob) → List (Nat × AV) → Prop) : Exit → Act → World → Prop := fun e a2 W2 => ∃ ph' L' env', Q e ph' L' env' ∧ G ph' L' env' a2 W2
def IW (P : Program) (G : IGoal) (c : Code) (Q : Exit → Ph → List (Nat × Ob) → List (Nat × AV) → Prop) (ph : Ph) (Lc : List (Nat × Ob)) (env : List (Nat × AV)) : Prop :=
  ∀ a' W, G ph Lc env a' W → c.wpIn (FW none) 0 P (IQ G Q) a' W
def IOps (P : Program) (G : IGoal) (ops : Array Oper) (Q : Exit → Ph → List (Nat × Ob) → List (Nat × AV) → Prop) (l : List Nat) (ph : Ph) (Lc : List (Nat × Ob)) (env : List (Nat × AV)) : Prop :=
  ∀ a' W, G ph Lc env a' W → wpOpsIn (FW none) 0 P ops (IQ G Q) l a' W
section
variable {P : Program} {G : IGoal} {Q : Exit → Ph → List (Nat × Ob) → List (Nat × AV) → Prop} {ph : Ph} {Lc : List (Nat × Ob)} {env : List (Nat × AV)} {n' : Nat} {xs : List (List AV)} {z : List Nat} {yv : Value}
def thenI (P : Program) (G : IGoal) (y : Code) (Q : Exit → Ph → List (Nat × Ob) → List (Nat × AV) → Prop) : Exit → Ph → List (Nat × Ob) → List (Nat × AV) → Prop
  | .normal, ph, L, e => IW P G y Q ph L e
  | e, ph, L, en => Q e ph L en
theorem iw_seq {x y : Code} (h : IW P G x (thenI P G y Q) ph Lc env) : IW P G (.seq x y) Q ph Lc env := fun a' W hG => by
  refine wpIn_seq (wpIn_mono (h a' W hG) ?_)
  rintro e a2 W2 ⟨ph', L', env', hq, hg⟩
  cases e with
  | normal => exact hq a2 W2 hg
  | _ => exact ⟨ph', L', env', hq, hg⟩
theorem iw_cond {o : Operand} {x y : Code} {b : Bool} (hI : IterI P n' xs z yv G) (hb : ev ⟨env, noT⟩ o = some (.v (.bool b))) (h : (if b then IW P G x Q ph Lc env else IW P G y Q ph Lc env)) : IW P G (.cond o x y) Q ph Lc env := fun a' W hG => by
  refine wpIn_cond (hI.cond hG hb) ?_
  cases b
  · exact h a' W hG
  · exact h a' W hG
theorem iw_skip (h : Q .normal ph Lc env) : IW P G .skip Q ph Lc env := fun a' W hG => wpIn_skip ⟨ph, Lc, env, h, hG⟩
theorem iw_ret (h : Q .ret ph Lc env) : IW P G .ret Q ph Lc env := fun a' W hG => wpIn_ret ⟨ph, Lc, env, h, hG⟩
theorem iw_exit {id : Nat} (h : Q (.exit id) ph Lc env) : IW P G (.exit id) Q ph Lc env := fun a' W hG => wpIn_exit ⟨ph, Lc, env, h, hG⟩
def blockI (id : Nat) (Q : Exit → Ph → List (Nat × Ob) → List (Nat × AV) → Prop) : Exit → Ph → List (Nat × Ob) → List (Nat × AV) → Prop
  | .exit i, ph, L, e => if i = id then Q .normal ph L e else Q (.exit i) ph L e
  | e, ph, L, en => Q e ph L en
theorem iw_block {id : Nat} {c : Code} (h : IW P G c (blockI id Q) ph Lc env) : IW P G (.block id c) Q ph Lc env := fun a' W hG => by
  refine wpIn_block (wpIn_mono (h a' W hG) ?_)
  rintro e a2 W2 ⟨ph', L', env', hq, hg⟩
  cases e with
  | exit i =>
    by_cases hi : i = id
    · subst hi
      simp only [blockI, if_true] at hq
      simp only [Exit.inBlock, if_true]
      exact ⟨ph', L', env', hq, hg⟩
    · simp only [blockI, if_neg hi] at hq
      simp only [Exit.inBlock, if_neg hi]
      exact ⟨ph', L', env', hq, hg⟩
  | _ => exact ⟨ph', L', env', hq, hg⟩
theorem iw_loop {c : Code} (n : Nat) (J : Nat → Ph × List (Nat × Ob) × List (Nat × AV)) (hI : IterI P n' xs z yv G)
    (hr : ∀ k, k ≤ n → IW P G c (fun e ph' L' env' => match e with | .normal => k < n ∧ ph' = (J (k + 1)).1 ∧ L' = (J (k + 1)).2.1 ∧ Has env' (J (k + 1)).2.2 | e => Q e ph' L' env') (J k).1 (J k).2.1 (J k).2.2)
    (h0 : ph = (J 0).1 ∧ Lc = (J 0).2.1 ∧ Has env (J 0).2.2) : IW P G (.loop c) Q ph Lc env := fun a' W hG => by
  obtain ⟨rfl, rfl, he⟩ := h0
  have hG := hI.env hG he
  refine wpIn_loop_rounds (n + 1) ?_
  have key : ∀ (m k : Nat), k + m = n → ∀ a W, G (J k).1 (J k).2.1 (J k).2.2 a W → Code.roundsIn (FW none) 0 P c (IQ G Q) (m + 1) a W := by
    intro m
    induction m with
    | zero =>
      intro k hk a W hG
      refine wpIn_mono (hr k (by omega) a W hG) ?_
      rintro e a2 W2 ⟨ph', L', env', hq, hg⟩
      cases e with
      | normal => exact absurd hq.1 (by omega)
      | _ => exact ⟨ph', L', env', hq, hg⟩
    | succ m ih =>
      intro k hk a W hG
      refine wpIn_mono (hr k (by omega) a W hG) ?_
      rintro e a2 W2 ⟨ph', L', env', hq, hg⟩
      cases e with
      | normal =>
        obtain ⟨h1, rfl, rfl, h4⟩ := hq
        exact ih (k + 1) (by omega) a2 W2 (hI.env hg h4)
      | _ => exact ⟨ph', L', env', hq, hg⟩
  exact key n 0 (by omega) a' W hG
def PieceQ (n' : Nat) (z : List Nat) (Lc : List (Nat × Ob)) (ph : Ph) (Q : Exit → Ph → List (Nat × Ob) → List (Nat × AV) → Prop) : Exit → ASt → Prop := fun e s => ∃ env' L', Ent (lentN n' z none) s ⟨env', tb L'⟩ ∧ FitAll (tb Lc) z L' ∧ L'.map (·.1) = z ∧ yesL L' = true ∧ Q e ph L' env'
theorem iw_piece {c : Code} (hI : IterI P n' xs z yv G) (hrows : RowsZ z Lc) (hin : ∀ t x, get env t = some x → InZ z x) (hc : AWp P (lentN n' z none) c (PieceQ n' z Lc ph Q) ⟨env, tb Lc⟩) : IW P G c Q ph Lc env := fun a' W hG => by
  refine wpIn_mono (hI.piece (Q' := fun e env' L' => Q e ph L' env') hG hrows hin hc) ?_
  rintro e a2 W2 ⟨env', L', h1, h2⟩
  exact ⟨ph, L', env', h1, h2⟩
theorem iw_region {id : Nat} {ops : Array Oper} (h : IOps P G ops Q (List.range ops.size) ph Lc env) : IW P G (.region id ops false) Q ph Lc env := fun a' W hG => wpIn_region (h a' W hG)
theorem io_plain {ops : Array Oper} {l1 l2 : List Nat} (hI : IterI P n' xs z yv G) (hrows : RowsZ z Lc) (hin : ∀ t x, get env t = some x → InZ z x) (hnd : noDefer ops = true)
    (hc : AOps P (lentN n' z none) ops (PieceQ n' z Lc ph fun e ph L en => match e with | .normal => IOps P G ops Q l2 ph L en | e => Q e ph L en) l1 ⟨env, tb Lc⟩) : IOps P G ops Q (l1 ++ l2) ph Lc env := fun a' W hG => by
  refine opsIn_append _ _ _ (wpOpsIn_monoQ ?_ _ _ _ (hI.ops (Q' := fun e env' L' => match e with | .normal => IOps P G ops Q l2 ph L' env' | e => Q e ph L' env') hG hrows hin hnd hc))
  rintro e a2 W2 ⟨env', L', h1, h2⟩
  cases e with
  | normal => exact h1 a2 W2 h2
  | _ => exact ⟨ph, L', env', h1, h2⟩
theorem io_yield {ops : Array Oper} {i : Nat} {l : List Nat} {o : Oper} {zz : Operand} {args : Array Operand} {ts : Array TypeId} {d k : Nat} {ys : List AV} (hI : IterI P n' xs z yv G) (hph : ph = .go k) (hk : xs[k]? = some ys)
    (hgo : IOps P G ops Q l (.go (k + 1)) Lc ((d, .v (.bool true)) :: env)) (hstop : ∀ c L, IOps P G ops Q l (.stop c L) Lc ((d, .v (.bool false)) :: env))
    (hop : ops[i]? = some o := by rfl) (hg : o.guard = none := by rfl) (ho : o.op = .call ⟨.value zz, args, ts⟩ := by rfl) (hzz : ev ⟨env, noT⟩ zz = some (.v yv) := by rfl) (hargs : evs ⟨env, noT⟩ args.toList = some ys := by rfl)
    (hd : o.dst = some d := by rfl) (hdn : Nat.blt d n' = true := by rfl) : IOps P G ops Q (i :: l) ph Lc env := fun a' W hG => by
  subst hph
  have h := hI.yield (K := wpOpsIn (FW none) 0 P ops (IQ G Q) l) (Q := IQ G Q) hG hk ho hzz hargs hd (blt_lt hdn) (fun a2 W2 h => hgo a2 W2 h) (fun c L a2 W2 h => hstop c L a2 W2 h)
  simp only [wpOpsIn, hop]
  rw [if_pos (by simp [Region.wanted, hg])]
  exact h
theorem io_nil {ops : Array Oper} (h : Q .normal ph Lc env) : IOps P G ops Q [] ph Lc env := fun a' W hG => ⟨ph, Lc, env, h, hG⟩
end
end Go.Proofs.Ytemcemimipagoaa.AW
namespace Go.Proofs.Ytemcemimipagoaa.AW
open Go Go.RowKit
section
variable {P : Program} {N : Fr} {st : ASt} {I0 : Dom} {w0 : World} {β : Nat → Value} {a : Act} {w : World}
end
end Go.Proofs.Ytemcemimipagoaa.AW
namespace Go.Proofs.Ytemcemimipagoaa.AW
open Go Go.RowKit
section
variable {P : Program} {st : ASt} {w0 : World} {β : Nat → Value} {a : Act} {w : World}
inductive Rcv : FrameMode → Value → FrameMode → Prop
  | ret : Rcv .returning .nilIface .returning
  | pan (v : Value) : Rcv (.panicking (raisedA v)) v (.panicking [{ v, recovered := true }])
variable {N : Fr} {Q : Exit → ASt → Prop} {o : Oper} {x : AV}
section steps
variable {ops : Array Oper} {i : Nat} {l : List Nat} {d : Nat}
end steps
end
end Go.Proofs.Ytemcemimipagoaa.AW
