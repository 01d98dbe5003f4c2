/- Abstract states: what is shared; from the walk to the call; the steps in short words. -/
import Derived.Test.YtafbiccgbgcooaaAWf
namespace Go.Proofs.Ytafbiccgbgcooaa.AW
open Go Go.RowKit
set_option linter.unusedVariables false

/-- What was the call's own is nobody's to turn any more. -/
inductive Sh (T : Nat → Ob) : AV → AV → Prop
  | same (x : AV) : NoOwn x → Sh T x x
  | nil (s : Nat) : Sh T (.v (.slice none 0 0)) (.sl s [])
  | agg (l l' : List AV) : l.length = l'.length → (∀ (j : Nat) (a b : AV), l[j]? = some a → l'[j]? = some b → Sh T a b) → Sh T (.agg l) (.agg l')
  | tup (l l' : List AV) : l.length = l'.length → (∀ (j : Nat) (a b : AV), l[j]? = some a → l'[j]? = some b → Sh T a b) → Sh T (.tup l) (.tup l')
  | clo (f : Nat) (l l' : List AV) : l.length = l'.length → (∀ (j : Nat) (a b : AV), l[j]? = some a → l'[j]? = some b → Sh T a b) → Sh T (.clo f l) (.clo f l')
  | own (i e s : Nat) (es es' : List (List AV)) : T i = .live e s es → es.length = es'.length → (∀ c ∈ es', c.length = s) →
      (∀ (j : Nat) (a b : AV), es.flatten[j]? = some a → es'.flatten[j]? = some b → Sh T a b) → Sh T (.own i) (.sl s es')
  | ptr (i k r e s : Nat) (es : List (List AV)) (c c' : List AV) : T i = .live e s es → es[k]? = some c → c.length = c'.length →
      (∀ (j : Nat) (a b : AV), c[j]? = some a → c'[j]? = some b → Sh T a b) → Sh T (.ptr i k r) (.ip (c'.drop r))
theorem sh_one {T : Nat → Ob} {x y : AV} (h : Sh T x y) : ∀ (j : Nat) (a b : AV), [x][j]? = some a → [y][j]? = some b → Sh T a b := by
  intro j a b ha hb
  cases j with
  | zero => simp at ha hb; subst ha; subst hb; exact h
  | succ j => simp at ha

section
variable {P : Program} {N : Nat} {Q : Exit → ASt → Prop} {st : ASt} {I0 : Nat → Prop} {w0 : World} {β : Nat → Value} {a : Act} {w : World}

theorem Im.noT {B : Nat} {T : Nat → Ob} {b : Nat} (h : Im I0 B T β w b) : Im I0 B AW.noT noβ w b := ⟨h.1, h.2.1, fun i e s es hi => (by cases hi)⟩
theorem Rep.noT {B : Nat} {T : Nat → Ob} {x : AV} {v : Value} (h : Rep (Im I0 B T β w) T β w x v) (hx : NoOwn x) : Rep (Im I0 B AW.noT noβ w) AW.noT noβ w x v := by
  have h1 : Rep (Im I0 B AW.noT noβ w) T β w x v := h.mono (fun b hb => ⟨hb.noT, fun o => rfl⟩) fun i hi => ⟨hi, fun e s es' h' => ⟨rfl, es', h', rfl⟩⟩
  exact h1.noOwn hx
theorem Sh.rep {B : Nat} {T : Nat → Ob} {x y : AV} (hO : Objs I0 B T β w) (h : Sh T x y) : ∀ v, Rep (Im I0 B T β w) T β w x v → Rep (Im I0 B AW.noT noβ w) AW.noT noβ w y v := by
  induction h with
  | same x hx => exact fun v hv => hv.noT hx
  | nil s => exact fun v hv => by rw [hv.v_inv]; exact .emp s none 0 fun _ => rfl
  | agg l l' hl _ ih =>
    intro v hv
    cases hv with
    | agg _ cs hc hr =>
      refine .agg l' cs (by omega) fun j p u hp hu => ?_
      have hlt : j < l.length := by rw [hl]; exact (List.getElem?_eq_some_iff.1 hp).1
      exact ih j l[j] p (List.getElem?_eq_getElem hlt) hp u (hr j _ u (List.getElem?_eq_getElem hlt) hu)
  | tup l l' hl _ ih =>
    intro v hv
    cases hv with
    | tup _ cs hc hr =>
      refine .tup l' cs (by omega) fun j p u hp hu => ?_
      have hlt : j < l.length := by rw [hl]; exact (List.getElem?_eq_some_iff.1 hp).1
      exact ih j l[j] p (List.getElem?_eq_getElem hlt) hp u (hr j _ u (List.getElem?_eq_getElem hlt) hu)
  | clo f l l' hl _ ih =>
    intro v hv
    cases hv with
    | clo _ _ vs hc hr =>
      refine .clo f l' vs (by omega) fun j p u hp hu => ?_
      have hlt : j < l.length := by rw [hl]; exact (List.getElem?_eq_some_iff.1 hp).1
      exact ih j l[j] p (List.getElem?_eq_getElem hlt) hp u (hr j _ u (List.getElem?_eq_getElem hlt) hu)
  | own i e s es es' hi hl hs _ ih =>
    intro v hv
    cases hv with
    | own _ _ hn hx =>
      have := hx e s es hi
      subst this
      obtain ⟨h1, xs, h2, h3⟩ := hO.obj i e s es hi
      have hfl : es.flatten.length = es'.flatten.length := by rw [flat_len h1, flat_len hs, hl]
      rcases h2.2 with ⟨hh, h0⟩ | ⟨g, cap, cur, fr, hh, hb, hg, _, hnc, _⟩
      · have : es' = [] := List.eq_nil_of_length_eq_zero (by omega)
        subst this
        rw [hh]; exact .emp s none 0 fun _ => rfl
      · rw [hh, hl]
        rw [hh] at h2
        refine .sl s es' g 0 cap (fun j => (xs[j]?).getD undef) ⟨.inr hb, (Array.getElem?_eq_some_iff.1 hg).1, fun i e s es hi => (by cases hi)⟩ (by omega) hs (fun j p hp => ?_) (fun j p hp => ?_)
        · have hlt : j < es.flatten.length := by rw [hfl]; exact (List.getElem?_eq_some_iff.1 hp).1
          have hc := h2.cellAt j (by rw [← flat_len h1]; exact hlt)
          obtain ⟨u, hu, _⟩ := h3 j _ (List.getElem?_eq_getElem hlt)
          rw [Nat.zero_add, hc, hu]; rfl
        · have hlt : j < es.flatten.length := by rw [hfl]; exact (List.getElem?_eq_some_iff.1 hp).1
          obtain ⟨u, hu, hr⟩ := h3 j _ (List.getElem?_eq_getElem hlt)
          simp only [hu, Option.getD_some]
          exact ih j _ p (List.getElem?_eq_getElem hlt) hp u hr
  | ptr i k r e s es c c' hi hk hl _ ih =>
    intro v hv
    cases hv with
    | ptr _ _ _ _ hn hx =>
      obtain ⟨hk1, hrs, b, n, cp, hβ, rfl⟩ := hx e s es hi
      obtain ⟨h1, xs, h2, h3⟩ := hO.obj i e s es hi
      rw [hβ] at h2
      have hnn : n = es.length := by
        rcases h2.2 with ⟨hh, _⟩ | ⟨_, _, _, _, hh, _⟩
        · cases hh
        · simp at hh; exact hh.2.1
      subst hnn
      obtain ⟨g, cap, cur, fr, hh, hb, hg, _, hnc, _⟩ := h2.2.resolve_left (by rintro ⟨hh, _⟩; cases hh)
      simp at hh
      obtain ⟨rfl, rfl⟩ := hh
      have key : ∀ j p, (c'.drop r)[j]? = some p → ∃ u, xs[k * s + (r + j)]? = some u ∧ w.cell? ⟨b, k * s + r + j, none⟩ = some u ∧ Rep (Im I0 B AW.noT noβ w) AW.noT noβ w p u := by
        intro j p hp
        have hp' : c'[r + j]? = some p := by simpa [List.getElem?_drop] using hp
        have hlt : r + j < c.length := by rw [hl]; exact (List.getElem?_eq_some_iff.1 hp').1
        have hf := flat_get h1 hk (List.getElem?_eq_getElem hlt)
        obtain ⟨u, hu, hr⟩ := h3 _ _ hf
        refine ⟨u, hu, ?_, ih _ _ p (List.getElem?_eq_getElem hlt) hp' u hr⟩
        have hlt2 : k * s + (r + j) < es.length * s := by
          have := (List.getElem?_eq_some_iff.1 hf).1
          rwa [flat_len h1] at this
        rw [Nat.add_assoc, h2.cellAt _ hlt2, hu]
      refine .ip _ b (k * s + r) (fun j => (xs[k * s + (r + j)]?).getD undef) ⟨.inr hb, (Array.getElem?_eq_some_iff.1 hg).1, fun i e s es hi => (by cases hi)⟩ (fun j p hp => ?_) (fun j p hp => ?_)
      · obtain ⟨u, hu, h4, _⟩ := key j p hp
        rw [h4]; simp [hu]
      · obtain ⟨u, hu, _, h5⟩ := key j p hp
        simp only [hu, Option.getD_some]; exact h5

theorem Objs.noT (B : Nat) : Objs I0 B AW.noT noβ w := ⟨fun i e s es hh => (by cases hh), fun i e s es j e' s' es' b hh => (by cases hh)⟩
/-- A call gives what is shared from now on. -/
theorem gives_of {f : Nat} {fn : Func} {c : Code} {args : List AV} {y : AV} (hf : P.funcs[f]? = some fn) (hb : fn.body = some c) (hn : args.length ≤ fn.ntmps)
    (h : AWp P fn.ntmps c (fun e st => (e = .ret ∨ e = .normal) ∧ ∃ x, resA P fn st = some x ∧ Sh st.T x y) ⟨argEnv 0 args, noT⟩) : Gives P f args y := by
  have h0 := ok_of (R := fun x T => Sh T x y) hf hb hn h
  intro I0 w vs hI hvs
  refine (h0 I0 w vs hI hvs).mono ?_
  rintro e w' (hF | ⟨v, x, T, β, rfl, h1, h2, h3, h4⟩)
  · exact hF.elim
  · exact .inr ⟨v, y, noT, noβ, rfl, ⟨rfl, rfl⟩, h2, Objs.noT _, h1.rep h3 v h4⟩

/-! Steps, in short. -/
def opAt (N : Nat) (ops : Array Oper) (st : ASt) (i : Nat) : Bool :=
  match (ops.getD i default).guard with
  | none => true
  | some (g, want) => match (ops.getD g default).dst with
    | some t => (Nat.blt t N) && (match get st.env t with
      | some (.v (.bool b)) => b == want
      | _ => false)
    | none => false
def offAt (N : Nat) (ops : Array Oper) (st : ASt) (i : Nat) : Bool :=
  match (ops.getD i default).guard with
  | none => false
  | some (g, want) => match (ops.getD g default).dst with
    | some t => (Nat.blt t N) && (match get st.env t with
      | some (.v (.bool b)) => b == !want
      | some (.v (.tuple _)) => true
      | _ => false)
    | none => false
theorem blt_lt {a b : Nat} (h : Nat.blt a b = true) : a < b := by simpa [Nat.blt_eq] using h
theorem getD_some {ops : Array Oper} {i : Nat} (h : i < ops.size) : ops[i]? = some (ops.getD i default) := by simp [Array.getD, h]
theorem wanted_of {ops : Array Oper} {i : Nat} (hr : Rel N I0 w0 st β a w) (h : opAt N ops st i = true) : Region.wanted (ops.getD i default) (yielded ops a.tmps) = true := by
  unfold opAt at h
  unfold Region.wanted
  split at h
  · rename_i hg; rw [hg]
  · rename_i g want hg
    rw [hg]
    split at h
    · rename_i t ht
      simp only [Bool.and_eq_true] at h
      obtain ⟨h1, h2⟩ := h
      have h1 := blt_lt h1
      split at h2
      · rename_i b hv
        have hgs : g < ops.size := by
          rcases Nat.lt_or_ge g ops.size with h | h
          · exact h
          · rw [show ops.getD g default = default by simp [Array.getD, Nat.not_lt.2 h]] at ht; cases ht
        have hy := yielded_of hr (ops := ops) (g := g) h1 (by rw [getD_some hgs]; exact ht) hv
        simp only [hy]
        simpa using h2
      · cases h2
    · cases h
theorem off_of {ops : Array Oper} {i : Nat} (hr : Rel N I0 w0 st β a w) (h : offAt N ops st i = true) : Region.wanted (ops.getD i default) (yielded ops a.tmps) = false := by
  unfold offAt at h
  unfold Region.wanted
  split at h
  · cases h
  · rename_i g want hg
    rw [hg]
    split at h
    · rename_i t ht
      simp only [Bool.and_eq_true] at h
      obtain ⟨h1, h2⟩ := h
      have h1 := blt_lt h1
      split at h2
      · rename_i b hv
        have hgs : g < ops.size := by
          rcases Nat.lt_or_ge g ops.size with h | h
          · exact h
          · rw [show ops.getD g default = default by simp [Array.getD, Nat.not_lt.2 h]] at ht; cases ht
        have hy := yielded_of hr (ops := ops) (g := g) h1 (by rw [getD_some hgs]; exact ht) hv
        simp only [hy]
        have : b = !want := by simpa using h2
        subst this
        cases want <;> rfl
      · rename_i vs hv
        have hh := (hr.env t _ hv).v_inv
        have hts : t < a.tmps.size := by rw [hr.size]; exact h1
        have hgs : g < ops.size := by
          rcases Nat.lt_or_ge g ops.size with h | h
          · exact h
          · rw [show ops.getD g default = default by simp [Array.getD, Nat.not_lt.2 h]] at ht; cases ht
        have hy : yielded ops a.tmps g = none := by
          unfold yielded
          rw [getD_some hgs]
          simp only [Option.bind_some, ht]
          simp only [Array.getD_eq_getD_getElem?, Array.getElem?_eq_getElem hts, Option.getD_some] at hh ⊢
          rw [hh]
        simp only [hy]
        rfl
      · cases h2
    · cases h
theorem st2 {ops : Array Oper} {i : Nat} {l : List Nat} (h : AOp P N (ops.getD i default) (AOps P N ops Q l) Q st) (hi : Nat.blt i ops.size = true := by rfl) (hg : opAt N ops st i = true := by rfl) : AOps P N ops Q (i :: l) st := by
  intro I0 w0 β a w hr
  simp only [wpOps, getD_some (blt_lt hi), wanted_of hr hg, if_true]
  exact h I0 w0 β a w hr _ fun st' β' a' w' h1 h2 => h2 I0 w0 β' a' w' h1
theorem st1 {ops : Array Oper} {i : Nat} {l : List Nat} {d : Nat} {x : AV} (h : AYield P N Q (ops.getD i default) st x) (k : AOps P N ops Q l (st.put d x)) (hi : Nat.blt i ops.size = true := by rfl)
    (hg : opAt N ops st i = true := by rfl) (hd : (ops.getD i default).dst = some d := by rfl) (hN : Nat.blt d N = true := by rfl) : AOps P N ops Q (i :: l) st :=
  st2 (AOp.of_yield hd (blt_lt hN) h k) hi hg
theorem sk {ops : Array Oper} {i : Nat} {l : List Nat} {d : Nat} (k : AOps P N ops Q l (st.put d undefV)) (hi : Nat.blt i ops.size = true := by rfl)
    (hg : offAt N ops st i = true := by rfl) (hd : (ops.getD i default).dst = some d := by rfl) (hN : Nat.blt d N = true := by rfl) : AOps P N ops Q (i :: l) st := by
  intro I0 w0 β a w hr
  simp only [wpOps, getD_some (blt_lt hi), off_of hr hg, hd, Bool.false_eq_true, if_false]
  exact k I0 w0 β _ w (hr.put (blt_lt hN) (.v undef))
theorem Rel.known (hr : Rel N I0 w0 st β a w) {t : Nat} {b : Bool} (hv : get st.env t = some (.v (.bool b))) : Rel N I0 w0 (st.put t (.v (.bool b))) β a w := by
  refine ⟨hr.old, hr.size, hr.defers, fun q z hz => ?_, hr.objs, hr.below⟩
  simp only [ASt.put, get] at hz
  by_cases ht : t = q
  · subst ht
    simp only [if_true, Option.some.injEq] at hz
    subst hz
    exact hr.env t _ hv
  · rw [if_neg ht] at hz
    exact hr.env q z hz
/-- Not yet known. -/
inductive NL : Bool → Prop
  | any (b : Bool) : NL b
theorem NL.isT : NL true := .any true
theorem NL.isF : NL false := .any false
/-- A guard that is not known: both ways. -/
theorem gs {ops : Array Oper} {i : Nat} {l : List Nat} {g t : Nat} {b want : Bool} (h1 : b = true → AOps P N ops Q (i :: l) (st.put t (.v (.bool true)))) (h2 : b = false → AOps P N ops Q (i :: l) (st.put t (.v (.bool false))))
    (hg : (ops.getD i default).guard = some (g, want) := by rfl) (ht : (ops.getD g default).dst = some t := by rfl) (hv : get st.env t = some (.v (.bool b)) := by rfl) (_hn : NL b := by (fail_if_success exact NL.isT); (fail_if_success exact NL.isF); exact NL.any _) : AOps P N ops Q (i :: l) st := by
  intro I0 w0 β a w hr
  cases hb : b
  · exact h2 hb I0 w0 β a w (hb ▸ hr.known hv)
  · exact h1 hb I0 w0 β a w (hb ▸ hr.known hv)
theorem gkn {ops : Array Oper} {i : Nat} {l : List Nat} {g t : Nat} (b : Bool) {want : Bool} (k : AOps P N ops Q (i :: l) st)
    (hg : (ops.getD i default).guard = some (g, want) := by rfl) (ht : (ops.getD g default).dst = some t := by rfl) (hv : get st.env t = some (.v (.bool b)) := by rfl) : AOps P N ops Q (i :: l) st := k
/-- A pick that is not known: both ways. -/
theorem ps {ops : Array Oper} {i : Nat} {l : List Nat} {t : Nat} {p q : Operand} {b : Bool} (h1 : b = true → AOps P N ops Q (i :: l) (st.put t (.v (.bool true)))) (h2 : b = false → AOps P N ops Q (i :: l) (st.put t (.v (.bool false))))
    (hg : (ops.getD i default).op = .pick (.tmp t) p q := by rfl) (hv : get st.env t = some (.v (.bool b)) := by rfl) : AOps P N ops Q (i :: l) st := by
  intro I0 w0 β a w hr
  cases hb : b
  · exact h2 hb I0 w0 β a w (hb ▸ hr.known hv)
  · exact h1 hb I0 w0 β a w (hb ▸ hr.known hv)
theorem fin {fn : Func} {x y : AV} (h : Sh st.T x y) (hx : resA P fn st = some x := by rfl) : (Exit.ret = Exit.ret ∨ Exit.ret = Exit.normal) ∧ ∃ x, resA P fn st = some x ∧ Sh st.T x y := ⟨.inl rfl, x, hx, h⟩
end
end Go.Proofs.Ytafbiccgbgcooaa.AW
