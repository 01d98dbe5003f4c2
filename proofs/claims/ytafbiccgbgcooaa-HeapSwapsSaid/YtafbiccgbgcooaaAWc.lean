/- Abstract states: the operations on memory. -/
import Derived.Test.YtafbiccgbgcooaaAWb
import Derived.Deep.MidRow
namespace Go.Proofs.Ytafbiccgbgcooaa.AW
open Go Go.RowKit
set_option linter.unusedVariables false

/-! What the program's types say. -/
def szOf (P : Program) (t : TypeId) : Option (Nat × Bool) :=
  match P.info? t, P.underlying t with
  | some i, some d => some (i.size, d.isRow)
  | _, _ => none
def fldOf (P : Program) (t f : Nat) : Option (Nat × Nat × Bool) :=
  match P.underlying t with
  | some (.struct fs) => match fs[f]? with
    | some fl => (szOf P fl.type).map fun p => (fl.offset, p.1, p.2)
    | none => none
  | _ => none
def elOf (P : Program) (t : TypeId) : Option (TypeId × Nat) :=
  match P.underlying t with
  | some (.slice e) => (szOf P e).map fun p => (e, p.1)
  | _ => none
section
variable {P : Program}
theorem szOf_run {t n : Nat} {b : Bool} (h : szOf P t = some (n, b)) (w : World) : (sizeOf t).run P w = .ok n w ∧ (isAgg t).run P w = .ok b w := by
  unfold szOf at h
  cases hi : P.info? t with
  | none => simp [hi] at h
  | some i =>
    cases hu : P.underlying t with
    | none => simp [hi, hu] at h
    | some d =>
      simp only [hi, hu, Option.some.injEq, Prod.mk.injEq] at h
      obtain ⟨rfl, rfl⟩ := h
      refine ⟨by simp [sizeOf, typeInfo, hi], ?_⟩
      unfold isAgg
      rw [Sem.run_bind, run_underlying hu w]
      cases d <;> rfl
theorem szOf_info {t n : Nat} {b : Bool} (h : szOf P t = some (n, b)) : (P.info? t).map (·.size) = some n := by
  unfold szOf at h
  cases hi : P.info? t with
  | none => simp [hi] at h
  | some i =>
    cases hu : P.underlying t with
    | none => simp [hi, hu] at h
    | some d => simp only [hi, hu, Option.some.injEq, Prod.mk.injEq] at h; simp [h.1]
theorem fldOf_fl {t f off n : Nat} {b : Bool} (h : fldOf P t f = some (off, n, b)) : ∃ fs fl, P.underlying t = some (.struct fs) ∧ fs[f]? = some fl ∧ fl.offset = off ∧ szOf P fl.type = some (n, b) := by
  unfold fldOf at h
  split at h
  · rename_i fs hu
    split at h
    · rename_i fl hf
      cases hs : szOf P fl.type with
      | none => simp [hs] at h
      | some p =>
        obtain ⟨m, b'⟩ := p
        simp only [hs, Option.map_some, Option.some.injEq, Prod.mk.injEq] at h
        obtain ⟨rfl, rfl, rfl⟩ := h
        exact ⟨fs, fl, hu, hf, rfl, hs⟩
    · cases h
  · cases h
theorem elOf_el {t e s : Nat} (h : elOf P t = some (e, s)) : P.underlying t = some (.slice e) ∧ ∃ b, szOf P e = some (s, b) := by
  unfold elOf at h
  split at h
  · rename_i e' hu
    cases hs : szOf P e' with
    | none => simp [hs] at h
    | some p =>
      obtain ⟨m, b'⟩ := p
      simp only [hs, Option.map_some, Option.some.injEq, Prod.mk.injEq] at h
      obtain ⟨rfl, rfl⟩ := h
      exact ⟨hu, b', hs⟩
  · cases h
end

/-! Lists of elements, and their cells. -/
theorem flat_len {s : Nat} : ∀ {es : List (List AV)}, (∀ x ∈ es, x.length = s) → es.flatten.length = es.length * s
  | [], _ => by simp
  | x :: es, h => by
    rw [List.flatten_cons, List.length_append, flat_len fun y hy => h y (.tail _ hy), h x (.head _), List.length_cons, Nat.succ_mul, Nat.add_comm]
theorem flat_get {s : Nat} : ∀ {es : List (List AV)}, (∀ x ∈ es, x.length = s) → ∀ {k r : Nat} {c : List AV} {y : AV}, es[k]? = some c → c[r]? = some y → es.flatten[k * s + r]? = some y
  | [], _, k, r, c, y, hk, _ => by simp at hk
  | x :: es, h, 0, r, c, y, hk, hr => by
    simp only [List.getElem?_cons_zero, Option.some.injEq] at hk
    subst hk
    rw [List.flatten_cons, Nat.zero_mul, Nat.zero_add, List.getElem?_append_left (by obtain ⟨h, _⟩ := List.getElem?_eq_some_iff.1 hr; exact h)]
    exact hr
  | x :: es, h, k + 1, r, c, y, hk, hr => by
    simp only [List.getElem?_cons_succ] at hk
    have hl := h x (.head _)
    rw [List.flatten_cons, List.getElem?_append_right (by rw [hl, Nat.succ_mul]; omega)]
    have : (k + 1) * s + r - x.length = k * s + r := by rw [hl, Nat.succ_mul]; omega
    rw [this]
    exact flat_get (fun y hy => h y (.tail _ hy)) hk hr
theorem flat_set {s : Nat} : ∀ {es : List (List AV)}, (∀ x ∈ es, x.length = s) → ∀ {k : Nat} {c' : List AV}, c'.length = s → k < es.length →
    (es.set k c').flatten = es.flatten.take (k * s) ++ c' ++ es.flatten.drop (k * s + s)
  | [], _, k, c', _, hk => by simp at hk
  | x :: es, h, 0, c', hc, _ => by
    have hl := h x (.head _)
    simp only [List.set_cons_zero, List.flatten_cons, Nat.zero_mul, List.take_zero, List.nil_append, Nat.zero_add]
    rw [List.drop_append, ← hl, List.drop_length]
    simp
  | x :: es, h, k + 1, c', hc, hk => by
    have hl := h x (.head _)
    have ih := flat_set (fun y hy => h y (.tail _ hy)) hc (k := k) (by simpa using hk)
    simp only [List.set_cons_succ, List.flatten_cons, ih]
    have e1 : (k + 1) * s = x.length + k * s := by rw [hl, Nat.succ_mul, Nat.add_comm]
    rw [e1, List.take_length_add_append, Nat.add_assoc, List.drop_length_add_append]
    simp [List.append_assoc]

def cellsA : AV → List AV
  | .agg l => l
  | x => [x]
/-- Is it one cell? -/
def cok1 (T : Nat → Ob) : AV → Bool
  | .v x => x.oneCell'
  | .agg _ => false
  | .tup _ => false
  | .own i => match T i with | .live _ _ _ => true | _ => false
  | .ptr i _ _ => match T i with | .live _ _ _ => true | _ => false
  | _ => true
theorem Objs.beta {I0 B T β w} (h : Objs I0 B T β w) {i e s es} (hi : T i = .live e s es) : (β i).oneCell' = true := by
  obtain ⟨_, xs, ho, _⟩ := h.obj i e s es hi
  rcases ho.2 with ⟨h, _⟩ | ⟨_, _, _, _, h, _⟩ <;> rw [h] <;> rfl
theorem Rep.one {I0 B T β w x y} (hO : Objs I0 B T β w) (h : Rep (Im I0 B T β w) T β w x y) (hx : cok1 T x = true) : y.oneCell' = true := by
  cases h with
  | v x => exact hx
  | agg => cases hx
  | tup => cases hx
  | emp => rfl
  | sl => rfl
  | own i x h1 h2 =>
    simp only [cok1] at hx
    split at hx
    · rename_i e s es h; rw [h2 e s es h]; exact hO.beta h
    · cases hx
  | ptr i k r x h1 h2 =>
    simp only [cok1] at hx
    split at hx
    · rename_i e s es h; obtain ⟨_, _, b, n, c, _, rfl⟩ := h2 e s es h; rfl
    · cases hx
  | ip => rfl
  | clo => rfl

section
variable {P : Program} {N : Nat} {Q : Exit → ASt → Prop} {st : ASt} {I0 : Nat → Prop} {w0 : World} {β : Nat → Value} {a : Act} {w : World}

def look (st : ASt) : AV → Option (List AV)
  | .ip cs => some cs
  | .ptr i k r => match st.T i with
    | .live _ _ es => (es[k]?).map (·.drop r)
    | _ => none
  | _ => none
theorem look_of (hr : Rel N I0 w0 st β a w) {z : Operand} {x : AV} {cs : List AV} (hz : ev st z = some x) (hl : look st x = some cs) :
    ∃ b o, ∃ vs : Nat → Value, a.eval z = .pointer (some ⟨b, o, none⟩) ∧ ∀ j y, cs[j]? = some y → w.cell? ⟨b, o + j, none⟩ = some (vs j) ∧ Rep (Im I0 w0.heap.size st.T β w) st.T β w y (vs j) := by
  have h := hr.ev hz
  generalize a.eval z = y at h
  cases h with
  | ip cs' b off vs hb hc hv => simp only [look, Option.some.injEq] at hl; subst hl; exact ⟨b, off, vs, rfl, fun j y hy => ⟨hc j y hy, hv j y hy⟩⟩
  | ptr i k r x hn hx =>
    simp only [look] at hl
    split at hl
    · rename_i e s es hi
      cases hk : es[k]? with
      | none => simp [hk] at hl
      | some c =>
        simp only [hk, Option.map_some, Option.some.injEq] at hl
        subst hl
        obtain ⟨h1, h2, b, n, cp, h3, rfl⟩ := hx e s es hi
        obtain ⟨hs, xs, hown, hrep⟩ := hr.objs.obj i e s es hi
        rw [h3] at hown
        have hnn : n = es.length := by
          rcases hown.2 with ⟨hh, _⟩ | ⟨_, _, _, _, hh, _⟩
          · cases hh
          · simp at hh; exact hh.2.1
        refine ⟨b, k * s + r, fun j => (xs[k * s + (r + j)]?).getD undef, rfl, fun j y hy => ?_⟩
        have hy' : c[r + j]? = some y := by simpa [List.getElem?_drop] using hy
        have hf := flat_get hs hk hy'
        obtain ⟨v, hv, hrv⟩ := hrep _ _ hf
        subst hnn
        have hlt : k * s + (r + j) < es.length * s := by
          have := (List.getElem?_eq_some_iff.1 hf).1
          rwa [flat_len hs] at this
        have hcell := hown.cellAt (k * s + (r + j)) hlt
        rw [Nat.add_assoc (k * s) r j]
        rw [hcell]
        simp only [hv, Option.getD_some]
        exact ⟨trivial, hrv⟩
    · cases hl
  | _ => simp [look] at hl

section ops
variable {o : Oper} {K : ASt → Prop} {d : Nat} {x y : AV}
theorem y_load {z : Operand} {t n : Nat} {cs : List AV} (ho : o.op = .load t z := by rfl) (ht : szOf P t = some (n, false) := by rfl) (hz : ev st z = some x := by rfl) (hl : look st x = some cs := by rfl)
    (h0 : cs[0]? = some y := by rfl) : AYield P N Q o st y :=
  AYield.still (fun I0 w0 β a w hr => by
    obtain ⟨b, of, vs, he, hc⟩ := look_of hr hz hl
    obtain ⟨h1, h2⟩ := hc 0 y h0
    refine ⟨vs 0, ?_, h2⟩
    have h1' : w.cell? ⟨b, of, none⟩ = some (vs 0) := by simpa using h1
    simp [execOp, ho, he, Instr.loadAt, Instr.sureAddr, loadVar, Sem.run_bind, (szOf_run ht w).2, Go.load, Sem.run, h1'])
theorem y_loads {z : Operand} {t n : Nat} {cs : List AV} (ho : o.op = .load t z := by rfl) (ht : szOf P t = some (n, true) := by rfl) (hz : ev st z = some x := by rfl) (hl : look st x = some cs := by rfl)
    (hn : n ≤ cs.length) : AYield P N Q o st (.agg (cs.take n)) :=
  AYield.still (fun I0 w0 β a w hr => by
    obtain ⟨b, of, vs, he, hc⟩ := look_of hr hz hl
    refine ⟨.agg ((List.range n).map vs).toArray, ?_, .agg _ _ (by simp [hn]) fun j y v hy hv => ?_⟩
    · have hlc := run_loadCells_list (P := P) w ⟨b, of, none⟩ ((List.range n).map vs) (fun j v hv => by
        rw [Addr.add_mid]
        simp only [List.getElem?_map] at hv
        have hj : j < n := by
          rcases Nat.lt_or_ge j n with h | h
          · exact h
          · rw [List.getElem?_eq_none (by simpa using h)] at hv; cases hv
        rw [List.getElem?_range hj] at hv
        simp only [Option.map_some, Option.some.injEq] at hv
        subst hv
        exact (hc j cs[j] (List.getElem?_eq_getElem (by omega))).1)
      simp only [List.length_map, List.length_range] at hlc
      simp [execOp, ho, he, Instr.loadAt, Instr.sureAddr, loadVar, Sem.run_bind, (szOf_run ht w).1, (szOf_run ht w).2, hlc]
    · have hj : j < n := by
        have := (List.getElem?_eq_some_iff.1 hy).1
        simp at this; omega
      rw [List.getElem?_take_of_lt hj] at hy
      simp [hj] at hv
      subst hv
      exact (hc j y hy).2)
theorem add_mid (b o n : Nat) : Addr.add ⟨b, o, none⟩ n = ⟨b, o + n, none⟩ := by unfold Addr.add; split <;> simp_all
theorem y_faddr_ip {z : Operand} {t f off n : Nat} {ag : Bool} {cs : List AV} (ho : o.op = .fieldAddr t z f := by rfl) (ht : fldOf P t f = some (off, n + 1, ag) := by rfl) (hz : ev st z = some (.ip cs) := by rfl) : AYield P N Q o st (.ip (cs.drop off)) :=
  AYield.still (fun I0 w0 β a w hr => by
    have h := hr.ev hz
    obtain ⟨fs, fl, hu, hf, rfl, hs⟩ := fldOf_fl ht
    generalize hy : a.eval z = y at h
    cases h with
    | ip cs' b of vs hb hc hv =>
      refine ⟨.pointer (some ⟨b, of + fl.offset, none⟩), ?_, .ip _ b (of + fl.offset) (fun j => vs (fl.offset + j)) hb (fun j y hj => ?_) (fun j y hj => ?_)⟩
      · simp [execOp, ho, hy, Instr.fieldAt, run_underlying hu, hf, Instr.sureAddr, fieldPlace, (szOf_run hs w).1, add_mid]
      · rw [Nat.add_assoc]; exact hc _ y (by simpa [List.getElem?_drop] using hj)
      · exact hv _ y (by simpa [List.getElem?_drop] using hj))
theorem y_faddr_ptr {z : Operand} {t f off n : Nat} {ag : Bool} {i e s q r : Nat} {es : List (List AV)} (ho : o.op = .fieldAddr t z f := by rfl) (ht : fldOf P t f = some (off, n + 1, ag) := by rfl)
    (hz : ev st z = some (.ptr i q r) := by rfl) (hi : st.T i = .live e s es := by rfl) (hs : r + off ≤ s) : AYield P N Q o st (.ptr i q (r + off)) :=
  AYield.still (fun I0 w0 β a w hr => by
    have h := hr.ev hz
    obtain ⟨fs, fl, hu, hf, rfl, hs'⟩ := fldOf_fl ht
    generalize hy : a.eval z = y at h
    cases h with
    | ptr i k r x hn hx =>
      obtain ⟨h1, h2, b, n, c, h3, rfl⟩ := hx e s es hi
      refine ⟨.pointer (some ⟨b, q * s + (r + fl.offset), none⟩), ?_, .ptr i q (r + fl.offset) _ hn fun e' s' es' h' => ?_⟩
      · simp [execOp, ho, hy, Instr.fieldAt, run_underlying hu, hf, Instr.sureAddr, fieldPlace, (szOf_run hs' w).1, add_mid, Nat.add_assoc]
      · rw [hi] at h'; cases h'
        exact ⟨h1, hs, b, n, c, h3, rfl⟩)
theorem y_field {z : Operand} {t f off n : Nat} {l : List AV} (ho : o.op = .field t z f := by rfl) (ht : fldOf P t f = some (off, n, false) := by rfl) (hz : ev st z = some (.agg l) := by rfl) (h0 : l[off]? = some y := by rfl) : AYield P N Q o st y :=
  AYield.still (fun I0 w0 β a w hr => by
    have h := hr.ev hz
    obtain ⟨fs, fl, hu, hf, rfl, hs⟩ := fldOf_fl ht
    generalize hy : a.eval z = y at h
    cases h with
    | agg l cs hl hc =>
      have hlt : fl.offset < cs.size := by rw [← hl]; exact (List.getElem?_eq_some_iff.1 h0).1
      refine ⟨cs[fl.offset], ?_, hc _ _ _ h0 (Array.getElem?_eq_getElem hlt)⟩
      simp [execOp, ho, hy, Instr.field, run_underlying hu, hf, part, asAgg, (szOf_run hs w).2, Array.getElem?_eq_getElem hlt])
theorem y_fields {z : Operand} {t f off n : Nat} {l : List AV} (ho : o.op = .field t z f := by rfl) (ht : fldOf P t f = some (off, n, true) := by rfl) (hz : ev st z = some (.agg l) := by rfl) (h0 : off + n ≤ l.length) : AYield P N Q o st (.agg ((l.drop off).take n)) :=
  AYield.still (fun I0 w0 β a w hr => by
    have h := hr.ev hz
    obtain ⟨fs, fl, hu, hf, rfl, hs⟩ := fldOf_fl ht
    generalize hy : a.eval z = y at h
    cases h with
    | agg l cs hl hc =>
      refine ⟨.agg (cs.extract fl.offset (fl.offset + n)), ?_, .agg _ _ (by simp; omega) fun j p v hp hv => ?_⟩
      · simp [execOp, ho, hy, Instr.field, run_underlying hu, hf, part, asAgg, (szOf_run hs w).1, (szOf_run hs w).2]
      · have hj : j < n := by
          have := (List.getElem?_eq_some_iff.1 hp).1
          simp at this; omega
        rw [List.getElem?_take_of_lt hj, List.getElem?_drop] at hp
        refine hc _ _ _ hp ?_
        simp [Array.getElem?_extract] at hv
        exact hv.2)
theorem y_extract {z : Operand} {i : Nat} {l : List AV} (ho : o.op = .extract z i := by rfl) (hz : ev st z = some (.tup l) := by rfl) (h0 : l[i]? = some y := by rfl) : AYield P N Q o st y :=
  AYield.still (fun I0 w0 β a w hr => by
    have h := hr.ev hz
    generalize hy : a.eval z = y at h
    cases h with
    | tup l cs hl hc =>
      have hlt : i < cs.size := by rw [← hl]; exact (List.getElem?_eq_some_iff.1 h0).1
      refine ⟨cs[i], ?_, hc _ _ _ h0 (Array.getElem?_eq_getElem hlt)⟩
      simp [execOp, ho, hy, Instr.extract, Array.getElem?_eq_getElem hlt])
theorem y_iaddr {z ix : Operand} {t e s : Nat} {es : List (List AV)} {c : List AV} {kk : IntKind} {n : Int} (ho : o.op = .indexAddr t z ix := by rfl) (ht : elOf P t = some (e, s) := by rfl)
    (hz : ev st z = some (.sl s es) := by rfl) (hix : ev st ix = some (.v (.int kk n)) := by rfl) (h0 : 0 ≤ n) (hc : es[n.toNat]? = some c) : AYield P N Q o st (.ip c) :=
  AYield.still (fun I0 w0 β a w hr => by
    have h := hr.ev hz
    have hi := hr.ev hix
    have hi' : a.eval ix = .int kk n := hi.v_inv
    obtain ⟨hu, bb, hs⟩ := elOf_el ht
    have hlt := (List.getElem?_eq_some_iff.1 hc).1
    generalize hy : a.eval z = y at h
    cases h with
    | emp => simp at hlt
    | sl s es b of cap vs hb hcap hl hv hrr =>
      refine ⟨.pointer (some ⟨b, of + n.toNat * s, none⟩), ?_, .ip c b _ (fun j => vs (n.toNat * s + j)) hb (fun j y hj => ?_) (fun j y hj => ?_)⟩
      · have : n < (es.length : Int) := by omega
        simp [execOp, ho, hy, hi', Instr.indexAt, asIntOf, run_underlying hu, h0, this, (szOf_run hs w).1, add_mid]
      · rw [Nat.add_assoc]; exact hv _ y (flat_get hl hc hj)
      · exact hrr _ y (flat_get hl hc hj))
theorem y_iaddr_own {z ix : Operand} {t e s i : Nat} {es : List (List AV)} {kk : IntKind} {n : Int} (ho : o.op = .indexAddr t z ix := by rfl) (ht : elOf P t = some (e, s) := by rfl)
    (hz : ev st z = some (.own i) := by rfl) (hT : st.T i = .live e s es := by rfl) (hix : ev st ix = some (.v (.int kk n)) := by rfl) (h0 : 0 ≤ n) (hc : n < es.length) : AYield P N Q o st (.ptr i n.toNat 0) :=
  AYield.still (fun I0 w0 β a w hr => by
    have h := hr.ev hz
    have hi := hr.ev hix
    have hi' : a.eval ix = .int kk n := hi.v_inv
    obtain ⟨hu, bb, hs⟩ := elOf_el ht
    generalize hy : a.eval z = y at h
    cases h with
    | own i x hn hx =>
      have hx' := hx e s es hT
      obtain ⟨hs', xs, hown, hrep⟩ := hr.objs.obj i e s es hT
      rcases hown.2 with ⟨hh, h0'⟩ | ⟨g, cap, cur, fr, hh, hb, hg, _, hcap, _⟩
      · omega
      · refine ⟨.pointer (some ⟨g, n.toNat * s, none⟩), ?_, .ptr i n.toNat 0 _ hn fun e' s' es' h' => ?_⟩
        · simp [execOp, ho, hy, hi', hx', hh, Instr.indexAt, asIntOf, run_underlying hu, h0, hc, (szOf_run hs w).1, add_mid]
        · rw [hT] at h'; cases h'
          exact ⟨by omega, Nat.zero_le _, g, es.length, cap, hh, rfl⟩)
end ops
end
end Go.Proofs.Ytafbiccgbgcooaa.AW
