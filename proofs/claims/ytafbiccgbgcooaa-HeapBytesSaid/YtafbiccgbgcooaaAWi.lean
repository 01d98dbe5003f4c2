/- Abstract states: regions that draw their order. -/
import Derived.Test.YtafbiccgbgcooaaAWh
namespace Go.Proofs.Ytafbiccgbgcooaa.AW
open Go Go.RowKit
set_option linter.unusedVariables false
set_option linter.unusedSimpArgs false

def opN (ops : Array Oper) (i : Nat) : Oper := ops.getD i default
def looks (ops : Array Oper) (o : Oper) : List Nat := o.looksAt ops
def lookE (ops : Array Oper) (R : List AV) (o : Oper) : List (Nat × AV) :=
  (List.range R.length).filterMap fun j => match (ops.getD j default).dst with
    | some t => if (looks ops o).contains t then some (t, R.getD j undefV) else none
    | none => none
def envAll (ops : Array Oper) (R : List AV) : List (Nat × AV) :=
  (List.range R.length).filterMap fun j => (ops.getD j default).dst.map fun t => (t, R.getD j undefV)
/-- What the text of the region must keep to: its first 'm' operations in whatever order, the others behind them, in their order. -/
def drawChk (N : Nat) (ops : Array Oper) (e : List (Nat × AV)) (m : Nat) : Bool :=
  Nat.ble m ops.size &&
  ((List.range m).all fun i =>
    let o := ops.getD i default
    (match o.dst with
      | some d => Nat.blt d N && (get e d).isNone && ((List.range m).all fun j => j == i || !((ops.getD j default).dst == some d))
      | none => true) &&
    (o.after.toList.all fun ed => !Region.binds .any ed || Nat.blt ed.on i) &&
    ((looks ops o).all fun t => (List.range m).all fun j => !((ops.getD j default).dst == some t) || (o.after.toList.any fun ed => ed.on == j && Region.binds .any ed))) &&
  ((List.range ops.size).all fun i => Nat.blt i m || (((List.range i).all fun j => (Nat.blt m i && !(j + 1 == i)) || (ops.getD i default).after.toList.any fun ed => ed.on == j && Region.binds .any ed) && (ops.getD i default).after.toList.all fun ed => !Region.binds .any ed || Nat.blt ed.on i))

section
variable {P : Program} {N : Nat} {Q : Exit → ASt → Prop} {st : ASt} {I0 : Nat → Prop} {w0 : World} {β : Nat → Value} {a : Act} {w : World} {ops : Array Oper}

/-- One operation among those, that may make a row of the call's own: which, and what is made. -/
abbrev Eff := Option (Nat × (Nat → Ob))
def effT (T : Nat → Ob) : Eff → Nat → Ob
  | none => T
  | some (_, Te) => Te
def hangs (ops : Array Oper) (eff : Eff) (o : Oper) : Bool := match eff with
  | none => false
  | some (e, _) => match (ops.getD e default).dst with
    | some t => (looks ops o).contains t
    | none => false
/-- The one that makes rows waits for it. -/
def ahead (ops : Array Oper) (e i : Nat) : Bool := (ops.getD e default).after.toList.any fun ed => ed.on == i && Region.binds .any ed
/-- The operation makes rows. -/
def AEff (P : Program) (N : Nat) (Q : Exit → ASt → Prop) (o : Oper) (st : ASt) (x : AV) (T1 : Nat → Ob) : Prop :=
  ∀ I0 w0 β a w, Rel N I0 w0 st β a w → ∀ K' : Act → World → Prop,
    (∀ y w' β2, Below w0.heap.size w0 w' → (∀ p v, Rep (Im I0 w0.heap.size st.T β w) st.T β w p v → Rep (Im I0 w0.heap.size T1 β2 w') T1 β2 w' p v) → Objs I0 w0.heap.size T1 β2 w' → Rep (Im I0 w0.heap.size T1 β2 w') T1 β2 w' x y → K' (a.put o.dst y) w') →
    o.wp P a w K' (lift N I0 w0 Q) ∨ (o.asks P a w ∧ LetsOut (lift N I0 w0 Q))
def One (P : Program) (N : Nat) (ops : Array Oper) (Q : Exit → ASt → Prop) (st : ASt) (T : Nat → Ob) (R : List AV) (i : Nat) : Prop :=
  let o := ops.getD i default
  let s : ASt := ⟨lookE ops (R.take i) o ++ st.env, T⟩
  (opAt N ops s i = true ∧ AYield P N Q o s (R.getD i undefV)) ∨ (offAt N ops s i = true ∧ R.getD i undefV = undefV)
def OneE (P : Program) (N : Nat) (ops : Array Oper) (Q : Exit → ASt → Prop) (st : ASt) (eff : Eff) (R : List AV) (i : Nat) : Prop :=
  (∃ e Te, eff = some (e, Te) ∧ i = e ∧ opAt N ops ⟨lookE ops (R.take i) (ops.getD i default) ++ st.env, st.T⟩ i = true ∧
      AEff P N Q (ops.getD i default) ⟨lookE ops (R.take i) (ops.getD i default) ++ st.env, st.T⟩ (R.getD i undefV) (effT st.T eff)) ∨
  ((∀ e Te, eff = some (e, Te) → i ≠ e) ∧ One P N ops Q st (effT st.T eff) R i ∧ (hangs ops eff (ops.getD i default) = false → One P N ops Q st st.T R i)) ∨
  (∃ e Te, eff = some (e, Te) ∧ i ≠ e ∧ ahead ops e i = true ∧ One P N ops Q st st.T R i)
def ADraw (P : Program) (N : Nat) (ops : Array Oper) (Q : Exit → ASt → Prop) (st : ASt) (m : Nat) (eff : Eff) (R : List AV) : Prop :=
  ∃ R', (R ++ R').length = m ∧ (∀ i, R.length ≤ i → i < m → OneE P N ops Q st eff (R ++ R') i) ∧
    ∃ s, Ent ⟨envAll ops (R ++ R') ++ st.env, effT st.T eff⟩ s ∧ AOps P N ops Q (List.range' m (ops.size - m)) s
theorem adraw_one {m : Nat} {eff : Eff} {R : List AV} {x : AV} (h : OneE P N ops Q st eff (R ++ [x]) R.length) (k : ADraw P N ops Q st m eff (R ++ [x])) : ADraw P N ops Q st m eff R := by
  obtain ⟨R', h1, h2, h3⟩ := k
  refine ⟨x :: R', by simpa using h1, fun i hi1 hi2 => ?_, by simpa using h3⟩
  by_cases hi : i = R.length
  · subst hi
    have e1 : (R ++ x :: R').take R.length = (R ++ [x]).take R.length := by simp
    have e2 : (R ++ x :: R').getD R.length undefV = (R ++ [x]).getD R.length undefV := by simp [List.getD]
    unfold OneE One at h ⊢
    rw [e1, e2]; exact h
  · have := h2 i (by simp; omega) hi2
    simpa using this

theorem Rel.put' (h : Rel N I0 w0 st β a w) {d : Nat} (hd : get st.env d = none) {y : Value} : Rel N I0 w0 st β (a.put (some d) y) w := by
  refine ⟨h.old, by simpa [Act.put] using h.size, h.defers, fun t z hz => ?_, h.objs, h.below⟩
  have ht : d ≠ t := fun e => by rw [e, hz] at hd; cases hd
  have e : (a.put (some d) y).tmps.getD t undef = a.tmps.getD t undef := by simp [Act.put, Array.getD_eq_getD_getElem?, Array.getElem?_setIfInBounds_ne ht]
  rw [e]; exact h.env t z hz
theorem Rel.putO' (h : Rel N I0 w0 st β a w) {o : Option Nat} (hd : ∀ d, o = some d → get st.env d = none) {y : Value} : Rel N I0 w0 st β (a.put o y) w := by
  cases o with
  | none => exact h
  | some d => exact h.put' (hd d rfl)
theorem put_ne {o : Option Nat} {dj : Nat} {y : Value} (h : ∀ d, o = some d → d ≠ dj) : (a.put o y).tmps.getD dj undef = a.tmps.getD dj undef := by
  cases o with
  | none => rfl
  | some d => simp [Act.put, Array.getD_eq_getD_getElem?, Array.getElem?_setIfInBounds_ne (h d rfl)]
theorem rep_world {B : Nat} {T : Nat → Ob} {x : AV} {v : Value} {w' : World} (hb : Below w.heap.size w w') (h : Rep (Im I0 B T β w) T β w x v) : Rep (Im I0 B T β w') T β w' x v :=
  h.mono (fun b ⟨h1, h2, h3⟩ => ⟨⟨h1, Nat.lt_of_lt_of_le h2 hb.size, h3⟩, fun o => hb.cell (p := ⟨b, o, none⟩) h2⟩) fun i hi => ⟨hi, fun e s es' h' => ⟨rfl, es', h', rfl⟩⟩
theorem get_append (e e' : List (Nat × AV)) (t : Nat) : get (e ++ e') t = (get e t).or (get e' t) := by
  induction e with
  | nil => simp [get]
  | cons p e ih =>
    obtain ⟨k, v⟩ := p
    simp only [List.cons_append, get]
    split
    · simp
    · exact ih
theorem get_mem {e : List (Nat × AV)} {t : Nat} {x : AV} (h : get e t = some x) : (t, x) ∈ e := by
  induction e with
  | nil => simp [get] at h
  | cons p e ih =>
    obtain ⟨k, v⟩ := p
    simp only [get] at h
    split at h
    · rename_i hk; cases h; subst hk; exact .head _
    · exact .tail _ (ih h)
theorem Rel.more (h : Rel N I0 w0 st β a w) {e : List (Nat × AV)} (he : ∀ t x, (t, x) ∈ e → Rep (Im I0 w0.heap.size st.T β w) st.T β w x (a.tmps.getD t undef)) : Rel N I0 w0 ⟨e ++ st.env, st.T⟩ β a w := by
  refine ⟨h.old, h.size, h.defers, fun t x hx => ?_, h.objs, h.below⟩
  simp only [get_append] at hx
  cases hg : get e t with
  | none => rw [hg] at hx; exact h.env t x (by simpa using hx)
  | some y => rw [hg] at hx; simp at hx; subst hx; exact he t y (get_mem hg)

theorem unl_lt (n : Nat) (L : Array Bool) {i : Nat} (hL : L.size = n) (hi : i < n) (h : L.getD i true = false) :
    ((List.range n).filter fun j => !(L.setIfInBounds i true).getD j true).length < ((List.range n).filter fun j => !L.getD j true).length := by
  have e1 : ((List.range n).filter fun j => !(L.setIfInBounds i true).getD j true) = ((List.range n).filter fun j => !L.getD j true).filter fun j => j != i := by
    rw [List.filter_filter]
    apply List.filter_congr
    intro j hj
    have hjn : j < n := by simpa using hj
    by_cases hji : j = i
    · subst hji
      simp [Array.getD, hL, hjn]
    · have : (L.setIfInBounds i true).getD j true = L.getD j true := by simp [Array.getD_eq_getD_getElem?, Array.getElem?_setIfInBounds_ne (Ne.symm hji)]
      rw [this]
      simp [hji]
  rw [e1, List.length_filter_lt_length_iff_exists]
  exact ⟨i, by simp only [List.mem_filter, List.mem_range]; exact ⟨hi, by rw [h]; rfl⟩, by simp⟩

theorem listed_all {n : Nat} {L : Array Bool} (hL : L.size = n) {j : Nat} (hj : j < n) (h : L.getD j true = true) : L.getD j false = true := by
  have hs : j < L.size := by omega
  simpa [Array.getD, hs] using h
theorem mem_ready {L : Array Bool} {i : Nat} : i ∈ Region.ready .any ops L ↔ i < ops.size ∧ L.getD i true = false ∧ ∀ ed ∈ (ops.getD i default).after.toList, Region.binds .any ed = true → L.getD ed.on false = true := by
  simp only [Region.ready, List.mem_filter, List.mem_range, Bool.and_eq_true]
  constructor
  · rintro ⟨h1, h2, h3⟩
    rw [getD_some h1] at h3
    simp only [Option.map_some, Option.getD_some, ← Array.all_toList, List.all_eq_true] at h3
    refine ⟨h1, by simpa using h2, fun ed hed hb => ?_⟩
    have := h3 ed hed
    simpa [hb] using this
  · rintro ⟨h1, h2, h3⟩
    refine ⟨h1, by simp [h2], ?_⟩
    rw [getD_some h1]
    simp only [Option.map_some, Option.getD_some, ← Array.all_toList, List.all_eq_true]
    intro ed hed
    by_cases hb : Region.binds .any ed = true
    · simp [h3 ed hed hb]
    · simp [hb]
/-- Behind the drawn ones: in their order. -/
theorem tail_sound {Q' : Exit → Act → World → Prop} {m : Nat} (htail : ∀ i, m ≤ i → i < ops.size → ∀ j, j < i → (i = m ∨ j + 1 = i) → ∃ ed ∈ (ops.getD i default).after.toList, ed.on = j ∧ Region.binds .any ed = true)
    (hback : ∀ i, m ≤ i → i < ops.size → ∀ ed ∈ (ops.getD i default).after.toList, Region.binds .any ed = true → ed.on < i) :
    ∀ (q k fuel : Nat) (L : Array Bool) (a : Act) (w : World), k + q = ops.size → m ≤ k → q ≤ fuel → L.size = ops.size → (∀ j, j < ops.size → (L.getD j true = true ↔ j < k)) →
      wpOps P ops Q' (List.range' k q) a w → wpAny P .any ops Q' fuel L a w := by
  intro q
  induction q with
  | zero =>
    intro k fuel L a w hk hm hf hL hl h
    have hrdy : Region.ready .any ops L = [] := by
      rw [List.eq_nil_iff_forall_not_mem]
      intro i hi
      obtain ⟨h1, h2, _⟩ := mem_ready.1 hi
      rw [(hl i h1).2 (by omega)] at h2; cases h2
    have hQ : Q' .normal a w := h
    cases fuel with
    | zero => exact ⟨hrdy, hQ⟩
    | succ f => exact ⟨fun _ => hQ, fun i hi => by rw [hrdy] at hi; cases hi⟩
  | succ q ih =>
    intro k fuel L a w hk hm hf hL hl h
    have hkn : k < ops.size := by omega
    cases fuel with
    | zero => omega
    | succ f =>
      have honly : ∀ i, i ∈ Region.ready .any ops L ↔ i = k := by
        intro i
        rw [mem_ready]
        constructor
        · rintro ⟨h1, h2, h3⟩
          have hik : ¬ i < k := fun hlt => by rw [(hl i h1).2 hlt] at h2; cases h2
          refine Classical.byContradiction fun hne => ?_
          obtain ⟨ed, hed, hon, hb⟩ := htail i (by omega) h1 (i - 1) (by omega) (by omega)
          have := h3 ed hed hb
          rw [hon] at this
          have hk' : L.getD (i - 1) true = true := by
            have hs : i - 1 < L.size := by omega
            simpa [Array.getD, hs] using this
          have := (hl (i - 1) (by omega)).1 hk'; omega
        · rintro rfl
          refine ⟨hkn, ?_, fun ed hed hb => ?_⟩
          · cases hb : L.getD i true
            · rfl
            · have := (hl i hkn).1 hb; omega
          · have hlt := hback i hm hkn ed hed hb
            exact listed_all hL (by omega) ((hl ed.on (by omega)).2 hlt)
      refine ⟨fun hr => ?_, fun i hi => ?_⟩
      · have := (honly k).2 rfl; rw [hr] at this; cases this
      · have := (honly i).1 hi
        subst this
        rw [List.range'_succ, wpOps_cons] at h
        refine wpOp_mono (fun a' w' h' => ?_) h
        refine ih (i + 1) f _ a' w' (by omega) (by omega) (by omega) (by simpa using hL) (fun j hj => ?_) h'
        by_cases hji : j = i
        · subst hji; simp [Array.getD, hL, hj]
        · have : (L.setIfInBounds i true).getD j true = L.getD j true := by simp [Array.getD_eq_getD_getElem?, Array.getElem?_setIfInBounds_ne (Ne.symm hji)]
          rw [this, hl j hj]; omega

theorem adraw_sound {m : Nat} {eff : Eff} {R : List AV} (hchk : drawChk N ops st.env m = true) (heff : ∀ e Te, eff = some (e, Te) → e < m) (hR : R.length = m) (hone : ∀ i, i < m → OneE P N ops Q st eff R i)
    {s : ASt} (hs : Ent ⟨envAll ops R ++ st.env, effT st.T eff⟩ s) (hQ : AOps P N ops Q (List.range' m (ops.size - m)) s) :
    ∀ (fuel : Nat) (L : Array Bool) (β : Nat → Value) (a : Act) (w : World) (T : Nat → Ob), L.size = ops.size → ((List.range ops.size).filter fun j => !L.getD j true).length ≤ fuel →
      (∀ i, m ≤ i → i < ops.size → L.getD i true = false) → (∀ e Te, eff = some (e, Te) → T = if L.getD e true = true then effT st.T eff else st.T) → (eff = none → T = st.T) →
      Rel N I0 w0 ⟨st.env, T⟩ β a w →
      (∀ e Te, eff = some (e, Te) → L.getD e true = true → ∀ ed ∈ (ops.getD e default).after.toList, Region.binds .any ed = true → L.getD ed.on true = true) →
      (∀ i d, i < m → L.getD i true = true → (ops.getD i default).dst = some d → Rep (Im I0 w0.heap.size T β w) T β w (R.getD i undefV) (a.tmps.getD d undef)) →
      wpAny P .any ops (lift N I0 w0 Q) fuel L a w := by
  simp only [drawChk, Bool.and_eq_true] at hchk
  obtain ⟨⟨hm, hc1⟩, hc2⟩ := hchk
  have hm : m ≤ ops.size := by simpa using hm
  have hc : ∀ i, i < m → (∀ d, (ops.getD i default).dst = some d → d < N ∧ get st.env d = none ∧ ∀ j, j < m → j ≠ i → (ops.getD j default).dst ≠ some d) ∧
      (∀ ed ∈ (ops.getD i default).after.toList, Region.binds .any ed = true → ed.on < i) ∧
      (∀ t ∈ looks ops (ops.getD i default), ∀ j, j < m → (ops.getD j default).dst = some t → ∃ ed ∈ (ops.getD i default).after.toList, ed.on = j ∧ Region.binds .any ed = true) := by
    intro i hi
    have h1 := List.all_eq_true.1 hc1 i (by simpa using hi)
    simp only [Bool.and_eq_true] at h1
    obtain ⟨⟨h1, h2⟩, h3⟩ := h1
    refine ⟨fun d hd => ?_, fun ed hed hb => ?_, fun t ht j hj hjt => ?_⟩
    · rw [hd] at h1
      simp only [Bool.and_eq_true] at h1
      obtain ⟨⟨h5, h6⟩, h7⟩ := h1
      refine ⟨blt_lt h5, by simpa using h6, fun j hj hji hjd => ?_⟩
      have h8 : (j == i || !((ops.getD j default).dst == some d)) = true := List.all_eq_true.1 h7 j (by simpa using hj)
      rw [hjd] at h8
      simp [hji] at h8
    · have := List.all_eq_true.1 h2 ed hed
      simp only [hb, Bool.not_true, Bool.false_or] at this
      exact blt_lt this
    · have := List.all_eq_true.1 (List.all_eq_true.1 h3 t ht) j (by simpa using hj)
      simp only [hjt, BEq.rfl, Bool.not_true, Bool.false_or] at this
      obtain ⟨ed, h8, h9⟩ := List.any_eq_true.1 this
      simp only [Bool.and_eq_true, beq_iff_eq] at h9
      exact ⟨ed, h8, h9.1, h9.2⟩
  have ht : ∀ i, m ≤ i → i < ops.size → (∀ j, j < i → (i = m ∨ j + 1 = i) → ∃ ed ∈ (ops.getD i default).after.toList, ed.on = j ∧ Region.binds .any ed = true) ∧
      ∀ ed ∈ (ops.getD i default).after.toList, Region.binds .any ed = true → ed.on < i := by
    intro i hi hi2
    have h1 := List.all_eq_true.1 hc2 i (by simpa using hi2)
    have hn : Nat.blt i m = false := by
      cases hb : Nat.blt i m
      · rfl
      · have := blt_lt hb; omega
    rw [hn, Bool.false_or, Bool.and_eq_true] at h1
    refine ⟨fun j hj hjm => ?_, fun ed hed hb => ?_⟩
    · have := List.all_eq_true.1 h1.1 j (by simpa using hj)
      have hb : (Nat.blt m i && !(j + 1 == i)) = false := by
        rcases hjm with rfl | rfl
        · rw [hn]; rfl
        · simp
      rw [hb, Bool.false_or] at this
      obtain ⟨ed, h8, h9⟩ := List.any_eq_true.1 this
      simp only [Bool.and_eq_true, beq_iff_eq] at h9
      exact ⟨ed, h8, h9.1, h9.2⟩
    · have := List.all_eq_true.1 h1.2 ed hed
      simp only [hb, Bool.not_true, Bool.false_or] at this
      exact blt_lt this
  intro fuel
  induction fuel with
  | zero =>
    intro L β a w T hL hu htl hT1 hT2 hr hah hl
    have h0 : ((List.range ops.size).filter fun j => !L.getD j true) = [] := List.eq_nil_of_length_eq_zero (by omega)
    have hall : ∀ i, i < ops.size → L.getD i true = true := by
      intro i hi
      have := List.filter_eq_nil_iff.1 h0 i (by simpa using hi)
      simpa using this
    have hmn : m = ops.size := by
      rcases Nat.lt_or_ge m ops.size with h | h
      · have := htl m (Nat.le_refl _) h; rw [hall m h] at this; cases this
      · omega
    have hTe : T = effT st.T eff := by
      cases eff with
      | none => rw [hT2 rfl]; rfl
      | some p =>
        obtain ⟨e, Te⟩ := p
        have := hT1 e Te rfl
        rw [if_pos (hall e (by have := heff e Te rfl; omega))] at this
        exact this
    subst hTe
    obtain ⟨γ, hγ⟩ := hs N I0 w0 β a w (hr.more (st := ⟨st.env, effT st.T eff⟩) (e := envAll ops R) fun t x hx => by
      simp only [envAll, List.mem_filterMap, List.mem_range] at hx
      obtain ⟨j, hj, hjd⟩ := hx
      cases hd : (ops.getD j default).dst with
      | none => rw [hd] at hjd; cases hjd
      | some d =>
        rw [hd] at hjd
        simp only [Option.map_some, Option.some.injEq, Prod.mk.injEq] at hjd
        obtain ⟨rfl, rfl⟩ := hjd
        exact hl j d (by omega) (hall j (by omega)) hd)
    refine tail_sound (m := m) (fun i h1 h2 => (ht i h1 h2).1) (fun i h1 h2 => (ht i h1 h2).2) 0 m 0 L a w (by omega) (Nat.le_refl _) (Nat.le_refl _) hL (fun j hj => ⟨fun _ => by omega, fun _ => hall j hj⟩) ?_
    have := hQ I0 w0 γ a w hγ
    rwa [hmn, Nat.sub_self] at this
  | succ fuel ih =>
    intro L β a w T hL hu htl hT1 hT2 hr hah hl
    by_cases hdone : ∀ i, i < m → L.getD i true = true
    · have hTe : T = effT st.T eff := by
        cases eff with
        | none => rw [hT2 rfl]; rfl
        | some p =>
          obtain ⟨e, Te⟩ := p
          have := hT1 e Te rfl
          rw [if_pos (hdone e (heff e Te rfl))] at this
          exact this
      subst hTe
      obtain ⟨γ, hγ⟩ := hs N I0 w0 β a w (hr.more (st := ⟨st.env, effT st.T eff⟩) (e := envAll ops R) fun t x hx => by
        simp only [envAll, List.mem_filterMap, List.mem_range] at hx
        obtain ⟨j, hj, hjd⟩ := hx
        cases hd : (ops.getD j default).dst with
        | none => rw [hd] at hjd; cases hjd
        | some d =>
          rw [hd] at hjd
          simp only [Option.map_some, Option.some.injEq, Prod.mk.injEq] at hjd
          obtain ⟨rfl, rfl⟩ := hjd
          exact hl j d (by omega) (hdone j (by omega)) hd)
      have hlen : ops.size - m ≤ fuel + 1 := by
        refine Nat.le_trans ?_ hu
        have e1 : ((List.range ops.size).filter fun j => !L.getD j true) = (List.range ops.size).filter fun j => decide (m ≤ j) := by
          apply List.filter_congr
          intro j hj
          have hj : j < ops.size := by simpa using hj
          by_cases hjm : m ≤ j
          · rw [htl j hjm hj]; simp [hjm]
          · rw [hdone j (by omega)]; simp [hjm]
        rw [e1]
        have e2 : (List.range ops.size).filter (fun j => decide (m ≤ j)) = List.range' m (ops.size - m) := by
          have hsplit : List.range ops.size = List.range m ++ List.range' m (ops.size - m) := by
            rw [List.range_eq_range', List.range_eq_range', show ops.size = m + (ops.size - m) by omega, ← List.range'_append_1]; simp
          rw [hsplit, List.filter_append]
          rw [List.filter_eq_nil_iff.2 (by intro j hj; simp at hj ⊢; exact hj), List.filter_eq_self.2 (by intro j hj; simp [List.mem_range'_1] at hj ⊢; omega)]
          simp
        rw [e2]; simp
      exact tail_sound (m := m) (fun i h1 h2 => (ht i h1 h2).1) (fun i h1 h2 => (ht i h1 h2).2) (ops.size - m) m (fuel + 1) L a w (by omega) (Nat.le_refl _) hlen hL
        (fun j hj => ⟨fun h => by
          rcases Nat.lt_or_ge j m with h1 | h1
          · exact h1
          · rw [htl j h1 hj] at h; exact absurd h (by decide), fun h => hdone j h⟩) (hQ I0 w0 γ a w hγ)
    · obtain ⟨i0, hi0, hi0'⟩ : ∃ i, i < m ∧ L.getD i true = false := by
        refine Classical.byContradiction fun hno => hdone fun i hi => ?_
        cases hb : L.getD i true
        · exact absurd ⟨i, hi, hb⟩ hno
        · rfl
      have hex : ∃ i, i ∈ Region.ready .any ops L := by
        obtain ⟨k, ⟨hk1, hk2⟩, hk3⟩ := least_exists (p := fun i => i < m ∧ L.getD i true = false) ⟨i0, hi0, hi0'⟩
        refine ⟨k, mem_ready.2 ⟨by omega, hk2, fun ed hed hb => ?_⟩⟩
        obtain ⟨_, h5, _⟩ := hc k hk1
        have hlt := h5 ed hed hb
        refine listed_all hL (by omega) ?_
        cases hbb : L.getD ed.on true
        · have := hk3 ed.on ⟨by omega, hbb⟩; omega
        · rfl
      refine ⟨fun hrdy => (by obtain ⟨i, hi⟩ := hex; rw [hrdy] at hi; cases hi), fun i hi => ?_⟩
      obtain ⟨hi1, hi2, hi3⟩ := mem_ready.1 hi
      have him : i < m := by
        rcases Nat.lt_or_ge i m with h | h
        · exact h
        · obtain ⟨j0, hj0, hj1, hj2⟩ : ∃ j0, j0 < i ∧ (i = m ∨ j0 + 1 = i) ∧ L.getD j0 true = false := by
            by_cases him : i = m
            · exact ⟨i0, by omega, .inl him, hi0'⟩
            · exact ⟨i - 1, by omega, .inr (by omega), htl (i - 1) (by omega) (by omega)⟩
          obtain ⟨ed, hed, hon, hb⟩ := (ht i h hi1).1 j0 hj0 hj1
          have := hi3 ed hed hb
          rw [hon] at this
          have h' : L.getD j0 true = true := by
            have hs : j0 < L.size := by omega
            simpa [Array.getD, hs] using this
          rw [hj2] at h'; cases h'
      obtain ⟨hcd, h5, h6⟩ := hc i him
      have hmon : ∀ j, L.getD j true = true → (L.setIfInBounds i true).getD j true = true := fun j hj => by
        by_cases hji : j = i
        · subst hji; simp [Array.getD, hL, hi1]
        · rw [show (L.setIfInBounds i true).getD j true = L.getD j true by simp [Array.getD_eq_getD_getElem?, Array.getElem?_setIfInBounds_ne (Ne.symm hji)]]; exact hj
      have hah' : ∀ e Te, eff = some (e, Te) → (L.setIfInBounds i true).getD e true = true → ∀ ed ∈ (ops.getD e default).after.toList, Region.binds .any ed = true → (L.setIfInBounds i true).getD ed.on true = true := by
        intro e Te he hle ed hed hb
        by_cases hei : e = i
        · subst hei
          refine hmon _ ?_
          have := hi3 ed hed hb
          have hs : ed.on < L.size := by have := h5 ed hed hb; omega
          simpa [Array.getD, hs] using this
        · refine hmon _ (hah e Te he ?_ ed hed hb)
          rwa [show (L.setIfInBounds i true).getD e true = L.getD e true by simp [Array.getD_eq_getD_getElem?, Array.getElem?_setIfInBounds_ne (Ne.symm hei)]] at hle
      have hs' : Rel N I0 w0 ⟨lookE ops (R.take i) (ops.getD i default) ++ st.env, T⟩ β a w := by
        refine hr.more (st := ⟨st.env, T⟩) fun t x hx => ?_
        simp only [lookE, List.mem_filterMap, List.mem_range] at hx
        obtain ⟨j, hj, hjx⟩ := hx
        have hjm : j < m := by simp at hj; omega
        cases ht' : (ops.getD j default).dst with
        | none => rw [ht'] at hjx; cases hjx
        | some t' =>
          rw [ht'] at hjx
          by_cases hct : (looks ops (ops.getD i default)).contains t' = true
          · simp only [hct, if_true] at hjx
            simp only [Option.some.injEq, Prod.mk.injEq] at hjx
            obtain ⟨rfl, rfl⟩ := hjx
            have hmem : t' ∈ looks ops (ops.getD i default) := by simpa using hct
            obtain ⟨ed, hed, hon, hb⟩ := h6 t' hmem j hjm ht'
            have hli := hi3 ed hed hb
            rw [hon] at hli
            have hli' : L.getD j true = true := by
              have hs : j < L.size := by omega
              simpa [Array.getD, hs] using hli
            have := hl j t' hjm hli' ht'
            have e : (R.take i).getD j undefV = R.getD j undefV := by
              have hji : j < i := by simp at hj; omega
              simp [List.getD, List.getElem?_take_of_lt hji]
            rw [e]; exact this
          · simp only [hct] at hjx
            cases hjx
      have hcount : ((List.range ops.size).filter fun j => !(L.setIfInBounds i true).getD j true).length ≤ fuel := by
        have := unl_lt ops.size L hL hi1 hi2; omega
      have hset : ∀ j, j ≠ i → (L.setIfInBounds i true).getD j true = L.getD j true := fun j hji => by simp [Array.getD_eq_getD_getElem?, Array.getElem?_setIfInBounds_ne (Ne.symm hji)]
      have hseti : (L.setIfInBounds i true).getD i true = true := by simp [Array.getD, hL, hi1]
      have htl' : ∀ j, m ≤ j → j < ops.size → (L.setIfInBounds i true).getD j true = false := fun j h1 h2 => by rw [hset j (by omega)]; exact htl j h1 h2
      unfold wpOp
      rw [getD_some hi1]
      have htmp : ∀ (T' : Nat → Ob) (β2 : Nat → Value) (y : Value) (w' : World), (∀ p v, Rep (Im I0 w0.heap.size T β w) T β w p v → Rep (Im I0 w0.heap.size T' β2 w') T' β2 w' p v) → Rep (Im I0 w0.heap.size T' β2 w') T' β2 w' (R.getD i undefV) y →
          ∀ j dj, j < m → (L.setIfInBounds i true).getD j true = true → (ops.getD j default).dst = some dj → Rep (Im I0 w0.heap.size T' β2 w') T' β2 w' (R.getD j undefV) ((a.put (ops.getD i default).dst y).tmps.getD dj undef) := by
        intro T' β2 y w' htr hx j dj hj hlj hdj
        by_cases hji : j = i
        · subst hji
          rw [hdj]
          have : dj < a.tmps.size := by rw [hr.size]; exact (hcd dj hdj).1
          simpa [Act.put, Array.getD, this] using hx
        · have e1 : (a.put (ops.getD i default).dst y).tmps.getD dj undef = a.tmps.getD dj undef := put_ne fun d hd e => (hcd d hd).2.2 j hj hji (by rw [hdj, e])
          rw [e1]
          rw [hset j hji] at hlj
          exact htr _ _ (hl j dj hj hlj hdj)
      have rest : (∀ e Te, eff = some (e, Te) → i ≠ e) → One P N ops Q st T R i →
          if Region.wanted (ops.getD i default) (yielded ops a.tmps) = true then (ops.getD i default).wp P a w (fun a' w' => wpAny P .any ops (lift N I0 w0 Q) fuel (L.setIfInBounds i true) a' w') (lift N I0 w0 Q) ∨ ((ops.getD i default).asks P a w ∧ LetsOut (lift N I0 w0 Q))
          else wpAny P .any ops (lift N I0 w0 Q) fuel (L.setIfInBounds i true) (a.put (ops.getD i default).dst undef) w := by
        intro hne hone'
        have hnext : ∀ (y : Value) (w' : World), Below w.heap.size w w' → Rep (Im I0 w0.heap.size T β w') T β w' (R.getD i undefV) y →
            wpAny P .any ops (lift N I0 w0 Q) fuel (L.setIfInBounds i true) (a.put (ops.getD i default).dst y) w' := by
          intro y w' hb hy
          refine ih _ β _ _ T (by simpa using hL) hcount htl' (fun e2 Te2 he2 => ?_) hT2 ((hr.world hb).putO' (st := ⟨st.env, T⟩) fun d hd => (hcd d hd).2.1) hah' (htmp T β y w' (fun p v h => rep_world hb h) hy)
          rw [hset e2 (fun h => hne e2 Te2 he2 h.symm)]; exact hT1 e2 Te2 he2
        rcases hone' with ⟨hw, hy⟩ | ⟨hw, hx⟩
        · have h1 := wanted_of hs' hw
          simp only [h1, if_true]
          exact hy I0 w0 β a w hs' _ hnext
        · have h1 := off_of hs' hw
          simp only [h1, Bool.false_eq_true, if_false]
          exact hnext undef w (Below.refl _ w) (by rw [hx]; exact .v undef)
      rcases hone i him with ⟨e, Te, he, rfl, hw, hy⟩ | ⟨hne, hy1, hy0⟩ | ⟨e, Te, he, hie, hahd, hy0⟩
      · have hT0 : T = st.T := by
          have := hT1 i Te he
          rw [hi2] at this
          simpa using this
        subst hT0
        have h1 := wanted_of hs' hw
        simp only [h1, if_true]
        refine hy I0 w0 β a w hs' _ fun y w' β2 hb htr hO hx => ?_
        refine ih _ β2 _ _ (effT st.T eff) (by simpa using hL) hcount htl' (fun e2 Te2 he2 => ?_) (fun hn => by rw [hn] at he; cases he) ?_ hah' (htmp _ β2 y w' htr hx)
        · rw [he] at he2; cases he2; rw [if_pos hseti]
        · have hr2 : Rel N I0 w0 ⟨st.env, effT st.T eff⟩ β2 a w' :=
            ⟨hr.old, hr.size, hr.defers, fun t x hx => htr _ _ (hr.env t x hx), hO, hb⟩
          exact hr2.putO' fun d hd => (hcd d hd).2.1
      · refine rest hne ?_
        cases heq : eff with
        | none =>
          rw [hT2 heq]
          exact hy0 (by rw [heq]; rfl)
        | some p =>
          obtain ⟨e, Te⟩ := p
          rw [hT1 e Te heq]
          by_cases hle : L.getD e true = true
          · rw [if_pos hle]; exact hy1
          · rw [if_neg hle]
            refine hy0 ?_
            rw [heq]
            simp only [hangs]
            cases hde : (ops.getD e default).dst with
            | none => rfl
            | some t =>
              simp only
              cases hct : (looks ops (ops.getD i default)).contains t
              · rfl
              · have hmem : t ∈ looks ops (ops.getD i default) := by simpa using hct
                obtain ⟨ed, hed, hon, hb⟩ := h6 t hmem e (heff e Te heq) hde
                have hli := hi3 ed hed hb
                rw [hon] at hli
                exact absurd (by
                  have hs : e < L.size := by have := heff e Te heq; omega
                  simpa [Array.getD, hs] using hli) hle
      · refine rest (fun e2 Te2 he2 => by rw [he] at he2; cases he2; exact hie) ?_
        have hle : ¬ L.getD e true = true := by
          intro hle
          obtain ⟨ed, hed, h9⟩ := List.any_eq_true.1 hahd
          simp only [Bool.and_eq_true, beq_iff_eq] at h9
          have := hah e Te he hle ed hed h9.2
          rw [h9.1, hi2] at this; cases this
        rw [hT1 e Te he, if_neg hle]
        exact hy0

/-! The prover's words: what the drawn operations gave, by their slots. -/
def pickE : List Nat → List (Nat × AV) → List (Nat × AV)
  | [], _ => []
  | t :: r, E => match get E t with
    | some x => (t, x) :: pickE r E
    | none => pickE r E
def RelRE (ops : Array Oper) (R : List AV) (E : List (Nat × AV)) : Prop :=
  (∀ j d, j < R.length → (ops.getD j default).dst = some d → get E d = some (R.getD j undefV)) ∧ ∀ t x, get E t = some x → ∃ j, j < R.length ∧ (ops.getD j default).dst = some t
def ADr (P : Program) (N : Nat) (ops : Array Oper) (Q : Exit → ASt → Prop) (st : ASt) (m : Nat) (eff : Eff) (E : List (Nat × AV)) (i : Nat) : Prop :=
  drawChk N ops st.env m = true → ∀ R, R.length = i → RelRE ops R E → ADraw P N ops Q st m eff R
theorem pickE_get {E : List (Nat × AV)} : ∀ {L : List Nat} {t : Nat} {x : AV}, get (pickE L E) t = some x → t ∈ L ∧ get E t = some x
  | [], t, x, h => by simp [pickE, get] at h
  | s :: r, t, x, h => by
    simp only [pickE] at h
    cases hs : get E s with
    | none => rw [hs] at h; obtain ⟨h1, h2⟩ := pickE_get h; exact ⟨.tail _ h1, h2⟩
    | some y =>
      rw [hs] at h
      simp only [get] at h
      by_cases hst : s = t
      · rw [if_pos hst] at h; cases h; subst hst; exact ⟨.head _, hs⟩
      · rw [if_neg hst] at h; obtain ⟨h1, h2⟩ := pickE_get h; exact ⟨.tail _ h1, h2⟩
def subL (L M : List Nat) : Bool := L.all fun t => M.contains t
theorem subL_refl (L : List Nat) : subL L L = true := List.all_eq_true.2 fun t ht => by simpa using ht
theorem chk_dst {m i : Nat} (h : drawChk N ops st.env m = true) (hi : i < m) {d : Nat} (hd : (ops.getD i default).dst = some d) : d < N ∧ ∀ j, j < m → j ≠ i → (ops.getD j default).dst ≠ some d := by
  simp only [drawChk, Bool.and_eq_true] at h
  have h1 := List.all_eq_true.1 h.1.2 i (by simpa using hi)
  simp only [Bool.and_eq_true] at h1
  obtain ⟨⟨h1, _⟩, _⟩ := h1
  rw [hd] at h1
  simp only [Bool.and_eq_true] at h1
  obtain ⟨⟨h5, _⟩, h7⟩ := h1
  refine ⟨blt_lt h5, fun j hj hji hjd => ?_⟩
  have h8 : (j == i || !((ops.getD j default).dst == some d)) = true := List.all_eq_true.1 h7 j (by simpa using hj)
  rw [hjd] at h8
  simp [hji] at h8
theorem get_of_mem {t : Nat} {x : AV} : ∀ {l : List (Nat × AV)}, (t, x) ∈ l → get l t ≠ none
  | [], h => by cases h
  | (k, v) :: l, h => by
    simp only [get]
    by_cases hk : k = t
    · rw [if_pos hk]; simp
    · rw [if_neg hk]
      cases h with
      | head => exact absurd rfl hk
      | tail _ h => exact get_of_mem h
theorem pick_get {R : List AV} {E : List (Nat × AV)} {L : List Nat} {o : Oper} (hR : RelRE ops R E) (hL : subL L (looks ops o) = true) (hno : ∀ j d, j < R.length → (ops.getD j default).dst = some d → get st.env d = none)
    {t : Nat} {x : AV} (hx : get (pickE L E ++ st.env) t = some x) : get (lookE ops R o ++ st.env) t = some x := by
  have hmemq : ∀ y, get (lookE ops R o) t = some y → ∃ q, q < R.length ∧ (ops.getD q default).dst = some t ∧ y = R.getD q undefV := by
    intro y hy
    have hm := get_mem hy
    simp only [lookE, List.mem_filterMap, List.mem_range] at hm
    obtain ⟨q, hq, hqx⟩ := hm
    cases hdq : (ops.getD q default).dst with
    | none => rw [hdq] at hqx; cases hqx
    | some t' =>
      rw [hdq] at hqx
      by_cases hct : (looks ops o).contains t' = true
      · simp only [hct, if_true, Option.some.injEq, Prod.mk.injEq] at hqx
        obtain ⟨rfl, rfl⟩ := hqx
        exact ⟨q, hq, hdq, rfl⟩
      · simp only [hct] at hqx; cases hqx
  rw [get_append] at hx ⊢
  cases hg : get (pickE L E) t with
  | some y =>
    rw [hg] at hx; simp at hx; subst hx
    obtain ⟨h1, h2⟩ := pickE_get hg
    obtain ⟨j, hj, hd⟩ := hR.2 t y h2
    have h3 := hR.1 j t hj hd
    rw [h2] at h3
    have hmem : (t, y) ∈ lookE ops R o := by
      simp only [lookE, List.mem_filterMap, List.mem_range]
      refine ⟨j, hj, ?_⟩
      have : (looks ops o).contains t = true := List.all_eq_true.1 hL t h1
      rw [hd]
      simp only [this, if_true]
      rw [Option.some.inj h3]
    cases hl : get (lookE ops R o) t with
    | none => exact absurd hl (get_of_mem hmem)
    | some z =>
      obtain ⟨q, hq, hdq, rfl⟩ := hmemq z hl
      have := hR.1 q t hq hdq
      rw [h2] at this
      rw [← Option.some.inj this]; rfl
  | none =>
    rw [hg] at hx
    have hx : get st.env t = some x := by simpa using hx
    cases hl : get (lookE ops R o) t with
    | none => simpa using hx
    | some y =>
      obtain ⟨q, hq, hdq, _⟩ := hmemq y hl
      rw [hno q t hq hdq] at hx; cases hx
theorem Rel.env_mono {e e' : List (Nat × AV)} {T : Nat → Ob} (hr : Rel N I0 w0 ⟨e, T⟩ β a w) (h : ∀ t x, get e' t = some x → get e t = some x) : Rel N I0 w0 ⟨e', T⟩ β a w :=
  ⟨hr.old, hr.size, hr.defers, fun t x hx => hr.env t x (h t x hx), hr.objs, hr.below⟩
theorem AYield.env_mono {o : Oper} {x : AV} {e e' : List (Nat × AV)} {T : Nat → Ob} (hy : AYield P N Q o ⟨e', T⟩ x) (h : ∀ t x, get e' t = some x → get e t = some x) : AYield P N Q o ⟨e, T⟩ x :=
  fun I0 w0 β a w hr => hy I0 w0 β a w (hr.env_mono h)
theorem AEff.env_mono {o : Oper} {x : AV} {e e' : List (Nat × AV)} {T T1 : Nat → Ob} (hy : AEff P N Q o ⟨e', T⟩ x T1) (h : ∀ t x, get e' t = some x → get e t = some x) : AEff P N Q o ⟨e, T⟩ x T1 :=
  fun I0 w0 β a w hr => hy I0 w0 β a w (hr.env_mono h)
theorem opAt_mono {i : Nat} {e e' : List (Nat × AV)} {T T' : Nat → Ob} (ho : opAt N ops ⟨e', T'⟩ i = true) (h : ∀ t x, get e' t = some x → get e t = some x) : opAt N ops ⟨e, T⟩ i = true := by
  unfold opAt at ho ⊢
  cases hg : (ops.getD i default).guard with
  | none => rfl
  | some p =>
    obtain ⟨g, want⟩ := p
    rw [hg] at ho
    simp only at ho ⊢
    cases hd : (ops.getD g default).dst with
    | none => rw [hd] at ho; cases ho
    | some t =>
      rw [hd] at ho
      simp only [Bool.and_eq_true] at ho ⊢
      refine ⟨ho.1, ?_⟩
      cases hx : get e' t with
      | none => rw [hx] at ho; cases ho.2
      | some y => rw [h t y hx]; rw [hx] at ho; exact ho.2
theorem offAt_mono {i : Nat} {e e' : List (Nat × AV)} {T T' : Nat → Ob} (ho : offAt N ops ⟨e', T'⟩ i = true) (h : ∀ t x, get e' t = some x → get e t = some x) : offAt N ops ⟨e, T⟩ i = true := by
  unfold offAt at ho ⊢
  cases hg : (ops.getD i default).guard with
  | none => rw [hg] at ho; cases ho
  | some p =>
    obtain ⟨g, want⟩ := p
    rw [hg] at ho
    simp only at ho ⊢
    cases hd : (ops.getD g default).dst with
    | none => rw [hd] at ho; cases ho
    | some t =>
      rw [hd] at ho
      simp only [Bool.and_eq_true] at ho ⊢
      refine ⟨ho.1, ?_⟩
      cases hx : get e' t with
      | none => rw [hx] at ho; cases ho.2
      | some y => rw [h t y hx]; rw [hx] at ho; exact ho.2
theorem chk_no {m : Nat} (h : drawChk N ops st.env m = true) {j d : Nat} (hj : j < m) (hd : (ops.getD j default).dst = some d) : get st.env d = none := by
  simp only [drawChk, Bool.and_eq_true] at h
  have h1 := List.all_eq_true.1 h.1.2 j (by simpa using hj)
  simp only [Bool.and_eq_true] at h1
  obtain ⟨⟨h1, _⟩, _⟩ := h1
  rw [hd] at h1
  simp only [Bool.and_eq_true] at h1
  simpa using h1.1.2
theorem rel_snoc {m : Nat} (hc : drawChk N ops st.env m = true) {R : List AV} {E : List (Nat × AV)} (hR : RelRE ops R E) (hm : R.length < m) {d : Nat} {x : AV} (hd : (ops.getD R.length default).dst = some d) : RelRE ops (R ++ [x]) ((d, x) :: E) := by
  obtain ⟨_, hdist⟩ := chk_dst hc hm hd
  refine ⟨fun j dj hj hdj => ?_, fun t y hy => ?_⟩
  · simp only [List.length_append, List.length_singleton] at hj
    simp only [get]
    by_cases hjr : j = R.length
    · subst hjr
      rw [hd] at hdj; cases hdj
      rw [if_pos rfl]; simp [List.getD]
    · have hne : d ≠ dj := fun e => hdist j (by omega) hjr (by rw [hdj, e])
      rw [if_neg hne, hR.1 j dj (by omega) hdj]
      simp [List.getD, List.getElem?_append_left (show j < R.length by omega)]
  · simp only [get] at hy
    by_cases hdt : d = t
    · subst hdt; exact ⟨R.length, by simp, hd⟩
    · rw [if_neg hdt] at hy
      obtain ⟨j, hj, hdj⟩ := hR.2 t y hy
      exact ⟨j, by simp; omega, hdj⟩
theorem take_snoc (R : List AV) (x : AV) : (R ++ [x]).take R.length = R ∧ (R ++ [x]).getD R.length undefV = x := by simp [List.getD]
/-- The next operation. -/
theorem ds {m i d : Nat} {E : List (Nat × AV)} {x : AV} (h : AYield P N Q (ops.getD i default) ⟨pickE (looks ops (ops.getD i default)) E ++ st.env, st.T⟩ x) (k : ADr P N ops Q st m none ((d, x) :: E) (i + 1))
    (hd : (ops.getD i default).dst = some d := by rfl) (hi : Nat.blt i m = true := by rfl) (hg : opAt N ops ⟨pickE (looks ops (ops.getD i default)) E ++ st.env, st.T⟩ i = true := by rfl) : ADr P N ops Q st m none E i := by
  intro hc R hRl hR
  subst hRl
  have hi := blt_lt hi
  have hp := fun t x => pick_get (st := st) (o := ops.getD R.length default) hR (subL_refl _) (fun j d hj hd => chk_no hc (by omega) hd) (t := t) (x := x)
  have hone : One P N ops Q st st.T (R ++ [x]) R.length := by
    unfold One
    rw [(take_snoc R x).1, (take_snoc R x).2]
    exact .inl ⟨opAt_mono hg hp, h.env_mono hp⟩
  exact adraw_one (.inr (.inl ⟨by simp, hone, fun _ => hone⟩)) (k hc _ (by simp) (rel_snoc hc hR hi hd))
theorem dk {m i d : Nat} {E : List (Nat × AV)} {eff : Eff} (k : ADr P N ops Q st m eff ((d, undefV) :: E) (i + 1))
    (hd : (ops.getD i default).dst = some d := by rfl) (hi : Nat.blt i m = true := by rfl) (hg : offAt N ops ⟨pickE (looks ops (ops.getD i default)) E ++ st.env, st.T⟩ i = true := by rfl) (he : (match eff with | none => true | some (e, _) => !(i == e)) = true := by rfl) : ADr P N ops Q st m eff E i := by
  intro hc R hRl hR
  subst hRl
  have hi := blt_lt hi
  have hp := fun t x => pick_get (st := st) (o := ops.getD R.length default) hR (subL_refl _) (fun j d hj hd => chk_no hc (by omega) hd) (t := t) (x := x)
  have hone : ∀ T, One P N ops Q st T (R ++ [undefV]) R.length := by
    intro T
    unfold One
    rw [(take_snoc R undefV).1, (take_snoc R undefV).2]
    exact .inr ⟨offAt_mono hg hp, rfl⟩
  exact adraw_one (.inr (.inl ⟨fun e Te h => by subst h; simpa using he, hone _, fun _ => hone _⟩)) (k hc _ (by simp) (rel_snoc hc hR hi hd))
/-- A guard that is not known: both ways. -/
theorem dg {m i g t : Nat} {eff : Eff} {E : List (Nat × AV)} {b want : Bool} (h1 : b = true → ADr P N ops Q st m eff ((t, .v (.bool true)) :: E) i) (h2 : b = false → ADr P N ops Q st m eff ((t, .v (.bool false)) :: E) i)
    (hg : (ops.getD i default).guard = some (g, want) := by rfl) (ht : (ops.getD g default).dst = some t := by rfl) (hv : get E t = some (.v (.bool b)) := by rfl) (_hn : NL b := by (fail_if_success exact NL.isT); (fail_if_success exact NL.isF); exact NL.any _) : ADr P N ops Q st m eff E i := by
  intro hc R hRl hR
  have key : ∀ c, b = c → RelRE ops R ((t, .v (.bool c)) :: E) := by
    rintro c rfl
    refine ⟨fun j d hj hd => ?_, fun q y hy => ?_⟩
    · simp only [get]
      by_cases htd : t = d
      · rw [if_pos htd]; subst htd
        have := hR.1 j t hj hd
        rw [hv] at this; exact this
      · rw [if_neg htd]; exact hR.1 j d hj hd
    · simp only [get] at hy
      by_cases htq : t = q
      · subst htq; exact hR.2 t _ hv
      · rw [if_neg htq] at hy; exact hR.2 q y hy
  cases hb : b
  · exact h2 hb hc R hRl (key false hb)
  · exact h1 hb hc R hRl (key true hb)
theorem dkn {m i g t : Nat} {eff : Eff} {E : List (Nat × AV)} (b : Bool) {want : Bool} (k : ADr P N ops Q st m eff E i) (hg : (ops.getD i default).guard = some (g, want) := by rfl) (ht : (ops.getD g default).dst = some t := by rfl)
    (hv : get E t = some (.v (.bool b)) := by rfl) : ADr P N ops Q st m eff E i := k
/-- Behind the drawn ones. -/
theorem dn {m i : Nat} {eff : Eff} {E : List (Nat × AV)} (h : AOps P N ops Q (List.range' m (ops.size - m)) ⟨E ++ st.env, effT st.T eff⟩) (hi : i = m := by rfl) : ADr P N ops Q st m eff E i := by
  intro hc R hRl hR
  subst hi
  refine ⟨[], by simpa using hRl, fun j h1 h2 => by omega, _, ?_, h⟩
  intro N' I0 w0 β a w hr
  simp only [List.append_nil] at hr
  refine ⟨β, hr.env_mono fun t x hx => ?_⟩
  rw [get_append] at hx ⊢
  cases hg : get E t with
  | some y =>
    rw [hg] at hx; simp at hx; subst hx
    obtain ⟨j, hj, hd⟩ := hR.2 t y hg
    have h1 := hR.1 j t hj hd
    rw [hg] at h1
    have hmem : (t, y) ∈ envAll ops R := by
      simp only [envAll, List.mem_filterMap, List.mem_range]
      exact ⟨j, hj, by rw [hd, Option.some.inj h1]; rfl⟩
    cases hl : get (envAll ops R) t with
    | none => exact absurd hl (get_of_mem hmem)
    | some z =>
      have hm := get_mem hl
      simp only [envAll, List.mem_filterMap, List.mem_range] at hm
      obtain ⟨q, hq, hqx⟩ := hm
      cases hdq : (ops.getD q default).dst with
      | none => rw [hdq] at hqx; cases hqx
      | some t' =>
        rw [hdq] at hqx
        simp only [Option.map_some, Option.some.injEq, Prod.mk.injEq] at hqx
        obtain ⟨rfl, rfl⟩ := hqx
        have := hR.1 q t' hq hdq
        rw [hg] at this
        rw [← Option.some.inj this]; rfl
  | none =>
    rw [hg] at hx
    have hx : get st.env t = some x := by simpa using hx
    cases hl : get (envAll ops R) t with
    | none => simpa using hx
    | some y =>
      have hm := get_mem hl
      simp only [envAll, List.mem_filterMap, List.mem_range] at hm
      obtain ⟨q, hq, hqx⟩ := hm
      cases hdq : (ops.getD q default).dst with
      | none => rw [hdq] at hqx; cases hqx
      | some t' =>
        rw [hdq] at hqx
        simp only [Option.map_some, Option.some.injEq, Prod.mk.injEq] at hqx
        obtain ⟨rfl, rfl⟩ := hqx
        rw [chk_no hc (by omega) hdq] at hx; cases hx
/-- With one that makes rows: another one, ahead of it or behind it; one that hangs on it; that one. -/
theorem d2 {m i d : Nat} {e : Nat} {Te : Nat → Ob} {E : List (Nat × AV)} {x : AV} (h0 : AYield P N Q (ops.getD i default) ⟨pickE (looks ops (ops.getD i default)) E ++ st.env, st.T⟩ x) (h1 : AYield P N Q (ops.getD i default) ⟨pickE (looks ops (ops.getD i default)) E ++ st.env, Te⟩ x)
    (k : ADr P N ops Q st m (some (e, Te)) ((d, x) :: E) (i + 1))
    (hd : (ops.getD i default).dst = some d := by rfl) (hi : Nat.blt i m = true := by rfl) (he : (i == e) = false := by rfl) (hg : opAt N ops ⟨pickE (looks ops (ops.getD i default)) E ++ st.env, st.T⟩ i = true := by rfl) : ADr P N ops Q st m (some (e, Te)) E i := by
  intro hc R hRl hR
  subst hRl
  have hi := blt_lt hi
  have hp := fun t x => pick_get (st := st) (o := ops.getD R.length default) hR (subL_refl _) (fun j d hj hd => chk_no hc (by omega) hd) (t := t) (x := x)
  have hone : ∀ T, (AYield P N Q (ops.getD R.length default) ⟨pickE (looks ops (ops.getD R.length default)) E ++ st.env, T⟩ x) → One P N ops Q st T (R ++ [x]) R.length := by
    intro T h
    unfold One
    rw [(take_snoc R x).1, (take_snoc R x).2]
    exact .inl ⟨opAt_mono hg hp, h.env_mono hp⟩
  exact adraw_one (.inr (.inl ⟨fun e' Te' h => by cases h; simpa using he, hone _ h1, fun _ => hone _ h0⟩)) (k hc _ (by simp) (rel_snoc hc hR hi hd))
theorem dh {m i d : Nat} {e : Nat} {Te : Nat → Ob} {E : List (Nat × AV)} {x : AV} (h1 : AYield P N Q (ops.getD i default) ⟨pickE (looks ops (ops.getD i default)) E ++ st.env, Te⟩ x)
    (k : ADr P N ops Q st m (some (e, Te)) ((d, x) :: E) (i + 1)) (hh : hangs ops (some (e, Te)) (ops.getD i default) = true := by rfl)
    (hd : (ops.getD i default).dst = some d := by rfl) (hi : Nat.blt i m = true := by rfl) (he : (i == e) = false := by rfl) (hg : opAt N ops ⟨pickE (looks ops (ops.getD i default)) E ++ st.env, st.T⟩ i = true := by rfl) : ADr P N ops Q st m (some (e, Te)) E i := by
  intro hc R hRl hR
  subst hRl
  have hi := blt_lt hi
  have hp := fun t x => pick_get (st := st) (o := ops.getD R.length default) hR (subL_refl _) (fun j d hj hd => chk_no hc (by omega) hd) (t := t) (x := x)
  have hone : One P N ops Q st (Te) (R ++ [x]) R.length := by
    unfold One
    rw [(take_snoc R x).1, (take_snoc R x).2]
    exact .inl ⟨opAt_mono hg hp, h1.env_mono hp⟩
  exact adraw_one (.inr (.inl ⟨fun e' Te' h => by cases h; simpa using he, hone, fun h => by rw [hh] at h; cases h⟩)) (k hc _ (by simp) (rel_snoc hc hR hi hd))
theorem de {m i d : Nat} {Te : Nat → Ob} {E : List (Nat × AV)} {x : AV} (h : AEff P N Q (ops.getD i default) ⟨pickE (looks ops (ops.getD i default)) E ++ st.env, st.T⟩ x (Te)) (k : ADr P N ops Q st m (some (i, Te)) ((d, x) :: E) (i + 1))
    (hd : (ops.getD i default).dst = some d := by rfl) (hi : Nat.blt i m = true := by rfl) (hg : opAt N ops ⟨pickE (looks ops (ops.getD i default)) E ++ st.env, st.T⟩ i = true := by rfl) : ADr P N ops Q st m (some (i, Te)) E i := by
  intro hc R hRl hR
  subst hRl
  have hi := blt_lt hi
  have hp := fun t x => pick_get (st := st) (o := ops.getD R.length default) hR (subL_refl _) (fun j d hj hd => chk_no hc (by omega) hd) (t := t) (x := x)
  refine adraw_one (.inl ⟨_, _, rfl, rfl, ?_, ?_⟩) (k hc _ (by simp) (rel_snoc hc hR hi hd))
  · rw [(take_snoc R x).1]; exact opAt_mono hg hp
  · rw [(take_snoc R x).1, (take_snoc R x).2]; exact h.env_mono hp
/-- .. that one, a store. -/
theorem rel_none {R : List AV} {E : List (Nat × AV)} {x : AV} (hR : RelRE ops R E) (hd : (ops.getD R.length default).dst = none) : RelRE ops (R ++ [x]) E := by
  refine ⟨fun j dj hj hdj => ?_, fun t y hy => ?_⟩
  · simp only [List.length_append, List.length_singleton] at hj
    by_cases hjr : j = R.length
    · subst hjr; rw [hd] at hdj; cases hdj
    · rw [hR.1 j dj (by omega) hdj]
      simp [List.getD, List.getElem?_append_left (show j < R.length by omega)]
  · obtain ⟨j, hj, hdj⟩ := hR.2 t y hy
    exact ⟨j, by simp; omega, hdj⟩
theorem deS {m i : Nat} {Te : Nat → Ob} {E : List (Nat × AV)} {x : AV} (h : AEff P N Q (ops.getD i default) ⟨pickE (looks ops (ops.getD i default)) E ++ st.env, st.T⟩ x (Te)) (k : ADr P N ops Q st m (some (i, Te)) E (i + 1))
    (hd : (ops.getD i default).dst = none := by rfl) (hi : Nat.blt i m = true := by rfl) (hg : opAt N ops ⟨pickE (looks ops (ops.getD i default)) E ++ st.env, st.T⟩ i = true := by rfl) : ADr P N ops Q st m (some (i, Te)) E i := by
  intro hc R hRl hR
  subst hRl
  have hi := blt_lt hi
  have hp := fun t x => pick_get (st := st) (o := ops.getD R.length default) hR (subL_refl _) (fun j d hj hd => chk_no hc (by omega) hd) (t := t) (x := x)
  refine adraw_one (.inl ⟨_, _, rfl, rfl, ?_, ?_⟩) (k hc (R ++ [x]) (by simp) (rel_none hR hd))
  · rw [(take_snoc R x).1]; exact opAt_mono hg hp
  · rw [(take_snoc R x).1, (take_snoc R x).2]; exact h.env_mono hp
/-- .. one that it waits for. -/
theorem db {m i d : Nat} {e : Nat} {Te : Nat → Ob} {E : List (Nat × AV)} {x : AV} (h0 : AYield P N Q (ops.getD i default) ⟨pickE (looks ops (ops.getD i default)) E ++ st.env, st.T⟩ x)
    (k : ADr P N ops Q st m (some (e, Te)) ((d, x) :: E) (i + 1)) (ha : ahead ops e i = true := by rfl)
    (hd : (ops.getD i default).dst = some d := by rfl) (hi : Nat.blt i m = true := by rfl) (he : (i == e) = false := by rfl) (hg : opAt N ops ⟨pickE (looks ops (ops.getD i default)) E ++ st.env, st.T⟩ i = true := by rfl) : ADr P N ops Q st m (some (e, Te)) E i := by
  intro hc R hRl hR
  subst hRl
  have hi := blt_lt hi
  have hp := fun t x => pick_get (st := st) (o := ops.getD R.length default) hR (subL_refl _) (fun j d hj hd => chk_no hc (by omega) hd) (t := t) (x := x)
  have hone : One P N ops Q st st.T (R ++ [x]) R.length := by
    unfold One
    rw [(take_snoc R x).1, (take_snoc R x).2]
    exact .inl ⟨opAt_mono hg hp, h0.env_mono hp⟩
  exact adraw_one (.inr (.inr ⟨e, Te, rfl, by simpa using he, ha, hone⟩)) (k hc _ (by simp) (rel_snoc hc hR hi hd))
theorem aw_draw {id : Nat} (m : Nat) (eff : Eff) (h : ADr P N ops Q st m eff [] 0) (hchk : drawChk N ops st.env m = true := by rfl) (he : (match eff with | none => true | some (e, _) => Nat.blt e m) = true := by rfl) (hm : P.follows .mixedOrders = true := by rfl) :
    AWp P N (.region id ops true) Q st := by
  obtain ⟨R, h1, h2, s, h3, h4⟩ := h hchk [] rfl ⟨fun j d hj => by simp at hj, fun t x hx => by simp [get] at hx⟩
  have heff : ∀ e Te, eff = some (e, Te) → e < m := by rintro e Te rfl; exact blt_lt he
  intro I0 w0 β a w hr
  refine wp_region_any hm ?_
  have hr' : Rel N I0 w0 st β a { w with drawn := w.drawn + 1 } := hr.world (Below.refl _ w).drew
  have hm' : m ≤ ops.size := by simp only [drawChk, Bool.and_eq_true] at hchk; simpa using hchk.1.1
  have hrep : ∀ j, j < ops.size → (Array.replicate ops.size false).getD j true = false := fun j hj => by simp [Array.getD, hj]
  refine adraw_sound (R := R) hchk heff (by simpa using h1) (fun i hi => by simpa using h2 i (Nat.zero_le _) hi) (by simpa using h3) h4 _ _ β _ _ st.T (by simp) ?_ (fun i _ h => hrep i h) (fun e Te h => ?_) (fun _ => rfl) hr' (fun e Te h hl => ?_) ?_
  · exact Nat.le_trans (List.length_filter_le _ _) (by simp)
  · rw [hrep e (by have := heff e Te h; omega)]; simp
  · rw [hrep e (by have := heff e Te h; omega)] at hl; cases hl
  · intro i d hi hl _
    rw [hrep i (by omega)] at hl; cases hl
end
end Go.Proofs.Ytafbiccgbgcooaa.AW
