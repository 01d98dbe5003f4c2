/- What the statements' walks need. -/
import Derived.Test.YtemcemimipagoaaMVa1
import Derived.Laws.BitsLemmas
set_option linter.unusedVariables false
set_option linter.unusedSimpArgs false
set_option maxRecDepth 100000
namespace Go.Proofs.Ytemcemimipagoaa.AW
open Go Go.RowKit
def looks (ops : Array Oper) (o : Oper) : List Nat := o.looksAt ops
def lookE (ops : Array Oper) (R : List AV) (o : Oper) : List (Nat × AV) :=
  (List.range R.length).filterMap fun j => match (ops.getD j default).dst with
    | some t => if (looks ops o).contains t then some (t, R.getD j undefV) else none
    | none => none
def envAll (ops : Array Oper) (R : List AV) : List (Nat × AV) :=
  (List.range R.length).filterMap fun j => (ops.getD j default).dst.map fun t => (t, R.getD j undefV)
def waits (ops : Array Oper) (j : Nat) : Nat → Nat → Bool
  | 0, i => (ops.getD i default).after.toList.any fun ed => ed.on == j && Region.binds .any ed
  | f + 1, i => ((ops.getD i default).after.toList.any fun ed => ed.on == j && Region.binds .any ed) || ((ops.getD i default).after.toList.any fun ed => Region.binds .any ed && waits ops j f ed.on)
def drawChk (N : Nat) (ops : Array Oper) (e : List (Nat × AV)) (m : Nat) : Bool :=
  Nat.ble m ops.size &&
  ((List.range m).all fun i =>
    let o := ops.getD i default
    (match o.dst with
      | some d => Nat.blt d N && (get e d).isNone && ((List.range m).all fun j => j == i || !((ops.getD j default).dst == some d))
      | none => true) &&
    (o.after.toList.all fun ed => !Region.binds .any ed || Nat.blt ed.on i) &&
    ((looks ops o).all fun t => (List.range m).all fun j => !((ops.getD j default).dst == some t) || (o.after.toList.any fun ed => ed.on == j && Region.binds .any ed))) &&
  ((List.range ops.size).all fun i => Nat.blt i m || (((List.range i).all fun j => (Nat.blt m i && !(j + 1 == i)) || bif i == m then waits ops j m i else (ops.getD i default).after.toList.any fun ed => ed.on == j && Region.binds .any ed) && (ops.getD i default).after.toList.all fun ed => !Region.binds .any ed || Nat.blt ed.on i))
section
variable {P : Program} {N : Fr} {Q : Exit → ASt → Prop} {st : ASt} {I0 : Dom} {w0 : World} {β : Nat → Value} {a : Act} {w : World} {ops : Array Oper}
abbrev Eff := Option (Nat × (Nat → Ob))
def effT (T : Nat → Ob) : Eff → Nat → Ob
  | none => T
  | some (_, Te) => Te
def hangs (ops : Array Oper) (eff : Eff) (o : Oper) : Bool := match eff with
  | none => false
  | some (e, _) => match (ops.getD e default).dst with
    | some t => (looks ops o).contains t
    | none => false
def ahead (ops : Array Oper) (e i : Nat) : Bool := (ops.getD e default).after.toList.any fun ed => ed.on == i && Region.binds .any ed
def AEff (P : Program) (N : Fr) (Q : Exit → ASt → Prop) (o : Oper) (st : ASt) (x : AV) (T1 : Nat → Ob) : Prop :=
  ∀ I0 w0 β a w, Rel N I0 w0 st β a w → ∀ K' : Act → World → Prop,
    (∀ y w' β2, Held N I0 w0 a T1 β2 w' → (∀ p v, Rep (Im I0 w0.heap.size st.T β w) st.T β w p v → Rep (Im I0 w0.heap.size T1 β2 w') T1 β2 w' p v) → Objs I0 w0.heap.size T1 β2 w' → Rep (Im I0 w0.heap.size T1 β2 w') T1 β2 w' x y → K' (a.put o.dst y) w') →
    o.wp P a w K' (lift N I0 w0 Q) ∨ False
def One (P : Program) (N : Fr) (ops : Array Oper) (Q : Exit → ASt → Prop) (st : ASt) (T : Nat → Ob) (R : List AV) (i : Nat) : Prop :=
  let o := ops.getD i default
  let s : ASt := ⟨lookE ops (R.take i) o ++ st.env, T⟩
  (opAt N ops s i = true ∧ AYield P N Q o s (R.getD i undefV)) ∨ (offAt N ops s i = true ∧ R.getD i undefV = undefV)
def OneE (P : Program) (N : Fr) (ops : Array Oper) (Q : Exit → ASt → Prop) (st : ASt) (eff : Eff) (R : List AV) (i : Nat) : Prop :=
  (∃ e Te, eff = some (e, Te) ∧ i = e ∧ opAt N ops ⟨lookE ops (R.take i) (ops.getD i default) ++ st.env, st.T⟩ i = true ∧
      AEff P N Q (ops.getD i default) ⟨lookE ops (R.take i) (ops.getD i default) ++ st.env, st.T⟩ (R.getD i undefV) (effT st.T eff)) ∨
  ((∀ e Te, eff = some (e, Te) → i ≠ e) ∧ One P N ops Q st (effT st.T eff) R i ∧ (hangs ops eff (ops.getD i default) = false → One P N ops Q st st.T R i)) ∨
  (∃ e Te, eff = some (e, Te) ∧ i ≠ e ∧ ahead ops e i = true ∧ One P N ops Q st st.T R i)
def ADraw (P : Program) (N : Fr) (ops : Array Oper) (Q : Exit → ASt → Prop) (st : ASt) (m : Nat) (eff : Eff) (R : List AV) : Prop :=
  ∃ R', (R ++ R').length = m ∧ (∀ i, R.length ≤ i → i < m → OneE P N ops Q st eff (R ++ R') i) ∧
    ∃ s, Ent N ⟨envAll ops (R ++ R') ++ st.env, effT st.T eff⟩ s ∧ AOps P N ops Q (List.range' m (ops.size - m)) s
theorem adraw_one {m : Nat} {eff : Eff} {R : List AV} {x : AV} (h : OneE P N ops Q st eff (R ++ [x]) R.length) (k : ADraw P N ops Q st m eff (R ++ [x])) : ADraw P N ops Q st m eff R := by
  obtain ⟨R', h1, h2, h3⟩ := k
  refine ⟨x :: R', by simpa using h1, fun i hi1 hi2 => ?_, by simpa using h3⟩
  by_cases hi : i = R.length
  · subst hi
    have e1 : (R ++ x :: R').take R.length = (R ++ [x]).take R.length := by simp
    have e2 : (R ++ x :: R').getD R.length undefV = (R ++ [x]).getD R.length undefV := by simp [List.getD]
    unfold OneE One at h ⊢
    rw [e1, e2]; exact h
  · have := h2 i (by simp; omega) hi2
    simpa using this
theorem Rel.put' (h : Rel N I0 w0 st β a w) {d : Nat} (hd : get st.env d = none) {y : Value} : Rel N I0 w0 st β (a.put (some d) y) w := by
  refine ⟨h.old, by simpa [Act.put] using h.size, h.defers, fun t z hz => ?_, h.objs, h.below, h.step, h.base, h.pins⟩
  have ht : d ≠ t := fun e => by rw [e, hz] at hd; cases hd
  have e : (a.put (some d) y).tmps.getD t undef = a.tmps.getD t undef := by simp [Act.put, Array.getD_eq_getD_getElem?, Array.getElem?_setIfInBounds_ne ht]
  rw [e]; exact h.env t z hz
theorem Rel.putO' (h : Rel N I0 w0 st β a w) {o : Option Nat} (hd : ∀ d, o = some d → get st.env d = none) {y : Value} : Rel N I0 w0 st β (a.put o y) w := by
  cases o with
  | none => exact h
  | some d => exact h.put' (hd d rfl)
theorem put_ne {o : Option Nat} {dj : Nat} {y : Value} (h : ∀ d, o = some d → d ≠ dj) : (a.put o y).tmps.getD dj undef = a.tmps.getD dj undef := by
  cases o with
  | none => rfl
  | some d => simp [Act.put, Array.getD_eq_getD_getElem?, Array.getElem?_setIfInBounds_ne (h d rfl)]
theorem rep_world {B : Nat} {T : Nat → Ob} {x : AV} {v : Value} {w' : World} (hb : Below w.heap.size w w') (h : Rep (Im I0 B T β w) T β w x v) : Rep (Im I0 B T β w') T β w' x v :=
  h.mono (fun b ⟨h1, h2, h3⟩ => ⟨⟨h1, Nat.lt_of_lt_of_le h2 hb.size, h3⟩, fun o => hb.cell (p := ⟨b, o, none⟩) h2⟩) fun i hi => ⟨hi, fun e s es' h' => ⟨rfl, es', h', rfl⟩⟩
theorem get_append (e e' : List (Nat × AV)) (t : Nat) : get (e ++ e') t = (get e t).or (get e' t) := by
  induction e with
  | nil => simp [get]
  | cons p e ih =>
    obtain ⟨k, v⟩ := p
    simp only [List.cons_append, get]
    split
    · simp
    · exact ih
theorem get_mem {e : List (Nat × AV)} {t : Nat} {x : AV} (h : get e t = some x) : (t, x) ∈ e := by
  induction e with
  | nil => simp [get] at h
  | cons p e ih =>
    obtain ⟨k, v⟩ := p
    simp only [get] at h
    split at h
    · rename_i hk; cases h; subst hk; exact .head _
    · exact .tail _ (ih h)
theorem Rel.more (h : Rel N I0 w0 st β a w) {e : List (Nat × AV)} (he : ∀ t x, (t, x) ∈ e → Rep (Im I0 w0.heap.size st.T β w) st.T β w x (a.tmps.getD t undef)) : Rel N I0 w0 ⟨e ++ st.env, st.T⟩ β a w := by
  refine ⟨h.old, h.size, h.defers, fun t x hx => ?_, h.objs, h.below, h.step, h.base, h.pins⟩
  simp only [get_append] at hx
  cases hg : get e t with
  | none => rw [hg] at hx; exact h.env t x (by simpa using hx)
  | some y => rw [hg] at hx; simp at hx; subst hx; exact he t y (get_mem hg)
theorem unl_lt (n : Nat) (L : Array Bool) {i : Nat} (hL : L.size = n) (hi : i < n) (h : L.getD i true = false) :
    ((List.range n).filter fun j => !(L.setIfInBounds i true).getD j true).length < ((List.range n).filter fun j => !L.getD j true).length := by
  have e1 : ((List.range n).filter fun j => !(L.setIfInBounds i true).getD j true) = ((List.range n).filter fun j => !L.getD j true).filter fun j => j != i := by
    rw [List.filter_filter]
    apply List.filter_congr
    intro j hj
    have hjn : j < n := by simpa using hj
    by_cases hji : j = i
    · subst hji
      simp [Array.getD, hL, hjn]
    · have : (L.setIfInBounds i true).getD j true = L.getD j true := by simp [Array.getD_eq_getD_getElem?, Array.getElem?_setIfInBounds_ne (Ne.symm hji)]
      rw [this]
      simp [hji]
  rw [e1, List.length_filter_lt_length_iff_exists]
  exact ⟨i, by simp only [List.mem_filter, List.mem_range]; exact ⟨hi, by rw [h]; rfl⟩, by simp⟩
theorem listed_all {n : Nat} {L : Array Bool} (hL : L.size = n) {j : Nat} (hj : j < n) (h : L.getD j true = true) : L.getD j false = true := by
  have hs : j < L.size := by omega
  simpa [Array.getD, hs] using h
theorem mem_ready {L : Array Bool} {i : Nat} : i ∈ Region.ready .any ops L ↔ i < ops.size ∧ L.getD i true = false ∧ ∀ ed ∈ (ops.getD i default).after.toList, Region.binds .any ed = true → L.getD ed.on false = true := by
  simp only [Region.ready, List.mem_filter, List.mem_range, Bool.and_eq_true]
  constructor
  · rintro ⟨h1, h2, h3⟩
    rw [getD_some h1] at h3
    simp only [Option.map_some, Option.getD_some, ← Array.all_toList, List.all_eq_true] at h3
    refine ⟨h1, by simpa using h2, fun ed hed hb => ?_⟩
    have := h3 ed hed
    simpa [hb] using this
  · rintro ⟨h1, h2, h3⟩
    refine ⟨h1, by simp [h2], ?_⟩
    rw [getD_some h1]
    simp only [Option.map_some, Option.getD_some, ← Array.all_toList, List.all_eq_true]
    intro ed hed
    by_cases hb : Region.binds .any ed = true
    · simp [h3 ed hed hb]
    · simp [hb]
theorem waits_listed {m j : Nat} {L : Array Bool} (hc : ∀ i, i < m → ∀ ed ∈ (ops.getD i default).after.toList, Region.binds .any ed = true → ed.on < i)
    (hah : ∀ i, i < m → L.getD i true = true → ∀ ed ∈ (ops.getD i default).after.toList, Region.binds .any ed = true → L.getD ed.on true = true) :
    ∀ (f i : Nat), (∀ ed ∈ (ops.getD i default).after.toList, Region.binds .any ed = true → L.getD ed.on true = true ∧ ed.on < m) → waits ops j f i = true → L.getD j true = true := by
  have direct : ∀ i, (∀ ed ∈ (ops.getD i default).after.toList, Region.binds .any ed = true → L.getD ed.on true = true ∧ ed.on < m) → ((ops.getD i default).after.toList.any fun ed => ed.on == j && Region.binds .any ed) = true → L.getD j true = true := by
    intro i h1 h2
    obtain ⟨ed, h3, h4⟩ := List.any_eq_true.1 h2
    simp only [Bool.and_eq_true, beq_iff_eq] at h4
    rw [← h4.1]; exact (h1 ed h3 h4.2).1
  intro f
  induction f with
  | zero => exact fun i h1 h2 => direct i h1 h2
  | succ f ih =>
    intro i h1 h2
    simp only [waits, Bool.or_eq_true] at h2
    rcases h2 with h2 | h2
    · exact direct i h1 h2
    · obtain ⟨ed, h3, h4⟩ := List.any_eq_true.1 h2
      simp only [Bool.and_eq_true] at h4
      obtain ⟨h5, h6⟩ := h1 ed h3 h4.1
      exact ih ed.on (fun ed' h7 h8 => ⟨hah ed.on h6 h5 ed' h7 h8, Nat.lt_trans (hc ed.on h6 ed' h7 h8) h6⟩) h4.2
theorem tail_sound {Q' : Exit → Act → World → Prop} {m : Nat} (htail : ∀ i, m < i → i < ops.size → ∀ j, j < i → j + 1 = i → ∃ ed ∈ (ops.getD i default).after.toList, ed.on = j ∧ Region.binds .any ed = true)
    (hback : ∀ i, m ≤ i → i < ops.size → ∀ ed ∈ (ops.getD i default).after.toList, Region.binds .any ed = true → ed.on < i) :
    ∀ (q k fuel : Nat) (L : Array Bool) (a : Act) (w : World), k + q = ops.size → m ≤ k → q ≤ fuel → L.size = ops.size → (∀ j, j < ops.size → (L.getD j true = true ↔ j < k)) →
      wpOps P ops Q' (List.range' k q) a w → wpAny P .any ops Q' fuel L a w := by
  intro q
  induction q with
  | zero =>
    intro k fuel L a w hk hm hf hL hl h
    have hrdy : Region.ready .any ops L = [] := by
      rw [List.eq_nil_iff_forall_not_mem]
      intro i hi
      obtain ⟨h1, h2, _⟩ := mem_ready.1 hi
      rw [(hl i h1).2 (by omega)] at h2; cases h2
    have hQ : Q' .normal a w := h
    cases fuel with
    | zero => exact ⟨hrdy, hQ⟩
    | succ f => exact ⟨fun _ => hQ, fun i hi => by rw [hrdy] at hi; cases hi⟩
  | succ q ih =>
    intro k fuel L a w hk hm hf hL hl h
    have hkn : k < ops.size := by omega
    cases fuel with
    | zero => omega
    | succ f =>
      have honly : ∀ i, i ∈ Region.ready .any ops L ↔ i = k := by
        intro i
        rw [mem_ready]
        constructor
        · rintro ⟨h1, h2, h3⟩
          have hik : ¬ i < k := fun hlt => by rw [(hl i h1).2 hlt] at h2; cases h2
          refine Classical.byContradiction fun hne => ?_
          obtain ⟨ed, hed, hon, hb⟩ := htail i (by omega) h1 (i - 1) (by omega) (by omega)
          have := h3 ed hed hb
          rw [hon] at this
          have hk' : L.getD (i - 1) true = true := by
            have hs : i - 1 < L.size := by omega
            simpa [Array.getD, hs] using this
          have := (hl (i - 1) (by omega)).1 hk'; omega
        · rintro rfl
          refine ⟨hkn, ?_, fun ed hed hb => ?_⟩
          · cases hb : L.getD i true
            · rfl
            · have := (hl i hkn).1 hb; omega
          · have hlt := hback i hm hkn ed hed hb
            exact listed_all hL (by omega) ((hl ed.on (by omega)).2 hlt)
      refine ⟨fun hr => ?_, fun i hi => ?_⟩
      · have := (honly k).2 rfl; rw [hr] at this; cases this
      · have := (honly i).1 hi
        subst this
        rw [List.range'_succ, wpOps_cons] at h
        refine wpOp_mono (fun a' w' h' => ?_) h
        refine ih (i + 1) f _ a' w' (by omega) (by omega) (by omega) (by simpa using hL) (fun j hj => ?_) h'
        by_cases hji : j = i
        · subst hji; simp [Array.getD, hL, hj]
        · have : (L.setIfInBounds i true).getD j true = L.getD j true := by simp [Array.getD_eq_getD_getElem?, Array.getElem?_setIfInBounds_ne (Ne.symm hji)]
          rw [this, hl j hj]; omega
theorem adraw_sound {m : Nat} {eff : Eff} {R : List AV} (hchk : drawChk N ops st.env m = true) (heff : ∀ e Te, eff = some (e, Te) → e < m) (hR : R.length = m) (hone : ∀ i, i < m → OneE P N ops Q st eff R i)
    {s : ASt} (hs : Ent N ⟨envAll ops R ++ st.env, effT st.T eff⟩ s) (hQ : AOps P N ops Q (List.range' m (ops.size - m)) s) :
    ∀ (fuel : Nat) (L : Array Bool) (β : Nat → Value) (a : Act) (w : World) (T : Nat → Ob), L.size = ops.size → ((List.range ops.size).filter fun j => !L.getD j true).length ≤ fuel →
      (∀ i, m ≤ i → i < ops.size → L.getD i true = false) → (∀ e Te, eff = some (e, Te) → T = if L.getD e true = true then effT st.T eff else st.T) → (eff = none → T = st.T) →
      Rel N I0 w0 ⟨st.env, T⟩ β a w →
      (∀ e, e < m → L.getD e true = true → ∀ ed ∈ (ops.getD e default).after.toList, Region.binds .any ed = true → L.getD ed.on true = true) →
      (∀ i d, i < m → L.getD i true = true → (ops.getD i default).dst = some d → Rep (Im I0 w0.heap.size T β w) T β w (R.getD i undefV) (a.tmps.getD d undef)) →
      wpAny P .any ops (lift N I0 w0 Q) fuel L a w := by
  simp only [drawChk, Bool.and_eq_true] at hchk
  obtain ⟨⟨hm, hc1⟩, hc2⟩ := hchk
  have hm : m ≤ ops.size := by simpa using hm
  have hc : ∀ i, i < m → (∀ d, (ops.getD i default).dst = some d → d < N ∧ get st.env d = none ∧ ∀ j, j < m → j ≠ i → (ops.getD j default).dst ≠ some d) ∧
      (∀ ed ∈ (ops.getD i default).after.toList, Region.binds .any ed = true → ed.on < i) ∧
      (∀ t ∈ looks ops (ops.getD i default), ∀ j, j < m → (ops.getD j default).dst = some t → ∃ ed ∈ (ops.getD i default).after.toList, ed.on = j ∧ Region.binds .any ed = true) := by
    intro i hi
    have h1 := List.all_eq_true.1 hc1 i (by simpa using hi)
    simp only [Bool.and_eq_true] at h1
    obtain ⟨⟨h1, h2⟩, h3⟩ := h1
    refine ⟨fun d hd => ?_, fun ed hed hb => ?_, fun t ht j hj hjt => ?_⟩
    · rw [hd] at h1
      simp only [Bool.and_eq_true] at h1
      obtain ⟨⟨h5, h6⟩, h7⟩ := h1
      refine ⟨blt_lt h5, by simpa using h6, fun j hj hji hjd => ?_⟩
      have h8 : (j == i || !((ops.getD j default).dst == some d)) = true := List.all_eq_true.1 h7 j (by simpa using hj)
      rw [hjd] at h8
      simp [hji] at h8
    · have := List.all_eq_true.1 h2 ed hed
      simp only [hb, Bool.not_true, Bool.false_or] at this
      exact blt_lt this
    · have := List.all_eq_true.1 (List.all_eq_true.1 h3 t ht) j (by simpa using hj)
      simp only [hjt, BEq.rfl, Bool.not_true, Bool.false_or] at this
      obtain ⟨ed, h8, h9⟩ := List.any_eq_true.1 this
      simp only [Bool.and_eq_true, beq_iff_eq] at h9
      exact ⟨ed, h8, h9.1, h9.2⟩
  have ht : ∀ i, m ≤ i → i < ops.size → (∀ j, j < i → m < i → j + 1 = i → ∃ ed ∈ (ops.getD i default).after.toList, ed.on = j ∧ Region.binds .any ed = true) ∧
      (i = m → ∀ j, j < m → waits ops j m m = true) ∧
      ∀ ed ∈ (ops.getD i default).after.toList, Region.binds .any ed = true → ed.on < i := by
    intro i hi hi2
    have h1 := List.all_eq_true.1 hc2 i (by simpa using hi2)
    have hn : Nat.blt i m = false := by
      cases hb : Nat.blt i m
      · rfl
      · have := blt_lt hb; omega
    rw [hn, Bool.false_or, Bool.and_eq_true] at h1
    refine ⟨fun j hj hmi hjm => ?_, fun him j hj => ?_, fun ed hed hb => ?_⟩
    · have := List.all_eq_true.1 h1.1 j (by simpa using hj)
      have hb : (Nat.blt m i && !(j + 1 == i)) = false := by
        subst hjm; simp
      have hne : (i == m) = false := by simp; omega
      rw [hb, Bool.false_or, hne, cond_false] at this
      obtain ⟨ed, h8, h9⟩ := List.any_eq_true.1 this
      simp only [Bool.and_eq_true, beq_iff_eq] at h9
      exact ⟨ed, h8, h9.1, h9.2⟩
    · subst him
      have := List.all_eq_true.1 h1.1 j (by simpa using hj)
      rw [hn, Bool.false_and, Bool.false_or, BEq.rfl, cond_true] at this
      exact this
    · have := List.all_eq_true.1 h1.2 ed hed
      simp only [hb, Bool.not_true, Bool.false_or] at this
      exact blt_lt this
  intro fuel
  induction fuel with
  | zero =>
    intro L β a w T hL hu htl hT1 hT2 hr hah hl
    have h0 : ((List.range ops.size).filter fun j => !L.getD j true) = [] := List.eq_nil_of_length_eq_zero (by omega)
    have hall : ∀ i, i < ops.size → L.getD i true = true := by
      intro i hi
      have := List.filter_eq_nil_iff.1 h0 i (by simpa using hi)
      simpa using this
    have hmn : m = ops.size := by
      rcases Nat.lt_or_ge m ops.size with h | h
      · have := htl m (Nat.le_refl _) h; rw [hall m h] at this; cases this
      · omega
    have hTe : T = effT st.T eff := by
      cases eff with
      | none => rw [hT2 rfl]; rfl
      | some p =>
        obtain ⟨e, Te⟩ := p
        have := hT1 e Te rfl
        rw [if_pos (hall e (by have := heff e Te rfl; omega))] at this
        exact this
    subst hTe
    obtain ⟨γ, hγ⟩ := hs I0 w0 β a w (hr.more (st := ⟨st.env, effT st.T eff⟩) (e := envAll ops R) fun t x hx => by
      simp only [envAll, List.mem_filterMap, List.mem_range] at hx
      obtain ⟨j, hj, hjd⟩ := hx
      cases hd : (ops.getD j default).dst with
      | none => rw [hd] at hjd; cases hjd
      | some d =>
        rw [hd] at hjd
        simp only [Option.map_some, Option.some.injEq, Prod.mk.injEq] at hjd
        obtain ⟨rfl, rfl⟩ := hjd
        exact hl j d (by omega) (hall j (by omega)) hd)
    refine tail_sound (m := m) (fun i h1 h2 j h3 h4 => (ht i (Nat.le_of_lt h1) h2).1 j h3 h1 h4) (fun i h1 h2 => (ht i h1 h2).2.2) 0 m 0 L a w (by omega) (Nat.le_refl _) (Nat.le_refl _) hL (fun j hj => ⟨fun _ => by omega, fun _ => hall j hj⟩) ?_
    have := hQ I0 w0 γ a w hγ
    rwa [hmn, Nat.sub_self] at this
  | succ fuel ih =>
    intro L β a w T hL hu htl hT1 hT2 hr hah hl
    by_cases hdone : ∀ i, i < m → L.getD i true = true
    · have hTe : T = effT st.T eff := by
        cases eff with
        | none => rw [hT2 rfl]; rfl
        | some p =>
          obtain ⟨e, Te⟩ := p
          have := hT1 e Te rfl
          rw [if_pos (hdone e (heff e Te rfl))] at this
          exact this
      subst hTe
      obtain ⟨γ, hγ⟩ := hs I0 w0 β a w (hr.more (st := ⟨st.env, effT st.T eff⟩) (e := envAll ops R) fun t x hx => by
        simp only [envAll, List.mem_filterMap, List.mem_range] at hx
        obtain ⟨j, hj, hjd⟩ := hx
        cases hd : (ops.getD j default).dst with
        | none => rw [hd] at hjd; cases hjd
        | some d =>
          rw [hd] at hjd
          simp only [Option.map_some, Option.some.injEq, Prod.mk.injEq] at hjd
          obtain ⟨rfl, rfl⟩ := hjd
          exact hl j d (by omega) (hdone j (by omega)) hd)
      have hlen : ops.size - m ≤ fuel + 1 := by
        refine Nat.le_trans ?_ hu
        have e1 : ((List.range ops.size).filter fun j => !L.getD j true) = (List.range ops.size).filter fun j => decide (m ≤ j) := by
          apply List.filter_congr
          intro j hj
          have hj : j < ops.size := by simpa using hj
          by_cases hjm : m ≤ j
          · rw [htl j hjm hj]; simp [hjm]
          · rw [hdone j (by omega)]; simp [hjm]
        rw [e1]
        have e2 : (List.range ops.size).filter (fun j => decide (m ≤ j)) = List.range' m (ops.size - m) := by
          have hsplit : List.range ops.size = List.range m ++ List.range' m (ops.size - m) := by
            rw [List.range_eq_range', List.range_eq_range', show ops.size = m + (ops.size - m) by omega, ← List.range'_append_1]; simp
          rw [hsplit, List.filter_append]
          rw [List.filter_eq_nil_iff.2 (by intro j hj; simp at hj ⊢; exact hj), List.filter_eq_self.2 (by intro j hj; simp [List.mem_range'_1] at hj ⊢; omega)]
          simp
        rw [e2]; simp
      exact tail_sound (m := m) (fun i h1 h2 j h3 h4 => (ht i (Nat.le_of_lt h1) h2).1 j h3 h1 h4) (fun i h1 h2 => (ht i h1 h2).2.2) (ops.size - m) m (fuel + 1) L a w (by omega) (Nat.le_refl _) hlen hL
        (fun j hj => ⟨fun h => by
          rcases Nat.lt_or_ge j m with h1 | h1
          · exact h1
          · rw [htl j h1 hj] at h; exact absurd h (by decide), fun h => hdone j h⟩) (hQ I0 w0 γ a w hγ)
    · obtain ⟨i0, hi0, hi0'⟩ : ∃ i, i < m ∧ L.getD i true = false := by
        refine Classical.byContradiction fun hno => hdone fun i hi => ?_
        cases hb : L.getD i true
        · exact absurd ⟨i, hi, hb⟩ hno
        · rfl
      have hex : ∃ i, i ∈ Region.ready .any ops L := by
        obtain ⟨k, ⟨hk1, hk2⟩, hk3⟩ := least_exists (p := fun i => i < m ∧ L.getD i true = false) ⟨i0, hi0, hi0'⟩
        refine ⟨k, mem_ready.2 ⟨by omega, hk2, fun ed hed hb => ?_⟩⟩
        obtain ⟨_, h5, _⟩ := hc k hk1
        have hlt := h5 ed hed hb
        refine listed_all hL (by omega) ?_
        cases hbb : L.getD ed.on true
        · have := hk3 ed.on ⟨by omega, hbb⟩; omega
        · rfl
      refine ⟨fun hrdy => (by obtain ⟨i, hi⟩ := hex; rw [hrdy] at hi; cases hi), fun i hi => ?_⟩
      obtain ⟨hi1, hi2, hi3⟩ := mem_ready.1 hi
      have him : i < m := by
        rcases Nat.lt_or_ge i m with h | h
        · exact h
        · have hli : ∀ ed ∈ (ops.getD i default).after.toList, Region.binds .any ed = true → L.getD ed.on true = true := fun ed hed hb => by
            have := hi3 ed hed hb
            have hs : ed.on < L.size := by have := (ht i h hi1).2.2 ed hed hb; omega
            simpa [Array.getD, hs] using this
          by_cases him : i = m
          · subst him
            have h' := waits_listed (fun q hq => (hc q hq).2.1) hah i i (fun ed hed hb => ⟨hli ed hed hb, (ht i h hi1).2.2 ed hed hb⟩) ((ht i h hi1).2.1 rfl i0 hi0)
            rw [hi0'] at h'; cases h'
          · obtain ⟨ed, hed, hon, hb⟩ := (ht i h hi1).1 (i - 1) (by omega) (by omega) (by omega)
            have h' := hli ed hed hb
            rw [hon, htl (i - 1) (by omega) (by omega)] at h'; cases h'
      obtain ⟨hcd, h5, h6⟩ := hc i him
      have hmon : ∀ j, L.getD j true = true → (L.setIfInBounds i true).getD j true = true := fun j hj => by
        by_cases hji : j = i
        · subst hji; simp [Array.getD, hL, hi1]
        · rw [show (L.setIfInBounds i true).getD j true = L.getD j true by simp [Array.getD_eq_getD_getElem?, Array.getElem?_setIfInBounds_ne (Ne.symm hji)]]; exact hj
      have hah' : ∀ e, e < m → (L.setIfInBounds i true).getD e true = true → ∀ ed ∈ (ops.getD e default).after.toList, Region.binds .any ed = true → (L.setIfInBounds i true).getD ed.on true = true := by
        intro e hem hle ed hed hb
        by_cases hei : e = i
        · subst hei
          refine hmon _ ?_
          have := hi3 ed hed hb
          have hs : ed.on < L.size := by have := h5 ed hed hb; omega
          simpa [Array.getD, hs] using this
        · refine hmon _ (hah e hem ?_ ed hed hb)
          rwa [show (L.setIfInBounds i true).getD e true = L.getD e true by simp [Array.getD_eq_getD_getElem?, Array.getElem?_setIfInBounds_ne (Ne.symm hei)]] at hle
      have hs' : Rel N I0 w0 ⟨lookE ops (R.take i) (ops.getD i default) ++ st.env, T⟩ β a w := by
        refine hr.more (st := ⟨st.env, T⟩) fun t x hx => ?_
        simp only [lookE, List.mem_filterMap, List.mem_range] at hx
        obtain ⟨j, hj, hjx⟩ := hx
        have hjm : j < m := by simp at hj; omega
        cases ht' : (ops.getD j default).dst with
        | none => rw [ht'] at hjx; cases hjx
        | some t' =>
          rw [ht'] at hjx
          by_cases hct : (looks ops (ops.getD i default)).contains t' = true
          · simp only [hct, if_true] at hjx
            simp only [Option.some.injEq, Prod.mk.injEq] at hjx
            obtain ⟨rfl, rfl⟩ := hjx
            have hmem : t' ∈ looks ops (ops.getD i default) := by simpa using hct
            obtain ⟨ed, hed, hon, hb⟩ := h6 t' hmem j hjm ht'
            have hli := hi3 ed hed hb
            rw [hon] at hli
            have hli' : L.getD j true = true := by
              have hs : j < L.size := by omega
              simpa [Array.getD, hs] using hli
            have := hl j t' hjm hli' ht'
            have e : (R.take i).getD j undefV = R.getD j undefV := by
              have hji : j < i := by simp at hj; omega
              simp [List.getD, List.getElem?_take_of_lt hji]
            rw [e]; exact this
          · simp only [hct] at hjx
            cases hjx
      have hcount : ((List.range ops.size).filter fun j => !(L.setIfInBounds i true).getD j true).length ≤ fuel := by
        have := unl_lt ops.size L hL hi1 hi2; omega
      have hset : ∀ j, j ≠ i → (L.setIfInBounds i true).getD j true = L.getD j true := fun j hji => by simp [Array.getD_eq_getD_getElem?, Array.getElem?_setIfInBounds_ne (Ne.symm hji)]
      have hseti : (L.setIfInBounds i true).getD i true = true := by simp [Array.getD, hL, hi1]
      have htl' : ∀ j, m ≤ j → j < ops.size → (L.setIfInBounds i true).getD j true = false := fun j h1 h2 => by rw [hset j (by omega)]; exact htl j h1 h2
      unfold wpOp
      rw [getD_some hi1]
      have htmp : ∀ (T' : Nat → Ob) (β2 : Nat → Value) (y : Value) (w' : World), (∀ p v, Rep (Im I0 w0.heap.size T β w) T β w p v → Rep (Im I0 w0.heap.size T' β2 w') T' β2 w' p v) → Rep (Im I0 w0.heap.size T' β2 w') T' β2 w' (R.getD i undefV) y →
          ∀ j dj, j < m → (L.setIfInBounds i true).getD j true = true → (ops.getD j default).dst = some dj → Rep (Im I0 w0.heap.size T' β2 w') T' β2 w' (R.getD j undefV) ((a.put (ops.getD i default).dst y).tmps.getD dj undef) := by
        intro T' β2 y w' htr hx j dj hj hlj hdj
        by_cases hji : j = i
        · subst hji
          rw [hdj]
          have : dj < a.tmps.size := by rw [hr.size]; exact (hcd dj hdj).1
          simpa [Act.put, Array.getD, this] using hx
        · have e1 : (a.put (ops.getD i default).dst y).tmps.getD dj undef = a.tmps.getD dj undef := put_ne fun d hd e => (hcd d hd).2.2 j hj hji (by rw [hdj, e])
          rw [e1]
          rw [hset j hji] at hlj
          exact htr _ _ (hl j dj hj hlj hdj)
      have rest : (∀ e Te, eff = some (e, Te) → i ≠ e) → One P N ops Q st T R i →
          if Region.wanted (ops.getD i default) (yielded ops a.tmps) = true then (ops.getD i default).wp P a w (fun a' w' => wpAny P .any ops (lift N I0 w0 Q) fuel (L.setIfInBounds i true) a' w') (lift N I0 w0 Q) ∨ False
          else wpAny P .any ops (lift N I0 w0 Q) fuel (L.setIfInBounds i true) (a.put (ops.getD i default).dst undef) w := by
        intro hne hone'
        have hnext : ∀ (y : Value) (w' : World), Below w.heap.size w w' → Rep (Im I0 w0.heap.size T β w') T β w' (R.getD i undefV) y →
            wpAny P .any ops (lift N I0 w0 Q) fuel (L.setIfInBounds i true) (a.put (ops.getD i default).dst y) w' := by
          intro y w' hb hy
          refine ih _ β _ _ T (by simpa using hL) hcount htl' (fun e2 Te2 he2 => ?_) hT2 ((hr.world hb).putO' (st := ⟨st.env, T⟩) fun d hd => (hcd d hd).2.1) hah' (htmp T β y w' (fun p v h => rep_world hb h) hy)
          rw [hset e2 (fun h => hne e2 Te2 he2 h.symm)]; exact hT1 e2 Te2 he2
        rcases hone' with ⟨hw, hy⟩ | ⟨hw, hx⟩
        · have h1 := wanted_of hs' hw
          simp only [h1, if_true]
          exact hy I0 w0 β a w hs' _ hnext
        · have h1 := off_of hs' hw
          simp only [h1, Bool.false_eq_true, if_false]
          exact hnext undef w (Below.refl _ w) (by rw [hx]; exact .v undef)
      rcases hone i him with ⟨e, Te, he, rfl, hw, hy⟩ | ⟨hne, hy1, hy0⟩ | ⟨e, Te, he, hie, hahd, hy0⟩
      · have hT0 : T = st.T := by
          have := hT1 i Te he
          rw [hi2] at this
          simpa using this
        subst hT0
        have h1 := wanted_of hs' hw
        simp only [h1, if_true]
        refine hy I0 w0 β a w hs' _ fun y w' β2 hb htr hO hx => ?_
        refine ih _ β2 _ _ (effT st.T eff) (by simpa using hL) hcount htl' (fun e2 Te2 he2 => ?_) (fun hn => by rw [hn] at he; cases he) ?_ hah' (htmp _ β2 y w' htr hx)
        · rw [he] at he2; cases he2; rw [if_pos hseti]
        · have hr2 : Rel N I0 w0 ⟨st.env, effT st.T eff⟩ β2 a w' :=
            ⟨hr.old, hr.size, hb.marks, fun t x hx => htr _ _ (hr.env t x hx), hO, hb.bel, hr.step, hb.base, hb.pins⟩
          exact hr2.putO' fun d hd => (hcd d hd).2.1
      · refine rest hne ?_
        cases heq : eff with
        | none =>
          rw [hT2 heq]
          exact hy0 (by rw [heq]; rfl)
        | some p =>
          obtain ⟨e, Te⟩ := p
          rw [hT1 e Te heq]
          by_cases hle : L.getD e true = true
          · rw [if_pos hle]; exact hy1
          · rw [if_neg hle]
            refine hy0 ?_
            rw [heq]
            simp only [hangs]
            cases hde : (ops.getD e default).dst with
            | none => rfl
            | some t =>
              simp only
              cases hct : (looks ops (ops.getD i default)).contains t
              · rfl
              · have hmem : t ∈ looks ops (ops.getD i default) := by simpa using hct
                obtain ⟨ed, hed, hon, hb⟩ := h6 t hmem e (heff e Te heq) hde
                have hli := hi3 ed hed hb
                rw [hon] at hli
                exact absurd (by
                  have hs : e < L.size := by have := heff e Te heq; omega
                  simpa [Array.getD, hs] using hli) hle
      · refine rest (fun e2 Te2 he2 => by rw [he] at he2; cases he2; exact hie) ?_
        have hle : ¬ L.getD e true = true := by
          intro hle
          obtain ⟨ed, hed, h9⟩ := List.any_eq_true.1 hahd
          simp only [Bool.and_eq_true, beq_iff_eq] at h9
          have := hah e (heff e Te he) hle ed hed h9.2
          rw [h9.1, hi2] at this; cases this
        rw [hT1 e Te he, if_neg hle]
        exact hy0
def pickE : List Nat → List (Nat × AV) → List (Nat × AV)
  | [], _ => []
  | t :: r, E => match get E t with
    | some x => (t, x) :: pickE r E
    | none => pickE r E
def RelRE (ops : Array Oper) (R : List AV) (E : List (Nat × AV)) : Prop :=
  (∀ j d, j < R.length → (ops.getD j default).dst = some d → get E d = some (R.getD j undefV)) ∧ ∀ t x, get E t = some x → ∃ j, j < R.length ∧ (ops.getD j default).dst = some t
def ADr (P : Program) (N : Fr) (ops : Array Oper) (Q : Exit → ASt → Prop) (st : ASt) (m : Nat) (eff : Eff) (E : List (Nat × AV)) (i : Nat) : Prop :=
  drawChk N ops st.env m = true → ∀ R, R.length = i → RelRE ops R E → ADraw P N ops Q st m eff R
theorem pickE_get {E : List (Nat × AV)} : ∀ {L : List Nat} {t : Nat} {x : AV}, get (pickE L E) t = some x → t ∈ L ∧ get E t = some x
  | [], t, x, h => by simp [pickE, get] at h
  | s :: r, t, x, h => by
    simp only [pickE] at h
    cases hs : get E s with
    | none => rw [hs] at h; obtain ⟨h1, h2⟩ := pickE_get h; exact ⟨.tail _ h1, h2⟩
    | some y =>
      rw [hs] at h
      simp only [get] at h
      by_cases hst : s = t
      · rw [if_pos hst] at h; cases h; subst hst; exact ⟨.head _, hs⟩
      · rw [if_neg hst] at h; obtain ⟨h1, h2⟩ := pickE_get h; exact ⟨.tail _ h1, h2⟩
def subL (L M : List Nat) : Bool := L.all fun t => M.contains t
theorem subL_refl (L : List Nat) : subL L L = true := List.all_eq_true.2 fun t ht => by simpa using ht
theorem chk_dst {m i : Nat} (h : drawChk N ops st.env m = true) (hi : i < m) {d : Nat} (hd : (ops.getD i default).dst = some d) : d < N ∧ ∀ j, j < m → j ≠ i → (ops.getD j default).dst ≠ some d := by
  simp only [drawChk, Bool.and_eq_true] at h
  have h1 := List.all_eq_true.1 h.1.2 i (by simpa using hi)
  simp only [Bool.and_eq_true] at h1
  obtain ⟨⟨h1, _⟩, _⟩ := h1
  rw [hd] at h1
  simp only [Bool.and_eq_true] at h1
  obtain ⟨⟨h5, _⟩, h7⟩ := h1
  refine ⟨blt_lt h5, fun j hj hji hjd => ?_⟩
  have h8 : (j == i || !((ops.getD j default).dst == some d)) = true := List.all_eq_true.1 h7 j (by simpa using hj)
  rw [hjd] at h8
  simp [hji] at h8
theorem get_of_mem {t : Nat} {x : AV} : ∀ {l : List (Nat × AV)}, (t, x) ∈ l → get l t ≠ none
  | [], h => by cases h
  | (k, v) :: l, h => by
    simp only [get]
    by_cases hk : k = t
    · rw [if_pos hk]; simp
    · rw [if_neg hk]
      cases h with
      | head => exact absurd rfl hk
      | tail _ h => exact get_of_mem h
theorem pick_get {R : List AV} {E : List (Nat × AV)} {L : List Nat} {o : Oper} (hR : RelRE ops R E) (hL : subL L (looks ops o) = true) (hno : ∀ j d, j < R.length → (ops.getD j default).dst = some d → get st.env d = none)
    {t : Nat} {x : AV} (hx : get (pickE L E ++ st.env) t = some x) : get (lookE ops R o ++ st.env) t = some x := by
  have hmemq : ∀ y, get (lookE ops R o) t = some y → ∃ q, q < R.length ∧ (ops.getD q default).dst = some t ∧ y = R.getD q undefV := by
    intro y hy
    have hm := get_mem hy
    simp only [lookE, List.mem_filterMap, List.mem_range] at hm
    obtain ⟨q, hq, hqx⟩ := hm
    cases hdq : (ops.getD q default).dst with
    | none => rw [hdq] at hqx; cases hqx
    | some t' =>
      rw [hdq] at hqx
      by_cases hct : (looks ops o).contains t' = true
      · simp only [hct, if_true, Option.some.injEq, Prod.mk.injEq] at hqx
        obtain ⟨rfl, rfl⟩ := hqx
        exact ⟨q, hq, hdq, rfl⟩
      · simp only [hct] at hqx; cases hqx
  rw [get_append] at hx ⊢
  cases hg : get (pickE L E) t with
  | some y =>
    rw [hg] at hx; simp at hx; subst hx
    obtain ⟨h1, h2⟩ := pickE_get hg
    obtain ⟨j, hj, hd⟩ := hR.2 t y h2
    have h3 := hR.1 j t hj hd
    rw [h2] at h3
    have hmem : (t, y) ∈ lookE ops R o := by
      simp only [lookE, List.mem_filterMap, List.mem_range]
      refine ⟨j, hj, ?_⟩
      have : (looks ops o).contains t = true := List.all_eq_true.1 hL t h1
      rw [hd]
      simp only [this, if_true]
      rw [Option.some.inj h3]
    cases hl : get (lookE ops R o) t with
    | none => exact absurd hl (get_of_mem hmem)
    | some z =>
      obtain ⟨q, hq, hdq, rfl⟩ := hmemq z hl
      have := hR.1 q t hq hdq
      rw [h2] at this
      rw [← Option.some.inj this]; rfl
  | none =>
    rw [hg] at hx
    have hx : get st.env t = some x := by simpa using hx
    cases hl : get (lookE ops R o) t with
    | none => simpa using hx
    | some y =>
      obtain ⟨q, hq, hdq, _⟩ := hmemq y hl
      rw [hno q t hq hdq] at hx; cases hx
theorem Rel.env_mono {e e' : List (Nat × AV)} {T : Nat → Ob} (hr : Rel N I0 w0 ⟨e, T⟩ β a w) (h : ∀ t x, get e' t = some x → get e t = some x) : Rel N I0 w0 ⟨e', T⟩ β a w :=
  ⟨hr.old, hr.size, hr.defers, fun t x hx => hr.env t x (h t x hx), hr.objs, hr.below, hr.step, hr.base, hr.pins⟩
theorem AYield.env_mono {o : Oper} {x : AV} {e e' : List (Nat × AV)} {T : Nat → Ob} (hy : AYield P N Q o ⟨e', T⟩ x) (h : ∀ t x, get e' t = some x → get e t = some x) : AYield P N Q o ⟨e, T⟩ x :=
  fun I0 w0 β a w hr => hy I0 w0 β a w (hr.env_mono h)
theorem AEff.env_mono {o : Oper} {x : AV} {e e' : List (Nat × AV)} {T T1 : Nat → Ob} (hy : AEff P N Q o ⟨e', T⟩ x T1) (h : ∀ t x, get e' t = some x → get e t = some x) : AEff P N Q o ⟨e, T⟩ x T1 :=
  fun I0 w0 β a w hr => hy I0 w0 β a w (hr.env_mono h)
theorem opAt_mono {i : Nat} {e e' : List (Nat × AV)} {T T' : Nat → Ob} (ho : opAt N ops ⟨e', T'⟩ i = true) (h : ∀ t x, get e' t = some x → get e t = some x) : opAt N ops ⟨e, T⟩ i = true := by
  unfold opAt at ho ⊢
  cases hg : (ops.getD i default).guard with
  | none => rfl
  | some p =>
    obtain ⟨g, want⟩ := p
    rw [hg] at ho
    simp only at ho ⊢
    cases hd : (ops.getD g default).dst with
    | none => rw [hd] at ho; cases ho
    | some t =>
      rw [hd] at ho
      simp only [Bool.and_eq_true] at ho ⊢
      refine ⟨ho.1, ?_⟩
      cases hx : get e' t with
      | none => rw [hx] at ho; cases ho.2
      | some y => rw [h t y hx]; rw [hx] at ho; exact ho.2
theorem offAt_mono {i : Nat} {e e' : List (Nat × AV)} {T T' : Nat → Ob} (ho : offAt N ops ⟨e', T'⟩ i = true) (h : ∀ t x, get e' t = some x → get e t = some x) : offAt N ops ⟨e, T⟩ i = true := by
  unfold offAt at ho ⊢
  cases hg : (ops.getD i default).guard with
  | none => rw [hg] at ho; cases ho
  | some p =>
    obtain ⟨g, want⟩ := p
    rw [hg] at ho
    simp only at ho ⊢
    cases hd : (ops.getD g default).dst with
    | none => rw [hd] at ho; cases ho
    | some t =>
      rw [hd] at ho
      simp only [Bool.and_eq_true] at ho ⊢
      refine ⟨ho.1, ?_⟩
      cases hx : get e' t with
      | none => rw [hx] at ho; cases ho.2
      | some y => rw [h t y hx]; rw [hx] at ho; exact ho.2
theorem chk_no {m : Nat} (h : drawChk N ops st.env m = true) {j d : Nat} (hj : j < m) (hd : (ops.getD j default).dst = some d) : get st.env d = none := by
  simp only [drawChk, Bool.and_eq_true] at h
  have h1 := List.all_eq_true.1 h.1.2 j (by simpa using hj)
  simp only [Bool.and_eq_true] at h1
  obtain ⟨⟨h1, _⟩, _⟩ := h1
  rw [hd] at h1
  simp only [Bool.and_eq_true] at h1
  simpa using h1.1.2
theorem rel_snoc {m : Nat} (hc : drawChk N ops st.env m = true) {R : List AV} {E : List (Nat × AV)} (hR : RelRE ops R E) (hm : R.length < m) {d : Nat} {x : AV} (hd : (ops.getD R.length default).dst = some d) : RelRE ops (R ++ [x]) ((d, x) :: E) := by
  obtain ⟨_, hdist⟩ := chk_dst hc hm hd
  refine ⟨fun j dj hj hdj => ?_, fun t y hy => ?_⟩
  · simp only [List.length_append, List.length_singleton] at hj
    simp only [get]
    by_cases hjr : j = R.length
    · subst hjr
      rw [hd] at hdj; cases hdj
      rw [if_pos rfl]; simp [List.getD]
    · have hne : d ≠ dj := fun e => hdist j (by omega) hjr (by rw [hdj, e])
      rw [if_neg hne, hR.1 j dj (by omega) hdj]
      simp [List.getD, List.getElem?_append_left (show j < R.length by omega)]
  · simp only [get] at hy
    by_cases hdt : d = t
    · subst hdt; exact ⟨R.length, by simp, hd⟩
    · rw [if_neg hdt] at hy
      obtain ⟨j, hj, hdj⟩ := hR.2 t y hy
      exact ⟨j, by simp; omega, hdj⟩
theorem take_snoc (R : List AV) (x : AV) : (R ++ [x]).take R.length = R ∧ (R ++ [x]).getD R.length undefV = x := by simp [List.getD]
theorem ds {m i d : Nat} {E : List (Nat × AV)} {x : AV} (h : AYield P N Q (ops.getD i default) ⟨pickE (looks ops (ops.getD i default)) E ++ st.env, st.T⟩ x) (k : ADr P N ops Q st m none ((d, x) :: E) (i + 1))
    (hd : (ops.getD i default).dst = some d := by rfl) (hi : Nat.blt i m = true := by rfl) (hg : opAt N ops ⟨pickE (looks ops (ops.getD i default)) E ++ st.env, st.T⟩ i = true := by rfl) : ADr P N ops Q st m none E i := by
  intro hc R hRl hR
  subst hRl
  have hi := blt_lt hi
  have hp := fun t x => pick_get (st := st) (o := ops.getD R.length default) hR (subL_refl _) (fun j d hj hd => chk_no hc (by omega) hd) (t := t) (x := x)
  have hone : One P N ops Q st st.T (R ++ [x]) R.length := by
    unfold One
    rw [(take_snoc R x).1, (take_snoc R x).2]
    exact .inl ⟨opAt_mono hg hp, h.env_mono hp⟩
  exact adraw_one (.inr (.inl ⟨by simp, hone, fun _ => hone⟩)) (k hc _ (by simp) (rel_snoc hc hR hi hd))
theorem dk {m i d : Nat} {E : List (Nat × AV)} {eff : Eff} (k : ADr P N ops Q st m eff ((d, undefV) :: E) (i + 1))
    (hd : (ops.getD i default).dst = some d := by rfl) (hi : Nat.blt i m = true := by rfl) (hg : offAt N ops ⟨pickE (looks ops (ops.getD i default)) E ++ st.env, st.T⟩ i = true := by rfl) (he : (match eff with | none => true | some (e, _) => !(i == e)) = true := by rfl) : ADr P N ops Q st m eff E i := by
  intro hc R hRl hR
  subst hRl
  have hi := blt_lt hi
  have hp := fun t x => pick_get (st := st) (o := ops.getD R.length default) hR (subL_refl _) (fun j d hj hd => chk_no hc (by omega) hd) (t := t) (x := x)
  have hone : ∀ T, One P N ops Q st T (R ++ [undefV]) R.length := by
    intro T
    unfold One
    rw [(take_snoc R undefV).1, (take_snoc R undefV).2]
    exact .inr ⟨offAt_mono hg hp, rfl⟩
  exact adraw_one (.inr (.inl ⟨fun e Te h => by subst h; simpa using he, hone _, fun _ => hone _⟩)) (k hc _ (by simp) (rel_snoc hc hR hi hd))
theorem dg {m i g t : Nat} {eff : Eff} {E : List (Nat × AV)} {b want : Bool} (h1 : b = true → ADr P N ops Q st m eff ((t, .v (.bool true)) :: E) i) (h2 : b = false → ADr P N ops Q st m eff ((t, .v (.bool false)) :: E) i)
    (hg : (ops.getD i default).guard = some (g, want) := by rfl) (ht : (ops.getD g default).dst = some t := by rfl) (hv : get E t = some (.v (.bool b)) := by rfl) (_hn : NL b := by (fail_if_success exact NL.isT); (fail_if_success exact NL.isF); exact NL.any _) : ADr P N ops Q st m eff E i := by
  intro hc R hRl hR
  have key : ∀ c, b = c → RelRE ops R ((t, .v (.bool c)) :: E) := by
    rintro c rfl
    refine ⟨fun j d hj hd => ?_, fun q y hy => ?_⟩
    · simp only [get]
      by_cases htd : t = d
      · rw [if_pos htd]; subst htd
        have := hR.1 j t hj hd
        rw [hv] at this; exact this
      · rw [if_neg htd]; exact hR.1 j d hj hd
    · simp only [get] at hy
      by_cases htq : t = q
      · subst htq; exact hR.2 t _ hv
      · rw [if_neg htq] at hy; exact hR.2 q y hy
  cases hb : b
  · exact h2 hb hc R hRl (key false hb)
  · exact h1 hb hc R hRl (key true hb)
theorem dn {m i : Nat} {eff : Eff} {E : List (Nat × AV)} (h : AOps P N ops Q (List.range' m (ops.size - m)) ⟨E ++ st.env, effT st.T eff⟩) (hi : i = m := by rfl) : ADr P N ops Q st m eff E i := by
  intro hc R hRl hR
  subst hi
  refine ⟨[], by simpa using hRl, fun j h1 h2 => by omega, _, ?_, h⟩
  intro I0 w0 β a w hr
  simp only [List.append_nil] at hr
  refine ⟨β, hr.env_mono fun t x hx => ?_⟩
  rw [get_append] at hx ⊢
  cases hg : get E t with
  | some y =>
    rw [hg] at hx; simp at hx; subst hx
    obtain ⟨j, hj, hd⟩ := hR.2 t y hg
    have h1 := hR.1 j t hj hd
    rw [hg] at h1
    have hmem : (t, y) ∈ envAll ops R := by
      simp only [envAll, List.mem_filterMap, List.mem_range]
      exact ⟨j, hj, by rw [hd, Option.some.inj h1]; rfl⟩
    cases hl : get (envAll ops R) t with
    | none => exact absurd hl (get_of_mem hmem)
    | some z =>
      have hm := get_mem hl
      simp only [envAll, List.mem_filterMap, List.mem_range] at hm
      obtain ⟨q, hq, hqx⟩ := hm
      cases hdq : (ops.getD q default).dst with
      | none => rw [hdq] at hqx; cases hqx
      | some t' =>
        rw [hdq] at hqx
        simp only [Option.map_some, Option.some.injEq, Prod.mk.injEq] at hqx
        obtain ⟨rfl, rfl⟩ := hqx
        have := hR.1 q t' hq hdq
        rw [hg] at this
        rw [← Option.some.inj this]; rfl
  | none =>
    rw [hg] at hx
    have hx : get st.env t = some x := by simpa using hx
    cases hl : get (envAll ops R) t with
    | none => simpa using hx
    | some y =>
      have hm := get_mem hl
      simp only [envAll, List.mem_filterMap, List.mem_range] at hm
      obtain ⟨q, hq, hqx⟩ := hm
      cases hdq : (ops.getD q default).dst with
      | none => rw [hdq] at hqx; cases hqx
      | some t' =>
        rw [hdq] at hqx
        simp only [Option.map_some, Option.some.injEq, Prod.mk.injEq] at hqx
        obtain ⟨rfl, rfl⟩ := hqx
        rw [chk_no hc (by omega) hdq] at hx; cases hx
theorem d2 {m i d : Nat} {e : Nat} {Te : Nat → Ob} {E : List (Nat × AV)} {x : AV} (h0 : AYield P N Q (ops.getD i default) ⟨pickE (looks ops (ops.getD i default)) E ++ st.env, st.T⟩ x) (h1 : AYield P N Q (ops.getD i default) ⟨pickE (looks ops (ops.getD i default)) E ++ st.env, Te⟩ x)
    (k : ADr P N ops Q st m (some (e, Te)) ((d, x) :: E) (i + 1))
    (hd : (ops.getD i default).dst = some d := by rfl) (hi : Nat.blt i m = true := by rfl) (he : (i == e) = false := by rfl) (hg : opAt N ops ⟨pickE (looks ops (ops.getD i default)) E ++ st.env, st.T⟩ i = true := by rfl) : ADr P N ops Q st m (some (e, Te)) E i := by
  intro hc R hRl hR
  subst hRl
  have hi := blt_lt hi
  have hp := fun t x => pick_get (st := st) (o := ops.getD R.length default) hR (subL_refl _) (fun j d hj hd => chk_no hc (by omega) hd) (t := t) (x := x)
  have hone : ∀ T, (AYield P N Q (ops.getD R.length default) ⟨pickE (looks ops (ops.getD R.length default)) E ++ st.env, T⟩ x) → One P N ops Q st T (R ++ [x]) R.length := by
    intro T h
    unfold One
    rw [(take_snoc R x).1, (take_snoc R x).2]
    exact .inl ⟨opAt_mono hg hp, h.env_mono hp⟩
  exact adraw_one (.inr (.inl ⟨fun e' Te' h => by cases h; simpa using he, hone _ h1, fun _ => hone _ h0⟩)) (k hc _ (by simp) (rel_snoc hc hR hi hd))
theorem de {m i d : Nat} {Te : Nat → Ob} {E : List (Nat × AV)} {x : AV} (h : AEff P N Q (ops.getD i default) ⟨pickE (looks ops (ops.getD i default)) E ++ st.env, st.T⟩ x (Te)) (k : ADr P N ops Q st m (some (i, Te)) ((d, x) :: E) (i + 1))
    (hd : (ops.getD i default).dst = some d := by rfl) (hi : Nat.blt i m = true := by rfl) (hg : opAt N ops ⟨pickE (looks ops (ops.getD i default)) E ++ st.env, st.T⟩ i = true := by rfl) : ADr P N ops Q st m (some (i, Te)) E i := by
  intro hc R hRl hR
  subst hRl
  have hi := blt_lt hi
  have hp := fun t x => pick_get (st := st) (o := ops.getD R.length default) hR (subL_refl _) (fun j d hj hd => chk_no hc (by omega) hd) (t := t) (x := x)
  refine adraw_one (.inl ⟨_, _, rfl, rfl, ?_, ?_⟩) (k hc _ (by simp) (rel_snoc hc hR hi hd))
  · rw [(take_snoc R x).1]; exact opAt_mono hg hp
  · rw [(take_snoc R x).1, (take_snoc R x).2]; exact h.env_mono hp
theorem rel_none {R : List AV} {E : List (Nat × AV)} {x : AV} (hR : RelRE ops R E) (hd : (ops.getD R.length default).dst = none) : RelRE ops (R ++ [x]) E := by
  refine ⟨fun j dj hj hdj => ?_, fun t y hy => ?_⟩
  · simp only [List.length_append, List.length_singleton] at hj
    by_cases hjr : j = R.length
    · subst hjr; rw [hd] at hdj; cases hdj
    · rw [hR.1 j dj (by omega) hdj]
      simp [List.getD, List.getElem?_append_left (show j < R.length by omega)]
  · obtain ⟨j, hj, hdj⟩ := hR.2 t y hy
    exact ⟨j, by simp; omega, hdj⟩
theorem aw_draw {id : Nat} (m : Nat) (eff : Eff) (h : ADr P N ops Q st m eff [] 0) (hchk : drawChk N ops st.env m = true := by rfl) (he : (match eff with | none => true | some (e, _) => Nat.blt e m) = true := by rfl) (hm : P.follows .mixedOrders = true := by rfl) (hnd : noDefer ops = true := by rfl) :
    AWp P N (.region id ops true) Q st := by
  obtain ⟨R, h1, h2, s, h3, h4⟩ := h hchk [] rfl ⟨fun j d hj => by simp at hj, fun t x hx => by simp [get] at hx⟩
  have heff : ∀ e Te, eff = some (e, Te) → e < m := by rintro e Te rfl; exact blt_lt he
  intro I0 w0 β a w hr
  refine wpR_any hnd hm ?_
  have hr' : Rel N I0 w0 st β a { w with drawn := w.drawn + 1 } := hr.world (Below.refl _ w).drew
  have hm' : m ≤ ops.size := by simp only [drawChk, Bool.and_eq_true] at hchk; simpa using hchk.1.1
  have hrep : ∀ j, j < ops.size → (Array.replicate ops.size false).getD j true = false := fun j hj => by simp [Array.getD, hj]
  refine adraw_sound (R := R) hchk heff (by simpa using h1) (fun i hi => by simpa using h2 i (Nat.zero_le _) hi) (by simpa using h3) h4 _ _ β _ _ st.T (by simp) ?_ (fun i _ h => hrep i h) (fun e Te h => ?_) (fun _ => rfl) hr' (fun e he hl => ?_) ?_
  · exact Nat.le_trans (List.length_filter_le _ _) (by simp)
  · rw [hrep e (by have := heff e Te h; omega)]; simp
  · rw [hrep e (by omega)] at hl; cases hl
  · intro i d hi hl _
    rw [hrep i (by omega)] at hl; cases hl
end
end Go.Proofs.Ytemcemimipagoaa.AW
namespace Go.Proofs.Ytemcemimipagoaa.AW
open Go Go.RowKit
def fillA (place : Nat → Option (Nat × Nat)) (cells : List AV) : List (Nat × AV) → Option (List AV)
  | [] => some cells
  | (i, x) :: rest => match place i with
    | none => none
    | some (off, size) => bif ((cellsA x).length == size) && Nat.ble (off + size) cells.length then fillA place (cells.take off ++ cellsA x ++ cells.drop (off + size)) rest else none
def placesOf (P : Program) : List Field → Option (List (Nat × Nat))
  | [] => some []
  | f :: fs => match P.info? f.type, placesOf P fs with
    | some i, some r => some ((f.offset, i.size) :: r)
    | _, _ => none
def builtA (P : Program) (t : TypeId) (parts : List (Nat × AV)) : Option (List AV) :=
  match P.info? t, P.underlying t with
  | some it, some (.struct fields) => match it.zero, placesOf P fields.toList with
    | some z, some places => fillA (places[·]?) (z.cells.toList.map .v) parts
    | _, _ => none
  | _, _ => none
def evps (st : ASt) : List (Nat × Operand) → Option (List (Nat × AV))
  | [] => some []
  | (i, z) :: r => match ev st z, evps st r with
    | some x, some l => some ((i, x) :: l)
    | _, _ => none
theorem placesOf_mapM (P : Program) : ∀ (fs : List Field), placesOf P fs = fs.mapM (fun f => (P.info? f.type).map fun i => (f.offset, i.size))
  | [] => rfl
  | f :: fs => by
    simp only [placesOf, List.mapM_cons, placesOf_mapM P fs]
    cases P.info? f.type with
    | none => rfl
    | some i => cases (fs.mapM fun f => (P.info? f.type).map fun i => (f.offset, i.size)) <;> rfl
theorem fold_set (off : Nat) : ∀ (L : List Value) (k : Nat) (A : Array Value),
    ((L.zipIdx k).foldl (fun cs (p : Value × Nat) => cs.setIfInBounds (off + p.2) p.1) A).size = A.size ∧
    ∀ m, m < A.size → ((L.zipIdx k).foldl (fun cs (p : Value × Nat) => cs.setIfInBounds (off + p.2) p.1) A)[m]? = if off + k ≤ m ∧ m < off + k + L.length then L[m - (off + k)]? else A[m]?
  | [], k, A => by simp; intro m hm h1 h2; omega
  | v :: L, k, A => by
    obtain ⟨h1, h2⟩ := fold_set off L (k + 1) (A.setIfInBounds (off + k) v)
    simp only [List.zipIdx_cons, List.foldl_cons]
    refine ⟨by rw [h1]; simp, fun m hm => ?_⟩
    rw [h2 m (by simpa using hm)]
    by_cases hmk : m = off + k
    · subst hmk
      rw [if_neg (by omega), if_pos (by simp)]
      simp [hm]
    · by_cases hin : off + (k + 1) ≤ m ∧ m < off + (k + 1) + L.length
      · rw [if_pos hin, if_pos (by simp; omega)]
        have : m - (off + k) = (m - (off + (k + 1))) + 1 := by omega
        rw [this, List.getElem?_cons_succ]
      · rw [if_neg hin, if_neg (by simp; omega), Array.getElem?_setIfInBounds_ne (by omega)]
section
variable {P : Program} {N : Fr} {Q : Exit → ASt → Prop} {st : ASt} {I0 : Dom} {w0 : World} {β : Nat → Value} {a : Act} {w : World}
def Cells (I : Nat → Prop) (T : Nat → Ob) (β : Nat → Value) (w : World) (l : List AV) (c : Array Value) : Prop :=
  l.length = c.size ∧ ∀ (j : Nat) (p : AV), l[j]? = some p → ∃ u : Value, c[j]? = some u ∧ Rep I T β w p u
theorem fill_rep (hO : Objs I0 w0.heap.size st.T β w) (place : Nat → Option (Nat × Nat)) : ∀ (ps : List (Nat × AV)) (vs : List (Nat × Value)) (cells : List AV) (c : Array Value) (l : List AV),
    Cells (Im I0 w0.heap.size st.T β w) st.T β w cells c → ps.length = vs.length →
    (∀ (j : Nat) (p : Nat × AV) (v : Nat × Value), ps[j]? = some p → vs[j]? = some v → p.1 = v.1 ∧ (cellsA p.2).all (cok1 st.T) = true ∧ Rep (Im I0 w0.heap.size st.T β w) st.T β w p.2 v.2) →
    fillA place cells ps = some l → ∃ c', Instr.fill place c vs = some c' ∧ Cells (Im I0 w0.heap.size st.T β w) st.T β w l c'
  | [], [], cells, c, l, hc, _, _, hf => by simp [fillA] at hf; subst hf; exact ⟨c, rfl, hc⟩
  | (i, x) :: ps, (i', v) :: vs, cells, c, l, hc, hl, hp, hf => by
    obtain ⟨h1, h2, h3⟩ := hp 0 (i, x) (i', v) rfl rfl
    simp only at h1 h2 h3
    subst h1
    simp only [fillA] at hf
    cases hpl : place i with
    | none => rw [hpl] at hf; cases hf
    | some os =>
      obtain ⟨off, size⟩ := os
      rw [hpl] at hf
      simp only [Bool.cond_eq_ite] at hf
      split at hf
      · rename_i hcond
        simp only [Bool.and_eq_true, beq_iff_eq] at hcond
        obtain ⟨hs1, hs2⟩ := hcond
        have hs2 : off + size ≤ cells.length := by simpa using hs2
        obtain ⟨r1, r2, r3⟩ := rep_cells hO h3 h2
        have hvs : v.cells.size = size := by omega
        have hcs : cells.length = c.size := hc.1
        let c1 := v.cells.zipIdx.foldl (fun cs (p : Value × Nat) => cs.setIfInBounds (off + p.2) p.1) c
        have hc1 : c1 = (v.cells.toList.zipIdx 0).foldl (fun cs (p : Value × Nat) => cs.setIfInBounds (off + p.2) p.1) c := by
          show v.cells.zipIdx.foldl _ c = _
          rw [← Array.foldl_toList, Array.toList_zipIdx]
        obtain ⟨f1, f2⟩ := fold_set off v.cells.toList 0 c
        rw [← hc1] at f1 f2
        have hnew : Cells (Im I0 w0.heap.size st.T β w) st.T β w (cells.take off ++ cellsA x ++ cells.drop (off + size)) c1 := by
          refine ⟨by rw [f1]; simp; omega, fun j p hj => ?_⟩
          rw [mid_get cells _ hs2 hs1] at hj
          have hjc : j < c.size := by
            by_cases h1 : j < off
            · omega
            · by_cases h2 : j < off + size
              · omega
              · rw [if_neg h1, if_neg h2] at hj
                have := (List.getElem?_eq_some_iff.1 hj).1; omega
          rw [f2 j hjc]
          by_cases h1 : j < off
          · rw [if_pos h1] at hj
            rw [if_neg (by omega)]
            exact hc.2 j p hj
          · rw [if_neg h1] at hj
            by_cases h2 : j < off + size
            · rw [if_pos h2] at hj
              rw [if_pos (by simp; omega)]
              obtain ⟨u, hu, hru⟩ := r2 _ _ hj
              exact ⟨u, by simpa using hu, hru⟩
            · rw [if_neg h2] at hj
              rw [if_neg (by simp; omega)]
              exact hc.2 j p hj
        obtain ⟨c', hc', hcc⟩ := fill_rep hO place ps vs _ c1 l hnew (by simpa using hl) (fun j p v hp' hv => hp (j + 1) p v (by simpa using hp') (by simpa using hv)) hf
        refine ⟨c', ?_, hcc⟩
        simp only [Instr.fill, hpl]
        rw [if_neg (by simp; omega)]
        exact hc'
      · cases hf
  | [], _ :: _, _, _, _, _, hl, _, _ => by simp at hl
  | _ :: _, [], _, _, _, _, hl, _, _ => by simp at hl
theorem evps_get : ∀ {zs : List (Nat × Operand)} {ps : List (Nat × AV)}, evps st zs = some ps → zs.length = ps.length ∧ ∀ (j : Nat) (p : Nat × AV) (z : Nat × Operand), ps[j]? = some p → zs[j]? = some z → p.1 = z.1 ∧ ev st z.2 = some p.2
  | [], ps, h => by simp [evps] at h; subst h; simp
  | (i, z) :: r, ps, h => by
    simp only [evps] at h
    split at h
    · rename_i x l h1 h2
      cases h
      obtain ⟨h3, h4⟩ := evps_get h2
      refine ⟨by simp [h3], fun j p q hp hq => ?_⟩
      cases j with
      | zero => simp at hp hq; subst hp; subst hq; exact ⟨rfl, h1⟩
      | succ j => exact h4 j p q (by simpa using hp) (by simpa using hq)
    · cases h
theorem Cells.zero (I : Nat → Prop) (T : Nat → Ob) (β : Nat → Value) (w : World) (c : Array Value) : Cells I T β w (c.toList.map .v) c :=
  ⟨by simp, fun j p hp => by
    simp at hp
    obtain ⟨u, hu, rfl⟩ := hp
    exact ⟨u, hu, .v u⟩⟩
section ops
variable {o : Oper} {K : ASt → Prop} {d : Nat} {x y : AV}
theorem y_build {t : Nat} {parts : Array (Nat × Operand)} {ps : List (Nat × AV)} {l : List AV} (ho : o.op = .build t parts := by rfl) (hps : evps st parts.toList = some ps := by rfl) (hb : builtA P t ps = some l := by rfl)
    (hok : (ps.all fun p => (cellsA p.2).all (cok1 st.T)) = true := by rfl) : AYield P N Q o st (.agg l) :=
  AYield.still fun I0 w0 β a w hr => by
    obtain ⟨e1, e2⟩ := evps_get hps
    unfold builtA at hb
    cases hi : P.info? t with
    | none => simp [hi] at hb
    | some it =>
      cases hu : P.underlying t with
      | none => simp [hi, hu] at hb
      | some dd =>
        cases dd with
        | struct fields =>
          simp only [hi, hu] at hb
          cases hz : it.zero with
          | none => simp [hz] at hb
          | some z =>
            cases hpl : placesOf P fields.toList with
            | none => simp [hz, hpl] at hb
            | some places =>
              simp only [hz, hpl] at hb
              obtain ⟨c', hc', hcc⟩ := fill_rep hr.objs (places[·]?) ps (parts.toList.map fun p => (p.1, a.eval p.2)) _ z.cells l (Cells.zero _ _ _ _ _) (by simpa using e1.symm) (fun j p v hp hv => by
                simp only [List.getElem?_map] at hv
                cases hzj : parts.toList[j]? with
                | none => rw [hzj] at hv; cases hv
                | some q =>
                  rw [hzj] at hv
                  simp only [Option.map_some, Option.some.injEq] at hv
                  subst hv
                  obtain ⟨h1, h2⟩ := e2 j p q hp hzj
                  exact ⟨h1, List.all_eq_true.1 hok p (List.mem_of_getElem? hp), hr.ev h2⟩) hb
              have hbuilt : P.built t (parts.toList.map fun p => (p.1, a.eval p.2)) = some c' := by
                unfold Program.built
                rw [hi, hu]
                simp only [hz]
                rw [← placesOf_mapM, hpl]
                simpa using hc'
              refine ⟨.agg c', ?_, .agg l c' hcc.1 fun j p u hp hu => ?_⟩
              · have := run_build (P := P) w t (parts.map fun p => (p.1, a.eval p.2)) c' (by simpa using hbuilt)
                simp [execOp, ho, this]
              · obtain ⟨u', hu', hru⟩ := hcc.2 j p hp
                rw [hu] at hu'; cases hu'; exact hru
        | _ => simp [hi, hu] at hb
def zcells (P : Program) (e : Nat) : Option (List AV) := match P.info? e with
  | some i => match i.zero with
    | some z => bif z.cells.size == i.size then some (z.cells.toList.map .v) else none
    | none => none
  | none => none
def byOf (P : Program) (e : Nat) : Option Nat := (P.info? e).map (·.bytes)
theorem op_make {t e s by_ : Nat} {zl zc : Operand} {z : List AV} {k k' : IntKind} {n : Int} (i : Nat) (hi : st.T i = .no) (h0 : 0 ≤ n) (hbd : by_ * n.toNat ≤ 281474976710656) (hm : n.toNat ≤ 9223372036854775807) (hd : o.dst = some d) (hN : Nat.blt d N = true)
    (K1 : K (ASt.mk ((d, .own i) :: st.env) (upd st.T i (.live e s (List.replicate n.toNat z)))))
    (ho : o.op = .makeSlice t zl zc := by rfl) (ht : elOf P t = some (e, s) := by rfl) (hz : zcells P e = some z := by rfl) (hby : byOf P e = some by_ := by rfl)
    (hl : ev st zl = some (.v (.int k n)) := by rfl) (hc : ev st zc = some (.v (.int k' n)) := by rfl) : AOp P N o K Q st := by
  intro I0 w0 β a w hr K' hK
  obtain ⟨hu, bb, hs⟩ := elOf_el ht
  unfold zcells at hz
  cases hinf : P.info? e with
  | none => simp [hinf] at hz
  | some info =>
    cases hzz : info.zero with
    | none => simp [hinf, hzz] at hz
    | some zv =>
      simp only [hinf, hzz, Bool.cond_eq_ite] at hz
      split at hz
      · rename_i hsz
        cases hz
        have hsz : zv.cells.size = info.size := by simpa using hsz
        have hss : info.size = s := by have := szOf_info hs; simpa [hinf] using this
        have hb2 : info.bytes = by_ := by simpa [byOf, hinf] using hby
        have e1 := (hr.ev hl).v_inv
        have e2 := (hr.ev hc).v_inv
        have hn : (n.toNat : Int) = n := Int.toNat_of_nonneg h0
        have hbb : (info.bytes : Int) * n ≤ 281474976710656 := by
          have h1 : ((by_ * n.toNat : Nat) : Int) ≤ 281474976710656 := by omega
          rwa [Int.natCast_mul, hn, ← hb2] at h1
        have hrun := run_make (P := P) w t e info zv hu hinf hzz k k' n n h0 (Int.le_refl _) hbb (by omega)
        have hzs : ∀ x ∈ List.replicate n.toNat (zv.cells.toList.map AV.v), x.length = s := by
          intro x hx
          rw [List.eq_of_mem_replicate hx]; simp [hsz, hss]
        obtain ⟨h1, h2⟩ := hr.row (i := i) (e := e) (s := s) (es := List.replicate n.toNat (zv.cells.toList.map .v)) hi (n := n.toNat) (by simp) (by simp only [maxLen]; omega) (cells := madeCells zv.cells (n.toNat * info.size))
          hzs (by rw [size_madeCells, hss]) (fun j y hy => by
            obtain ⟨q, r, c, rfl, hr', hq, hcr⟩ := flat_inv hzs hy
            have hqn : q < n.toNat := by have := (List.getElem?_eq_some_iff.1 hq).1; simpa using this
            rw [List.getElem?_replicate, if_pos hqn] at hq
            cases hq
            simp at hcr
            obtain ⟨u, hu', rfl⟩ := hcr
            refine ⟨u, ?_, .v u⟩
            have hlt : q * s + r < n.toNat * info.size := by
              rw [hss]
              have : (q + 1) * s ≤ n.toNat * s := Nat.mul_le_mul_right _ hqn
              rw [Nat.succ_mul] at this; omega
            have hmod : (q * s + r) % zv.cells.size = r := by rw [hsz, hss, Nat.mul_comm, Nat.mul_add_mod, Nat.mod_eq_of_lt hr']
            simp only [madeCells]
            rw [Array.getElem?_map, Array.getElem?_range, if_pos hlt]
            simp only [Option.map_some, hmod]
            have hrl : r < zv.cells.size := by rw [hsz, hss]; exact hr'
            rw [getElem!_pos zv.cells r hrl]
            rw [Array.getElem?_eq_getElem hrl] at hu'
            exact hu')
        refine .inl ?_
        have hrun2 : (execOp a.eval o).run P w = .ok (.value (.slice (some ⟨w.heap.size, 0, none⟩) n.toNat n.toNat)) (w.alloc (.cells (madeCells zv.cells (n.toNat * info.size)) e)) := by
          simp [execOp, ho, e1, e2, hrun]
        simp only [Oper.wp, hrun2, Oper.upon, hd]
        refine hK _ _ _ _ (h1.put (blt_lt hN) (.own i _ (by simp [upd]) fun e s es he => ?_)) K1
        simp [updV]
      · cases hz
end ops
end
end Go.Proofs.Ytemcemimipagoaa.AW
namespace Go.Proofs.Ytemcemimipagoaa.AW
open Go Go.RowKit
section
variable {P : Program} {N : Fr} {Q : Exit → ASt → Prop} {st : ASt} {I0 : Dom} {w0 : World} {β : Nat → Value} {a : Act} {w : World}
theorem run_app (base : Nat → Prop) (t ty e : TypeId) (i : TypeInfo) (z : Value) (size bytes : Nat) (ht : P.underlying t = some (.slice e)) (hi : P.info? e = some i) (hz : i.zero = some z)
    (hsize : i.size = size) (hby : i.bytes = bytes) (hzs : z.cells.size = size)
    (v : Value) (n : Nat) (xs : List Value) (hown : w.owns base e size v n xs)
    (ad : Option Addr) (m c : Nat) (hnone : ad = none → m = 0 ∧ c = 0) (news : List Value) (hl : news.length = m * size) (hnews : ∀ b, ad = some b → ∀ j u, news[j]? = some u → w.cell? (b.add j) = some u) (h1 : ∀ u ∈ news, u.oneCell' = true)
    (h63 : n + m ≤ maxLen) (hbytes : (n + m) * bytes ≤ 140737488355328) (hbase : base w.heap.size) :
    ∃ v' w', (Builtin.append_ #[t, t] ty #[v, .slice ad m c]).run P w = .ok v' w' ∧ w'.owns base e size v' (n + m) (xs ++ news) ∧ w.grownBy w' v.ownBlock ∧
      ∀ b, v'.ownBlock = some b → some b = v.ownBlock ∨ w.heap.size ≤ b := by
  subst hsize
  subst hby
  have same : ∀ row : Option Nat, w.grownBy w row := fun row => ⟨rfl, rfl, rfl, Nat.le_refl _, fun _ _ _ => rfl⟩
  have h63' : n + m ≤ 9223372036854775807 := by simp only [maxLen] at h63; omega
  cases ad with
  | none =>
    obtain ⟨rfl, rfl⟩ := hnone rfl
    have hn : news = [] := List.eq_nil_of_length_eq_zero (by simpa using hl)
    subst hn
    have : (Builtin.append_ #[t, t] ty #[v, .slice none 0 0]).run P w = .ok v w := by
      rcases hown.2 with ⟨rfl, rfl⟩ | ⟨g, cap, cur, fr, rfl, _, _, _, hnc, _⟩
      · simp [Builtin.append_, run_underlying ht, sizeOf, typeInfo, hi, Builtin.lenOf, Builtin.firstCells]
      · simp [Builtin.append_, run_underlying ht, sizeOf, typeInfo, hi, Builtin.lenOf, Builtin.firstCells, hnc, storeCells]
    exact ⟨v, w, this, by simpa using hown, same _, fun b hb => .inl hb.symm⟩
  | some b2 =>
    have hnews := hnews b2 rfl
    have hlen : (xs ++ news).length = (n + m) * i.size := by rw [List.length_append, hown.1, hl, Nat.add_mul]
    have grown : ∀ (old : Nat), ∀ (row : Option Nat),
        (w.drew.alloc (.cells (xs.toArray ++ news.toArray ++ Builtin.zeroCells z.cells (grownCap w (n + m) old e - (n + m))) e)).owns base e i.size
          (.slice (some ⟨w.heap.size, 0, none⟩) (n + m) (grownCap w (n + m) old e)) (n + m) (xs ++ news) ∧
        w.grownBy (w.drew.alloc (.cells (xs.toArray ++ news.toArray ++ Builtin.zeroCells z.cells (grownCap w (n + m) old e - (n + m))) e)) row := by
      intro old row
      have hge := grownCap_ge w (n + m) old e
      have hcm : grownCap w (n + m) old e ≤ maxLen := grownCap_le_maxLen w (n + m) old e h63
      refine ⟨⟨hlen, .inr ⟨w.heap.size, _, _, (0, 0), rfl, hbase, heap_alloc_new w.drew _, .inl ⟨rfl, rfl⟩, hge, hcm, ?_, ?_⟩⟩, ⟨rfl, rfl, rfl, by simp, fun k hk _ => Below.heap_alloc w.drew _ k hk⟩⟩
      · simp only [Array.size_append, List.size_toArray, size_zeroCells, hzs, hown.1, hl, ← Nat.add_mul]
        congr 1
        omega
      · simp only [Array.toList_append, List.append_assoc]
        rw [← List.append_assoc, ← hlen]
        exact List.take_left
    rcases hown.2 with ⟨rfl, rfl⟩ | ⟨g, cap, cur, fr, rfl, hbg, hg, hfr, hnc, hcm, hcs, htake⟩
    · have hx : xs = [] := List.eq_nil_of_length_eq_zero (by simpa using hown.1)
      subst hx
      by_cases hm : m = 0
      · subst hm
        have hn : news = [] := List.eq_nil_of_length_eq_zero (by simpa using hl)
        subst hn
        refine ⟨.slice none 0 0, w, ?_, World.owns_nil w base e i.size, same _, fun b hb => by simp [Value.ownBlock] at hb⟩
        simp [Builtin.append_, run_underlying ht, sizeOf, typeInfo, hi, Builtin.lenOf, Builtin.firstCells, loadCells, loadCellsFrom]
      · have hr := run_append_nil (P := P) w t ty e i z ht hi hz b2 m c news hl hnews (by omega) (by omega) (by have hb := hbytes; simp only [Nat.zero_add] at hb; omega)
        have hgr := grown 0 (Value.ownBlock (.slice none 0 0))
        simp only [Nat.zero_add, List.nil_append, Array.empty_append] at hgr ⊢
        refine ⟨_, _, hr, hgr.1, hgr.2, fun b hb => .inr ?_⟩
        simp [Value.ownBlock] at hb; omega
    · by_cases hroom : n + m ≤ cap
      · have hfit : n * i.size + news.length ≤ cur.size := by rw [hl, hcs, ← Nat.add_mul]; exact Nat.mul_le_mul_right _ hroom
        have hf := run_firstCells_some (P := P) w i.size m b2 m c news hl hnews
        have hst := run_storeCells_fr P g (n * i.size) e news cur w fr hg hfr hfit h1
        have hr : (Builtin.append_ #[t, t] ty #[.slice (some ⟨g, 0, none⟩) n cap, .slice (some b2) m c]).run P w =
            .ok (.slice (some ⟨g, 0, none⟩) (n + m) cap) (w.setRow g (cur.toList.take (n * i.size) ++ news ++ cur.toList.drop (n * i.size + news.length)).toArray) := by
          simp [Builtin.append_, run_underlying ht, sizeOf, typeInfo, hi, Builtin.lenOf, hroom, hf, Addr.add_lit, hst]
        have hsz : (cur.toList.take (n * i.size) ++ news ++ cur.toList.drop (n * i.size + news.length)).toArray.size = cur.size := by
          simp only [List.size_toArray, List.length_append, List.length_take, List.length_drop, Array.length_toList]
          omega
        refine ⟨_, _, hr, ⟨hlen, .inr ⟨g, cap, _, fr, rfl, hbg, setRow_heap w g cur _ e _ hg, by rw [hsz]; exact hfr, hroom, hcm, ?_, ?_⟩⟩, ⟨rfl, rfl, rfl, by simp [World.setRow], fun k _ hk => setRow_other w g k _ (fun e => hk (by simp [Value.ownBlock, e]))⟩, fun b hb => .inl hb.symm⟩
        · simp only [List.size_toArray, List.length_append, List.length_take, List.length_drop, Array.length_toList]
          omega
        · rw [htake, ← hlen]
          exact List.take_left
      · have holds : ∀ j u, xs[j]? = some u → w.cell? ((⟨g, 0, none⟩ : Addr).add j) = some u := hown.cells (g := g) rfl
        have hr := run_append_grow (P := P) w t ty e i z ht hi hz ⟨g, 0, none⟩ n cap xs hown.1 holds b2 m c news hl hnews (by omega) (by omega) (growslice_fits (by omega) hbytes)
        have hgr := grown cap (Value.ownBlock (.slice (some ⟨g, 0, none⟩) n cap))
        refine ⟨_, _, hr, hgr.1, hgr.2, fun b hb => .inr ?_⟩
        simp [Value.ownBlock] at hb; omega
def srcA (st : ASt) : AV → Option (List (List AV))
  | .sl _ es => some es
  | .own i => match st.T i with
    | .live _ _ es => some es
    | _ => none
  | _ => none
def sizA (st : ASt) (s : Nat) : AV → Bool
  | .sl s' _ => s' == s
  | .own i => match st.T i with
    | .live _ s' _ => s' == s
    | _ => false
  | _ => false
theorem src_val (hr : Rel N I0 w0 st β a w) {z : Operand} {x : AV} {s : Nat} {es : List (List AV)} (hz : ev st z = some x) (hs : srcA st x = some es) (hsz : sizA st s x = true) (hok : ∀ c ∈ es, ∀ y ∈ c, cok1 st.T y = true) :
    ∃ (ad : Option Addr) (c : Nat) (news : List Value), a.eval z = .slice ad es.length c ∧ (ad = none → es.length = 0 ∧ c = 0) ∧ (∀ x ∈ es, x.length = s) ∧ news.length = es.length * s ∧ (∀ b, ad = some b → ∀ (j : Nat) (u : Value), news[j]? = some u → w.cell? (b.add j) = some u) ∧
      (∀ u ∈ news, u.oneCell' = true) ∧ ∀ (j : Nat) (p : AV), es.flatten[j]? = some p → ∃ u : Value, news[j]? = some u ∧ Rep (Im I0 w0.heap.size st.T β w) st.T β w p u := by
  have h := hr.ev hz
  have hone : ∀ (news : List Value), news.length = es.flatten.length → (∀ (j : Nat) (p : AV), es.flatten[j]? = some p → ∃ u : Value, news[j]? = some u ∧ Rep (Im I0 w0.heap.size st.T β w) st.T β w p u) → ∀ u ∈ news, u.oneCell' = true := by
    intro news hl hp u hu
    obtain ⟨j, hj, rfl⟩ := List.getElem_of_mem hu
    have hlt : j < es.flatten.length := by omega
    obtain ⟨v, hv, hrv⟩ := hp j _ (List.getElem?_eq_getElem hlt)
    have : v = news[j] := by rw [List.getElem?_eq_getElem hj] at hv; simpa using hv.symm
    subst this
    obtain ⟨c, hc, hxc⟩ := List.mem_flatten.1 (List.getElem_mem hlt)
    exact hrv.one hr.objs (hok c hc _ hxc)
  generalize a.eval z = y at h
  cases h with
  | emp s' base cap hh =>
    simp only [srcA, Option.some.injEq] at hs
    subst hs
    exact ⟨base, cap, [], rfl, fun h => ⟨rfl, hh h⟩, by simp, by simp, by simp, by simp, by simp⟩
  | sl s' es' b off cap vs q1 q2 q3 q4 q5 =>
    simp only [srcA, Option.some.injEq] at hs
    subst hs
    have hss : s' = s := by simpa [sizA] using hsz
    subst hss
    have hfl := flat_len q3
    have hp : ∀ (j : Nat) (p : AV), es'.flatten[j]? = some p → ∃ u : Value, ((List.range es'.flatten.length).map vs)[j]? = some u ∧ Rep (Im I0 w0.heap.size st.T β w) st.T β w p u := by
      intro j p hp
      have hlt := (List.getElem?_eq_some_iff.1 hp).1
      exact ⟨vs j, by rw [List.getElem?_map, List.getElem?_range hlt]; rfl, q5 j p hp⟩
    refine ⟨some ⟨b, off, none⟩, cap, (List.range es'.flatten.length).map vs, rfl, by simp, q3, by simp [hfl], ?_, hone _ (by simp) hp, hp⟩
    intro b' hb j u hu
    cases hb
    have hlt : j < es'.flatten.length := by have := (List.getElem?_eq_some_iff.1 hu).1; simpa using this
    rw [List.getElem?_map, List.getElem?_range hlt] at hu
    simp only [Option.map_some, Option.some.injEq] at hu
    subst hu
    rw [add_mid]
    exact q4 j _ (List.getElem?_eq_getElem hlt)
  | own i x h1 h2 =>
    simp only [srcA] at hs
    split at hs
    · rename_i e s' es' hi
      cases hs
      have hss : s' = s := by simpa [sizA, hi] using hsz
      subst hss
      rw [h2 e s' es hi]
      obtain ⟨g1, xs, g2, g3⟩ := hr.objs.obj i e s' es hi
      have hfl := flat_len g1
      rcases g2.2 with ⟨hh, h0⟩ | ⟨g, cap, cur, fr, hh, _⟩
      · rw [hh, h0]
        have hx : xs = [] := List.eq_nil_of_length_eq_zero (by rw [g2.1, h0]; simp)
        subst hx
        exact ⟨none, 0, [], rfl, fun _ => ⟨rfl, rfl⟩, g1, by simp, by simp, by simp, g3⟩
      · rw [hh]
        refine ⟨_, _, xs, rfl, by simp, g1, g2.1, ?_, hone xs (by rw [g2.1, hfl]) g3, g3⟩
        intro b hb j u hu
        cases hb
        exact g2.cells (by rw [hh]; rfl) j u hu
    · cases hs
  | _ => simp [srcA] at hs
section ops
variable {o : Oper} {K : ASt → Prop} {d : Nat} {x y : AV}
theorem ea_info {e s by_ : Nat} {z : List AV} (hs : ∃ b, szOf P e = some (s, b)) (hz : zcells P e = some z) (hby : byOf P e = some by_) : ∃ info zv, P.info? e = some info ∧ info.zero = some zv ∧ info.size = s ∧ info.bytes = by_ ∧ zv.cells.size = s := by
  obtain ⟨b, hs⟩ := hs
  unfold zcells at hz
  cases hinf : P.info? e with
  | none => simp [hinf] at hz
  | some info =>
    cases hzz : info.zero with
    | none => simp [hinf, hzz] at hz
    | some zv =>
      simp only [hinf, hzz, Bool.cond_eq_ite] at hz
      split at hz
      · rename_i hsz
        have hsz : zv.cells.size = info.size := by simpa using hsz
        have hss : info.size = s := by have := szOf_info hs; simpa [hinf] using this
        exact ⟨info, zv, rfl, hzz, hss, by simpa [byOf, hinf] using hby, by omega⟩
      · cases hz
theorem flat_app (es es2 : List (List AV)) : (es ++ es2).flatten = es.flatten ++ es2.flatten := by simp
theorem op_app {t e s by_ i : Nat} {z1 z2 : Operand} {z : List AV} {es es2 : List (List AV)} (i' : Nat) (hi' : st.T i' = .no) (hbd : (es.length + es2.length) * by_ ≤ 140737488355328) (hm : es.length + es2.length ≤ 9223372036854775807)
    (hok : ∀ c ∈ es2, ∀ y ∈ c, cok1 st.T y = true) (hd : o.dst = some d) (hN : Nat.blt d N = true)
    (K1 : K (ASt.mk ((d, .own i') :: st.env) (upd (upd st.T i .dead) i' (.live e s (es ++ es2)))))
    (ho : o.op = .call ⟨.builtin .append, #[z1, z2], #[t, t]⟩ := by rfl) (ht : elOf P t = some (e, s) := by rfl) (hz : zcells P e = some z := by rfl) (hby : byOf P e = some by_ := by rfl)
    (h1 : ev st z1 = some (.own i) := by rfl) (hT : st.T i = .live e s es := by rfl) (h2 : ev st z2 = some x := by rfl) (hs : srcA st x = some es2 := by rfl) (hsz : sizA st s x = true := by rfl) : AOp P N o K Q st := by
  intro I0 w0 β a w hr K' hK
  obtain ⟨hu, hsb⟩ := elOf_el ht
  obtain ⟨info, zv, g1, g2, g3, g4, g5⟩ := ea_info hsb hz hby
  obtain ⟨ad, c, news, q1, q2, q3, q4, q5, q6, q7⟩ := src_val hr h2 hs hsz hok
  obtain ⟨p1, xs, p2, p3⟩ := hr.objs.obj i e s es hT
  have hv1 : a.eval z1 = β i := by
    have h := hr.ev h1
    generalize a.eval z1 = y at h
    cases h with
    | own _ _ _ hx => exact hx e s es hT
  obtain ⟨v', w', r1, r2, r3, r4⟩ := run_app (P := P) (w := w) (I0.own w0.heap.size) t o.type e info zv s by_ hu g1 g2 g3 g4 g5 (β i) es.length xs p2 ad es2.length c q2 news q4 q5 q6 (by simp only [maxLen]; omega) hbd (.inl hr.base)
  have hes : ∀ y ∈ es ++ es2, y.length = s := fun y hy => (List.mem_append.1 hy).elim (p1 y) (q3 y)
  obtain ⟨n1, n2⟩ := hr.newObj (w' := w') (i' := i') (e := e) (s := s) (es' := es ++ es2) hi' (β i).ownBlock (some i) (fun i2 h => by cases h; exact ⟨e, s, es, hT, rfl⟩) (by simp) r3 (y := v') (xs := xs ++ news) (by rw [List.length_append]; exact r2) r4 hes
    (fun j p hp => by
      rw [flat_app] at hp
      have hxl : xs.length = es.flatten.length := by rw [p2.1, flat_len p1]
      rcases Nat.lt_or_ge j es.flatten.length with hj | hj
      · rw [List.getElem?_append_left hj] at hp
        rw [List.getElem?_append_left (by omega)]
        exact p3 j p hp
      · rw [List.getElem?_append_right hj] at hp
        rw [List.getElem?_append_right (by omega), hxl]
        exact q7 _ p hp)
  have hrun : (execOp a.eval o).run P w = .ok (.value v') w' := by
    simp [execOp, ho, resolve, invoke, builtin, hv1, q1, r1]
  refine .inl ?_
  simp only [Oper.wp, hrun, Oper.upon, hd]
  refine hK _ _ _ _ (n1.put (blt_lt hN) (.own i' _ (by simp [upd]) fun e s es he => ?_)) K1
  simp [updV]
theorem lit_core {t e s len : Nat} {parts : Array (Nat × Operand)} {ps : List (Nat × AV)} {z : List AV} (i : Nat) (hi : st.T i = .no)
    (ho : o.op = .buildSlice t len parts := by rfl) (ht : elOf P t = some (e, s) := by rfl) (hz : zcells P e = some z := by rfl) (hps : evps st parts.toList = some ps := by rfl) (hpl : ps.length = len := by rfl)
    (hsm : Nat.ble (len * s) 16777216 = true := by rfl) (hs0 : Nat.blt 0 (len * s) = true := by rfl) (hok : (ps.all fun p => (cellsA p.2).all (cok1 st.T)) = true := by rfl) (hls : (ps.all fun p => (cellsA p.2).length == s) = true := by rfl)
    (hf : fillA (fun i => some (i * s, s)) (List.replicate len z).flatten ps = some (ps.map fun p => cellsA p.2).flatten := by rfl) (hr : Rel N I0 w0 st β a w) :
    ∃ y w' β2, (execOp a.eval o).run P w = .ok (.value y) w' ∧ Rel N I0 w0 ⟨st.env, upd st.T i (.live e s (ps.map fun p => cellsA p.2))⟩ β2 a w' ∧
      (∀ p v, Rep (Im I0 w0.heap.size st.T β w) st.T β w p v → Rep (Im I0 w0.heap.size (upd st.T i (.live e s (ps.map fun p => cellsA p.2))) β2 w') (upd st.T i (.live e s (ps.map fun p => cellsA p.2))) β2 w' p v) ∧
      Rep (Im I0 w0.heap.size (upd st.T i (.live e s (ps.map fun p => cellsA p.2))) β2 w') (upd st.T i (.live e s (ps.map fun p => cellsA p.2))) β2 w' (.own i) y := by
  obtain ⟨hu, bb, hs⟩ := elOf_el ht
  obtain ⟨e1, e2⟩ := evps_get hps
  unfold zcells at hz
  cases hinf : P.info? e with
  | none => simp [hinf] at hz
  | some info =>
    cases hzz : info.zero with
    | none => simp [hinf, hzz] at hz
    | some zv =>
      simp only [hinf, hzz, Bool.cond_eq_ite] at hz
      split at hz
      · rename_i hsz
        cases hz
        have hsz : zv.cells.size = info.size := by simpa using hsz
        have hss : info.size = s := by have := szOf_info hs; simpa [hinf] using this
        have hn0 : 0 < len * s := blt_lt hs0
        have hsm : len * s ≤ 16777216 := by simpa using hsm
        have hzs : ∀ x ∈ List.replicate len (zv.cells.toList.map AV.v), x.length = s := by
          intro x hx
          rw [List.eq_of_mem_replicate hx]; simp [hsz, hss]
        have hzero : Cells (Im I0 w0.heap.size st.T β w) st.T β w (List.replicate len (zv.cells.toList.map AV.v)).flatten (madeCells zv.cells (len * s)) := by
          refine ⟨by rw [flat_len hzs, size_madeCells]; simp, fun j y hy => ?_⟩
          obtain ⟨q, r, c, rfl, hr', hq, hcr⟩ := flat_inv hzs hy
          have hqn : q < len := by have := (List.getElem?_eq_some_iff.1 hq).1; simpa using this
          rw [List.getElem?_replicate, if_pos hqn] at hq
          cases hq
          simp at hcr
          obtain ⟨u, hu', rfl⟩ := hcr
          refine ⟨u, ?_, .v u⟩
          have hlt : q * s + r < len * s := by
            have : (q + 1) * s ≤ len * s := Nat.mul_le_mul_right _ hqn
            rw [Nat.succ_mul] at this; omega
          have hmod : (q * s + r) % zv.cells.size = r := by rw [hsz, hss, Nat.mul_comm, Nat.mul_add_mod, Nat.mod_eq_of_lt hr']
          simp only [madeCells]
          rw [Array.getElem?_map, Array.getElem?_range, if_pos hlt]
          simp only [Option.map_some, hmod]
          have hrl : r < zv.cells.size := by rw [hsz, hss]; exact hr'
          rw [getElem!_pos zv.cells r hrl]
          rw [Array.getElem?_eq_getElem hrl] at hu'
          exact hu'
        obtain ⟨c', hc', hcc⟩ := fill_rep hr.objs (fun i => some (i * s, s)) ps (parts.toList.map fun p => (p.1, a.eval p.2)) _ _ _ hzero (by simpa using e1.symm) (fun j p v hp hv => by
          simp only [List.getElem?_map] at hv
          cases hzj : parts.toList[j]? with
          | none => rw [hzj] at hv; cases hv
          | some q =>
            rw [hzj] at hv
            simp only [Option.map_some, Option.some.injEq] at hv
            subst hv
            obtain ⟨h1, h2⟩ := e2 j p q hp hzj
            exact ⟨h1, List.all_eq_true.1 hok p (List.mem_of_getElem? hp), hr.ev h2⟩) hf
        have hes : ∀ x ∈ ps.map (fun p => cellsA p.2), x.length = s := by
          intro x hx
          obtain ⟨p, hp, rfl⟩ := List.mem_map.1 hx
          have := List.all_eq_true.1 hls p hp
          simpa using this
        have hrun : (execOp a.eval o).run P w = .ok (.value (.slice (some ⟨w.heap.size, 0, none⟩) len len)) (w.alloc (.cells c' e)) := by
          have hne : ¬ len * s = 0 := by omega
          have hgt : ¬ 16777216 < len * s := by omega
          have hc2 : Instr.fill (fun i => some (i * s, s)) ((Array.range (len * s)).map (zv.cells[· % zv.cells.size]!)) (parts.toList.map fun p => (p.1, a.eval p.2)) = some c' := hc'
          simp [execOp, ho, Instr.buildSlice, run_underlying hu, (szOf_run hs w).1, hne, hgt, zeroValue, typeInfo, hinf, hzz, newRow, hc2]
        obtain ⟨h1, h2⟩ := hr.row (i := i) (e := e) (s := s) (es := ps.map fun p => cellsA p.2) hi (n := len) (by simpa using hpl) (by
          have h0 : len ≤ len * s := by
            rcases Nat.eq_zero_or_pos s with h | h
            · rw [h] at hn0; simp at hn0
            · exact Nat.le_mul_of_pos_right _ h
          simp only [maxLen]; omega) (cells := c') hes (by rw [← hcc.1, flat_len hes]; simp [hpl]) (fun j p hp => hcc.2 j p hp)
        exact ⟨_, _, _, hrun, h1, h2, .own i _ (by simp [upd]) fun e s es he => by simp [updV]⟩
      · cases hz
theorem op_lit {t e s len : Nat} {parts : Array (Nat × Operand)} {ps : List (Nat × AV)} {z : List AV} (i : Nat) (hi : st.T i = .no) (hd : o.dst = some d) (hN : Nat.blt d N = true)
    (K1 : K (ASt.mk ((d, .own i) :: st.env) (upd st.T i (.live e s (ps.map fun p => cellsA p.2)))))
    (ho : o.op = .buildSlice t len parts := by rfl) (ht : elOf P t = some (e, s) := by rfl) (hz : zcells P e = some z := by rfl) (hps : evps st parts.toList = some ps := by rfl) (hpl : ps.length = len := by rfl)
    (hsm : Nat.ble (len * s) 16777216 = true := by rfl) (hs0 : Nat.blt 0 (len * s) = true := by rfl) (hok : (ps.all fun p => (cellsA p.2).all (cok1 st.T)) = true := by rfl) (hls : (ps.all fun p => (cellsA p.2).length == s) = true := by rfl)
    (hf : fillA (fun i => some (i * s, s)) (List.replicate len z).flatten ps = some (ps.map fun p => cellsA p.2).flatten := by rfl) : AOp P N o K Q st := by
  intro I0 w0 β a w hr K' hK
  obtain ⟨y, w', β2, h1, h2, h3, h4⟩ := lit_core (o := o) i hi ho ht hz hps hpl hsm hs0 hok hls hf hr
  refine .inl ?_
  simp only [Oper.wp, h1, Oper.upon, hd]
  exact hK _ _ _ _ (h2.put (blt_lt hN) h4) K1
end ops
end
end Go.Proofs.Ytemcemimipagoaa.AW
namespace Go.Proofs.Ytemcemimipagoaa.AW
open Go Go.RowKit
def ShL (T : Nat → Ob) : List AV → List AV → Prop
  | [], [] => True
  | x :: xs, y :: ys => Sh T x y ∧ ShL T xs ys
  | _, _ => False
theorem ShL.get {T : Nat → Ob} : ∀ {l l' : List AV}, ShL T l l' → l.length = l'.length ∧ ∀ (j : Nat) (a b : AV), l[j]? = some a → l'[j]? = some b → Sh T a b
  | [], [], _ => ⟨rfl, by simp⟩
  | x :: xs, y :: ys, ⟨h1, h2⟩ => by
    obtain ⟨h3, h4⟩ := ShL.get h2
    refine ⟨by simp [h3], fun j a b ha hb => ?_⟩
    cases j with
    | zero => simp at ha hb; subst ha; subst hb; exact h1
    | succ j => exact h4 j a b (by simpa using ha) (by simpa using hb)
  | [], _ :: _, h => h.elim
  | _ :: _, [], h => h.elim
theorem shL_same {T : Nat → Ob} : ∀ {l : List AV}, NoOwnL l → ShL T l l
  | [], _ => trivial
  | x :: xs, ⟨h1, h2⟩ => ⟨.same x h1, shL_same h2⟩
theorem sh_agg {T : Nat → Ob} {l l' : List AV} (h : ShL T l l') : Sh T (.agg l) (.agg l') := .agg l l' h.get.1 h.get.2
theorem sh_tup {T : Nat → Ob} {l l' : List AV} (h : ShL T l l') : Sh T (.tup l) (.tup l') := .tup l l' h.get.1 h.get.2
theorem sh_clo {T : Nat → Ob} {f : Nat} {l l' : List AV} (h : ShL T l l') : Sh T (.clo f l) (.clo f l') := .clo f l l' h.get.1 h.get.2
theorem sh_box {T : Nat → Ob} {i e s : Nat} {c c' : List AV} (hT : T i = .live e s [c]) (h : ShL T c c') : Sh T (.ptr i 0 0) (.ip c') := by
  have := Sh.ptr (T := T) i 0 0 e s [c] c c' hT rfl h.get.1 h.get.2
  simpa using this
theorem sh_own {T : Nat → Ob} {i e s : Nat} {es : List (List AV)} (hT : T i = .live e s es) (hs : ∀ c ∈ es, c.length = s) (h : ∀ c ∈ es, ∀ x ∈ c, NoOwn x) : Sh T (.own i) (.sl s es) :=
  .own i e s es es hT rfl hs fun j a b ha hb => by
    rw [ha] at hb; cases hb
    obtain ⟨c, hc, hxc⟩ := List.mem_flatten.1 (List.mem_of_getElem? ha)
    exact .same a (h c hc a hxc)
def flatV : AV → Bool
  | .v _ => true
  | .agg l => l.all fun x => match x with | .v _ => true | _ => false
  | .tup l => l.all fun x => match x with | .v _ => true | _ => false
  | _ => false
section
variable {P : Program} {N : Fr} {Q : Exit → ASt → Prop} {st : ASt} {I0 : Dom} {w0 : World} {β : Nat → Value} {a : Act} {w : World}
theorem Rep.flat {I I' : Nat → Prop} {T T' : Nat → Ob} {β β' : Nat → Value} {w w' : World} {x : AV} {v : Value} (h : Rep I T β w x v) (hx : flatV x = true) : Rep I' T' β' w' x v := by
  have hl : ∀ (l : List AV), (l.all fun x => match x with | .v _ => true | _ => false) = true → ∀ (j : Nat) (p : AV) (u : Value), l[j]? = some p → Rep I T β w p u → Rep I' T' β' w' p u := by
    intro l hl j p u hp hr
    have := List.all_eq_true.1 hl p (List.mem_of_getElem? hp)
    cases hr with
    | v => exact .v _
    | _ => simp at this
  cases h with
  | v => exact .v _
  | agg l cs h1 h2 => exact .agg l cs h1 fun j p u hp hu => hl l hx j p u hp (h2 j p u hp hu)
  | tup l cs h1 h2 => exact .tup l cs h1 fun j p u hp hu => hl l hx j p u hp (h2 j p u hp hu)
  | _ => simp [flatV] at hx
section ops
variable {o : Oper} {K : ASt → Prop} {d : Nat} {x y : AV}
theorem y_callS {g : Nat} {caps : List AV} {z : Operand} {xs : Array Operand} {ts : Array TypeId} {l l' : List AV} (hok : Gives P g l' y) (ho : o.op = .call ⟨.value z, xs, ts⟩ := by rfl)
    (hz : ev st z = some (.clo g caps) := by rfl) (hl : evs st xs.toList = some l := by rfl) (hg : goFn P g = true := by rfl) (hfl : flatV y = true := by rfl) (hsh : ShL st.T (l ++ caps) l') : AYield P N Q o st y := by
  intro I0 w0 β a w hr K' hK
  have hzr := hr.ev hz
  generalize hy : a.eval z = yv at hzr
  cases hzr with
  | clo g caps vs hvl hvc =>
    have hm := evs_map hl
    have hlen : l.length = xs.size := by have := congrArg List.length hm; simpa using this.symm
    obtain ⟨s1, s2⟩ := hsh.get
    have hargs : All2 (Rep (Im I0 w0.heap.size noT noβ w) noT noβ w) l' ((xs.map a.eval) ++ vs).toList := by
      refine all2_of (by rw [← s1]; simp [hlen, hvl]) fun j p v hp hv => ?_
      have hj2 : j < (l ++ caps).length := by rw [s1]; exact (List.getElem?_eq_some_iff.1 hp).1
      refine (s2 j _ p (List.getElem?_eq_getElem hj2) hp).rep hr.objs v ?_
      have hq := List.getElem?_eq_getElem hj2
      generalize (l ++ caps)[j] = q at hq
      rcases Nat.lt_or_ge j l.length with hj | hj
      · rw [List.getElem?_append_left hj] at hq
        have h1 : (xs.toList.map (ev st))[j]? = some (some q) := by rw [hm]; simp [hq]
        simp only [List.getElem?_map, Array.getElem?_toList] at h1
        cases hcj : xs[j]? with
        | none => simp [hcj] at h1
        | some zz =>
          simp only [hcj, Option.map_some, Option.some.injEq] at h1
          have hv' : v = a.eval zz := by
            rw [Array.toList_append, List.getElem?_append_left (by simp; omega)] at hv
            simp [hcj] at hv
            exact hv.symm
          subst hv'
          exact hr.ev h1
      · rw [List.getElem?_append_right hj] at hq
        rw [Array.toList_append, List.getElem?_append_right (by simp; omega)] at hv
        simp only [Array.toList_map, List.length_map, Array.length_toList, Array.getElem?_toList] at hv
        rw [← hlen] at hv
        exact hvc _ _ _ hq hv
    have hc := hok (subD I0 w0.heap.size noT noβ w []) w _ subD_no hargs
    simp only [Array.toArray_toList] at hc
    have hrun : (execOp a.eval o).run P w = .ok (.enter g ((xs.map a.eval) ++ vs)) w := by
      have := run_callFunc hg ((xs.map a.eval) ++ vs) w
      simp [execOp, ho, resolve, hy, Deferred.ofValue, invoke, this]
    refine .inl ?_
    simp only [Oper.wp, hrun, Oper.upon]
    refine hc.mono ?_
    rintro e w' (hF | ⟨v, x, T', β', rfl, ⟨rfl, rfl⟩, h2, h3, h4⟩)
    · exact hF.elim
    · exact hK v w' h2 (h4.flat hfl)
end ops
section steps
variable {ops : Array Oper} {i : Nat} {l : List Nat} {d : Nat} {x y : AV}
theorem mv {z : Operand} (k : AOps P N ops Q l (st.put d x)) (ho : (ops.getD i default).op = .move z := by rfl) (hz : ev st z = some x := by rfl) (hi : Nat.blt i ops.size = true := by rfl)
    (hg : opAt N ops st i = true := by rfl) (hd : (ops.getD i default).dst = some d := by rfl) (hN : Nat.blt d N = true := by rfl) : AOps P N ops Q (i :: l) st := st1 (y_move ho hz) k hi hg hd hN
theorem asg {z : Operand} (k : AOps P N ops Q l (st.put d x)) (ho : (ops.getD i default).op = .assign z := by rfl) (hz : ev st z = some x := by rfl) (hi : Nat.blt i ops.size = true := by rfl)
    (hg : opAt N ops st i = true := by rfl) (hd : (ops.getD i default).dst = some d := by rfl) (hN : Nat.blt d N = true := by rfl) : AOps P N ops Q (i :: l) st := st1 (y_assign ho hz) k hi hg hd hN
theorem pt {c p q : Operand} (k : AOps P N ops Q l (st.put d x)) (ho : (ops.getD i default).op = .pick c p q := by rfl) (hc : ev st c = some (.v (.bool true)) := by rfl) (hz : ev st p = some x := by rfl) (hi : Nat.blt i ops.size = true := by rfl)
    (hg : opAt N ops st i = true := by rfl) (hd : (ops.getD i default).dst = some d := by rfl) (hN : Nat.blt d N = true := by rfl) : AOps P N ops Q (i :: l) st := st1 (y_pick_t ho hc hz) k hi hg hd hN
theorem pf {c p q : Operand} (k : AOps P N ops Q l (st.put d x)) (ho : (ops.getD i default).op = .pick c p q := by rfl) (hc : ev st c = some (.v (.bool false)) := by rfl) (hz : ev st q = some x := by rfl) (hi : Nat.blt i ops.size = true := by rfl)
    (hg : opAt N ops st i = true := by rfl) (hd : (ops.getD i default).dst = some d := by rfl) (hN : Nat.blt d N = true := by rfl) : AOps P N ops Q (i :: l) st := st1 (y_pick_f ho hc hz) k hi hg hd hN
theorem bi {f : BinOp} {t t' : TypeId} {p q : Operand} {u v r : Value} (k : AOps P N ops Q l (st.put d (.v r))) (ho : (ops.getD i default).op = .binOp f t p q t' := by rfl) (hp : ev st p = some (.v u) := by rfl) (hq : ev st q = some (.v v) := by rfl)
    (hrun : ∀ w, (do eqGuard f t p q u v; binOp f t u v : Sem Value).run P w = .ok r w := by intro w; rfl) (hi : Nat.blt i ops.size = true := by rfl)
    (hg : opAt N ops st i = true := by rfl) (hd : (ops.getD i default).dst = some d := by rfl) (hN : Nat.blt d N = true := by rfl) : AOps P N ops Q (i :: l) st := st1 (y_bin ho hp hq hrun) k hi hg hd hN
theorem bw {f : BinOp} {t t' : TypeId} {p q : Operand} {u v : Value} {n : Int} (k : AOps P N ops Q l (st.put d (.v (.int .i64 n)))) (ho : (ops.getD i default).op = .binOp f t p q t' := by rfl) (hp : ev st p = some (.v u) := by rfl) (hq : ev st q = some (.v v) := by rfl)
    (hrun : ∀ w, (do eqGuard f t p q u v; binOp f t u v : Sem Value).run P w = .ok (.int .i64 (IntKind.i64.wrap n)) w := by intro w; rfl) (h : -9223372036854775808 ≤ n ∧ n ≤ 9223372036854775807 := by omega) (hi : Nat.blt i ops.size = true := by rfl)
    (hg : opAt N ops st i = true := by rfl) (hd : (ops.getD i default).dst = some d := by rfl) (hN : Nat.blt d N = true := by rfl) : AOps P N ops Q (i :: l) st := st1 (y_bin64 h ho hp hq hrun) k hi hg hd hN
theorem un {f : UnOp} {t : TypeId} {p : Operand} {u r : Value} (k : AOps P N ops Q l (st.put d (.v r))) (ho : (ops.getD i default).op = .unOp f t p := by rfl) (hp : ev st p = some (.v u) := by rfl)
    (hrun : ∀ w, (Op.unary f u).run P w = .ok r w := by intro w; rfl) (hi : Nat.blt i ops.size = true := by rfl)
    (hg : opAt N ops st i = true := by rfl) (hd : (ops.getD i default).dst = some d := by rfl) (hN : Nat.blt d N = true := by rfl) : AOps P N ops Q (i :: l) st := st1 (y_un ho hp hrun) k hi hg hd hN
theorem ld {z : Operand} {t n : Nat} {cs : List AV} (k : AOps P N ops Q l (st.put d y)) (ho : (ops.getD i default).op = .load t z := by rfl) (hz : ev st z = some x := by rfl) (hl : look st x = some cs := by rfl) (ht : szOf P t = some (n, false) := by rfl) (h0 : cs[0]? = some y := by rfl)
    (hi : Nat.blt i ops.size = true := by rfl) (hg : opAt N ops st i = true := by rfl) (hd : (ops.getD i default).dst = some d := by rfl) (hN : Nat.blt d N = true := by rfl) : AOps P N ops Q (i :: l) st := st1 (y_load ho ht hz hl h0) k hi hg hd hN
theorem la {z : Operand} {t n : Nat} {cs : List AV} (k : AOps P N ops Q l (st.put d (.agg (cs.take n)))) (ho : (ops.getD i default).op = .load t z := by rfl) (hz : ev st z = some x := by rfl) (hl : look st x = some cs := by rfl) (ht : szOf P t = some (n, true) := by rfl) (hn : Nat.ble n cs.length = true := by rfl)
    (hi : Nat.blt i ops.size = true := by rfl) (hg : opAt N ops st i = true := by rfl) (hd : (ops.getD i default).dst = some d := by rfl) (hN : Nat.blt d N = true := by rfl) : AOps P N ops Q (i :: l) st := st1 (y_loads ho ht hz hl (by simpa using hn)) k hi hg hd hN
theorem fi {z : Operand} {t f off n : Nat} {ag : Bool} {cs : List AV} (k : AOps P N ops Q l (st.put d (.ip (cs.drop off)))) (ho : (ops.getD i default).op = .fieldAddr t z f := by rfl) (hz : ev st z = some (.ip cs) := by rfl) (ht : fldOf P t f = some (off, n + 1, ag) := by rfl)
    (hi : Nat.blt i ops.size = true := by rfl) (hg : opAt N ops st i = true := by rfl) (hd : (ops.getD i default).dst = some d := by rfl) (hN : Nat.blt d N = true := by rfl) : AOps P N ops Q (i :: l) st := st1 (y_faddr_ip ho ht hz) k hi hg hd hN
theorem fp {z : Operand} {t f off n : Nat} {ag : Bool} {j e s q r : Nat} {es : List (List AV)} (k : AOps P N ops Q l (st.put d (.ptr j q (r + off)))) (ho : (ops.getD i default).op = .fieldAddr t z f := by rfl) (hz : ev st z = some (.ptr j q r) := by rfl) (ht : fldOf P t f = some (off, n + 1, ag) := by rfl)
    (hT : st.T j = .live e s es := by rfl) (hs : Nat.ble (r + off) s = true := by rfl)
    (hi : Nat.blt i ops.size = true := by rfl) (hg : opAt N ops st i = true := by rfl) (hd : (ops.getD i default).dst = some d := by rfl) (hN : Nat.blt d N = true := by rfl) : AOps P N ops Q (i :: l) st := st1 (y_faddr_ptr ho ht hz hT (by simpa using hs)) k hi hg hd hN
theorem ex {z : Operand} {j : Nat} {ls : List AV} (k : AOps P N ops Q l (st.put d y)) (ho : (ops.getD i default).op = .extract z j := by rfl) (hz : ev st z = some (.tup ls) := by rfl) (h0 : ls[j]? = some y := by rfl)
    (hi : Nat.blt i ops.size = true := by rfl) (hg : opAt N ops st i = true := by rfl) (hd : (ops.getD i default).dst = some d := by rfl) (hN : Nat.blt d N = true := by rfl) : AOps P N ops Q (i :: l) st := st1 (y_extract ho hz h0) k hi hg hd hN
theorem ln {z : Operand} {t e s n : Nat} {ts : Array TypeId} (k : AOps P N ops Q l (st.put d (.v (.int .i64 (n : Int))))) (ho : (ops.getD i default).op = .call ⟨.builtin .len, #[z], ts⟩ := by rfl) (hz : ev st z = some x := by rfl) (hn : lenA st x = some n := by rfl) (hts : ts[0]? = some t := by rfl) (ht : elOf P t = some (e, s) := by rfl)
    (hi : Nat.blt i ops.size = true := by rfl) (hg : opAt N ops st i = true := by rfl) (hd : (ops.getD i default).dst = some d := by rfl) (hN : Nat.blt d N = true := by rfl) : AOps P N ops Q (i :: l) st := st1 (y_len ho hts ht hz hn) k hi hg hd hN
theorem mf {f : Nat} {caps : Array Operand} {ls : List AV} (k : AOps P N ops Q l (st.put d (.clo f ls))) (ho : (ops.getD i default).op = .makeFunc (.func f) #[] caps := by rfl) (hl : evs st caps.toList = some ls := by rfl)
    (hi : Nat.blt i ops.size = true := by rfl) (hg : opAt N ops st i = true := by rfl) (hd : (ops.getD i default).dst = some d := by rfl) (hN : Nat.blt d N = true := by rfl) : AOps P N ops Q (i :: l) st := st1 (y_makeFunc ho hl) k hi hg hd hN
theorem bd {t : Nat} {parts : Array (Nat × Operand)} {ps : List (Nat × AV)} {ls : List AV} (k : AOps P N ops Q l (st.put d (.agg ls))) (ho : (ops.getD i default).op = .build t parts := by rfl) (hps : evps st parts.toList = some ps := by rfl) (hb : builtA P t ps = some ls := by rfl)
    (hok : (ps.all fun p => (cellsA p.2).all (cok1 st.T)) = true := by rfl)
    (hi : Nat.blt i ops.size = true := by rfl) (hg : opAt N ops st i = true := by rfl) (hd : (ops.getD i default).dst = some d := by rfl) (hN : Nat.blt d N = true := by rfl) : AOps P N ops Q (i :: l) st := st1 (y_build ho hps hb hok) k hi hg hd hN
theorem bx {t : Nat} {z : Operand} (j : Nat) (k : AOps P N ops Q l (ASt.mk ((d, .ptr j 0 0) :: st.env) (upd st.T j (.live t (cellsA x).length [cellsA x])))) (ho : (ops.getD i default).op = .box t z := by rfl) (hz : ev st z = some x := by rfl) (hx : (cellsA x).all (cok1 st.T) = true := by rfl) (hj : st.T j = .no := by rfl)
    (hi : Nat.blt i ops.size = true := by rfl) (hg : opAt N ops st i = true := by rfl) (hd : (ops.getD i default).dst = some d := by rfl) (hN : Nat.blt d N = true := by rfl) : AOps P N ops Q (i :: l) st := st2 (op_box ho hd (blt_lt hN) hz hx hj k) hi hg
theorem al {t : Nat} {z : Value} {info : TypeInfo} (j : Nat) (k : AOps P N ops Q l (ASt.mk ((d, .ptr j 0 0) :: st.env) (upd st.T j (.live t z.cells.size [z.cells.toList.map .v])))) (ho : (ops.getD i default).op = .alloc t := by rfl) (hinfo : P.info? t = some info := by rfl) (hz : info.zero = some z := by rfl) (hj : st.T j = .no := by rfl)
    (hi : Nat.blt i ops.size = true := by rfl) (hg : opAt N ops st i = true := by rfl) (hd : (ops.getD i default).dst = some d := by rfl) (hN : Nat.blt d N = true := by rfl) : AOps P N ops Q (i :: l) st := st2 (op_alloc (n := 0) (ag := true) ho hd (blt_lt hN) hinfo hz hj k) hi hg
theorem so {t n : Nat} {ag : Bool} {zp zv : Operand} {j q r e s : Nat} {es : List (List AV)} {c : List AV} (k : AOps P N ops Q l (ASt.mk st.env (upd st.T j (.live e s (es.set q (c.take r ++ cellsA x ++ c.drop (r + n))))))) (ho : (ops.getD i default).op = .store t zp zv := by rfl)
    (hp : ev st zp = some (.ptr j q r) := by rfl) (hT : st.T j = .live e s es := by rfl) (hq : es[q]? = some c := by rfl) (hv : ev st zv = some x := by rfl) (ht : szOf P t = some (n, ag) := by rfl) (hx : (cellsA x).all (cok1 st.T) = true := by rfl) (hn : (cellsA x).length = n := by rfl) (hrs : Nat.ble (r + n) s = true := by rfl)
    (hi : Nat.blt i ops.size = true := by rfl) (hg : opAt N ops st i = true := by rfl) (hd : (ops.getD i default).dst = none := by rfl) : AOps P N ops Q (i :: l) st := st2 (op_store ho hd ht hp hT hq hv hx hn (by simpa using hrs) k) hi hg
end steps
end
end Go.Proofs.Ytemcemimipagoaa.AW
namespace Go.Proofs.Ytemcemimipagoaa.AW
open Go Go.RowKit
theorem wrap_id {n : Int} (h : -9223372036854775808 ≤ n ∧ n ≤ 9223372036854775807) : IntKind.i64.wrap n = n := by
  rw [IntKind.wrap_i64]
  have e1 : (n + 9223372036854775808) % 18446744073709551616 = n + 9223372036854775808 := Int.emod_eq_of_lt (by omega) (by omega)
  omega
theorem mask_nat (v : Int) (k : Nat) (hk : k < 64) : ((BitVec.ofInt 64 v &&& BitVec.ofNat 64 (2 ^ k - 1)).toNat : Int) = v % (2 ^ k : Nat) := by
  have h1 : (2 ^ k : Nat) ∣ 2 ^ 64 := Nat.pow_dvd_pow 2 (by omega)
  have h2 : 2 ^ k - 1 < 2 ^ 64 := by
    have : 2 ^ k < 2 ^ 64 := Nat.pow_lt_pow_right (by omega) (by omega)
    omega
  rw [BitVec.toNat_and, BitVec.toNat_ofInt, BitVec.toNat_ofNat, Nat.mod_eq_of_lt h2, Nat.and_two_pow_sub_one_eq_mod]
  have h0 : (0 : Int) ≤ v % (2 ^ 64 : Nat) := Int.emod_nonneg _ (by decide)
  rw [Int.natCast_emod, Int.toNat_of_nonneg h0]
  exact Int.emod_emod_of_dvd _ (by exact_mod_cast h1)
section
variable {P : Program} {N : Fr} {Q : Exit → ASt → Prop} {st : ASt} {o : Oper}
theorem y_mask {t t' : TypeId} {p q : Operand} {v m : Int} (k : Nat) (hk : k < 64) (ho : o.op = .binOp .and t p q t') (hp : ev st p = some (.v (.int .i64 v))) (hq : ev st q = some (.v (.int .i64 m))) (hm : m = ((2 ^ k - 1 : Nat) : Int)) :
    AYield P N Q o st (.v (.int .i64 (v % (2 ^ k : Nat)))) :=
  y_bin (r := .int .i64 (v % (2 ^ k : Nat))) ho hp hq fun w => by
    have h : (do eqGuard .and t p q (.int .i64 v) (.int .i64 m); binOp .and t (.int .i64 v) (.int .i64 m) : Sem Value).run P w = .ok (.int .i64 (IntKind.i64.wrap ((BitVec.ofInt 64 v &&& BitVec.ofInt 64 m).toNat : Int))) w := rfl
    rw [h, hm, BitVec.ofInt_natCast, mask_nat v k hk, wrap_id]
    have h1 : (2 ^ k : Nat) ≤ 2 ^ 63 := Nat.pow_le_pow_right (by omega) (by omega)
    have h2 : 0 < (2 ^ k : Nat) := Nat.two_pow_pos k
    have h3 : (0 : Int) ≤ v % (2 ^ k : Nat) := Int.emod_nonneg _ (by omega)
    have h4 : v % (2 ^ k : Nat) < (2 ^ k : Nat) := Int.emod_lt_of_pos _ (by omega)
    omega
theorem y_shr {t t' : TypeId} {p q : Operand} {k kk : IntKind} {v n c : Int} (hn : 0 ≤ n) (ho : o.op = .binOp .shr t p q t') (hp : ev st p = some (.v (.int k v))) (hq : ev st q = some (.v (.int kk n))) (hc : (2 : Int) ^ (min n.toNat k.bits) = c) :
    AYield P N Q o st (.v (.int k (v / c))) :=
  y_bin (r := .int k (v / c)) ho hp hq fun w => by
    have h0 : ¬ n < 0 := by omega
    have h1 : (0 : Int) ≤ 2 ^ (min n.toNat k.bits) := Int.pow_nonneg (by decide)
    subst hc
    simp only [eqGuard_shr, binOp, Op.shift, h0, if_false]
    rw [← Int.fdiv_eq_ediv_of_nonneg _ h1]
    rfl
theorem y_shl {t t' : TypeId} {p q : Operand} {kk : IntKind} {v n c : Int} (hn : 0 ≤ n) (ho : o.op = .binOp .shl t p q t') (hp : ev st p = some (.v (.int .i64 v))) (hq : ev st q = some (.v (.int kk n))) (hc : (2 : Int) ^ (min n.toNat 64) = c)
    (h : -9223372036854775808 ≤ v * c ∧ v * c ≤ 9223372036854775807) : AYield P N Q o st (.v (.int .i64 (v * c))) :=
  y_bin (r := .int .i64 (v * c)) ho hp hq fun w => by
    have h0 : ¬ n < 0 := by omega
    subst hc
    simp only [eqGuard_shl, binOp, Op.shift, h0, if_false]
    rw [show IntKind.i64.bits = 64 from rfl]
    simp only [Sem.run_bind, Sem.run_pure, Result.andThen_ok]
    show Result.ok (Value.int .i64 (IntKind.i64.wrap _)) w = _
    rw [wrap_id h]
theorem y_iaddrN {z ix : Operand} {t e s : Nat} {es : List (List AV)} {c : List AV} {kk : IntKind} {n : Int} (q : Nat) (hc : es[q]? = some c) (ho : o.op = .indexAddr t z ix := by rfl) (hz : ev st z = some (.sl s es) := by rfl) (hix : ev st ix = some (.v (.int kk n)) := by rfl)
    (hn : n = (q : Int) := by rfl) (ht : elOf P t = some (e, s) := by rfl) : AYield P N Q o st (.ip c) :=
  y_iaddr (ho := ho) (ht := ht) (hz := hz) (hix := hix) (h0 := by omega) (hc := by rw [hn]; simpa using hc)
theorem y_loadsN {z : Operand} {t n : Nat} {cs : List AV} {x : AV} (ho : o.op = .load t z := by rfl) (hz : ev st z = some x := by rfl) (hl : look st x = some cs := by rfl) (ht : szOf P t = some (n, true) := by rfl) (hn : Nat.ble n cs.length = true := by rfl) : AYield P N Q o st (.agg (cs.take n)) :=
  y_loads ho ht hz hl (by simpa using hn)
def valsOf : List AV → Option (List Value)
  | [] => some []
  | .v x :: r => (valsOf r).map (x :: ·)
  | _ :: _ => none
theorem valsOf_map : ∀ {l : List AV} {vs : List Value}, valsOf l = some vs → l = vs.map .v
  | [], vs, h => by simp [valsOf] at h; subst h; rfl
  | .v x :: r, vs, h => by
    simp only [valsOf, Option.map_eq_some_iff] at h
    obtain ⟨u, hu, rfl⟩ := h
    rw [valsOf_map hu]; rfl
  | .agg _ :: _, _, h => by simp [valsOf] at h
  | .tup _ :: _, _, h => by simp [valsOf] at h
  | .sl _ _ :: _, _, h => by simp [valsOf] at h
  | .own _ :: _, _, h => by simp [valsOf] at h
  | .ptr _ _ _ :: _, _, h => by simp [valsOf] at h
  | .ip _ :: _, _, h => by simp [valsOf] at h
  | .clo _ _ :: _, _, h => by simp [valsOf] at h
theorem y_ext {g : Nat} {z : Operand} {xs : Array Operand} {ts : Array TypeId} {l : List AV} {vs : List Value} {r : Value} (hrun : ∀ w, (callFunc g vs.toArray).run P w = .ok (.value r) w) (ho : o.op = .call ⟨.value z, xs, ts⟩)
    (hz : ev st z = some (.clo g [])) (hl : evs st xs.toList = some l) (hv : valsOf l = some vs) : AYield P N Q o st (.v r) :=
  AYield.still fun I0 w0 β a w hr => by
    have hzr := hr.ev hz
    generalize hy : a.eval z = yv at hzr
    cases hzr with
    | clo _ _ cs hc _ =>
      have hcs : cs = #[] := Array.eq_empty_of_size_eq_zero (by simpa using hc.symm)
      subst hcs
      have hm := evs_map hl
      have hlen : l.length = xs.size := by have := congrArg List.length hm; simpa using this.symm
      have hvl := valsOf_map hv
      have hargs : xs.map a.eval = vs.toArray := by
        apply Array.ext'
        rw [Array.toList_map]
        apply List.ext_getElem?
        intro j
        rw [List.getElem?_map]
        cases hj : xs.toList[j]? with
        | none =>
          have h1 : xs.toList.length ≤ j := List.getElem?_eq_none_iff.1 hj
          have h2 : vs.length = l.length := by rw [hvl]; simp
          rw [List.getElem?_eq_none (by simp at h1 ⊢; omega)]; rfl
        | some q =>
          have h1 : (xs.toList.map (ev st))[j]? = some (ev st q) := by simp [hj]
          rw [hm, hvl] at h1
          simp only [List.getElem?_map] at h1
          cases hvj : vs[j]? with
          | none => simp [hvj] at h1
          | some u =>
            simp only [hvj, Option.map_some, Option.some.injEq] at h1
            have := (hr.ev h1.symm).v_inv
            simp [this, hvj]
      refine ⟨r, ?_, .v r⟩
      simp [execOp, ho, resolve, hy, Deferred.ofValue, invoke, hargs, hrun w]
section steps
variable {ops : Array Oper} {i : Nat} {l : List Nat} {d : Nat} {x y : AV}
theorem ms {t t' : TypeId} {p q : Operand} {v m : Int} (k : Nat) (kk : AOps P N ops Q l (st.put d (.v (.int .i64 (v % (2 ^ k : Nat)))))) (ho : (ops.getD i default).op = .binOp .and t p q t' := by rfl) (hp : ev st p = some (.v (.int .i64 v)) := by rfl) (hq : ev st q = some (.v (.int .i64 m)) := by rfl)
    (hk : k < 64 := by decide) (hm : m = ((2 ^ k - 1 : Nat) : Int) := by rfl) (hi : Nat.blt i ops.size = true := by rfl)
    (hg : opAt N ops st i = true := by rfl) (hd : (ops.getD i default).dst = some d := by rfl) (hN : Nat.blt d N = true := by rfl) : AOps P N ops Q (i :: l) st := st1 (y_mask k hk ho hp hq hm) kk hi hg hd hN
theorem sr {t t' : TypeId} {p q : Operand} {k' kk : IntKind} {v n c : Int} (k : AOps P N ops Q l (st.put d (.v (.int k' (v / c))))) (ho : (ops.getD i default).op = .binOp .shr t p q t' := by rfl) (hp : ev st p = some (.v (.int k' v)) := by rfl) (hq : ev st q = some (.v (.int kk n)) := by rfl)
    (hn : 0 ≤ n := by omega) (hc : (2 : Int) ^ (min n.toNat k'.bits) = c := by rfl) (hi : Nat.blt i ops.size = true := by rfl)
    (hg : opAt N ops st i = true := by rfl) (hd : (ops.getD i default).dst = some d := by rfl) (hN : Nat.blt d N = true := by rfl) : AOps P N ops Q (i :: l) st := st1 (y_shr hn ho hp hq hc) k hi hg hd hN
theorem sll {t t' : TypeId} {p q : Operand} {kk : IntKind} {v n c : Int} (k : AOps P N ops Q l (st.put d (.v (.int .i64 (v * c))))) (ho : (ops.getD i default).op = .binOp .shl t p q t' := by rfl) (hp : ev st p = some (.v (.int .i64 v)) := by rfl) (hq : ev st q = some (.v (.int kk n)) := by rfl)
    (hn : 0 ≤ n := by omega) (hc : (2 : Int) ^ (min n.toNat 64) = c := by rfl) (h : -9223372036854775808 ≤ v * c ∧ v * c ≤ 9223372036854775807 := by omega) (hi : Nat.blt i ops.size = true := by rfl)
    (hg : opAt N ops st i = true := by rfl) (hd : (ops.getD i default).dst = some d := by rfl) (hN : Nat.blt d N = true := by rfl) : AOps P N ops Q (i :: l) st := st1 (y_shl hn ho hp hq hc h) k hi hg hd hN
theorem rm {t t' : TypeId} {p q : Operand} {k' : IntKind} {u v : Int} (k : AOps P N ops Q l (st.put d (.v (.int k' (u.tmod v))))) (ho : (ops.getD i default).op = .binOp .rem t p q t' := by rfl) (hp : ev st p = some (.v (.int k' u)) := by rfl) (hq : ev st q = some (.v (.int k' v)) := by rfl)
    (h : v ≠ 0 := by omega) (hi : Nat.blt i ops.size = true := by rfl)
    (hg : opAt N ops st i = true := by rfl) (hd : (ops.getD i default).dst = some d := by rfl) (hN : Nat.blt d N = true := by rfl) : AOps P N ops Q (i :: l) st := st1 (y_rem h ho hp hq) k hi hg hd hN
theorem qu {t t' : TypeId} {p q : Operand} {k' : IntKind} {u v : Int} (k : AOps P N ops Q l (st.put d (.v (.int k' (k'.wrap (u.tdiv v)))))) (ho : (ops.getD i default).op = .binOp .quo t p q t' := by rfl) (hp : ev st p = some (.v (.int k' u)) := by rfl) (hq : ev st q = some (.v (.int k' v)) := by rfl)
    (h : v ≠ 0 := by omega) (hi : Nat.blt i ops.size = true := by rfl)
    (hg : opAt N ops st i = true := by rfl) (hd : (ops.getD i default).dst = some d := by rfl) (hN : Nat.blt d N = true := by rfl) : AOps P N ops Q (i :: l) st := st1 (y_quo h ho hp hq) k hi hg hd hN
theorem cl {g : Nat} {caps : List AV} {z : Operand} {xs : Array Operand} {ts : Array TypeId} {ls l' : List AV} (hok : Gives P g l' y) (k : AOps P N ops Q l (st.put d y)) (ho : (ops.getD i default).op = .call ⟨.value z, xs, ts⟩ := by rfl)
    (hz : ev st z = some (.clo g caps) := by rfl) (hl : evs st xs.toList = some ls := by rfl) (hl' : ls ++ caps = l' := by rfl) (hg' : goFn P g = true := by rfl) (hno : NoOwnL l' := by simp [NoOwnL]) (hi : Nat.blt i ops.size = true := by rfl)
    (hg : opAt N ops st i = true := by rfl) (hd : (ops.getD i default).dst = some d := by rfl) (hN : Nat.blt d N = true := by rfl) : AOps P N ops Q (i :: l) st := st1 (y_call hok ho hz hl hl' hg' hno) k hi hg hd hN
theorem cs {g : Nat} {caps : List AV} {z : Operand} {xs : Array Operand} {ts : Array TypeId} {ls l' : List AV} (hok : Gives P g l' y) (k : AOps P N ops Q l (st.put d y)) (ho : (ops.getD i default).op = .call ⟨.value z, xs, ts⟩ := by rfl)
    (hz : ev st z = some (.clo g caps) := by rfl) (hl : evs st xs.toList = some ls := by rfl) (hg' : goFn P g = true := by rfl) (hfl : flatV y = true := by rfl) (hi : Nat.blt i ops.size = true := by rfl)
    (hg : opAt N ops st i = true := by rfl) (hd : (ops.getD i default).dst = some d := by rfl) (hN : Nat.blt d N = true := by rfl) (hsh : ShL st.T (ls ++ caps) l') : AOps P N ops Q (i :: l) st := st1 (y_callS (hok := hok) (ho := ho) (hz := hz) (hl := hl) (hg := hg') (hfl := hfl) (hsh := hsh)) k hi hg hd hN
theorem ia {z ix : Operand} {t e s : Nat} {es : List (List AV)} {c : List AV} {kk : IntKind} {n : Int} (q : Nat) (hc : es[q]? = some c) (k : AOps P N ops Q l (st.put d (.ip c))) (ho : (ops.getD i default).op = .indexAddr t z ix := by rfl)
    (hz : ev st z = some (.sl s es) := by rfl) (hix : ev st ix = some (.v (.int kk n)) := by rfl) (hn : n = (q : Int) := by rfl) (ht : elOf P t = some (e, s) := by rfl) (hi : Nat.blt i ops.size = true := by rfl)
    (hg : opAt N ops st i = true := by rfl) (hd : (ops.getD i default).dst = some d := by rfl) (hN : Nat.blt d N = true := by rfl) : AOps P N ops Q (i :: l) st :=
  st1 (y_iaddr (ho := ho) (ht := ht) (hz := hz) (hix := hix) (h0 := by omega) (hc := by rw [hn]; simpa using hc)) k hi hg hd hN
theorem iao {z ix : Operand} {t e s j : Nat} {es : List (List AV)} {kk : IntKind} {n : Int} (q : Nat) (hq : q < es.length) (k : AOps P N ops Q l (st.put d (.ptr j q 0))) (ho : (ops.getD i default).op = .indexAddr t z ix := by rfl)
    (hz : ev st z = some (.own j) := by rfl) (hT : st.T j = .live e s es := by rfl) (hix : ev st ix = some (.v (.int kk n)) := by rfl) (hn : n = (q : Int) := by rfl) (ht : elOf P t = some (e, s) := by rfl) (hi : Nat.blt i ops.size = true := by rfl)
    (hg : opAt N ops st i = true := by rfl) (hd : (ops.getD i default).dst = some d := by rfl) (hN : Nat.blt d N = true := by rfl) : AOps P N ops Q (i :: l) st :=
  st1 (by
    have h := y_iaddr_own (Q := Q) (P := P) (N := N) (o := ops.getD i default) (st := st) (ho := ho) (ht := ht) (hz := hz) (hT := hT) (hix := hix) (h0 := by omega) (hc := by omega)
    rw [hn, Int.toNat_natCast] at h; exact h) k hi hg hd hN
theorem ix {z ixo : Operand} {t : Nat} {b : ByteArray} {kk : IntKind} {n : Int} (h1 : n < b.size) (k : AOps P N ops Q l (st.put d (.v (.int .u8 (btA b n))))) (ho : (ops.getD i default).op = .index t z ixo := by rfl) (hz : ev st z = some (.v (.string b)) := by rfl)
    (hix : ev st ixo = some (.v (.int kk n)) := by rfl) (h0 : 0 ≤ n := by omega) (ht : P.underlying t = some .string := by rfl) (hi : Nat.blt i ops.size = true := by rfl)
    (hg : opAt N ops st i = true := by rfl) (hd : (ops.getD i default).dst = some d := by rfl) (hN : Nat.blt d N = true := by rfl) : AOps P N ops Q (i :: l) st :=
  st1 (y_index h0 h1 ho ht hz hix) k hi hg hd hN
theorem xt {g : Nat} {z : Operand} {xs : Array Operand} {ts : Array TypeId} {ls : List AV} {vs : List Value} {r : Value} (hrun : ∀ w, (callFunc g vs.toArray).run P w = .ok (.value r) w) (k : AOps P N ops Q l (st.put d (.v r))) (ho : (ops.getD i default).op = .call ⟨.value z, xs, ts⟩ := by rfl)
    (hz : ev st z = some (.clo g []) := by rfl) (hl : evs st xs.toList = some ls := by rfl) (hv : valsOf ls = some vs := by rfl) (hi : Nat.blt i ops.size = true := by rfl)
    (hg : opAt N ops st i = true := by rfl) (hd : (ops.getD i default).dst = some d := by rfl) (hN : Nat.blt d N = true := by rfl) : AOps P N ops Q (i :: l) st := st1 (y_ext hrun ho hz hl hv) k hi hg hd hN
theorem cv' {z : Operand} {t t' : Nat} {k k' : IntKind} {n : Int} {dd : TypeDesc} (kk : AOps P N ops Q l (st.put d (.v (.int k' (k'.wrap n))))) (ho : (ops.getD i default).op = .convert t t' z := by rfl) (hz : ev st z = some (.v (.int k n)) := by rfl) (ht : P.underlying t = some dd := by rfl) (ht' : P.underlying t' = some (.int k') := by rfl)
    (hi : Nat.blt i ops.size = true := by rfl) (hg : opAt N ops st i = true := by rfl) (hd : (ops.getD i default).dst = some d := by rfl) (hN : Nat.blt d N = true := by rfl) : AOps P N ops Q (i :: l) st := st1 (y_conv ho ht ht' hz) kk hi hg hd hN
end steps
end
end Go.Proofs.Ytemcemimipagoaa.AW
namespace Go.Proofs.Ytemcemimipagoaa.AW
open Go Go.RowKit
section
variable {P : Program} {N : Fr} {Q : Exit → ASt → Prop} {st : ASt} {I0 : Dom} {w0 : World} {β : Nat → Value} {a : Act} {w : World}
theorem ent_nil {t : Nat} (m e s : Nat) (hm : st.T m = .no) (hv : get st.env t = some (.v (.slice none 0 0))) : Ent N st ⟨(t, .own m) :: st.env, upd st.T m (.live e s [])⟩ := by
  intro I0 w0 β a w hr
  obtain ⟨h1, h2⟩ := hr.newObj (w' := w) (i' := m) (e := e) (s := s) (es' := []) hm none none (by simp) (by simp) ⟨rfl, rfl, rfl, Nat.le_refl _, fun _ _ _ => rfl⟩ (y := .slice none 0 0) (xs := []) (World.owns_nil w _ _ _) (fun b hb => by simp [Value.ownBlock] at hb) (by simp) (by simp)
  refine ⟨_, h1.old, h1.size, h1.defers, fun q x hx => ?_, h1.objs, h1.below, h1.step, h1.base, h1.pins⟩
  simp only [get] at hx
  by_cases hq : t = q
  · rw [if_pos hq] at hx
    cases hx
    subst hq
    have hh := (hr.env t _ hv).v_inv
    refine .own m _ (by simp [upd]) fun e' s' es' he => ?_
    rw [hh]; simp [updV]
  · rw [if_neg hq] at hx
    exact h1.env q x hx
theorem Ok.row {f : Nat} {args : List AV} {e s : Nat} {es : List (List AV)} (h : Ok P f args fun x T => ∃ i, x = .own i ∧ T i = .live e s es) (hno : ∀ c ∈ es, ∀ y ∈ c, NoOwn y) (m : Nat) :
    Ok P f args fun x T => x = .own m ∧ T = upd noT m (.live e s es) := by
  intro I0 w vs hI hvs
  refine (h I0 w vs hI hvs).mono ?_
  rintro en w' (hF | ⟨v, x, T, β, rfl, ⟨i, rfl, hi⟩, h2, h3, h4⟩)
  · exact hF.elim
  · refine .inr ⟨v, .own m, upd noT m (.live e s es), updV β m (β i), rfl, ⟨rfl, rfl⟩, h2, ⟨?_, ?_⟩, ?_⟩
    · intro j e' s' es' hj
      simp only [upd] at hj
      by_cases hjm : j = m
      · rw [if_pos hjm] at hj; cases hj
        obtain ⟨a1, xs, a2, a3⟩ := h3.obj i e s es hi
        refine ⟨a1, xs, by simp only [updV, if_pos hjm]; exact a2, fun q y hy => ?_⟩
        obtain ⟨u, hu, hr⟩ := a3 q y hy
        refine ⟨u, hu, ?_⟩
        have hn : NoOwn y := by
          obtain ⟨c, hc, hyc⟩ := List.mem_flatten.1 (List.mem_of_getElem? hy)
          exact hno c hc y hyc
        have h5 : Rep (Im I0 w.heap.size (upd noT m (.live e s es)) (updV β m (β i)) w') T β w' y u := hr.mono (fun b ⟨b1, b2, b3⟩ => ⟨⟨b1, b2, fun j' e' s' es' hj' hb => by
          simp only [upd] at hj'
          by_cases hj'm : j' = m
          · rw [if_pos hj'm] at hj'; cases hj'
            simp only [updV, if_pos hj'm] at hb
            exact b3 i _ _ _ hi hb
          · rw [if_neg hj'm] at hj'; cases hj'⟩, fun o => rfl⟩) fun i hi => ⟨hi, fun e s es' h' => ⟨rfl, es', h', rfl⟩⟩
        exact h5.noOwn hn
      · rw [if_neg hjm] at hj; cases hj
    · intro p e1 s1 es1 q e2 s2 es2 b hp hq hbp hbq
      simp only [upd] at hp hq
      by_cases hpm : p = m
      · by_cases hqm : q = m
        · rw [hpm, hqm]
        · rw [if_neg hqm] at hq; cases hq
      · rw [if_neg hpm] at hp; cases hp
    · cases h4 with
      | own _ _ hn hx =>
        refine .own m v (by simp [upd]) fun e' s' es' he => ?_
        rw [hx e s es hi]; simp [updV]
section ops
variable {o : Oper} {K : ASt → Prop} {d : Nat} {x y : AV}
theorem run_nil_eq (w : World) (t e : TypeId) (b : Option Addr) (n c : Nat) (h : P.underlying t = some (.slice e)) : (binOp .eql t (.slice b n c) (.slice none 0 0)).run P w = .ok (.bool b.isNone) w := by
  have h1 : ∀ d, (Op.equalIn (d + 1) t (.slice b n c) (.slice none 0 0)).run P w = .ok b.isNone w := fun d => by cases b <;> simp [Op.equalIn, run_underlying h]
  simp only [binOp]
  simp [Op.equal, Op.maxDepth, h1 9999]
theorem op_isn {z : Operand} {t t' e s s' : Nat} {es : List (List AV)} (ho : o.op = .binOp .eql t z (.const (.slice none 0 0)) t') (hz : ev st z = some (.sl s es)) (ht : elOf P t = some (e, s')) (hd : o.dst = some d) (hN : d < N)
    (k : ∀ b : Bool, (b = true → es = []) → K (st.put d (.v (.bool b)))) : AOp P N o K Q st := by
  intro I0 w0 β a w hr K' hK
  have hv := hr.ev hz
  obtain ⟨b, n, c, hy, hb⟩ : ∃ (b : Option Addr) (n c : Nat), a.eval z = .slice b n c ∧ (b.isNone = true → es = []) := by
    generalize a.eval z = y at hv
    cases hv with
    | emp s base cap h => exact ⟨base, 0, cap, rfl, fun _ => rfl⟩
    | sl s es b off cap vs => exact ⟨_, _, _, rfl, fun h => by cases h⟩
  have hrun : (execOp a.eval o).run P w = .ok (.value (.bool b.isNone)) w := by
    have h1 := run_nil_eq (P := P) w t e b n c (elOf_el ht).1
    have h2 : a.eval (.const (.slice none 0 0)) = .slice none 0 0 := rfl
    simp [execOp, ho, hy, h1, h2, eqGuard_at_slice]
  refine .inl ?_
  simp only [Oper.wp, hrun, Oper.upon, hd]
  exact hK _ β _ w (hr.put hN (.v _)) (k b.isNone hb)
theorem op_lit0 {t e s : Nat} (m : Nat) (hm : st.T m = .no) (ho : o.op = .buildSlice t 0 #[]) (ht : elOf P t = some (e, s)) (hd : o.dst = some d) (hN : d < N) (k : K (ASt.mk ((d, .own m) :: st.env) (upd st.T m (.live e s [])))) : AOp P N o K Q st := by
  intro I0 w0 β a w hr K' hK
  obtain ⟨hu, bb, hs⟩ := elOf_el ht
  obtain ⟨h1, h2⟩ := hr.row (i := m) (e := e) (s := s) (es := []) hm (n := 0) rfl (Nat.zero_le _) (cells := #[]) (by simp) (by simp) (by simp)
  have hrun : (execOp a.eval o).run P w = .ok (.value (.slice (some ⟨w.heap.size, 0, none⟩) 0 0)) (w.alloc (.cells #[] e)) := by
    simp [execOp, ho, Instr.buildSlice, run_underlying hu, (szOf_run hs w).1, newRow, Instr.fill, Array.range_zero']
  refine .inl ?_
  simp only [Oper.wp, hrun, Oper.upon, hd]
  refine hK _ _ _ _ (h1.put hN (.own m _ (by simp [upd]) fun e s es he => ?_)) k
  simp [updV]
end ops
section steps
variable {ops : Array Oper} {i : Nat} {l : List Nat} {d : Nat} {x y : AV}
theorem isn {z : Operand} {t t' e s s' : Nat} {es : List (List AV)} (k : ∀ b : Bool, (b = true → es = []) → AOps P N ops Q l (st.put d (.v (.bool b)))) (ho : (ops.getD i default).op = .binOp .eql t z (.const (.slice none 0 0)) t' := by rfl)
    (hz : ev st z = some (.sl s es) := by rfl) (ht : elOf P t = some (e, s') := by rfl) (hi : Nat.blt i ops.size = true := by rfl)
    (hg : opAt N ops st i = true := by rfl) (hd : (ops.getD i default).dst = some d := by rfl) (hN : Nat.blt d N = true := by rfl) : AOps P N ops Q (i :: l) st := st2 (op_isn ho hz ht hd (blt_lt hN) k) hi hg
theorem lit0 {t e s : Nat} (m : Nat) (k : AOps P N ops Q l (ASt.mk ((d, .own m) :: st.env) (upd st.T m (.live e s [])))) (hm : st.T m = .no) (ho : (ops.getD i default).op = .buildSlice t 0 #[] := by rfl) (ht : elOf P t = some (e, s) := by rfl)
    (hi : Nat.blt i ops.size = true := by rfl) (hg : opAt N ops st i = true := by rfl) (hd : (ops.getD i default).dst = some d := by rfl) (hN : Nat.blt d N = true := by rfl) : AOps P N ops Q (i :: l) st := st2 (op_lit0 m hm ho ht hd (blt_lt hN) k) hi hg
theorem ap {t e s by_ j : Nat} {z1 z2 : Operand} {z : List AV} {es es2 : List (List AV)} (m : Nat) (hm : st.T m = .no) (hok : ∀ c ∈ es2, ∀ y ∈ c, cok1 st.T y = true) (hbd : (es.length + es2.length) * by_ ≤ 140737488355328) (hl : es.length + es2.length ≤ 9223372036854775807)
    (k : AOps P N ops Q l (ASt.mk ((d, .own m) :: st.env) (upd (upd st.T j .dead) m (.live e s (es ++ es2)))))
    (ho : (ops.getD i default).op = .call ⟨.builtin .append, #[z1, z2], #[t, t]⟩ := by rfl) (h1 : ev st z1 = some (.own j) := by rfl) (hT : st.T j = .live e s es := by rfl) (h2 : ev st z2 = some x := by rfl) (hs : srcA st x = some es2 := by rfl) (hsz : sizA st s x = true := by rfl)
    (ht : elOf P t = some (e, s) := by rfl) (hz : zcells P e = some z := by rfl) (hby : byOf P e = some by_ := by rfl)
    (hi : Nat.blt i ops.size = true := by rfl) (hg : opAt N ops st i = true := by rfl) (hd : (ops.getD i default).dst = some d := by rfl) (hN : Nat.blt d N = true := by rfl) : AOps P N ops Q (i :: l) st :=
  st2 (op_app m hm hbd hl hok hd hN k (ho := ho) (ht := ht) (hz := hz) (hby := hby) (h1 := h1) (hT := hT) (h2 := h2) (hs := hs) (hsz := hsz)) hi hg
end steps
end
end Go.Proofs.Ytemcemimipagoaa.AW
namespace Go.Proofs.Ytemcemimipagoaa.AW
open Go Go.RowKit
inductive Only (T : Nat → Ob) : AV → Prop
  | v (x : Value) : Only T (.v x)
  | agg (l : List AV) : (∀ x ∈ l, Only T x) → Only T (.agg l)
  | tup (l : List AV) : (∀ x ∈ l, Only T x) → Only T (.tup l)
  | sl (s : Nat) (es : List (List AV)) : (∀ c ∈ es, ∀ x ∈ c, Only T x) → Only T (.sl s es)
  | ip (cs : List AV) : (∀ x ∈ cs, Only T x) → Only T (.ip cs)
  | clo (f : Nat) (l : List AV) : (∀ x ∈ l, Only T x) → Only T (.clo f l)
  | own (i : Nat) : T i ≠ .no → Only T (.own i)
theorem NoOwn.only {T : Nat → Ob} {x : AV} (h : NoOwn x) : Only T x := by
  induction h with
  | v x => exact .v x
  | agg l _ ih => exact .agg l ih
  | tup l _ ih => exact .tup l ih
  | sl s es _ ih => exact .sl s es ih
  | ip cs _ ih => exact .ip cs ih
  | clo f l _ ih => exact .clo f l ih
section
variable {P : Program} {N : Fr} {Q : Exit → ASt → Prop} {st : ASt} {I0 : Dom} {w0 : World} {β : Nat → Value} {a : Act} {w : World}
theorem Rep.only {I : Nat → Prop} {T T' : Nat → Ob} {x : AV} {y : Value} (h : Rep I T β w x y) (hx : Only T' x) (hT : ∀ j, T' j = T j ∨ T' j = .no) : Rep I T' β w x y := by
  induction h with
  | v x => exact .v x
  | agg l cs hl hc ih => cases hx with | agg _ h => exact .agg l cs hl fun j a c ha hc' => ih j a c ha hc' (h a (List.mem_of_getElem? ha))
  | tup l cs hl hc ih => cases hx with | tup _ h => exact .tup l cs hl fun j a c ha hc' => ih j a c ha hc' (h a (List.mem_of_getElem? ha))
  | emp s b c h => exact .emp s b c h
  | sl s es b off cap vs h1 h2 h3 h4 h5 ih =>
    cases hx with
    | sl _ _ h => exact .sl s es b off cap vs h1 h2 h3 h4 fun j a ha => ih j a ha (by
        obtain ⟨c, hc, hac⟩ := List.mem_flatten.1 (List.mem_of_getElem? ha)
        exact h c hc a hac)
  | own i x h1 h2 =>
    cases hx with
    | own _ hn =>
      refine .own i x hn fun e s es h => h2 e s es ?_
      rcases hT i with h' | h'
      · rw [← h']; exact h
      · exact absurd h' hn
  | ptr => cases hx
  | ip cs b off vs h1 h2 h3 ih => cases hx with | ip _ h => exact .ip cs b off vs h1 h2 fun j a ha => ih j a ha (h a (List.mem_of_getElem? ha))
  | clo f caps vs hl hc ih => cases hx with | clo _ _ h => exact .clo f caps vs hl fun j a c ha hc' => ih j a c ha hc' (h a (List.mem_of_getElem? ha))
theorem Ok.sub {f : Nat} {args : List AV} {R R' : AV → (Nat → Ob) → Prop} (h : Ok P f args R)
    (hs : ∀ x T, R x T → ∃ T', R' x T' ∧ (∀ j, T' j = T j ∨ T' j = .no) ∧ Only T' x ∧ ∀ j e s es, T' j = .live e s es → ∀ c ∈ es, ∀ y ∈ c, Only T' y) : Ok P f args R' := by
  intro I0 w vs hI hvs
  refine (h I0 w vs hI hvs).mono ?_
  rintro en w' (hF | ⟨v, x, T, β, rfl, hR, h2, h3, h4⟩)
  · exact hF.elim
  · obtain ⟨T', r1, r2, r3, r4⟩ := hs x T hR
    have hlive : ∀ j e s es, T' j = .live e s es → T j = .live e s es := by
      intro j e s es hj
      rcases r2 j with h' | h'
      · rw [← h']; exact hj
      · rw [h'] at hj; cases hj
    have him : ∀ y u, Rep (Im I0 w.heap.size T β w') T β w' y u → Rep (Im I0 w.heap.size T' β w') T β w' y u := fun y u hr =>
      hr.mono (fun b ⟨b1, b2, b3⟩ => ⟨⟨b1, b2, fun j e s es hj => b3 j e s es (hlive j e s es hj)⟩, fun o => rfl⟩) fun i hi => ⟨hi, fun e s es' h' => ⟨rfl, es', h', rfl⟩⟩
    refine .inr ⟨v, x, T', β, rfl, r1, h2, ⟨?_, ?_⟩, (him x v h4).only r3 r2⟩
    · intro j e s es hj
      obtain ⟨a1, xs, a2, a3⟩ := h3.obj j e s es (hlive _ _ _ _ hj)
      refine ⟨a1, xs, a2, fun q y hy => ?_⟩
      obtain ⟨u, hu, hr⟩ := a3 q y hy
      obtain ⟨c, hc, hyc⟩ := List.mem_flatten.1 (List.mem_of_getElem? hy)
      exact ⟨u, hu, (him y u hr).only (r4 j e s es hj c hc y hyc) r2⟩
    · intro p e1 s1 es1 q e2 s2 es2 b hp hq
      exact h3.inj p _ _ _ q _ _ _ b (hlive _ _ _ _ hp) (hlive _ _ _ _ hq)
theorem merge_one (T : Nat → Ob) (m : Nat) (e s : Nat) (es : List (List AV)) : mergeT T (upd noT m (.live e s es)) = upd T m (.live e s es) := by
  funext j
  simp only [mergeT, upd, noT]
  split
  · rename_i h; split at h
    · cases h
    · rename_i hj; rw [if_neg hj]
  · rename_i o h
    split at h
    · rename_i hj; rw [if_pos hj]; simp [hj]
    · exact absurd rfl h
theorem ent_T {s : ASt} {l : List (Nat × AV)} {T' : Nat → Ob} (hT : ∀ j, s.T j = T' j) (h : Has s.env l) : Ent N s ⟨l, T'⟩ := by
  obtain ⟨e, T⟩ := s
  have : T = T' := funext hT
  subst this
  exact ent_env h
section ops
variable {o : Oper} {x : AV}
theorem y_iaoN {z ix : Operand} {t e s j : Nat} {es : List (List AV)} {kk : IntKind} {n : Int} (q : Nat) (hq : q < es.length) (ho : o.op = .indexAddr t z ix := by rfl) (hz : ev st z = some (.own j) := by rfl) (hT : st.T j = .live e s es := by rfl)
    (hix : ev st ix = some (.v (.int kk n)) := by rfl) (hn : n = (q : Int) := by rfl) (ht : elOf P t = some (e, s) := by rfl) : AYield P N Q o st (.ptr j q 0) := by
  have h := y_iaddr_own (Q := Q) (P := P) (N := N) (o := o) (st := st) (ho := ho) (ht := ht) (hz := hz) (hT := hT) (hix := hix) (h0 := by omega) (hc := by omega)
  rw [hn, Int.toNat_natCast] at h; exact h
theorem y_callE {g : Nat} {caps : List AV} {z : Operand} {xs : Array Operand} {ts : Array TypeId} {l l' : List AV} {Te T1 : Nat → Ob} (hT : mergeT st.T Te = T1) (hok : Ok P g l' fun y T => y = x ∧ T = Te) (hdis : ∀ j, Te j ≠ .no → st.T j = .no) (ho : o.op = .call ⟨.value z, xs, ts⟩ := by rfl)
    (hz : ev st z = some (.clo g caps) := by rfl) (hl : evs st xs.toList = some l := by rfl) (hl' : l ++ caps = l' := by rfl) (hg : goFn P g = true := by rfl) (hno : NoOwnL l' := by simp [NoOwnL]) : AEff P N Q o st x T1 := by
  subst hT
  subst hl'
  intro I0 w0 β a w hr K' hK
  obtain ⟨args, hrun, hc⟩ := call_runs hr ho hz hg (evs_map hl) hno.mem hok
  refine .inl ?_
  simp only [Oper.wp, hrun, Oper.upon]
  refine hc.mono ?_
  rintro e w' (hF | ⟨v, y, T', β', rfl, ⟨rfl, rfl⟩, h2, h3, h4⟩)
  · exact hF.elim
  · obtain ⟨β2, h5, h6, h7⟩ := hr.merge h2 h3 hdis
    exact hK v w' β2 h5.held h6 h5.objs (h7 _ v h4)
theorem y_loadP {y : AV} {z : Operand} {t n j q r e s : Nat} {es : List (List AV)} {c : List AV} (hq : es[q]? = some c) (ho : o.op = .load t z := by rfl) (ht : szOf P t = some (n, false) := by rfl) (hz : ev st z = some (.ptr j q r) := by rfl) (hT : st.T j = .live e s es := by rfl)
    (h0 : (c.drop r)[0]? = some y := by rfl) : AYield P N Q o st y :=
  y_load (cs := c.drop r) (ho := ho) (ht := ht) (hz := hz) (hl := by simp only [look, hT, hq, Option.map_some]) (h0 := h0)
end ops
section steps
variable {ops : Array Oper} {i : Nat} {l : List Nat} {d : Nat} {x y : AV}
theorem cr {g : Nat} {caps : List AV} {z : Operand} {xs : Array Operand} {ts : Array TypeId} {ls l' : List AV} {m e s : Nat} {es : List (List AV)} (hok : Ok P g l' fun x T => x = .own m ∧ T = upd noT m (.live e s es))
    (k : AOps P N ops Q l (ASt.mk ((d, .own m) :: st.env) (upd st.T m (.live e s es)))) (hm : st.T m = .no := by rfl) (ho : (ops.getD i default).op = .call ⟨.value z, xs, ts⟩ := by rfl)
    (hz : ev st z = some (.clo g caps) := by rfl) (hl : evs st xs.toList = some ls := by rfl) (hl' : ls ++ caps = l' := by rfl) (hg' : goFn P g = true := by rfl) (hno : NoOwnL l' := by simp [NoOwnL]) (hi : Nat.blt i ops.size = true := by rfl)
    (hg : opAt N ops st i = true := by rfl) (hd : (ops.getD i default).dst = some d := by rfl) (hN : Nat.blt d N = true := by rfl) : AOps P N ops Q (i :: l) st := by
  subst hl'
  refine st2 (op_callT ho hd (blt_lt hN) hz hg' (evs_map hl) hno.mem hok ?_) hi hg
  rintro x T' ⟨rfl, rfl⟩
  refine ⟨fun j hj => ?_, by rw [merge_one]; exact k⟩
  simp only [upd, noT] at hj
  by_cases hjm : j = m
  · rw [hjm]; exact hm
  · rw [if_neg hjm] at hj; exact absurd rfl hj
theorem ldP {z : Operand} {t n j q r e s : Nat} {es : List (List AV)} {c : List AV} (hq : es[q]? = some c) (k : AOps P N ops Q l (st.put d y)) (ho : (ops.getD i default).op = .load t z := by rfl) (ht : szOf P t = some (n, false) := by rfl) (hz : ev st z = some (.ptr j q r) := by rfl) (hT : st.T j = .live e s es := by rfl)
    (h0 : (c.drop r)[0]? = some y := by rfl) (hi : Nat.blt i ops.size = true := by rfl) (hg : opAt N ops st i = true := by rfl) (hd : (ops.getD i default).dst = some d := by rfl) (hN : Nat.blt d N = true := by rfl) : AOps P N ops Q (i :: l) st :=
  st1 (y_loadP hq ho ht hz hT h0) k hi hg hd hN
end steps
end
end Go.Proofs.Ytemcemimipagoaa.AW
namespace Go.Proofs.Ytemcemimipagoaa.AW
open Go Go.RowKit
inductive Ren (r : Nat → Nat) (T : Nat → Ob) : AV → AV → Prop
  | same (x : AV) : NoOwn x → Ren r T x x
  | agg (l l' : List AV) : l.length = l'.length → (∀ (j : Nat) (a b : AV), l[j]? = some a → l'[j]? = some b → Ren r T a b) → Ren r T (.agg l) (.agg l')
  | tup (l l' : List AV) : l.length = l'.length → (∀ (j : Nat) (a b : AV), l[j]? = some a → l'[j]? = some b → Ren r T a b) → Ren r T (.tup l) (.tup l')
  | clo (f : Nat) (l l' : List AV) : l.length = l'.length → (∀ (j : Nat) (a b : AV), l[j]? = some a → l'[j]? = some b → Ren r T a b) → Ren r T (.clo f l) (.clo f l')
  | own (i j : Nat) : r j = i → T j ≠ .no → Ren r T (.own i) (.own j)
  | ptr (i j k q : Nat) : r j = i → T j ≠ .no → Ren r T (.ptr i k q) (.ptr j k q)
def RenL (r : Nat → Nat) (T : Nat → Ob) : List AV → List AV → Prop
  | [], [] => True
  | x :: xs, y :: ys => Ren r T x y ∧ RenL r T xs ys
  | _, _ => False
theorem RenL.get {r : Nat → Nat} {T : Nat → Ob} : ∀ {l l' : List AV}, RenL r T l l' → l.length = l'.length ∧ ∀ (j : Nat) (a b : AV), l[j]? = some a → l'[j]? = some b → Ren r T a b
  | [], [], _ => ⟨rfl, by simp⟩
  | x :: xs, y :: ys, ⟨h1, h2⟩ => by
    obtain ⟨h3, h4⟩ := RenL.get h2
    refine ⟨by simp [h3], fun j a b ha hb => ?_⟩
    cases j with
    | zero => simp at ha hb; subst ha; subst hb; exact h1
    | succ j => exact h4 j a b (by simpa using ha) (by simpa using hb)
  | [], _ :: _, h => h.elim
  | _ :: _, [], h => h.elim
structure RenT (r : Nat → Nat) (T T' : Nat → Ob) : Prop where
  live : ∀ j e s es', T' j = .live e s es' → ∃ es, T (r j) = .live e s es ∧ es.length = es'.length ∧ ∀ (q : Nat) (c c' : List AV), es[q]? = some c → es'[q]? = some c' → RenL r T' c c'
  no : ∀ j, T' j ≠ .no → T (r j) ≠ .no
  inj : ∀ i j, T' i ≠ .no → T' j ≠ .no → r i = r j → i = j
def RenE (r : Nat → Nat) (T : Nat → Ob) (e : List (Nat × AV)) : List (Nat × AV) → Prop
  | [] => True
  | (t, y) :: l => (∃ x, get e t = some x ∧ Ren r T x y) ∧ RenE r T e l
theorem RenE.get {r : Nat → Nat} {T : Nat → Ob} {e : List (Nat × AV)} : ∀ {l : List (Nat × AV)}, RenE r T e l → ∀ t y, get l t = some y → ∃ x, get e t = some x ∧ Ren r T x y
  | [], _, t, y, h => by simp [AW.get] at h
  | (k, v) :: l, hh, t, y, h => by
    simp only [AW.get] at h
    by_cases hk : k = t
    · rw [if_pos hk] at h; cases h; exact hk ▸ hh.1
    · rw [if_neg hk] at h; exact RenE.get hh.2 t y h
section
variable {P : Program} {N : Fr} {Q : Exit → ASt → Prop} {st : ASt} {I0 : Dom} {w0 : World} {β : Nat → Value} {a : Act} {w : World}
def pinOk (z : List Nat) (r : Nat → Nat) (T' : Nat → Ob) : Bool := z.all fun i => r i == i && match T' i with | .no => false | _ => true
theorem Rel.pins_ren (h : Rel N I0 w0 st β a w) {r : Nat → Nat} {T' : Nat → Ob} (hz : pinOk N.z r T' = true) : ∀ i v, I0.pin i = some v → N.z.contains i = true ∧ T' i ≠ .no ∧ β (r i) = v := by
  intro i v hi
  obtain ⟨z1, z2, z3⟩ := h.pins i v hi
  have := List.all_eq_true.1 hz i (by simpa using z1)
  simp only [Bool.and_eq_true, beq_iff_eq] at this
  refine ⟨z1, fun e => ?_, by rw [this.1]; exact z3⟩
  rw [e] at this; cases this.2
theorem ent_nilT (m e s : Nat) {i ei si r : Nat} {c : List AV} (hm : st.T m = .no) (hi : st.T i = .live ei si [c]) (hc : c[r]? = some (.v (.slice none 0 0))) : Ent N st ⟨st.env, upd (upd st.T m (.live e s [])) i (.live ei si [c.set r (.own m)])⟩ := by
  intro I0 w0 β a w hr
  obtain ⟨h1, h2⟩ := hr.newObj (w' := w) (i' := m) (e := e) (s := s) (es' := []) hm none none (by simp) (by simp) ⟨rfl, rfl, rfl, Nat.le_refl _, fun _ _ _ => rfl⟩ (y := .slice none 0 0) (xs := []) (World.owns_nil w _ _ _) (fun b hb => by simp [Value.ownBlock] at hb) (by simp) (by simp)
  simp only [killO] at h1 h2
  have him : i ≠ m := fun e => by rw [e, hm] at hi; cases hi
  have hi1 : upd st.T m (.live e s []) i = .live ei si [c] := by simp [upd, him, hi]
  obtain ⟨a1, xs, a2, a3⟩ := h1.objs.obj i ei si [c] hi1
  have hlc : c.length = si := a1 c (by simp)
  have hr' := h1.turn (es' := [c.set r (.own m)]) hi1 (w' := w) (xs := xs) ⟨rfl, rfl, rfl, Nat.le_refl _, fun _ _ _ => rfl⟩ (by simpa using a2) (by simp) (by simpa using hlc) (fun j x hx => ?_)
  · exact ⟨_, hr'⟩
  · simp only [List.flatten_cons, List.flatten_nil, List.append_nil] at hx a3
    rw [List.getElem?_set] at hx
    by_cases hj : r = j
    · subst hj
      have hlt : r < c.length := (List.getElem?_eq_some_iff.1 hc).1
      rw [if_pos rfl, if_pos hlt] at hx
      cases hx
      obtain ⟨v, hv, hrv⟩ := a3 r _ hc
      refine ⟨v, hv, ?_⟩
      rw [hrv.v_inv]
      exact .own m _ (by simp [upd]) fun e' s' es' he => by simp [updV]
    · rw [if_neg hj] at hx
      exact a3 j x hx
theorem y_storeE {o : Oper} {x : AV} {T1 : Nat → Ob} {t n : Nat} {ag : Bool} {zp zv : Operand} {j q r e s : Nat} {es : List (List AV)} {c : List AV} (hT1 : upd st.T j (.live e s (es.set q (c.take r ++ cellsA x ++ c.drop (r + n)))) = T1) (hq : es[q]? = some c)
    (hx : (cellsA x).all (cok1 st.T) = true := by rfl) (ho : o.op = .store t zp zv := by rfl) (hd : o.dst = none := by rfl) (ht : szOf P t = some (n, ag) := by rfl)
    (hp : ev st zp = some (.ptr j q r) := by rfl) (hi : st.T j = .live e s es := by rfl) (hv : ev st zv = some x := by rfl) (hn : (cellsA x).length = n := by rfl) (hrs : Nat.ble (r + n) s = true := by rfl) : AEff P N Q o st (.v undef) T1 := by
  subst hT1
  intro I0 w0 β a w hr K' hK
  obtain ⟨w', h1, h2, h3⟩ := store_core (o := o) ho hd ht hp hi hq hv hx hn (by simpa using hrs) hr
  refine .inl ?_
  simp only [Oper.wp, h1, Oper.upon]
  rw [hd]
  have := hK undef w' β h2.held h3 h2.objs (.v undef)
  rw [hd] at this
  exact this
theorem y_litE {o : Oper} {T1 : Nat → Ob} {t e s len : Nat} {parts : Array (Nat × Operand)} {ps : List (Nat × AV)} {z : List AV} (m : Nat) (hT1 : upd st.T m (.live e s (ps.map fun p => cellsA p.2)) = T1) (hm : st.T m = .no := by rfl)
    (ho : o.op = .buildSlice t len parts := by rfl) (ht : elOf P t = some (e, s) := by rfl) (hz : zcells P e = some z := by rfl) (hps : evps st parts.toList = some ps := by rfl) (hpl : ps.length = len := by rfl)
    (hsm : Nat.ble (len * s) 16777216 = true := by rfl) (hs0 : Nat.blt 0 (len * s) = true := by rfl) (hok : (ps.all fun p => (cellsA p.2).all (cok1 st.T)) = true := by rfl) (hls : (ps.all fun p => (cellsA p.2).length == s) = true := by rfl)
    (hf : fillA (fun i => some (i * s, s)) (List.replicate len z).flatten ps = some (ps.map fun p => cellsA p.2).flatten := by rfl) : AEff P N Q o st (.own m) T1 := by
  subst hT1
  intro I0 w0 β a w hr K' hK
  obtain ⟨y, w', β2, h1, h2, h3, h4⟩ := lit_core (o := o) m hm ho ht hz hps hpl hsm hs0 hok hls hf hr
  refine .inl ?_
  simp only [Oper.wp, h1, Oper.upon]
  exact hK _ _ _ h2.held h3 h2.objs h4
section steps
variable {ops : Array Oper} {i : Nat} {l : List Nat} {d : Nat} {x y : AV}
theorem li {t e s len : Nat} {parts : Array (Nat × Operand)} {ps : List (Nat × AV)} {z : List AV} (m : Nat) (k : AOps P N ops Q l (ASt.mk ((d, .own m) :: st.env) (upd st.T m (.live e s (ps.map fun p => cellsA p.2))))) (hm : st.T m = .no := by rfl)
    (ho : (ops.getD i default).op = .buildSlice t len parts := by rfl) (ht : elOf P t = some (e, s) := by rfl) (hz : zcells P e = some z := by rfl) (hps : evps st parts.toList = some ps := by rfl) (hpl : ps.length = len := by rfl)
    (hsm : Nat.ble (len * s) 16777216 = true := by rfl) (hs0 : Nat.blt 0 (len * s) = true := by rfl) (hok : (ps.all fun p => (cellsA p.2).all (cok1 st.T)) = true := by rfl) (hls : (ps.all fun p => (cellsA p.2).length == s) = true := by rfl)
    (hf : fillA (fun i => some (i * s, s)) (List.replicate len z).flatten ps = some (ps.map fun p => cellsA p.2).flatten := by rfl)
    (hi : Nat.blt i ops.size = true := by rfl) (hg : opAt N ops st i = true := by rfl) (hd : (ops.getD i default).dst = some d := by rfl) (hN : Nat.blt d N = true := by rfl) : AOps P N ops Q (i :: l) st :=
  st2 (op_lit m hm hd hN k (ho := ho) (ht := ht) (hz := hz) (hps := hps) (hpl := hpl) (hsm := hsm) (hs0 := hs0) (hok := hok) (hls := hls) (hf := hf)) hi hg
theorem cm {g : Nat} {caps : List AV} {z : Operand} {xs : Array Operand} {ts : Array TypeId} {ls l' : List AV} {Te T1 : Nat → Ob} (hok : Ok P g l' fun y T => y = x ∧ T = Te) (hT : mergeT st.T Te = T1) (hdis : ∀ j, Te j ≠ .no → st.T j = .no)
    (k : AOps P N ops Q l (ASt.mk ((d, x) :: st.env) T1)) (ho : (ops.getD i default).op = .call ⟨.value z, xs, ts⟩ := by rfl)
    (hz : ev st z = some (.clo g caps) := by rfl) (hl : evs st xs.toList = some ls := by rfl) (hl' : ls ++ caps = l' := by rfl) (hg' : goFn P g = true := by rfl) (hno : NoOwnL l' := by simp [NoOwnL]) (hi : Nat.blt i ops.size = true := by rfl)
    (hg : opAt N ops st i = true := by rfl) (hd : (ops.getD i default).dst = some d := by rfl) (hN : Nat.blt d N = true := by rfl) : AOps P N ops Q (i :: l) st := by
  subst hl'
  subst hT
  refine st2 (op_callT ho hd (blt_lt hN) hz hg' (evs_map hl) hno.mem hok ?_) hi hg
  rintro x T' ⟨rfl, rfl⟩
  exact ⟨fun j hj => hdis j hj, k⟩
end steps
end
end Go.Proofs.Ytemcemimipagoaa.AW
