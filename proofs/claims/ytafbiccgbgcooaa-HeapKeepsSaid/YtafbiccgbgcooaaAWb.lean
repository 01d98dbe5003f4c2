/- Abstract states: the rules of code, and of the operations on plain values. -/
import Derived.Test.YtafbiccgbgcooaaAWa
import Derived.Laws.Entries
import Derived.Laws.Cover1
import Derived.Laws.Concat
import Derived.Laws.Strings
namespace Go.Proofs.Ytafbiccgbgcooaa.AW
open Go Go.RowKit
set_option linter.unusedVariables false

def lift (N : Nat) (I0 : Nat → Prop) (w0 : World) (Q : Exit → ASt → Prop) : Exit → Act → World → Prop :=
  fun e a w => False ∨ ∃ st β, Rel N I0 w0 st β a w ∧ Q e st
def AWp (P : Program) (N : Nat) (c : Code) (Q : Exit → ASt → Prop) (st : ASt) : Prop :=
  ∀ I0 w0 β a w, Rel N I0 w0 st β a w → c.wp P (lift N I0 w0 Q) a w

def thenA (R : ASt → Prop) (Q : Exit → ASt → Prop) : Exit → ASt → Prop
  | .normal, st => R st
  | e, st => Q e st
def inBlockA (id : Nat) (Q : Exit → ASt → Prop) : Exit → ASt → Prop
  | .exit id', st => if id' = id then Q .normal st else Q (.exit id') st
  | e, st => Q e st

section
variable {P : Program} {N : Nat} {Q : Exit → ASt → Prop} {st : ASt}

theorem AWp.mono {c : Code} {Q' : Exit → ASt → Prop} (h : AWp P N c Q st) (hq : ∀ e st, Q e st → Q' e st) : AWp P N c Q' st :=
  fun I0 w0 β a w hr => wp_mono (h I0 w0 β a w hr) fun e a w he => he.imp id fun ⟨st, β, h1, h2⟩ => ⟨st, β, h1, hq e st h2⟩
theorem aw_skip (h : Q .normal st) : AWp P N .skip Q st := fun I0 w0 β a w hr => wp_skip (.inr ⟨st, β, hr, h⟩)
theorem aw_exit {id : Nat} (h : Q (.exit id) st) : AWp P N (.exit id) Q st := fun I0 w0 β a w hr => wp_exit (.inr ⟨st, β, hr, h⟩)
theorem aw_ret (h : Q .ret st) : AWp P N .ret Q st := fun I0 w0 β a w hr => wp_ret (.inr ⟨st, β, hr, h⟩)
theorem aw_label {l : Nat} (h : Q .normal st) : AWp P N (.label l) Q st := fun I0 w0 β a w hr => wp_label (.inr ⟨st, β, hr, h⟩)
theorem aw_seq {x y : Code} (h : AWp P N x (thenA (AWp P N y Q) Q) st) : AWp P N (.seq x y) Q st := by
  intro I0 w0 β a w hr
  refine wp_seq (wp_mono (h I0 w0 β a w hr) ?_)
  rintro e a w (hF | ⟨st, β, h1, h2⟩)
  · exact hF.elim
  · cases e with
    | normal => exact h2 I0 w0 β a w h1
    | _ => exact .inr ⟨st, β, h1, h2⟩
theorem aw_block {id : Nat} {c : Code} (h : AWp P N c (inBlockA id Q) st) : AWp P N (.block id c) Q st := by
  intro I0 w0 β a w hr
  refine wp_block (wp_mono (h I0 w0 β a w hr) ?_)
  rintro e a w (hF | ⟨st, β, h1, h2⟩)
  · exact hF.elim
  · cases e with
    | exit id' =>
      show if id' = id then _ else _
      by_cases hid : id' = id
      · rw [if_pos hid]; exact .inr ⟨st, β, h1, by simpa [inBlockA, hid] using h2⟩
      · rw [if_neg hid]; exact .inr ⟨st, β, h1, by simpa [inBlockA, hid] using h2⟩
    | _ => exact .inr ⟨st, β, h1, h2⟩
theorem aw_cond {c : Operand} {x y : Code} {b : Bool} (hc : ev st c = some (.v (.bool b))) (ht : b = true → AWp P N x Q st) (hf : b = false → AWp P N y Q st) :
    AWp P N (.cond c x y) Q st := by
  intro I0 w0 β a w hr
  have he : a.eval c = .bool b := (hr.ev hc).v_inv
  exact wp_cond_split he (fun h => ht h I0 w0 β a w hr) (fun h => hf h I0 w0 β a w hr)
theorem aw_cond_t {c : Operand} {x y : Code} (hc : ev st c = some (.v (.bool true))) (ht : AWp P N x Q st) : AWp P N (.cond c x y) Q st := aw_cond hc (fun _ => ht) (fun h => by cases h)
theorem aw_cond_f {c : Operand} {x y : Code} (hc : ev st c = some (.v (.bool false))) (hf : AWp P N y Q st) : AWp P N (.cond c x y) Q st := aw_cond hc (fun h => by cases h) (fun _ => hf)

/-- What one state says another one says, too. -/
def Ent (st st' : ASt) : Prop := ∀ N I0 w0 β a w, Rel N I0 w0 st β a w → ∃ β', Rel N I0 w0 st' β' a w
theorem Ent.refl (st : ASt) : Ent st st := fun _ _ _ β _ _ h => ⟨β, h⟩
theorem Ent.trans {a b c : ASt} (h : Ent a b) (k : Ent b c) : Ent a c := fun N I0 w0 β x w hr => let ⟨β', h'⟩ := h N I0 w0 β x w hr; k N I0 w0 β' x w h'
theorem AWp.ent {c : Code} {st' : ASt} (he : Ent st st') (h : AWp P N c Q st') : AWp P N c Q st :=
  fun I0 w0 β a w hr => let ⟨β', h'⟩ := he N I0 w0 β a w hr; h I0 w0 β' a w h'
def Has : List (Nat × AV) → List (Nat × AV) → Prop
  | _, [] => True
  | e, (t, x) :: r => get e t = some x ∧ Has e r
theorem Has.get {e : List (Nat × AV)} : ∀ {l : List (Nat × AV)}, Has e l → ∀ t x, get l t = some x → get e t = some x
  | [], _, t, x, h => by simp [AW.get] at h
  | (k, v) :: r, hh, t, x, h => by
    simp only [AW.get] at h
    by_cases hk : k = t
    · rw [if_pos hk] at h; cases h; exact hk ▸ hh.1
    · rw [if_neg hk] at h; exact Has.get hh.2 t x h
theorem ent_env {e l : List (Nat × AV)} {T : Nat → Ob} (h : Has e l) : Ent ⟨e, T⟩ ⟨l, T⟩ := fun N I0 w0 β a w hr =>
  ⟨β, hr.old, hr.size, hr.defers, fun t x hx => hr.env t x (Has.get h t x hx), hr.objs, hr.below⟩
theorem aw_forget {c : Code} {l : List (Nat × AV)} (h : Has st.env l) (k : AWp P N c Q ⟨l, st.T⟩) : AWp P N c Q st := AWp.ent (st' := ⟨l, st.T⟩) (ent_env h) k
/-- The walk is cut behind 'x': all its ways come to one state. -/
theorem aw_cut {x y : Code} (st' : ASt) (h : AWp P N x (thenA (fun s => Ent s st') Q) st) (k : AWp P N y Q st') : AWp P N (.seq x y) Q st :=
  aw_seq (h.mono fun e s hs => by
    cases e with
    | normal => exact AWp.ent hs k
    | _ => exact hs)
theorem aw_cuts {ι : Sort _} {x y : Code} (J : ι → ASt) (h : AWp P N x (thenA (fun s => ∃ i, Ent s (J i)) Q) st) (k : ∀ i, AWp P N y Q (J i)) : AWp P N (.seq x y) Q st :=
  aw_seq (h.mono fun e s hs => by
    cases e with
    | normal => obtain ⟨i, hi⟩ := hs; exact AWp.ent hi (k i)
    | _ => exact hs)

theorem aw_cutE {ι : Sort _} {x y : Code} (J : ι → List (Nat × AV)) (h : AWp P N x (thenA (fun s => ∃ i, s.T = st.T ∧ Has s.env (J i)) Q) st) (k : ∀ i, AWp P N y Q ⟨J i, st.T⟩) : AWp P N (.seq x y) Q st :=
  aw_cuts (fun i => ⟨J i, st.T⟩) (h.mono fun e s hs => by
    cases e with
    | normal =>
      obtain ⟨i, h1, h2⟩ := hs
      obtain ⟨e, T⟩ := s
      simp only at h1; subst h1
      exact ⟨i, ent_env h2⟩
    | _ => exact hs) k

theorem least_exists {p : Nat → Prop} (h : ∃ n, p n) : ∃ n, p n ∧ ∀ m, p m → n ≤ m := by
  obtain ⟨n, hn⟩ := h
  induction n using Nat.strongRecOn with
  | _ n ih =>
    by_cases hm : ∃ m, m < n ∧ p m
    · obtain ⟨m, hm1, hm2⟩ := hm; exact ih m hm1 hm2
    · exact ⟨n, hn, fun m hm' => Nat.le_of_not_lt fun hlt => hm ⟨m, hlt, hm'⟩⟩
theorem aw_loop {ι : Type _} {c : Code} (J : ι → ASt) (μ : ι → Nat) (i0 : ι) (h0 : Ent st (J i0))
    (round : ∀ i, AWp P N c (thenA (fun s => ∃ j, μ j < μ i ∧ Ent s (J j)) Q) (J i)) : AWp P N (.loop c) Q st := by
  intro I0 w0 β a w hr
  let p : Act → World → Nat → Prop := fun a w n => ∃ i β, Rel N I0 w0 (J i) β a w ∧ μ i = n
  let m : Act → World → Nat := fun a w => open Classical in if h : ∃ n, p a w n then Classical.choose (least_exists h) else 0
  have hm : ∀ a w, (∃ n, p a w n) → p a w (m a w) ∧ ∀ k, p a w k → m a w ≤ k := by
    intro a w h
    have : m a w = Classical.choose (least_exists h) := dif_pos h
    rw [this]; exact Classical.choose_spec (least_exists h)
  obtain ⟨β', hr'⟩ := h0 N I0 w0 β a w hr
  refine wp_loop (fun a w => ∃ n, p a w n) m ⟨_, i0, β', hr', rfl⟩ ?_
  intro a w hI
  obtain ⟨⟨i, β, hri, hmi⟩, hleast⟩ := hm a w hI
  refine wp_mono (round i I0 w0 β a w hri) ?_
  rintro e a' w' (hF | ⟨s, γ, h1, h2⟩)
  · exact hF.elim
  · cases e with
    | normal =>
      obtain ⟨j, hj, he⟩ := h2
      obtain ⟨γ', h'⟩ := he N I0 w0 γ a' w' h1
      have hp : p a' w' (μ j) := ⟨j, γ', h', rfl⟩
      exact ⟨⟨_, hp⟩, Nat.lt_of_le_of_lt ((hm a' w' ⟨_, hp⟩).2 _ hp) (hmi ▸ hj)⟩
    | _ => exact .inr ⟨s, γ, h1, h2⟩

/-- A loop that counts up to 'n' at the most. -/
theorem aw_for {c : Code} (n : Nat) (Inv : Nat → Prop) (J : Nat → ASt) (i0 : Nat) (h0 : Inv i0) (he : Ent st (J i0))
    (round : ∀ i, Inv i → AWp P N c (thenA (fun s => i < n ∧ Inv (i + 1) ∧ Ent s (J (i + 1))) Q) (J i)) : AWp P N (.loop c) Q st :=
  aw_loop (ι := {i : Nat // Inv i}) (fun i => J i.1) (fun i => n - i.1) ⟨i0, h0⟩ he fun i => (round i.1 i.2).mono fun e s hs => by
    cases e with
    | normal => obtain ⟨h1, h2, h3⟩ := hs; exact ⟨⟨i.1 + 1, h2⟩, by show n - (i.1 + 1) < n - i.1; omega, h3⟩
    | _ => exact hs

theorem aw_forE {c : Code} (n : Nat) (Inv : Nat → Prop) (J : Nat → List (Nat × AV)) (i0 : Nat) (h0 : Inv i0) (he : Has st.env (J i0))
    (round : ∀ i, Inv i → AWp P N c (thenA (fun s => i < n ∧ Inv (i + 1) ∧ s.T = st.T ∧ Has s.env (J (i + 1))) Q) ⟨J i, st.T⟩) : AWp P N (.loop c) Q st :=
  aw_for n Inv (fun i => ⟨J i, st.T⟩) i0 h0 (ent_env (e := st.env) (T := st.T) he) fun i hi => (round i hi).mono fun e s hs => by
    cases e with
    | normal =>
      obtain ⟨h1, h2, h3, h4⟩ := hs
      obtain ⟨e, T⟩ := s
      simp only at h3; subst h3
      exact ⟨h1, h2, ent_env h4⟩
    | _ => exact hs

/-! Regions. -/
def AOps (P : Program) (N : Nat) (ops : Array Oper) (Q : Exit → ASt → Prop) (l : List Nat) (st : ASt) : Prop :=
  ∀ I0 w0 β a w, Rel N I0 w0 st β a w → wpOps P ops (lift N I0 w0 Q) l a w
def AOp (P : Program) (N : Nat) (o : Oper) (K : ASt → Prop) (Q : Exit → ASt → Prop) (st : ASt) : Prop :=
  ∀ I0 w0 β a w, Rel N I0 w0 st β a w → ∀ K' : Act → World → Prop, (∀ st' β' a' w', Rel N I0 w0 st' β' a' w' → K st' → K' a' w') →
    o.wp P a w K' (lift N I0 w0 Q) ∨ (o.asks P a w ∧ LetsOut (lift N I0 w0 Q))
theorem aw_region {id : Nat} {ops : Array Oper} (h : AOps P N ops Q (List.range ops.size) st) : AWp P N (.region id ops false) Q st :=
  fun I0 w0 β a w hr => wp_region (h I0 w0 β a w hr)
theorem aops_nil {ops : Array Oper} (h : Q .normal st) : AOps P N ops Q [] st := fun I0 w0 β a w hr => .inr ⟨st, β, hr, h⟩
theorem AOps.ent {ops : Array Oper} {l : List Nat} {st' : ASt} (he : Ent st st') (h : AOps P N ops Q l st') : AOps P N ops Q l st :=
  fun I0 w0 β a w hr => let ⟨β', h'⟩ := he N I0 w0 β a w hr; h I0 w0 β' a w h'
theorem aops_step {ops : Array Oper} {i : Nat} {l : List Nat} {o : Oper} (ho : ops[i]? = some o) (hg : o.guard = none)
    (h : AOp P N o (AOps P N ops Q l) Q st) : AOps P N ops Q (i :: l) st := by
  intro I0 w0 β a w hr
  simp only [wpOps, ho, Region.wanted, hg, if_true]
  exact h I0 w0 β a w hr _ fun st' β' a' w' h1 h2 => h2 I0 w0 β' a' w' h1
theorem yielded_of {I0 : Nat → Prop} {w0 : World} {β : Nat → Value} {a : Act} {w : World} (hr : Rel N I0 w0 st β a w) {ops : Array Oper} {g t : Nat} {b : Bool} (hN : t < N) (hd : (ops[g]?).bind (·.dst) = some t)
    (hv : get st.env t = some (.v (.bool b))) : yielded ops a.tmps g = some b := by
  have h := hr.env t _ hv
  have : t < a.tmps.size := by rw [hr.size]; exact hN
  unfold yielded
  rw [hd]
  simp only [Option.bind_some, Array.getD_eq_getD_getElem?, Array.getElem?_eq_getElem this, Option.getD_some] at h ⊢
  generalize a.tmps[t] = y at h
  cases h; rfl
theorem aops_guard {ops : Array Oper} {i : Nat} {l : List Nat} {o : Oper} {g t : Nat} {b want : Bool} (ho : ops[i]? = some o) (hg : o.guard = some (g, want))
    (hd : (ops[g]?).bind (·.dst) = some t) (hN : t < N) (hv : get st.env t = some (.v (.bool b)))
    (h1 : b = want → AOp P N o (AOps P N ops Q l) Q st) (hN' : ∀ d, o.dst = some d → d < N) (h2 : b ≠ want → AOps P N ops Q l (st.putO o.dst undefV)) : AOps P N ops Q (i :: l) st := by
  intro I0 w0 β a w hr
  have hy := yielded_of hr hN hd hv
  simp only [wpOps, ho, Region.wanted, hg, hy]
  by_cases hb : b = want
  · subst hb
    simp only [BEq.rfl, if_true]
    exact h1 rfl I0 w0 β a w hr _ fun st' β' a' w' h1 h2 => h2 I0 w0 β' a' w' h1
  · rw [if_neg (by simpa using hb)]
    exact h2 hb I0 w0 β _ w (hr.putO hN' (.v undef))
theorem aops_want {ops : Array Oper} {i : Nat} {l : List Nat} {o : Oper} {g t : Nat} {want : Bool} (ho : ops[i]? = some o) (hg : o.guard = some (g, want))
    (hd : (ops[g]?).bind (·.dst) = some t) (hN : t < N) (hv : get st.env t = some (.v (.bool want)))
    (h1 : AOp P N o (AOps P N ops Q l) Q st) : AOps P N ops Q (i :: l) st := by
  intro I0 w0 β a w hr
  have hy := yielded_of hr hN hd hv
  simp only [wpOps, ho, Region.wanted, hg, hy, BEq.rfl, if_true]
  exact h1 I0 w0 β a w hr _ fun st' β' a' w' h1 h2 => h2 I0 w0 β' a' w' h1
theorem aops_skip {ops : Array Oper} {i : Nat} {l : List Nat} {o : Oper} {g t d : Nat} {b want : Bool} (ho : ops[i]? = some o) (hg : o.guard = some (g, want))
    (hd : (ops[g]?).bind (·.dst) = some t) (hN : t < N) (hv : get st.env t = some (.v (.bool b))) (hb : b = !want)
    (hdst : o.dst = some d) (hN' : d < N) (h2 : AOps P N ops Q l (st.put d undefV)) : AOps P N ops Q (i :: l) st := by
  intro I0 w0 β a w hr
  have hy := yielded_of hr hN hd hv
  simp only [wpOps, ho, Region.wanted, hg, hy, hdst]
  rw [if_neg (by subst hb; cases want <;> simp)]
  exact h2 I0 w0 β _ w (hr.put hN' (.v undef))

/-- The operation yields one value of this meaning; the rows of the call's own stay. -/
def AYield (P : Program) (N : Nat) (Q : Exit → ASt → Prop) (o : Oper) (st : ASt) (x : AV) : Prop :=
  ∀ I0 w0 β a w, Rel N I0 w0 st β a w → ∀ K' : Act → World → Prop, (∀ y w', Below w.heap.size w w' → Rep (Im I0 w0.heap.size st.T β w') st.T β w' x y → K' (a.put o.dst y) w') →
    o.wp P a w K' (lift N I0 w0 Q) ∨ (o.asks P a w ∧ LetsOut (lift N I0 w0 Q))
theorem AOp.of_yield {o : Oper} {K : ASt → Prop} {x : AV} {d : Nat} (hd : o.dst = some d) (hN : d < N) (h : AYield P N Q o st x) (k : K (st.put d x)) : AOp P N o K Q st :=
  fun I0 w0 β a w hr K' hK => h I0 w0 β a w hr K' fun y w' h1 h2 => by rw [hd]; exact hK _ β _ w' ((hr.world h1).put hN h2) k
theorem AYield.value {o : Oper} {x : AV}
    (h : ∀ I0 w0 β a w, Rel N I0 w0 st β a w → ∃ y w', (execOp a.eval o).run P w = .ok (.value y) w' ∧ Below w.heap.size w w' ∧ Rep (Im I0 w0.heap.size st.T β w') st.T β w' x y) : AYield P N Q o st x := by
  intro I0 w0 β a w hr K' hK
  obtain ⟨y, w', h1, h2, h3⟩ := h I0 w0 β a w hr
  refine .inl ?_
  simp only [Oper.wp, h1, Oper.upon]
  exact hK y w' h2 h3
/-- The world stands. -/
theorem AYield.still {o : Oper} {x : AV}
    (h : ∀ I0 w0 β a w, Rel N I0 w0 st β a w → ∃ y, (execOp a.eval o).run P w = .ok (.value y) w ∧ Rep (Im I0 w0.heap.size st.T β w) st.T β w x y) : AYield P N Q o st x :=
  AYield.value (fun I0 w0 β a w hr => let ⟨y, h1, h2⟩ := h I0 w0 β a w hr; ⟨y, w, h1, Below.refl _ w, h2⟩)

section ops
variable {o : Oper} {K : ASt → Prop} {d : Nat} {x : AV}
theorem y_move {z : Operand} (ho : o.op = .move z := by rfl) (hz : ev st z = some x := by rfl) : AYield P N Q o st x :=
  AYield.still (fun I0 w0 β a w hr => ⟨a.eval z, by simp [execOp, ho], hr.ev hz⟩)
theorem y_assign {z : Operand} (ho : o.op = .assign z := by rfl) (hz : ev st z = some x := by rfl) : AYield P N Q o st x :=
  AYield.still (fun I0 w0 β a w hr => ⟨a.eval z, by simp [execOp, ho], hr.ev hz⟩)
theorem y_pick_t {c p q : Operand} (ho : o.op = .pick c p q := by rfl) (hc : ev st c = some (.v (.bool true)) := by rfl) (hz : ev st p = some x := by rfl) : AYield P N Q o st x :=
  AYield.still (fun I0 w0 β a w hr => ⟨a.eval p, by have hy := (hr.ev hc).v_inv; simp [execOp, ho, hy, asBool], hr.ev hz⟩)
theorem y_pick_f {c p q : Operand} (ho : o.op = .pick c p q := by rfl) (hc : ev st c = some (.v (.bool false)) := by rfl) (hz : ev st q = some x := by rfl) : AYield P N Q o st x :=
  AYield.still (fun I0 w0 β a w hr => ⟨a.eval q, by have hy := (hr.ev hc).v_inv; simp [execOp, ho, hy, asBool], hr.ev hz⟩)

/-- An operation on plain values. -/
theorem y_bin {f : BinOp} {t t' : TypeId} {p q : Operand} {u v r : Value} (ho : o.op = .binOp f t p q t' := by rfl) (hp : ev st p = some (.v u) := by rfl) (hq : ev st q = some (.v v) := by rfl)
    (hrun : ∀ w, (do eqGuard f t p q u v; binOp f t u v : Sem Value).run P w = .ok r w := by intro w; rfl) : AYield P N Q o st (.v r) :=
  AYield.still (fun I0 w0 β a w hr => ⟨r, by
    have h1 := hr.ev hp; have h2 := hr.ev hq
    have e1 : a.eval p = u := h1.v_inv
    have e2 : a.eval q = v := h2.v_inv
    have h := hrun w
    simp only [Sem.run_bind] at h
    simp only [execOp, ho, e1, e2, Sem.run_bind]
    cases hg : (eqGuard f t p q u v).run P w with
    | halt x w' => rw [hg] at h; simp [Result.andThen] at h
    | ok x w' =>
      rw [hg] at h
      simp only [Result.andThen_ok] at h ⊢
      rw [h]; simp, .v r⟩)
theorem y_un {f : UnOp} {t : TypeId} {p : Operand} {u r : Value} (ho : o.op = .unOp f t p := by rfl) (hp : ev st p = some (.v u) := by rfl)
    (hrun : ∀ w, (Op.unary f u).run P w = .ok r w := by intro w; rfl) : AYield P N Q o st (.v r) :=
  AYield.still (fun I0 w0 β a w hr => ⟨r, by
    have h1 := hr.ev hp
    have e1 : a.eval p = u := h1.v_inv
    simp [execOp, ho, e1, hrun w], .v r⟩)
end ops
end
end Go.Proofs.Ytafbiccgbgcooaa.AW
