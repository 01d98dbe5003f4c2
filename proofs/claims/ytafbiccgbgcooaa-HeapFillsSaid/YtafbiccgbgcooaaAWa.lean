/- Abstract states: a walk through code by what its slots mean, with no memory in sight: the words, and that what is meant stays as memory grows. -/
import Derived.Calls
import Derived.Orders
import Derived.Below
import Derived.Laws.OwnMore
namespace Go.Proofs.Ytafbiccgbgcooaa.AW
open Go Go.RowKit
set_option linter.unusedVariables false

/-- What a slot means: a plain value; a struct; a tuple; a slice that nobody turns (its elements, each with its cells); a slice of the call's own; a pointer into what is the call's own; a pointer to what nobody turns; a function with what it caught. -/
inductive AV where
  | v (x : Value)
  | agg (l : List AV)
  | tup (l : List AV)
  | sl (s : Nat) (es : List (List AV))
  | own (i : Nat)
  | ptr (i k r : Nat)
  | ip (cs : List AV)
  | clo (f : Nat) (caps : List AV)

inductive Ob where
  | no
  | dead
  | live (e s : Nat) (es : List (List AV))

structure ASt where
  env : List (Nat × AV)
  T : Nat → Ob

def get : List (Nat × AV) → Nat → Option AV
  | [], _ => none
  | (k, v) :: r, t => if k = t then some v else get r t
def upd (T : Nat → Ob) (i : Nat) (o : Ob) : Nat → Ob := fun j => if j = i then o else T j
def noT : Nat → Ob := fun _ => .no
def ASt.put (st : ASt) (d : Nat) (x : AV) : ASt := { st with env := (d, x) :: st.env }
def undefV : AV := .v undef
def ASt.putO (st : ASt) (d : Option Nat) (x : AV) : ASt := match d with | some d => st.put d x | none => st

inductive Rep (I : Nat → Prop) (T : Nat → Ob) (β : Nat → Value) (w : World) : AV → Value → Prop
  | v (x : Value) : Rep I T β w (.v x) x
  | agg (l : List AV) (cs : Array Value) : l.length = cs.size → (∀ (j : Nat) (a : AV) (c : Value), l[j]? = some a → cs[j]? = some c → Rep I T β w a c) → Rep I T β w (.agg l) (.agg cs)
  | tup (l : List AV) (cs : Array Value) : l.length = cs.size → (∀ (j : Nat) (a : AV) (c : Value), l[j]? = some a → cs[j]? = some c → Rep I T β w a c) → Rep I T β w (.tup l) (.tuple cs)
  | emp (s : Nat) (base : Option Addr) (cap : Nat) : (base = none → cap = 0) → Rep I T β w (.sl s []) (.slice base 0 cap)
  | sl (s : Nat) (es : List (List AV)) (b off cap : Nat) (vs : Nat → Value) : I b → es.length ≤ cap → (∀ e ∈ es, e.length = s) →
      (∀ (j : Nat) (a : AV), es.flatten[j]? = some a → w.cell? ⟨b, off + j, none⟩ = some (vs j)) →
      (∀ (j : Nat) (a : AV), es.flatten[j]? = some a → Rep I T β w a (vs j)) → Rep I T β w (.sl s es) (.slice (some ⟨b, off, none⟩) es.length cap)
  | own (i : Nat) (x : Value) : T i ≠ .no → (∀ e s es, T i = .live e s es → x = β i) → Rep I T β w (.own i) x
  | ptr (i k r : Nat) (x : Value) : T i ≠ .no → (∀ e s es, T i = .live e s es → k < es.length ∧ r ≤ s ∧ ∃ b n c, β i = .slice (some ⟨b, 0, none⟩) n c ∧ x = .pointer (some ⟨b, k * s + r, none⟩)) → Rep I T β w (.ptr i k r) x
  | ip (cs : List AV) (b off : Nat) (vs : Nat → Value) : I b → (∀ (j : Nat) (a : AV), cs[j]? = some a → w.cell? ⟨b, off + j, none⟩ = some (vs j)) →
      (∀ (j : Nat) (a : AV), cs[j]? = some a → Rep I T β w a (vs j)) → Rep I T β w (.ip cs) (.pointer (some ⟨b, off, none⟩))
  | clo (f : Nat) (caps : List AV) (vs : Array Value) : caps.length = vs.size → (∀ (j : Nat) (a : AV) (c : Value), caps[j]? = some a → vs[j]? = some c → Rep I T β w a c) → Rep I T β w (.clo f caps) (.func (.func f) #[] vs)

theorem Rep.mono {I I' : Nat → Prop} {T T' : Nat → Ob} {β β' : Nat → Value} {w w' : World} {x : AV} {y : Value} (h : Rep I T β w x y)
    (hI : ∀ b, I b → I' b ∧ ∀ o, w'.cell? ⟨b, o, none⟩ = w.cell? ⟨b, o, none⟩)
    (hT : ∀ i, T i ≠ .no → T' i ≠ .no ∧ ∀ e s es', T' i = .live e s es' → β' i = β i ∧ ∃ es, T i = .live e s es ∧ es.length = es'.length) : Rep I' T' β' w' x y := by
  induction h with
  | v x => exact .v x
  | agg l cs hl _ ih => exact .agg l cs hl ih
  | tup l cs hl _ ih => exact .tup l cs hl ih
  | emp s base cap h => exact .emp s base cap h
  | sl s es b off cap vs hb hc hs hv _ ih => exact .sl s es b off cap vs (hI b hb).1 hc hs (fun j a ha => ((hI b hb).2 _).trans (hv j a ha)) ih
  | own i x hn hx =>
    refine .own i x (hT i hn).1 fun e s es' h' => ?_
    obtain ⟨hb, es, he, _⟩ := (hT i hn).2 e s es' h'
    rw [hb]; exact hx e s es he
  | ptr i k r x hn hx =>
    refine .ptr i k r x (hT i hn).1 fun e s es' h' => ?_
    obtain ⟨hb, es, he, hl⟩ := (hT i hn).2 e s es' h'
    rw [hb, ← hl]; exact hx e s es he
  | ip cs b off vs hb hv _ ih => exact .ip cs b off vs (hI b hb).1 (fun j a ha => ((hI b hb).2 _).trans (hv j a ha)) ih
  | clo f caps vs hl _ ih => exact .clo f caps vs hl ih

theorem Rep.v_inv {I T β w x y} (h : Rep I T β w (.v x) y) : y = x := by cases h; rfl

/-- The blocks that nobody turns: given ones, and new ones that are not the call's own. -/
def Im (I0 : Nat → Prop) (B : Nat) (T : Nat → Ob) (β : Nat → Value) (w : World) (b : Nat) : Prop :=
  (I0 b ∨ B ≤ b) ∧ b < w.heap.size ∧ ∀ i e s es, T i = .live e s es → (β i).ownBlock ≠ some b

/-- No cell of the first 'n' is one that may not be written. -/
def frz (fr : Nat × Nat) (n : Nat) : Prop := (fr.1 = 0 ∧ fr.2 = 0) ∨ n ≤ fr.1
/-- A row of the call's own; bytes that were a string's have a mark behind their end. -/
def _root_.Go.World.owns (w : World) (base : Nat) (e : TypeId) (size : Nat) (v : Value) (n : Nat) (xs : List Value) : Prop :=
  xs.length = n * size ∧
  ((v = .slice none 0 0 ∧ n = 0) ∨
   ∃ g cap cur fr, v = .slice (some ⟨g, 0, none⟩) n cap ∧ base ≤ g ∧ w.heap[g]? = some (.cells cur e fr) ∧ frz fr cur.size ∧ n ≤ cap ∧ cap ≤ maxLen ∧ cur.size = cap * size ∧ cur.toList.take (n * size) = xs)
section
variable {w : World} {base : Nat} {e : TypeId} {size : Nat} {v : Value} {n : Nat} {xs : List Value}
theorem _root_.Go.World.ownsRow.owns (h : w.ownsRow base e size v n xs) : w.owns base e size v n xs :=
  ⟨h.1, h.2.imp id fun ⟨g, cap, cur, h1, h2, h3, h4⟩ => ⟨g, cap, cur, (0, 0), h1, h2, h3, .inl ⟨rfl, rfl⟩, h4⟩⟩
theorem _root_.Go.World.owns.lt (h : w.owns base e size v n xs) : ∀ k, v.ownBlock = some k → base ≤ k ∧ k < w.heap.size := by
  intro k hk
  rcases h.2 with ⟨rfl, _⟩ | ⟨g, cap, cur, fr, rfl, hb, hg, _⟩
  · simp [Value.ownBlock] at hk
  · simp [Value.ownBlock] at hk
    subst hk
    exact ⟨hb, (Array.getElem?_eq_some_iff.1 hg).1⟩
theorem _root_.Go.World.owns.kept {w' : World} {row : Option Nat} (h : w.owns base e size v n xs) (hg : w.grownBy w' row) (hne : v.ownBlock = none ∨ v.ownBlock ≠ row) : w'.owns base e size v n xs := by
  refine ⟨h.1, ?_⟩
  rcases h.2 with hn | ⟨g, cap, cur, fr, rfl, hb, hgg, rest⟩
  · exact .inl hn
  · refine .inr ⟨g, cap, cur, fr, rfl, hb, ?_, rest⟩
    rw [hg.block g (Array.getElem?_eq_some_iff.1 hgg).1 (by simpa [Value.ownBlock] using hne)]
    exact hgg
theorem _root_.Go.World.owns.cellAt {g cap : Nat} (h : w.owns base e size (.slice (some ⟨g, 0, none⟩) n cap) n xs) (j : Nat) (hj : j < n * size) : w.cell? ⟨g, j, none⟩ = xs[j]? := by
  rcases h.2 with ⟨h', _⟩ | ⟨g', cap', cur, fr, h', _, hg, _, _, _, _, htake⟩
  · simp at h'
  · simp only [Value.slice.injEq, Option.some.injEq, Addr.mk.injEq, and_true, true_and] at h'
    obtain ⟨rfl, rfl⟩ := h'
    rw [cell_of_row w g j cur e fr hg, ← htake, List.getElem?_take, if_pos hj]
    simp
theorem _root_.Go.World.owns.cells (h : w.owns base e size v n xs) {g : Nat} (hg : v.ownBlock = some g) : ∀ j u, xs[j]? = some u → w.cell? ((⟨g, 0, none⟩ : Addr).add j) = some u := by
  intro j u hu
  rcases h.2 with ⟨rfl, _⟩ | ⟨g', cap, cur, fr, rfl, _, hgg, _, _, _, _, htake⟩
  · simp [Value.ownBlock] at hg
  · simp [Value.ownBlock] at hg
    subst hg
    have hadd : (⟨g', 0, none⟩ : Addr).add j = ⟨g', j, none⟩ := by unfold Addr.add; split <;> simp_all
    rw [hadd, cell_of_row w g' j cur e fr hgg]
    rw [← htake, List.getElem?_take] at hu
    split at hu
    · simpa using hu
    · cases hu
theorem _root_.Go.World.owns_nil (w : World) (base : Nat) (e : TypeId) (size : Nat) : w.owns base e size (.slice none 0 0) 0 [] := (World.ownsRow_nil w base e size).owns
end
structure Objs (I0 : Nat → Prop) (B : Nat) (T : Nat → Ob) (β : Nat → Value) (w : World) : Prop where
  obj : ∀ (i e s : Nat) (es : List (List AV)), T i = .live e s es → (∀ x ∈ es, x.length = s) ∧ ∃ xs : List Value, w.owns B e s (β i) es.length xs ∧
    ∀ (j : Nat) (a : AV), es.flatten[j]? = some a → ∃ y : Value, xs[j]? = some y ∧ Rep (Im I0 B T β w) T β w a y
  inj : ∀ i e s es j e' s' es' b, T i = .live e s es → T j = .live e' s' es' → (β i).ownBlock = some b → (β j).ownBlock = some b → i = j

structure Rel (N : Nat) (I0 : Nat → Prop) (w0 : World) (st : ASt) (β : Nat → Value) (a : Act) (w : World) : Prop where
  old : ∀ b : Nat, I0 b → b < w0.heap.size
  size : a.tmps.size = N
  defers : a.defers = []
  env : ∀ t x, get st.env t = some x → Rep (Im I0 w0.heap.size st.T β w) st.T β w x (a.tmps.getD t undef)
  objs : Objs I0 w0.heap.size st.T β w
  below : Below w0.heap.size w0 w

section
variable {N : Nat} {I0 : Nat → Prop} {w0 : World} {st : ASt} {β : Nat → Value} {a : Act} {w : World}

theorem Rel.put (h : Rel N I0 w0 st β a w) {d : Nat} (hd : d < N) {x : AV} {y : Value} (hx : Rep (Im I0 w0.heap.size st.T β w) st.T β w x y) :
    Rel N I0 w0 (st.put d x) β (a.put (some d) y) w := by
  refine ⟨h.old, ?_, h.defers, ?_, h.objs, h.below⟩
  · simpa [Act.put] using h.size
  · intro t z hz
    simp only [ASt.put, get] at hz ⊢
    by_cases ht : d = t
    · subst ht
      simp only [if_true, Option.some.injEq] at hz
      subst hz
      have : d < a.tmps.size := by rw [h.size]; exact hd
      simpa [Act.put, Array.getD, this] using hx
    · rw [if_neg ht] at hz
      have := h.env t z hz
      have e : (a.put (some d) y).tmps.getD t undef = a.tmps.getD t undef := by simp [Act.put, Array.getD_eq_getD_getElem?, Array.getElem?_setIfInBounds_ne ht]
      rw [e]; exact this

theorem Rel.putO (h : Rel N I0 w0 st β a w) {d : Option Nat} (hd : ∀ t, d = some t → t < N) {x : AV} {y : Value} (hx : Rep (Im I0 w0.heap.size st.T β w) st.T β w x y) :
    Rel N I0 w0 (st.putO d x) β (a.put d y) w := by
  cases d with
  | none => exact h
  | some d => exact h.put (hd d rfl) hx

/-- What a constant means. -/
def cv : Value → AV
  | .agg cs => .agg (cs.toList.map .v)
  | .tuple cs => .tup (cs.toList.map .v)
  | x => .v x
theorem cv_rep (I : Nat → Prop) (T : Nat → Ob) (β : Nat → Value) (w : World) (x : Value) : Rep I T β w (cv x) x := by
  have h : ∀ (cs : Array Value) (j : Nat) (p : AV) (u : Value), (cs.toList.map AV.v)[j]? = some p → cs[j]? = some u → Rep I T β w p u := by
    intro cs j p u hp hu
    simp [hu] at hp
    subst hp
    exact .v u
  cases x with
  | agg cs => exact .agg _ cs (by simp) (h cs)
  | tuple cs => exact .tup _ cs (by simp) (h cs)
  | _ => exact .v _
/-- What an operand means. -/
def ev (st : ASt) : Operand → Option AV
  | .tmp t => get st.env t
  | .const x => some (cv x)
  | .global _ => none
  | .func f => some (.clo f [])

theorem Rel.ev (h : Rel N I0 w0 st β a w) {o : Operand} {x : AV} (hx : ev st o = some x) : Rep (Im I0 w0.heap.size st.T β w) st.T β w x (a.eval o) := by
  cases o with
  | tmp t => exact h.env t x hx
  | const y => simp only [AW.ev, Option.some.injEq] at hx; subst hx; exact cv_rep _ _ _ _ y
  | global g => simp [AW.ev] at hx
  | func f => simp only [AW.ev, Option.some.injEq] at hx; subst hx; exact .clo f [] #[] rfl (by simp)

/-- The world grows, and what there was stays. -/
theorem Rel.world (h : Rel N I0 w0 st β a w) {w' : World} (hb : Below w.heap.size w w') : Rel N I0 w0 st β a w' := by
  have hI : ∀ b, Im I0 w0.heap.size st.T β w b → Im I0 w0.heap.size st.T β w' b ∧ ∀ o, w'.cell? ⟨b, o, none⟩ = w.cell? ⟨b, o, none⟩ := fun b ⟨h1, h2, h3⟩ =>
    ⟨⟨h1, Nat.lt_of_lt_of_le h2 hb.size, h3⟩, fun o => hb.cell (p := ⟨b, o, none⟩) h2⟩
  have hT : ∀ i, st.T i ≠ .no → st.T i ≠ .no ∧ ∀ e s es', st.T i = .live e s es' → β i = β i ∧ ∃ es, st.T i = .live e s es ∧ es.length = es'.length :=
    fun i hi => ⟨hi, fun e s es' h' => ⟨rfl, es', h', rfl⟩⟩
  refine ⟨h.old, h.size, h.defers, fun t x hx => (h.env t x hx).mono hI hT, ⟨?_, h.objs.inj⟩, h.below.trans (hb.mono h.below.size)⟩
  intro i e s es hi
  obtain ⟨h1, xs, h2, h3⟩ := h.objs.obj i e s es hi
  refine ⟨h1, xs, h2.kept (row := none) ⟨hb.os, hb.tape, hb.output, hb.size, fun k hk _ => hb.block k hk⟩ (by cases (β i).ownBlock <;> simp), fun j a ha => ?_⟩
  obtain ⟨y, hy, hr⟩ := h3 j a ha
  exact ⟨y, hy, hr.mono hI hT⟩
end
end Go.Proofs.Ytafbiccgbgcooaa.AW
