/- What the statements' walks need. -/
import Derived.Below
import Derived.Calls
import Derived.Deep.MidRow
import Derived.Laws.Build
import Derived.Laws.Concat
import Derived.Laws.Cover1
import Derived.Laws.Entries
import Derived.Laws.IdiomCopy
import Derived.Laws.OwnMore
import Derived.Laws.Strings
import Derived.Orders
import Derived.OrdersIn
import Derived.RangeFuncLeaves
import Derived.RangeFuncOwn
set_option linter.unusedVariables false
set_option linter.unusedSimpArgs false
set_option maxRecDepth 100000
namespace Go.Proofs.Ytemcemimipagoaa.AW
open Go Go.RowKit
inductive AV where
  | v (x : Value)
  | agg (l : List AV)
  | tup (l : List AV)
  | sl (s : Nat) (es : List (List AV))
  | own (i : Nat)
  | ptr (i k r : Nat)
  | ip (cs : List AV)
  | clo (f : Nat) (caps : List AV)
inductive Ob where
  | no
  | dead
  | live (e s : Nat) (es : List (List AV))
structure ASt where
  env : List (Nat × AV)
  T : Nat → Ob
def get : List (Nat × AV) → Nat → Option AV
  | [], _ => none
  | (k, v) :: r, t => if k = t then some v else get r t
def upd (T : Nat → Ob) (i : Nat) (o : Ob) : Nat → Ob := fun j => if j = i then o else T j
def noT : Nat → Ob := fun _ => .no
def ASt.put (st : ASt) (d : Nat) (x : AV) : ASt := { st with env := (d, x) :: st.env }
def undefV : AV := .v undef
def ASt.putO (st : ASt) (d : Option Nat) (x : AV) : ASt := match d with | some d => st.put d x | none => st
inductive Rep (I : Nat → Prop) (T : Nat → Ob) (β : Nat → Value) (w : World) : AV → Value → Prop
  | v (x : Value) : Rep I T β w (.v x) x
  | agg (l : List AV) (cs : Array Value) : l.length = cs.size → (∀ (j : Nat) (a : AV) (c : Value), l[j]? = some a → cs[j]? = some c → Rep I T β w a c) → Rep I T β w (.agg l) (.agg cs)
  | tup (l : List AV) (cs : Array Value) : l.length = cs.size → (∀ (j : Nat) (a : AV) (c : Value), l[j]? = some a → cs[j]? = some c → Rep I T β w a c) → Rep I T β w (.tup l) (.tuple cs)
  | emp (s : Nat) (base : Option Addr) (cap : Nat) : (base = none → cap = 0) → Rep I T β w (.sl s []) (.slice base 0 cap)
  | sl (s : Nat) (es : List (List AV)) (b off cap : Nat) (vs : Nat → Value) : I b → es.length ≤ cap → (∀ e ∈ es, e.length = s) →
      (∀ (j : Nat) (a : AV), es.flatten[j]? = some a → w.cell? ⟨b, off + j, none⟩ = some (vs j)) →
      (∀ (j : Nat) (a : AV), es.flatten[j]? = some a → Rep I T β w a (vs j)) → Rep I T β w (.sl s es) (.slice (some ⟨b, off, none⟩) es.length cap)
  | own (i : Nat) (x : Value) : T i ≠ .no → (∀ e s es, T i = .live e s es → x = β i) → Rep I T β w (.own i) x
  | ptr (i k r : Nat) (x : Value) : T i ≠ .no → (∀ e s es, T i = .live e s es → k < es.length ∧ r ≤ s ∧ ∃ b n c, β i = .slice (some ⟨b, 0, none⟩) n c ∧ x = .pointer (some ⟨b, k * s + r, none⟩)) → Rep I T β w (.ptr i k r) x
  | ip (cs : List AV) (b off : Nat) (vs : Nat → Value) : I b → (∀ (j : Nat) (a : AV), cs[j]? = some a → w.cell? ⟨b, off + j, none⟩ = some (vs j)) →
      (∀ (j : Nat) (a : AV), cs[j]? = some a → Rep I T β w a (vs j)) → Rep I T β w (.ip cs) (.pointer (some ⟨b, off, none⟩))
  | clo (f : Nat) (caps : List AV) (vs : Array Value) : caps.length = vs.size → (∀ (j : Nat) (a : AV) (c : Value), caps[j]? = some a → vs[j]? = some c → Rep I T β w a c) → Rep I T β w (.clo f caps) (.func (.func f) #[] vs)
theorem Rep.mono {I I' : Nat → Prop} {T T' : Nat → Ob} {β β' : Nat → Value} {w w' : World} {x : AV} {y : Value} (h : Rep I T β w x y)
    (hI : ∀ b, I b → I' b ∧ ∀ o, w'.cell? ⟨b, o, none⟩ = w.cell? ⟨b, o, none⟩)
    (hT : ∀ i, T i ≠ .no → T' i ≠ .no ∧ ∀ e s es', T' i = .live e s es' → β' i = β i ∧ ∃ es, T i = .live e s es ∧ es.length = es'.length) : Rep I' T' β' w' x y := by
  induction h with
  | v x => exact .v x
  | agg l cs hl _ ih => exact .agg l cs hl ih
  | tup l cs hl _ ih => exact .tup l cs hl ih
  | emp s base cap h => exact .emp s base cap h
  | sl s es b off cap vs hb hc hs hv _ ih => exact .sl s es b off cap vs (hI b hb).1 hc hs (fun j a ha => ((hI b hb).2 _).trans (hv j a ha)) ih
  | own i x hn hx =>
    refine .own i x (hT i hn).1 fun e s es' h' => ?_
    obtain ⟨hb, es, he, _⟩ := (hT i hn).2 e s es' h'
    rw [hb]; exact hx e s es he
  | ptr i k r x hn hx =>
    refine .ptr i k r x (hT i hn).1 fun e s es' h' => ?_
    obtain ⟨hb, es, he, hl⟩ := (hT i hn).2 e s es' h'
    rw [hb, ← hl]; exact hx e s es he
  | ip cs b off vs hb hv _ ih => exact .ip cs b off vs (hI b hb).1 (fun j a ha => ((hI b hb).2 _).trans (hv j a ha)) ih
  | clo f caps vs hl _ ih => exact .clo f caps vs hl ih
theorem Rep.v_inv {I T β w x y} (h : Rep I T β w (.v x) y) : y = x := by cases h; rfl
structure Fr where
  n : Nat
  z : List Nat
  rd : Option Nat
  mm : Bool
instance : Coe Fr Nat := ⟨Fr.n⟩
structure Dom where
  I : Nat → Prop
  K : Nat → Prop
  pin : Nat → Option Value
  ds : List Deferred
  Bel : World → Prop
def Dom.own (D : Dom) (B g : Nat) : Prop := B ≤ g ∨ D.K g
def Im (I0 : Dom) (B : Nat) (T : Nat → Ob) (β : Nat → Value) (w : World) (b : Nat) : Prop :=
  (I0.I b ∨ B ≤ b ∨ I0.K b) ∧ b < w.heap.size ∧ ∀ i e s es, T i = .live e s es → (β i).ownBlock ≠ some b
structure BelowK (K : Nat → Prop) (B : Nat) (w w' : World) : Prop where
  os : w'.os = w.os
  tape : w'.tape = w.tape
  output : w'.output = w.output
  size : w.heap.size ≤ w'.heap.size
  block : ∀ k, k < B → ¬ K k → w'.heap[k]? = w.heap[k]?
theorem BelowK.of {K : Nat → Prop} {B B' : Nat} {w w' : World} (h : Below B' w w') (hB : B ≤ B') : BelowK K B w w' := ⟨h.os, h.tape, h.output, h.size, fun k hk _ => h.block k (Nat.lt_of_lt_of_le hk hB)⟩
theorem BelowK.below {K : Nat → Prop} {B : Nat} {w w' : World} (h : BelowK K B w w') (hK : ∀ b, ¬ K b) : Below B w w' := ⟨h.os, h.tape, h.output, h.size, fun k hk => h.block k hk (hK k)⟩
theorem BelowK.refl (K : Nat → Prop) (B : Nat) (w : World) : BelowK K B w w := ⟨rfl, rfl, rfl, Nat.le_refl _, fun _ _ _ => rfl⟩
theorem BelowK.trans {K : Nat → Prop} {B : Nat} {a b c : World} (h : BelowK K B a b) (k : BelowK K B b c) : BelowK K B a c :=
  ⟨k.os.trans h.os, k.tape.trans h.tape, k.output.trans h.output, Nat.le_trans h.size k.size, fun i hi hk => (k.block i hi hk).trans (h.block i hi hk)⟩
theorem BelowK.grown {K : Nat → Prop} {B : Nat} {w w' : World} {row : Option Nat} (hg : w.grownBy w' row) (hB : B ≤ w.heap.size) (hr : ∀ k, row = some k → B ≤ k ∨ K k) : BelowK K B w w' :=
  ⟨hg.os, hg.tape, hg.output, hg.size, fun k hk hn => hg.block k (by omega) (fun e => by rcases hr k e.symm with h | h; exact absurd h (by omega); exact hn h)⟩
def byteT : TypeId := 5
def frz (e : TypeId) (fr : Nat × Nat) (n : Nat) : Prop := (fr.1 = 0 ∧ fr.2 = 0) ∨ (e = byteT ∧ n ≤ fr.1)
def _root_.Go.World.owns (w : World) (base : Nat → Prop) (e : TypeId) (size : Nat) (v : Value) (n : Nat) (xs : List Value) : Prop :=
  xs.length = n * size ∧
  ((v = .slice none 0 0 ∧ n = 0) ∨
   ∃ g cap cur fr, v = .slice (some ⟨g, 0, none⟩) n cap ∧ base g ∧ w.heap[g]? = some (.cells cur e fr) ∧ frz e fr cur.size ∧ n ≤ cap ∧ cap ≤ maxLen ∧ cur.size = cap * size ∧ cur.toList.take (n * size) = xs)
section
variable {w : World} {base : Nat → Prop} {e : TypeId} {size : Nat} {v : Value} {n : Nat} {xs : List Value}
theorem _root_.Go.World.ownsRow.owns {B : Nat} (h : w.ownsRow B e size v n xs) (hB : ∀ g, B ≤ g → base g) : w.owns base e size v n xs :=
  ⟨h.1, h.2.imp id fun ⟨g, cap, cur, h1, h2, h3, h4⟩ => ⟨g, cap, cur, (0, 0), h1, hB g h2, h3, .inl ⟨rfl, rfl⟩, h4⟩⟩
theorem _root_.Go.World.owns.lt (h : w.owns base e size v n xs) : ∀ k, v.ownBlock = some k → base k ∧ k < w.heap.size := by
  intro k hk
  rcases h.2 with ⟨rfl, _⟩ | ⟨g, cap, cur, fr, rfl, hb, hg, _⟩
  · simp [Value.ownBlock] at hk
  · simp [Value.ownBlock] at hk
    subst hk
    exact ⟨hb, (Array.getElem?_eq_some_iff.1 hg).1⟩
theorem _root_.Go.World.owns.kept {w' : World} {row : Option Nat} (h : w.owns base e size v n xs) (hg : w.grownBy w' row) (hne : v.ownBlock = none ∨ v.ownBlock ≠ row) : w'.owns base e size v n xs := by
  refine ⟨h.1, ?_⟩
  rcases h.2 with hn | ⟨g, cap, cur, fr, rfl, hb, hgg, rest⟩
  · exact .inl hn
  · refine .inr ⟨g, cap, cur, fr, rfl, hb, ?_, rest⟩
    rw [hg.block g (Array.getElem?_eq_some_iff.1 hgg).1 (by simpa [Value.ownBlock] using hne)]
    exact hgg
theorem _root_.Go.World.owns.cellAt {g cap : Nat} (h : w.owns base e size (.slice (some ⟨g, 0, none⟩) n cap) n xs) (j : Nat) (hj : j < n * size) : w.cell? ⟨g, j, none⟩ = xs[j]? := by
  rcases h.2 with ⟨h', _⟩ | ⟨g', cap', cur, fr, h', _, hg, _, _, _, _, htake⟩
  · simp at h'
  · simp only [Value.slice.injEq, Option.some.injEq, Addr.mk.injEq, and_true, true_and] at h'
    obtain ⟨rfl, rfl⟩ := h'
    rw [cell_of_row w g j cur e fr hg, ← htake, List.getElem?_take, if_pos hj]
    simp
theorem _root_.Go.World.owns.cells (h : w.owns base e size v n xs) {g : Nat} (hg : v.ownBlock = some g) : ∀ j u, xs[j]? = some u → w.cell? ((⟨g, 0, none⟩ : Addr).add j) = some u := by
  intro j u hu
  rcases h.2 with ⟨rfl, _⟩ | ⟨g', cap, cur, fr, rfl, _, hgg, _, _, _, _, htake⟩
  · simp [Value.ownBlock] at hg
  · simp [Value.ownBlock] at hg
    subst hg
    have hadd : (⟨g', 0, none⟩ : Addr).add j = ⟨g', j, none⟩ := by unfold Addr.add; split <;> simp_all
    rw [hadd, cell_of_row w g' j cur e fr hgg]
    rw [← htake, List.getElem?_take] at hu
    split at hu
    · simpa using hu
    · cases hu
theorem _root_.Go.World.owns_nil (w : World) (base : Nat → Prop) (e : TypeId) (size : Nat) : w.owns base e size (.slice none 0 0) 0 [] := ⟨by simp, .inl ⟨rfl, rfl⟩⟩
end
def markOf (D : Nat) : Deferred := { target := .collected D, args := #[] }
def Marks (mk : Bool) (I0 : Dom) (B : Nat) (a : Act) (w : World) : Prop :=
  ∃ ms : List Nat, a.defers = ms.map markOf ++ I0.ds ∧ ms.Nodup ∧ (∀ D ∈ ms, B ≤ D ∧ w.heap[D]? = some (.deferred (some []))) ∧ (mk = false → ms = [])
theorem Marks.step {mk : Bool} {I0 : Dom} {B : Nat} {a : Act} {w w' : World} (h : Marks mk I0 B a w) (hk : ∀ D, B ≤ D → w.heap[D]? = some (.deferred (some [])) → w'.heap[D]? = w.heap[D]?) : Marks mk I0 B a w' :=
  let ⟨ms, h1, h2, h3, h4⟩ := h
  ⟨ms, h1, h2, fun D hD => ⟨(h3 D hD).1, (hk D (h3 D hD).1 (h3 D hD).2).trans (h3 D hD).2⟩, h4⟩
theorem Marks.world {mk : Bool} {I0 : Dom} {B : Nat} {a : Act} {w w' : World} (h : Marks mk I0 B a w) (hb : Below w.heap.size w w') : Marks mk I0 B a w' := h.step fun D _ hD => hb.block D (Array.getElem?_eq_some_iff.1 hD).1
structure Objs (I0 : Dom) (B : Nat) (T : Nat → Ob) (β : Nat → Value) (w : World) : Prop where
  obj : ∀ (i e s : Nat) (es : List (List AV)), T i = .live e s es → (∀ x ∈ es, x.length = s) ∧ ∃ xs : List Value, w.owns (I0.own B) e s (β i) es.length xs ∧
    ∀ (j : Nat) (a : AV), es.flatten[j]? = some a → ∃ y : Value, xs[j]? = some y ∧ Rep (Im I0 B T β w) T β w a y
  inj : ∀ i e s es j e' s' es' b, T i = .live e s es → T j = .live e' s' es' → (β i).ownBlock = some b → (β j).ownBlock = some b → i = j
structure Rel (N : Fr) (I0 : Dom) (w0 : World) (st : ASt) (β : Nat → Value) (a : Act) (w : World) : Prop where
  old : ∀ b : Nat, I0.I b → b < w0.heap.size
  size : a.tmps.size = N.n
  defers : Marks N.mm I0 w0.heap.size a w
  env : ∀ t x, get st.env t = some x → Rep (Im I0 w0.heap.size st.T β w) st.T β w x (a.tmps.getD t undef)
  objs : Objs I0 w0.heap.size st.T β w
  below : I0.Bel w
  step : ∀ w w', I0.Bel w → BelowK I0.K w0.heap.size w w' → I0.Bel w'
  base : w0.heap.size ≤ w.heap.size
  pins : ∀ i v, I0.pin i = some v → N.z.contains i = true ∧ st.T i ≠ .no ∧ β i = v
structure Held (N : Fr) (I0 : Dom) (w0 : World) (a : Act) (T : Nat → Ob) (β : Nat → Value) (w : World) : Prop where
  bel : I0.Bel w
  base : w0.heap.size ≤ w.heap.size
  marks : Marks N.mm I0 w0.heap.size a w
  pins : ∀ i v, I0.pin i = some v → N.z.contains i = true ∧ T i ≠ .no ∧ β i = v
theorem Objs.noDef {I0 : Dom} {B : Nat} {T : Nat → Ob} {β : Nat → Value} {w : World} (h : Objs I0 B T β w) {i e s : Nat} {es : List (List AV)} (hi : T i = .live e s es) {D : Nat} (hb : (β i).ownBlock = some D) {x : Option (List Deferred)} (hD : w.heap[D]? = some (.deferred x)) : False := by
  obtain ⟨_, xs, ho, _⟩ := h.obj i e s es hi
  rcases ho.2 with ⟨h1, _⟩ | ⟨g, cap, cur, fr, h1, _, hg, _⟩
  · rw [h1] at hb; simp [Value.ownBlock] at hb
  · rw [h1] at hb; simp [Value.ownBlock] at hb; subst hb; rw [hg] at hD; cases hD
section
variable {N : Fr} {I0 : Dom} {w0 : World} {st : ASt} {β : Nat → Value} {a : Act} {w : World}
theorem Rel.held (h : Rel N I0 w0 st β a w) : Held N I0 w0 a st.T β w := ⟨h.below, h.base, h.defers, h.pins⟩
theorem Rel.put (h : Rel N I0 w0 st β a w) {d : Nat} (hd : d < N) {x : AV} {y : Value} (hx : Rep (Im I0 w0.heap.size st.T β w) st.T β w x y) :
    Rel N I0 w0 (st.put d x) β (a.put (some d) y) w := by
  refine ⟨h.old, ?_, h.defers, ?_, h.objs, h.below, h.step, h.base, h.pins⟩
  · simpa [Act.put] using h.size
  · intro t z hz
    simp only [ASt.put, get] at hz ⊢
    by_cases ht : d = t
    · subst ht
      simp only [if_true, Option.some.injEq] at hz
      subst hz
      have : d < a.tmps.size := by rw [h.size]; exact hd
      simpa [Act.put, Array.getD, this] using hx
    · rw [if_neg ht] at hz
      have := h.env t z hz
      have e : (a.put (some d) y).tmps.getD t undef = a.tmps.getD t undef := by simp [Act.put, Array.getD_eq_getD_getElem?, Array.getElem?_setIfInBounds_ne ht]
      rw [e]; exact this
theorem Rel.putO (h : Rel N I0 w0 st β a w) {d : Option Nat} (hd : ∀ t, d = some t → t < N) {x : AV} {y : Value} (hx : Rep (Im I0 w0.heap.size st.T β w) st.T β w x y) :
    Rel N I0 w0 (st.putO d x) β (a.put d y) w := by
  cases d with
  | none => exact h
  | some d => exact h.put (hd d rfl) hx
def cv : Value → AV
  | .agg cs => .agg (cs.toList.map .v)
  | .tuple cs => .tup (cs.toList.map .v)
  | x => .v x
theorem cv_rep (I : Nat → Prop) (T : Nat → Ob) (β : Nat → Value) (w : World) (x : Value) : Rep I T β w (cv x) x := by
  have h : ∀ (cs : Array Value) (j : Nat) (p : AV) (u : Value), (cs.toList.map AV.v)[j]? = some p → cs[j]? = some u → Rep I T β w p u := by
    intro cs j p u hp hu
    simp [hu] at hp
    subst hp
    exact .v u
  cases x with
  | agg cs => exact .agg _ cs (by simp) (h cs)
  | tuple cs => exact .tup _ cs (by simp) (h cs)
  | _ => exact .v _
def ev (st : ASt) : Operand → Option AV
  | .tmp t => get st.env t
  | .const x => some (cv x)
  | .global _ => none
  | .func f => some (.clo f [])
theorem Rel.ev (h : Rel N I0 w0 st β a w) {o : Operand} {x : AV} (hx : ev st o = some x) : Rep (Im I0 w0.heap.size st.T β w) st.T β w x (a.eval o) := by
  cases o with
  | tmp t => exact h.env t x hx
  | const y => simp only [AW.ev, Option.some.injEq] at hx; subst hx; exact cv_rep _ _ _ _ y
  | global g => simp [AW.ev] at hx
  | func f => simp only [AW.ev, Option.some.injEq] at hx; subst hx; exact .clo f [] #[] rfl (by simp)
theorem Rel.world (h : Rel N I0 w0 st β a w) {w' : World} (hb : Below w.heap.size w w') : Rel N I0 w0 st β a w' := by
  have hI : ∀ b, Im I0 w0.heap.size st.T β w b → Im I0 w0.heap.size st.T β w' b ∧ ∀ o, w'.cell? ⟨b, o, none⟩ = w.cell? ⟨b, o, none⟩ := fun b ⟨h1, h2, h3⟩ =>
    ⟨⟨h1, Nat.lt_of_lt_of_le h2 hb.size, h3⟩, fun o => hb.cell (p := ⟨b, o, none⟩) h2⟩
  have hT : ∀ i, st.T i ≠ .no → st.T i ≠ .no ∧ ∀ e s es', st.T i = .live e s es' → β i = β i ∧ ∃ es, st.T i = .live e s es ∧ es.length = es'.length :=
    fun i hi => ⟨hi, fun e s es' h' => ⟨rfl, es', h', rfl⟩⟩
  refine ⟨h.old, h.size, h.defers.world hb, fun t x hx => (h.env t x hx).mono hI hT, ⟨?_, h.objs.inj⟩, h.step _ _ h.below (.of hb h.base), h.step, Nat.le_trans h.base hb.size, h.pins⟩
  intro i e s es hi
  obtain ⟨h1, xs, h2, h3⟩ := h.objs.obj i e s es hi
  refine ⟨h1, xs, h2.kept (row := none) ⟨hb.os, hb.tape, hb.output, hb.size, fun k hk _ => hb.block k hk⟩ (by cases (β i).ownBlock <;> simp), fun j a ha => ?_⟩
  obtain ⟨y, hy, hr⟩ := h3 j a ha
  exact ⟨y, hy, hr.mono hI hT⟩
end
end Go.Proofs.Ytemcemimipagoaa.AW
namespace Go.Proofs.Ytemcemimipagoaa.AW
open Go Go.RowKit
def FW (r : Option Nat) : Fence := { Fence.wide with round := r }
theorem callsIn_FW {r : Option Nat} {n : Nat} {P : Program} {f : FuncId} {args : Array Value} {w : World} {R : Ending → World → Prop} (h : Calls P f args w R) : CallsIn (FW r) n P f args w R := callsIn_wide.2 h
theorem rowsIn_FW {r : Option Nat} {n : Nat} {P : Program} {row : String} {args : Array Value} {w : World} {R : Value → World → Prop} (h : Rows P row args w R) : RowsIn (FW r) n P row args w R :=
  fun c cs _ => let ⟨v, w', q, s⟩ := h c cs; ⟨v, w', q, stepsIn_wide.2 s⟩
def noDefer (ops : Array Oper) : Bool := ops.toList.all fun o => match o.op with | .defer _ => false | _ => true
theorem noDefer_get {ops : Array Oper} (h : noDefer ops = true) {i : Nat} {o : Oper} (ho : ops[i]? = some o) : ∀ c, o.op ≠ .defer c := by
  intro c hc
  have := List.all_eq_true.1 h o (List.mem_of_getElem? (by simpa using ho))
  rw [hc] at this; cases this
def wpOps (P : Program) (ops : Array Oper) (Q : Exit → Act → World → Prop) : List Nat → Act → World → Prop
  | [], a, w => Q .normal a w
  | i :: rest, a, w =>
    match ops[i]? with
    | none => wpOps P ops Q rest a w
    | some o =>
      if Region.wanted o (yielded ops a.tmps) then o.wp P a w (wpOps P ops Q rest) Q ∨ False
      else wpOps P ops Q rest (a.put o.dst undef) w
def wpOp (P : Program) (ops : Array Oper) (Q : Exit → Act → World → Prop) (i : Nat) (K : Act → World → Prop) (a : Act) (w : World) : Prop :=
  match ops[i]? with
  | none => K a w
  | some o => if Region.wanted o (yielded ops a.tmps) then o.wp P a w K Q ∨ False else K (a.put o.dst undef) w
def wpAny (P : Program) (md : Region.Mode) (ops : Array Oper) (Q : Exit → Act → World → Prop) : Nat → Array Bool → Act → World → Prop
  | 0, listed, a, w => Region.ready md ops listed = [] ∧ Q .normal a w
  | fuel + 1, listed, a, w =>
    (Region.ready md ops listed = [] → Q .normal a w) ∧
    ∀ i ∈ Region.ready md ops listed, wpOp P ops Q i (wpAny P md ops Q fuel (listed.setIfInBounds i true)) a w
section
variable {P : Program} {ops : Array Oper} {Q : Exit → Act → World → Prop} {r : Option Nat}
theorem wpOps_cons (i : Nat) (rest : List Nat) (a : Act) (w : World) : wpOps P ops Q (i :: rest) a w = wpOp P ops Q i (wpOps P ops Q rest) a w := by
  cases h : ops[i]? <;> simp [wpOps, wpOp, h]
theorem wpOp_mono {i : Nat} {a : Act} {w : World} {K K' : Act → World → Prop} (h : ∀ a w, K a w → K' a w) (hh : wpOp P ops Q i K a w) : wpOp P ops Q i K' a w := by
  unfold wpOp at *
  cases ho : ops[i]? with
  | none => rw [ho] at hh; exact h _ _ hh
  | some o =>
    rw [ho] at hh
    simp only at hh ⊢
    split
    · rename_i hw; rw [if_pos hw] at hh; exact hh.imp (Oper.wp_mono h) id
    · rename_i hw; rw [if_neg hw] at hh; exact h _ _ hh
theorem Oper.wp_monoQ {o : Oper} {a : Act} {w : World} {K K' : Act → World → Prop} {Q Q' : Exit → Act → World → Prop} (h : ∀ a w, K a w → K' a w) (hQ : ∀ e a w, Q e a w → Q' e a w) (hh : o.wp P a w K Q) : o.wp P a w K' Q' := by
  unfold Oper.wp at *
  generalize (execOp a.eval o).run P w = r at *
  have hL : LetsOut Q → LetsOut Q' := fun ⟨a, w, hq⟩ => ⟨a, w, hQ _ _ _ hq⟩
  cases r with
  | ok n w' =>
    cases n <;> simp only [Oper.upon] at hh ⊢ <;>
      first
        | exact h _ _ hh
        | exact Calls.mono hh (fun e w'' he => by cases e <;> first | exact h _ _ he | exact hQ _ _ _ he | exact hL he)
        | exact Rows.mono hh (fun _ _ he => h _ _ he)
  | halt x w' => cases x <;> simp only [Oper.upon] at hh ⊢ <;> first | exact hQ _ _ _ hh | exact hh
theorem wpOps_monoQ {Q' : Exit → Act → World → Prop} (hQ : ∀ e a w, Q e a w → Q' e a w) : ∀ (l : List Nat) (a : Act) (w : World), wpOps P ops Q l a w → wpOps P ops Q' l a w
  | [], a, w, h => hQ _ _ _ h
  | i :: l, a, w, h => by
    simp only [wpOps] at h ⊢
    cases ho : ops[i]? with
    | none => rw [ho] at h; exact wpOps_monoQ hQ l a w h
    | some o =>
      rw [ho] at h
      simp only at h ⊢
      split
      · rename_i hw
        rw [if_pos hw] at h
        exact h.imp (Oper.wp_monoQ (fun a w hk => wpOps_monoQ hQ l a w hk) hQ) id
      · rename_i hw
        rw [if_neg hw] at h
        exact wpOps_monoQ hQ l _ _ h
theorem opIn_of {o : Oper} {a : Act} {w : World} {K : Act → World → Prop} (hd : ∀ c, o.op ≠ .defer c) (h : o.wp P a w K Q) : o.wpIn (FW r) 0 P a w K Q := by
  refine ⟨fun _ _ => trivial, ?_⟩
  rw [Oper.semAt_eq _ _ _ hd]
  unfold Oper.wp at h
  generalize (execOp a.eval o).run P w = q at *
  cases q with
  | ok x w' =>
    cases x <;> simp only [Oper.upon, Oper.uponIn] at h ⊢ <;>
      first
        | exact h
        | exact ⟨fun hh => by simp [FW, Fence.wide] at hh, callsIn_FW h⟩
        | exact ⟨fun hh => by simp [FW, Fence.wide] at hh, rowsIn_FW h⟩
  | halt x w' => cases x <;> simp only [Oper.upon, Oper.uponIn] at h ⊢ <;> exact h
theorem opsIn_of (hd : noDefer ops = true) : ∀ (l : List Nat) (a : Act) (w : World), wpOps P ops Q l a w → wpOpsIn (FW r) 0 P ops Q l a w
  | [], _, _, h => h
  | i :: rest, a, w, h => by
    simp only [wpOps] at h
    simp only [wpOpsIn]
    cases ho : ops[i]? with
    | none => rw [ho] at h; exact opsIn_of hd rest a w h
    | some o =>
      rw [ho] at h
      simp only at h ⊢
      split
      · rename_i hw
        rw [if_pos hw] at h
        exact Oper.wpIn_mono (fun a w hk => opsIn_of hd rest a w hk) (opIn_of (noDefer_get hd ho) (h.resolve_right id))
      · rename_i hw
        rw [if_neg hw] at h
        exact ⟨fun _ _ => trivial, opsIn_of hd rest _ w h⟩
theorem opIn_of' (hd : noDefer ops = true) {i : Nat} {K : Act → World → Prop} {a : Act} {w : World} (h : wpOp P ops Q i K a w) : wpOpIn (FW r) 0 P ops Q i K a w := by
  unfold wpOp at h
  unfold wpOpIn
  cases ho : ops[i]? with
  | none => rw [ho] at h; exact h
  | some o =>
    rw [ho] at h
    simp only at h ⊢
    split
    · rename_i hw
      rw [if_pos hw] at h
      exact opIn_of (noDefer_get hd ho) (h.resolve_right id)
    · rename_i hw
      rw [if_neg hw] at h
      exact ⟨fun _ _ => trivial, h⟩
theorem anyIn_of (hd : noDefer ops = true) {md : Region.Mode} : ∀ (fuel : Nat) (L : Array Bool) (a : Act) (w : World), wpAny P md ops Q fuel L a w → wpAnyIn (FW r) 0 P md ops Q fuel L a w
  | 0, _, _, _, h => h
  | fuel + 1, L, a, w, h => ⟨h.1, fun i hi => wpOpIn_mono (fun a w hk => anyIn_of hd fuel _ a w hk) (opIn_of' hd (h.2 i hi))⟩
theorem wpR_region {id : Nat} {a : Act} {w : World} (hd : noDefer ops = true) (h : wpOps P ops Q (List.range ops.size) a w) : (Code.region id ops false).wpIn (FW r) 0 P Q a w := wpIn_region (opsIn_of hd _ _ _ h)
theorem wpR_any {id : Nat} {a : Act} {w : World} (hd : noDefer ops = true) (hm : P.follows .mixedOrders = true) (h : wpAny P .any ops Q ops.size (Array.replicate ops.size false) a { w with drawn := w.drawn + 1 }) : (Code.region id ops true).wpIn (FW r) 0 P Q a w :=
  wpIn_region_any hm (anyIn_of hd _ _ _ _ h)
end
def lift (N : Fr) (I0 : Dom) (w0 : World) (Q : Exit → ASt → Prop) : Exit → Act → World → Prop :=
  fun e a w => False ∨ ∃ st β, Rel N I0 w0 st β a w ∧ Q e st
def AWp (P : Program) (N : Fr) (c : Code) (Q : Exit → ASt → Prop) (st : ASt) : Prop :=
  ∀ I0 w0 β a w, Rel N I0 w0 st β a w → c.wpIn (FW N.rd) 0 P (lift N I0 w0 Q) a w
def thenA (R : ASt → Prop) (Q : Exit → ASt → Prop) : Exit → ASt → Prop
  | .normal, st => R st
  | e, st => Q e st
def inBlockA (id : Nat) (Q : Exit → ASt → Prop) : Exit → ASt → Prop
  | .exit id', st => if id' = id then Q .normal st else Q (.exit id') st
  | e, st => Q e st
section
variable {P : Program} {N : Fr} {Q : Exit → ASt → Prop} {st : ASt}
theorem AWp.mono {c : Code} {Q' : Exit → ASt → Prop} (h : AWp P N c Q st) (hq : ∀ e st, Q e st → Q' e st) : AWp P N c Q' st :=
  fun I0 w0 β a w hr => wpIn_mono (h I0 w0 β a w hr) fun e a w he => he.imp id fun ⟨st, β, h1, h2⟩ => ⟨st, β, h1, hq e st h2⟩
theorem aw_skip (h : Q .normal st) : AWp P N .skip Q st := fun I0 w0 β a w hr => wpIn_skip (.inr ⟨st, β, hr, h⟩)
theorem aw_exit {id : Nat} (h : Q (.exit id) st) : AWp P N (.exit id) Q st := fun I0 w0 β a w hr => wpIn_exit (.inr ⟨st, β, hr, h⟩)
theorem aw_ret (h : Q .ret st) : AWp P N .ret Q st := fun I0 w0 β a w hr => wpIn_ret (.inr ⟨st, β, hr, h⟩)
theorem aw_seq {x y : Code} (h : AWp P N x (thenA (AWp P N y Q) Q) st) : AWp P N (.seq x y) Q st := by
  intro I0 w0 β a w hr
  refine wpIn_seq (wpIn_mono (h I0 w0 β a w hr) ?_)
  rintro e a w (hF | ⟨st, β, h1, h2⟩)
  · exact hF.elim
  · cases e with
    | normal => exact h2 I0 w0 β a w h1
    | _ => exact .inr ⟨st, β, h1, h2⟩
theorem aw_block {id : Nat} {c : Code} (h : AWp P N c (inBlockA id Q) st) : AWp P N (.block id c) Q st := by
  intro I0 w0 β a w hr
  refine wpIn_block (wpIn_mono (h I0 w0 β a w hr) ?_)
  rintro e a w (hF | ⟨st, β, h1, h2⟩)
  · exact hF.elim
  · cases e with
    | exit id' =>
      show if id' = id then _ else _
      by_cases hid : id' = id
      · rw [if_pos hid]; exact .inr ⟨st, β, h1, by simpa [inBlockA, hid] using h2⟩
      · rw [if_neg hid]; exact .inr ⟨st, β, h1, by simpa [inBlockA, hid] using h2⟩
    | _ => exact .inr ⟨st, β, h1, h2⟩
theorem aw_cond {c : Operand} {x y : Code} {b : Bool} (hc : ev st c = some (.v (.bool b))) (ht : b = true → AWp P N x Q st) (hf : b = false → AWp P N y Q st) :
    AWp P N (.cond c x y) Q st := by
  intro I0 w0 β a w hr
  have he : a.eval c = .bool b := (hr.ev hc).v_inv
  exact wpIn_cond_split he (fun h => ht h I0 w0 β a w hr) (fun h => hf h I0 w0 β a w hr)
theorem aw_cond_t {c : Operand} {x y : Code} (hc : ev st c = some (.v (.bool true))) (ht : AWp P N x Q st) : AWp P N (.cond c x y) Q st := aw_cond hc (fun _ => ht) (fun h => by cases h)
theorem aw_cond_f {c : Operand} {x y : Code} (hc : ev st c = some (.v (.bool false))) (hf : AWp P N y Q st) : AWp P N (.cond c x y) Q st := aw_cond hc (fun h => by cases h) (fun _ => hf)
def Ent (N : Fr) (st st' : ASt) : Prop := ∀ I0 w0 β a w, Rel N I0 w0 st β a w → ∃ β', Rel N I0 w0 st' β' a w
theorem Ent.refl (st : ASt) : Ent N st st := fun _ _ β _ _ h => ⟨β, h⟩
theorem Ent.trans {a b c : ASt} (h : Ent N a b) (k : Ent N b c) : Ent N a c := fun I0 w0 β x w hr => let ⟨β', h'⟩ := h I0 w0 β x w hr; k I0 w0 β' x w h'
theorem AWp.ent {c : Code} {st' : ASt} (he : Ent N st st') (h : AWp P N c Q st') : AWp P N c Q st :=
  fun I0 w0 β a w hr => let ⟨β', h'⟩ := he I0 w0 β a w hr; h I0 w0 β' a w h'
def Has : List (Nat × AV) → List (Nat × AV) → Prop
  | _, [] => True
  | e, (t, x) :: r => get e t = some x ∧ Has e r
theorem Has.get {e : List (Nat × AV)} : ∀ {l : List (Nat × AV)}, Has e l → ∀ t x, get l t = some x → get e t = some x
  | [], _, t, x, h => by simp [AW.get] at h
  | (k, v) :: r, hh, t, x, h => by
    simp only [AW.get] at h
    by_cases hk : k = t
    · rw [if_pos hk] at h; cases h; exact hk ▸ hh.1
    · rw [if_neg hk] at h; exact Has.get hh.2 t x h
theorem ent_env {e l : List (Nat × AV)} {T : Nat → Ob} (h : Has e l) : Ent N ⟨e, T⟩ ⟨l, T⟩ := fun I0 w0 β a w hr =>
  ⟨β, hr.old, hr.size, hr.defers, fun t x hx => hr.env t x (Has.get h t x hx), hr.objs, hr.below, hr.step, hr.base, hr.pins⟩
theorem aw_cuts {ι : Sort _} {x y : Code} (J : ι → ASt) (h : AWp P N x (thenA (fun s => ∃ i, Ent N s (J i)) Q) st) (k : ∀ i, AWp P N y Q (J i)) : AWp P N (.seq x y) Q st :=
  aw_seq (h.mono fun e s hs => by
    cases e with
    | normal => obtain ⟨i, hi⟩ := hs; exact AWp.ent hi (k i)
    | _ => exact hs)
theorem aw_cutE {ι : Sort _} {x y : Code} (J : ι → List (Nat × AV)) (h : AWp P N x (thenA (fun s => ∃ i, s.T = st.T ∧ Has s.env (J i)) Q) st) (k : ∀ i, AWp P N y Q ⟨J i, st.T⟩) : AWp P N (.seq x y) Q st :=
  aw_cuts (fun i => ⟨J i, st.T⟩) (h.mono fun e s hs => by
    cases e with
    | normal =>
      obtain ⟨i, h1, h2⟩ := hs
      obtain ⟨e, T⟩ := s
      simp only at h1; subst h1
      exact ⟨i, ent_env h2⟩
    | _ => exact hs) k
theorem least_exists {p : Nat → Prop} (h : ∃ n, p n) : ∃ n, p n ∧ ∀ m, p m → n ≤ m := by
  obtain ⟨n, hn⟩ := h
  induction n using Nat.strongRecOn with
  | _ n ih =>
    by_cases hm : ∃ m, m < n ∧ p m
    · obtain ⟨m, hm1, hm2⟩ := hm; exact ih m hm1 hm2
    · exact ⟨n, hn, fun m hm' => Nat.le_of_not_lt fun hlt => hm ⟨m, hlt, hm'⟩⟩
theorem aw_loop {ι : Type _} {c : Code} (J : ι → ASt) (μ : ι → Nat) (i0 : ι) (h0 : Ent N st (J i0))
    (round : ∀ i, AWp P N c (thenA (fun s => ∃ j, μ j < μ i ∧ Ent N s (J j)) Q) (J i)) : AWp P N (.loop c) Q st := by
  intro I0 w0 β a w hr
  let p : Act → World → Nat → Prop := fun a w n => ∃ i β, Rel N I0 w0 (J i) β a w ∧ μ i = n
  let m : Act → World → Nat := fun a w => open Classical in if h : ∃ n, p a w n then Classical.choose (least_exists h) else 0
  have hm : ∀ a w, (∃ n, p a w n) → p a w (m a w) ∧ ∀ k, p a w k → m a w ≤ k := by
    intro a w h
    have : m a w = Classical.choose (least_exists h) := dif_pos h
    rw [this]; exact Classical.choose_spec (least_exists h)
  obtain ⟨β', hr'⟩ := h0 I0 w0 β a w hr
  refine wpIn_loop (fun a w => ∃ n, p a w n) m ⟨_, i0, β', hr', rfl⟩ ?_
  intro a w hI
  obtain ⟨⟨i, β, hri, hmi⟩, hleast⟩ := hm a w hI
  refine wpIn_mono (round i I0 w0 β a w hri) ?_
  rintro e a' w' (hF | ⟨s, γ, h1, h2⟩)
  · exact hF.elim
  · cases e with
    | normal =>
      obtain ⟨j, hj, he⟩ := h2
      obtain ⟨γ', h'⟩ := he I0 w0 γ a' w' h1
      have hp : p a' w' (μ j) := ⟨j, γ', h', rfl⟩
      exact ⟨⟨_, hp⟩, Nat.lt_of_le_of_lt ((hm a' w' ⟨_, hp⟩).2 _ hp) (hmi ▸ hj)⟩
    | _ => exact .inr ⟨s, γ, h1, h2⟩
theorem aw_for {c : Code} (n : Nat) (Inv : Nat → Prop) (J : Nat → ASt) (i0 : Nat) (h0 : Inv i0) (he : Ent N st (J i0))
    (round : ∀ i, Inv i → AWp P N c (thenA (fun s => i < n ∧ Inv (i + 1) ∧ Ent N s (J (i + 1))) Q) (J i)) : AWp P N (.loop c) Q st :=
  aw_loop (ι := {i : Nat // Inv i}) (fun i => J i.1) (fun i => n - i.1) ⟨i0, h0⟩ he fun i => (round i.1 i.2).mono fun e s hs => by
    cases e with
    | normal => obtain ⟨h1, h2, h3⟩ := hs; exact ⟨⟨i.1 + 1, h2⟩, by show n - (i.1 + 1) < n - i.1; omega, h3⟩
    | _ => exact hs
theorem aw_forE {c : Code} (n : Nat) (Inv : Nat → Prop) (J : Nat → List (Nat × AV)) (i0 : Nat) (h0 : Inv i0) (he : Has st.env (J i0))
    (round : ∀ i, Inv i → AWp P N c (thenA (fun s => i < n ∧ Inv (i + 1) ∧ s.T = st.T ∧ Has s.env (J (i + 1))) Q) ⟨J i, st.T⟩) : AWp P N (.loop c) Q st :=
  aw_for n Inv (fun i => ⟨J i, st.T⟩) i0 h0 (ent_env (e := st.env) (T := st.T) he) fun i hi => (round i hi).mono fun e s hs => by
    cases e with
    | normal =>
      obtain ⟨h1, h2, h3, h4⟩ := hs
      obtain ⟨e, T⟩ := s
      simp only at h3; subst h3
      exact ⟨h1, h2, ent_env h4⟩
    | _ => exact hs
def AOps (P : Program) (N : Fr) (ops : Array Oper) (Q : Exit → ASt → Prop) (l : List Nat) (st : ASt) : Prop :=
  ∀ I0 w0 β a w, Rel N I0 w0 st β a w → wpOps P ops (lift N I0 w0 Q) l a w
def AOp (P : Program) (N : Fr) (o : Oper) (K : ASt → Prop) (Q : Exit → ASt → Prop) (st : ASt) : Prop :=
  ∀ I0 w0 β a w, Rel N I0 w0 st β a w → ∀ K' : Act → World → Prop, (∀ st' β' a' w', Rel N I0 w0 st' β' a' w' → K st' → K' a' w') →
    o.wp P a w K' (lift N I0 w0 Q) ∨ False
theorem aw_region {id : Nat} {ops : Array Oper} (h : AOps P N ops Q (List.range ops.size) st) (hnd : noDefer ops = true := by rfl) : AWp P N (.region id ops false) Q st :=
  fun I0 w0 β a w hr => wpR_region hnd (h I0 w0 β a w hr)
theorem aops_nil {ops : Array Oper} (h : Q .normal st) : AOps P N ops Q [] st := fun I0 w0 β a w hr => .inr ⟨st, β, hr, h⟩
theorem AOps.mono' {ops : Array Oper} {l : List Nat} {Q' : Exit → ASt → Prop} (h : AOps P N ops Q l st) (hq : ∀ e s, Q e s → Q' e s) : AOps P N ops Q' l st := fun I0 w0 β a w hr => wpOps_monoQ (fun e a w he => he.imp id fun ⟨s, β, h1, h2⟩ => ⟨s, β, h1, hq e s h2⟩) _ _ _ (h I0 w0 β a w hr)
theorem AOps.ent {ops : Array Oper} {l : List Nat} {st' : ASt} (he : Ent N st st') (h : AOps P N ops Q l st') : AOps P N ops Q l st :=
  fun I0 w0 β a w hr => let ⟨β', h'⟩ := he I0 w0 β a w hr; h I0 w0 β' a w h'
theorem yielded_of {I0 : Dom} {w0 : World} {β : Nat → Value} {a : Act} {w : World} (hr : Rel N I0 w0 st β a w) {ops : Array Oper} {g t : Nat} {b : Bool} (hN : t < N) (hd : (ops[g]?).bind (·.dst) = some t)
    (hv : get st.env t = some (.v (.bool b))) : yielded ops a.tmps g = some b := by
  have h := hr.env t _ hv
  have : t < a.tmps.size := by rw [hr.size]; exact hN
  unfold yielded
  rw [hd]
  simp only [Option.bind_some, Array.getD_eq_getD_getElem?, Array.getElem?_eq_getElem this, Option.getD_some] at h ⊢
  generalize a.tmps[t] = y at h
  cases h; rfl
def AYield (P : Program) (N : Fr) (Q : Exit → ASt → Prop) (o : Oper) (st : ASt) (x : AV) : Prop :=
  ∀ I0 w0 β a w, Rel N I0 w0 st β a w → ∀ K' : Act → World → Prop, (∀ y w', Below w.heap.size w w' → Rep (Im I0 w0.heap.size st.T β w') st.T β w' x y → K' (a.put o.dst y) w') →
    o.wp P a w K' (lift N I0 w0 Q) ∨ False
theorem AOp.of_yield {o : Oper} {K : ASt → Prop} {x : AV} {d : Nat} (hd : o.dst = some d) (hN : d < N) (h : AYield P N Q o st x) (k : K (st.put d x)) : AOp P N o K Q st :=
  fun I0 w0 β a w hr K' hK => h I0 w0 β a w hr K' fun y w' h1 h2 => by rw [hd]; exact hK _ β _ w' ((hr.world h1).put hN h2) k
theorem AYield.value {o : Oper} {x : AV}
    (h : ∀ I0 w0 β a w, Rel N I0 w0 st β a w → ∃ y w', (execOp a.eval o).run P w = .ok (.value y) w' ∧ Below w.heap.size w w' ∧ Rep (Im I0 w0.heap.size st.T β w') st.T β w' x y) : AYield P N Q o st x := by
  intro I0 w0 β a w hr K' hK
  obtain ⟨y, w', h1, h2, h3⟩ := h I0 w0 β a w hr
  refine .inl ?_
  simp only [Oper.wp, h1, Oper.upon]
  exact hK y w' h2 h3
theorem AYield.still {o : Oper} {x : AV}
    (h : ∀ I0 w0 β a w, Rel N I0 w0 st β a w → ∃ y, (execOp a.eval o).run P w = .ok (.value y) w ∧ Rep (Im I0 w0.heap.size st.T β w) st.T β w x y) : AYield P N Q o st x :=
  AYield.value (fun I0 w0 β a w hr => let ⟨y, h1, h2⟩ := h I0 w0 β a w hr; ⟨y, w, h1, Below.refl _ w, h2⟩)
section ops
variable {o : Oper} {K : ASt → Prop} {d : Nat} {x : AV}
theorem y_move {z : Operand} (ho : o.op = .move z := by rfl) (hz : ev st z = some x := by rfl) : AYield P N Q o st x :=
  AYield.still (fun I0 w0 β a w hr => ⟨a.eval z, by simp [execOp, ho], hr.ev hz⟩)
theorem y_assign {z : Operand} (ho : o.op = .assign z := by rfl) (hz : ev st z = some x := by rfl) : AYield P N Q o st x :=
  AYield.still (fun I0 w0 β a w hr => ⟨a.eval z, by simp [execOp, ho], hr.ev hz⟩)
theorem y_pick_t {c p q : Operand} (ho : o.op = .pick c p q := by rfl) (hc : ev st c = some (.v (.bool true)) := by rfl) (hz : ev st p = some x := by rfl) : AYield P N Q o st x :=
  AYield.still (fun I0 w0 β a w hr => ⟨a.eval p, by have hy := (hr.ev hc).v_inv; simp [execOp, ho, hy, asBool], hr.ev hz⟩)
theorem y_pick_f {c p q : Operand} (ho : o.op = .pick c p q := by rfl) (hc : ev st c = some (.v (.bool false)) := by rfl) (hz : ev st q = some x := by rfl) : AYield P N Q o st x :=
  AYield.still (fun I0 w0 β a w hr => ⟨a.eval q, by have hy := (hr.ev hc).v_inv; simp [execOp, ho, hy, asBool], hr.ev hz⟩)
theorem y_bin {f : BinOp} {t t' : TypeId} {p q : Operand} {u v r : Value} (ho : o.op = .binOp f t p q t' := by rfl) (hp : ev st p = some (.v u) := by rfl) (hq : ev st q = some (.v v) := by rfl)
    (hrun : ∀ w, (do eqGuard f t p q u v; binOp f t u v : Sem Value).run P w = .ok r w := by intro w; rfl) : AYield P N Q o st (.v r) :=
  AYield.still (fun I0 w0 β a w hr => ⟨r, by
    have h1 := hr.ev hp; have h2 := hr.ev hq
    have e1 : a.eval p = u := h1.v_inv
    have e2 : a.eval q = v := h2.v_inv
    have h := hrun w
    simp only [Sem.run_bind] at h
    simp only [execOp, ho, e1, e2, Sem.run_bind]
    cases hg : (eqGuard f t p q u v).run P w with
    | halt x w' => rw [hg] at h; simp [Result.andThen] at h
    | ok x w' =>
      rw [hg] at h
      simp only [Result.andThen_ok] at h ⊢
      rw [h]; simp, .v r⟩)
theorem y_un {f : UnOp} {t : TypeId} {p : Operand} {u r : Value} (ho : o.op = .unOp f t p := by rfl) (hp : ev st p = some (.v u) := by rfl)
    (hrun : ∀ w, (Op.unary f u).run P w = .ok r w := by intro w; rfl) : AYield P N Q o st (.v r) :=
  AYield.still (fun I0 w0 β a w hr => ⟨r, by
    have h1 := hr.ev hp
    have e1 : a.eval p = u := h1.v_inv
    simp [execOp, ho, e1, hrun w], .v r⟩)
end ops
end
end Go.Proofs.Ytemcemimipagoaa.AW
namespace Go.Proofs.Ytemcemimipagoaa.AW
open Go Go.RowKit
def szOf (P : Program) (t : TypeId) : Option (Nat × Bool) :=
  match P.info? t, P.underlying t with
  | some i, some d => some (i.size, d.isRow)
  | _, _ => none
def fldOf (P : Program) (t f : Nat) : Option (Nat × Nat × Bool) :=
  match P.underlying t with
  | some (.struct fs) => match fs[f]? with
    | some fl => (szOf P fl.type).map fun p => (fl.offset, p.1, p.2)
    | none => none
  | _ => none
def elOf (P : Program) (t : TypeId) : Option (TypeId × Nat) :=
  match P.underlying t with
  | some (.slice e) => (szOf P e).map fun p => (e, p.1)
  | _ => none
section
variable {P : Program}
theorem szOf_run {t n : Nat} {b : Bool} (h : szOf P t = some (n, b)) (w : World) : (sizeOf t).run P w = .ok n w ∧ (isAgg t).run P w = .ok b w := by
  unfold szOf at h
  cases hi : P.info? t with
  | none => simp [hi] at h
  | some i =>
    cases hu : P.underlying t with
    | none => simp [hi, hu] at h
    | some d =>
      simp only [hi, hu, Option.some.injEq, Prod.mk.injEq] at h
      obtain ⟨rfl, rfl⟩ := h
      refine ⟨by simp [sizeOf, typeInfo, hi], ?_⟩
      unfold isAgg
      rw [Sem.run_bind, run_underlying hu w]
      cases d <;> rfl
theorem szOf_info {t n : Nat} {b : Bool} (h : szOf P t = some (n, b)) : (P.info? t).map (·.size) = some n := by
  unfold szOf at h
  cases hi : P.info? t with
  | none => simp [hi] at h
  | some i =>
    cases hu : P.underlying t with
    | none => simp [hi, hu] at h
    | some d => simp only [hi, hu, Option.some.injEq, Prod.mk.injEq] at h; simp [h.1]
theorem fldOf_fl {t f off n : Nat} {b : Bool} (h : fldOf P t f = some (off, n, b)) : ∃ fs fl, P.underlying t = some (.struct fs) ∧ fs[f]? = some fl ∧ fl.offset = off ∧ szOf P fl.type = some (n, b) := by
  unfold fldOf at h
  split at h
  · rename_i fs hu
    split at h
    · rename_i fl hf
      cases hs : szOf P fl.type with
      | none => simp [hs] at h
      | some p =>
        obtain ⟨m, b'⟩ := p
        simp only [hs, Option.map_some, Option.some.injEq, Prod.mk.injEq] at h
        obtain ⟨rfl, rfl, rfl⟩ := h
        exact ⟨fs, fl, hu, hf, rfl, hs⟩
    · cases h
  · cases h
theorem elOf_el {t e s : Nat} (h : elOf P t = some (e, s)) : P.underlying t = some (.slice e) ∧ ∃ b, szOf P e = some (s, b) := by
  unfold elOf at h
  split at h
  · rename_i e' hu
    cases hs : szOf P e' with
    | none => simp [hs] at h
    | some p =>
      obtain ⟨m, b'⟩ := p
      simp only [hs, Option.map_some, Option.some.injEq, Prod.mk.injEq] at h
      obtain ⟨rfl, rfl⟩ := h
      exact ⟨hu, b', hs⟩
  · cases h
end
theorem flat_len {s : Nat} : ∀ {es : List (List AV)}, (∀ x ∈ es, x.length = s) → es.flatten.length = es.length * s
  | [], _ => by simp
  | x :: es, h => by
    rw [List.flatten_cons, List.length_append, flat_len fun y hy => h y (.tail _ hy), h x (.head _), List.length_cons, Nat.succ_mul, Nat.add_comm]
theorem flat_get {s : Nat} : ∀ {es : List (List AV)}, (∀ x ∈ es, x.length = s) → ∀ {k r : Nat} {c : List AV} {y : AV}, es[k]? = some c → c[r]? = some y → es.flatten[k * s + r]? = some y
  | [], _, k, r, c, y, hk, _ => by simp at hk
  | x :: es, h, 0, r, c, y, hk, hr => by
    simp only [List.getElem?_cons_zero, Option.some.injEq] at hk
    subst hk
    rw [List.flatten_cons, Nat.zero_mul, Nat.zero_add, List.getElem?_append_left (by obtain ⟨h, _⟩ := List.getElem?_eq_some_iff.1 hr; exact h)]
    exact hr
  | x :: es, h, k + 1, r, c, y, hk, hr => by
    simp only [List.getElem?_cons_succ] at hk
    have hl := h x (.head _)
    rw [List.flatten_cons, List.getElem?_append_right (by rw [hl, Nat.succ_mul]; omega)]
    have : (k + 1) * s + r - x.length = k * s + r := by rw [hl, Nat.succ_mul]; omega
    rw [this]
    exact flat_get (fun y hy => h y (.tail _ hy)) hk hr
def cellsA : AV → List AV
  | .agg l => l
  | x => [x]
def cok1 (T : Nat → Ob) : AV → Bool
  | .v x => x.oneCell'
  | .agg _ => false
  | .tup _ => false
  | .own i => match T i with | .live _ _ _ => true | _ => false
  | .ptr i _ _ => match T i with | .live _ _ _ => true | _ => false
  | _ => true
theorem Objs.beta {I0 B T β w} (h : Objs I0 B T β w) {i e s es} (hi : T i = .live e s es) : (β i).oneCell' = true := by
  obtain ⟨_, xs, ho, _⟩ := h.obj i e s es hi
  rcases ho.2 with ⟨h, _⟩ | ⟨_, _, _, _, h, _⟩ <;> rw [h] <;> rfl
theorem Rep.one {I0 B T β w x y} (hO : Objs I0 B T β w) (h : Rep (Im I0 B T β w) T β w x y) (hx : cok1 T x = true) : y.oneCell' = true := by
  cases h with
  | v x => exact hx
  | agg => cases hx
  | tup => cases hx
  | emp => rfl
  | sl => rfl
  | own i x h1 h2 =>
    simp only [cok1] at hx
    split at hx
    · rename_i e s es h; rw [h2 e s es h]; exact hO.beta h
    · cases hx
  | ptr i k r x h1 h2 =>
    simp only [cok1] at hx
    split at hx
    · rename_i e s es h; obtain ⟨_, _, b, n, c, _, rfl⟩ := h2 e s es h; rfl
    · cases hx
  | ip => rfl
  | clo => rfl
section
variable {P : Program} {N : Fr} {Q : Exit → ASt → Prop} {st : ASt} {I0 : Dom} {w0 : World} {β : Nat → Value} {a : Act} {w : World}
def look (st : ASt) : AV → Option (List AV)
  | .ip cs => some cs
  | .ptr i k r => match st.T i with
    | .live _ _ es => (es[k]?).map (·.drop r)
    | _ => none
  | _ => none
theorem look_of (hr : Rel N I0 w0 st β a w) {z : Operand} {x : AV} {cs : List AV} (hz : ev st z = some x) (hl : look st x = some cs) :
    ∃ b o, ∃ vs : Nat → Value, a.eval z = .pointer (some ⟨b, o, none⟩) ∧ ∀ j y, cs[j]? = some y → w.cell? ⟨b, o + j, none⟩ = some (vs j) ∧ Rep (Im I0 w0.heap.size st.T β w) st.T β w y (vs j) := by
  have h := hr.ev hz
  generalize a.eval z = y at h
  cases h with
  | ip cs' b off vs hb hc hv => simp only [look, Option.some.injEq] at hl; subst hl; exact ⟨b, off, vs, rfl, fun j y hy => ⟨hc j y hy, hv j y hy⟩⟩
  | ptr i k r x hn hx =>
    simp only [look] at hl
    split at hl
    · rename_i e s es hi
      cases hk : es[k]? with
      | none => simp [hk] at hl
      | some c =>
        simp only [hk, Option.map_some, Option.some.injEq] at hl
        subst hl
        obtain ⟨h1, h2, b, n, cp, h3, rfl⟩ := hx e s es hi
        obtain ⟨hs, xs, hown, hrep⟩ := hr.objs.obj i e s es hi
        rw [h3] at hown
        have hnn : n = es.length := by
          rcases hown.2 with ⟨hh, _⟩ | ⟨_, _, _, _, hh, _⟩
          · cases hh
          · simp at hh; exact hh.2.1
        refine ⟨b, k * s + r, fun j => (xs[k * s + (r + j)]?).getD undef, rfl, fun j y hy => ?_⟩
        have hy' : c[r + j]? = some y := by simpa [List.getElem?_drop] using hy
        have hf := flat_get hs hk hy'
        obtain ⟨v, hv, hrv⟩ := hrep _ _ hf
        subst hnn
        have hlt : k * s + (r + j) < es.length * s := by
          have := (List.getElem?_eq_some_iff.1 hf).1
          rwa [flat_len hs] at this
        have hcell := hown.cellAt (k * s + (r + j)) hlt
        rw [Nat.add_assoc (k * s) r j]
        rw [hcell]
        simp only [hv, Option.getD_some]
        exact ⟨trivial, hrv⟩
    · cases hl
  | _ => simp [look] at hl
section ops
variable {o : Oper} {K : ASt → Prop} {d : Nat} {x y : AV}
theorem y_load {z : Operand} {t n : Nat} {cs : List AV} (ho : o.op = .load t z := by rfl) (ht : szOf P t = some (n, false) := by rfl) (hz : ev st z = some x := by rfl) (hl : look st x = some cs := by rfl)
    (h0 : cs[0]? = some y := by rfl) : AYield P N Q o st y :=
  AYield.still (fun I0 w0 β a w hr => by
    obtain ⟨b, of, vs, he, hc⟩ := look_of hr hz hl
    obtain ⟨h1, h2⟩ := hc 0 y h0
    refine ⟨vs 0, ?_, h2⟩
    have h1' : w.cell? ⟨b, of, none⟩ = some (vs 0) := by simpa using h1
    simp [execOp, ho, he, Instr.loadAt, Instr.sureAddr, loadVar, Sem.run_bind, (szOf_run ht w).2, Go.load, Sem.run, h1'])
theorem y_loads {z : Operand} {t n : Nat} {cs : List AV} (ho : o.op = .load t z := by rfl) (ht : szOf P t = some (n, true) := by rfl) (hz : ev st z = some x := by rfl) (hl : look st x = some cs := by rfl)
    (hn : n ≤ cs.length) : AYield P N Q o st (.agg (cs.take n)) :=
  AYield.still (fun I0 w0 β a w hr => by
    obtain ⟨b, of, vs, he, hc⟩ := look_of hr hz hl
    refine ⟨.agg ((List.range n).map vs).toArray, ?_, .agg _ _ (by simp [hn]) fun j y v hy hv => ?_⟩
    · have hlc := run_loadCells_list (P := P) w ⟨b, of, none⟩ ((List.range n).map vs) (fun j v hv => by
        rw [Addr.add_mid]
        simp only [List.getElem?_map] at hv
        have hj : j < n := by
          rcases Nat.lt_or_ge j n with h | h
          · exact h
          · rw [List.getElem?_eq_none (by simpa using h)] at hv; cases hv
        rw [List.getElem?_range hj] at hv
        simp only [Option.map_some, Option.some.injEq] at hv
        subst hv
        exact (hc j cs[j] (List.getElem?_eq_getElem (by omega))).1)
      simp only [List.length_map, List.length_range] at hlc
      simp [execOp, ho, he, Instr.loadAt, Instr.sureAddr, loadVar, Sem.run_bind, (szOf_run ht w).1, (szOf_run ht w).2, hlc]
    · have hj : j < n := by
        have := (List.getElem?_eq_some_iff.1 hy).1
        simp at this; omega
      rw [List.getElem?_take_of_lt hj] at hy
      simp [hj] at hv
      subst hv
      exact (hc j y hy).2)
theorem add_mid (b o n : Nat) : Addr.add ⟨b, o, none⟩ n = ⟨b, o + n, none⟩ := by unfold Addr.add; split <;> simp_all
theorem y_faddr_ip {z : Operand} {t f off n : Nat} {ag : Bool} {cs : List AV} (ho : o.op = .fieldAddr t z f := by rfl) (ht : fldOf P t f = some (off, n + 1, ag) := by rfl) (hz : ev st z = some (.ip cs) := by rfl) : AYield P N Q o st (.ip (cs.drop off)) :=
  AYield.still (fun I0 w0 β a w hr => by
    have h := hr.ev hz
    obtain ⟨fs, fl, hu, hf, rfl, hs⟩ := fldOf_fl ht
    generalize hy : a.eval z = y at h
    cases h with
    | ip cs' b of vs hb hc hv =>
      refine ⟨.pointer (some ⟨b, of + fl.offset, none⟩), ?_, .ip _ b (of + fl.offset) (fun j => vs (fl.offset + j)) hb (fun j y hj => ?_) (fun j y hj => ?_)⟩
      · simp [execOp, ho, hy, Instr.fieldAt, run_underlying hu, hf, Instr.sureAddr, fieldPlace, (szOf_run hs w).1, add_mid]
      · rw [Nat.add_assoc]; exact hc _ y (by simpa [List.getElem?_drop] using hj)
      · exact hv _ y (by simpa [List.getElem?_drop] using hj))
theorem y_faddr_ptr {z : Operand} {t f off n : Nat} {ag : Bool} {i e s q r : Nat} {es : List (List AV)} (ho : o.op = .fieldAddr t z f := by rfl) (ht : fldOf P t f = some (off, n + 1, ag) := by rfl)
    (hz : ev st z = some (.ptr i q r) := by rfl) (hi : st.T i = .live e s es := by rfl) (hs : r + off ≤ s) : AYield P N Q o st (.ptr i q (r + off)) :=
  AYield.still (fun I0 w0 β a w hr => by
    have h := hr.ev hz
    obtain ⟨fs, fl, hu, hf, rfl, hs'⟩ := fldOf_fl ht
    generalize hy : a.eval z = y at h
    cases h with
    | ptr i k r x hn hx =>
      obtain ⟨h1, h2, b, n, c, h3, rfl⟩ := hx e s es hi
      refine ⟨.pointer (some ⟨b, q * s + (r + fl.offset), none⟩), ?_, .ptr i q (r + fl.offset) _ hn fun e' s' es' h' => ?_⟩
      · simp [execOp, ho, hy, Instr.fieldAt, run_underlying hu, hf, Instr.sureAddr, fieldPlace, (szOf_run hs' w).1, add_mid, Nat.add_assoc]
      · rw [hi] at h'; cases h'
        exact ⟨h1, hs, b, n, c, h3, rfl⟩)
theorem y_extract {z : Operand} {i : Nat} {l : List AV} (ho : o.op = .extract z i := by rfl) (hz : ev st z = some (.tup l) := by rfl) (h0 : l[i]? = some y := by rfl) : AYield P N Q o st y :=
  AYield.still (fun I0 w0 β a w hr => by
    have h := hr.ev hz
    generalize hy : a.eval z = y at h
    cases h with
    | tup l cs hl hc =>
      have hlt : i < cs.size := by rw [← hl]; exact (List.getElem?_eq_some_iff.1 h0).1
      refine ⟨cs[i], ?_, hc _ _ _ h0 (Array.getElem?_eq_getElem hlt)⟩
      simp [execOp, ho, hy, Instr.extract, Array.getElem?_eq_getElem hlt])
theorem y_iaddr {z ix : Operand} {t e s : Nat} {es : List (List AV)} {c : List AV} {kk : IntKind} {n : Int} (ho : o.op = .indexAddr t z ix := by rfl) (ht : elOf P t = some (e, s) := by rfl)
    (hz : ev st z = some (.sl s es) := by rfl) (hix : ev st ix = some (.v (.int kk n)) := by rfl) (h0 : 0 ≤ n) (hc : es[n.toNat]? = some c) : AYield P N Q o st (.ip c) :=
  AYield.still (fun I0 w0 β a w hr => by
    have h := hr.ev hz
    have hi := hr.ev hix
    have hi' : a.eval ix = .int kk n := hi.v_inv
    obtain ⟨hu, bb, hs⟩ := elOf_el ht
    have hlt := (List.getElem?_eq_some_iff.1 hc).1
    generalize hy : a.eval z = y at h
    cases h with
    | emp => simp at hlt
    | sl s es b of cap vs hb hcap hl hv hrr =>
      refine ⟨.pointer (some ⟨b, of + n.toNat * s, none⟩), ?_, .ip c b _ (fun j => vs (n.toNat * s + j)) hb (fun j y hj => ?_) (fun j y hj => ?_)⟩
      · have : n < (es.length : Int) := by omega
        simp [execOp, ho, hy, hi', Instr.indexAt, asIntOf, run_underlying hu, h0, this, (szOf_run hs w).1, add_mid]
      · rw [Nat.add_assoc]; exact hv _ y (flat_get hl hc hj)
      · exact hrr _ y (flat_get hl hc hj))
theorem y_iaddr_own {z ix : Operand} {t e s i : Nat} {es : List (List AV)} {kk : IntKind} {n : Int} (ho : o.op = .indexAddr t z ix := by rfl) (ht : elOf P t = some (e, s) := by rfl)
    (hz : ev st z = some (.own i) := by rfl) (hT : st.T i = .live e s es := by rfl) (hix : ev st ix = some (.v (.int kk n)) := by rfl) (h0 : 0 ≤ n) (hc : n < es.length) : AYield P N Q o st (.ptr i n.toNat 0) :=
  AYield.still (fun I0 w0 β a w hr => by
    have h := hr.ev hz
    have hi := hr.ev hix
    have hi' : a.eval ix = .int kk n := hi.v_inv
    obtain ⟨hu, bb, hs⟩ := elOf_el ht
    generalize hy : a.eval z = y at h
    cases h with
    | own i x hn hx =>
      have hx' := hx e s es hT
      obtain ⟨hs', xs, hown, hrep⟩ := hr.objs.obj i e s es hT
      rcases hown.2 with ⟨hh, h0'⟩ | ⟨g, cap, cur, fr, hh, hb, hg, _, hcap, _⟩
      · omega
      · refine ⟨.pointer (some ⟨g, n.toNat * s, none⟩), ?_, .ptr i n.toNat 0 _ hn fun e' s' es' h' => ?_⟩
        · simp [execOp, ho, hy, hi', hx', hh, Instr.indexAt, asIntOf, run_underlying hu, h0, hc, (szOf_run hs w).1, add_mid]
        · rw [hT] at h'; cases h'
          exact ⟨by omega, Nat.zero_le _, g, es.length, cap, hh, rfl⟩)
end ops
end
end Go.Proofs.Ytemcemimipagoaa.AW
namespace Go.Proofs.Ytemcemimipagoaa.AW
open Go Go.RowKit
def updV (β : Nat → Value) (i : Nat) (y : Value) : Nat → Value := fun j => if j = i then y else β j
def killO (T : Nat → Ob) : Option Nat → Nat → Ob
  | none => T
  | some i => upd T i .dead
section
variable {P : Program} {N : Fr} {Q : Exit → ASt → Prop} {st : ASt} {I0 : Dom} {w0 : World} {β : Nat → Value} {a : Act} {w : World}
theorem setCells_row (b : Nat) (e : TypeId) (fr : Nat × Nat) : ∀ (vs : List Value) (o : Nat) (cur : Array Value) (w : World), w.heap[b]? = some (.cells cur e fr) → o + vs.length ≤ cur.size →
    w.setCells b o vs = w.setRow b (cur.toList.take o ++ vs ++ cur.toList.drop (o + vs.length)).toArray
  | [], o, cur, w, hg, _ => by
    simp only [World.setCells, List.append_nil, List.length_nil, Nat.add_zero, List.take_append_drop, Array.toArray_toList]
    rw [setRow_self w b cur e fr hg]
  | v :: vs, o, cur, w, hg, hl => by
    simp only [List.length_cons] at hl
    rw [World.setCells, setCell_eq_setRow w b o cur e fr v hg, setCells_row b e fr vs (o + 1) _ _ (setRow_heap w b cur _ e fr hg) (by simp; omega), setRow_setRow]
    congr 2
    have := list_seg_step cur.toList o v vs (by simp; omega)
    simpa [Array.toList_setIfInBounds] using this
theorem run_storeCells_fr (P : Program) (b o : Nat) (e : TypeId) (vs : List Value) (cur : Array Value) (w : World) (fr : Nat × Nat) (hg : w.heap[b]? = some (.cells cur e fr)) (hfr : frz e fr cur.size) (hl : o + vs.length ≤ cur.size) (h1 : ∀ v ∈ vs, v.oneCell' = true) :
    (storeCells ⟨b, o, none⟩ vs 0).run P w = .ok () (w.setRow b (cur.toList.take o ++ vs ++ cur.toList.drop (o + vs.length)).toArray) := by
  rw [run_storeCells_cells b o vs 0 w (fun j hj => ?_) (fun j hj => ?_) h1, Nat.add_zero, setCells_row b e fr vs o cur w hg hl]
  · rw [cell_of_row w b _ cur e fr hg, Array.getElem?_eq_getElem (by omega)]; rfl
  · simp only [World.frozen?, hg]
    rcases hfr with ⟨h1, h2⟩ | ⟨_, h⟩
    · simp [h2]
    · have : ¬ fr.1 ≤ o + j := by omega
      simp [this]
theorem Rel.newObj (h : Rel N I0 w0 st β a w) {i' e s : Nat} {es' : List (List AV)} (hi' : st.T i' = .no) (row old : Option Nat)
    (hold : ∀ i, old = some i → ∃ e s es, st.T i = .live e s es ∧ row = (β i).ownBlock) (hrow : old = none → row = none)
    {w' : World} (hg : w.grownBy w' row) {y : Value} {xs : List Value} (hown : w'.owns (I0.own w0.heap.size) e s y es'.length xs) (hy : ∀ b, y.ownBlock = some b → some b = row ∨ w.heap.size ≤ b)
    (hs : ∀ x ∈ es', x.length = s) (hrep : ∀ (j : Nat) (x : AV), es'.flatten[j]? = some x → ∃ v : Value, xs[j]? = some v ∧ Rep (Im I0 w0.heap.size st.T β w) st.T β w x v) :
    Rel N I0 w0 ⟨st.env, upd (killO st.T old) i' (.live e s es')⟩ (updV β i' y) a w' ∧
      ∀ x v, Rep (Im I0 w0.heap.size st.T β w) st.T β w x v → Rep (Im I0 w0.heap.size (upd (killO st.T old) i' (.live e s es')) (updV β i' y) w') (upd (killO st.T old) i' (.live e s es')) (updV β i' y) w' x v := by
  have hk : ∀ j e s es, killO st.T old j = .live e s es → st.T j = .live e s es ∧ old ≠ some j := by
    intro j e s es hj
    cases old with
    | none => exact ⟨hj, by simp⟩
    | some i =>
      simp only [killO, upd] at hj
      by_cases hji : j = i
      · rw [if_pos hji] at hj; cases hj
      · rw [if_neg hji] at hj; exact ⟨hj, fun e => hji (by cases e; rfl)⟩
  have hblk : ∀ j e s es, st.T j = .live e s es → ∀ b, (β j).ownBlock = some b → I0.own w0.heap.size b ∧ b < w.heap.size := by
    intro j e s es hj b hb
    obtain ⟨_, xs, ho, _⟩ := h.objs.obj j e s es hj
    exact ho.lt b hb
  have hne : ∀ j e s es, st.T j = .live e s es → old ≠ some j → ∀ b, (β j).ownBlock = some b → some b ≠ row := by
    intro j e s es hj ho b hb hbr
    cases old with
    | none => rw [hrow rfl] at hbr; cases hbr
    | some i =>
      obtain ⟨e', s', es'', hi, hr⟩ := hold i rfl
      exact ho (by rw [h.objs.inj i _ _ _ j _ _ _ b hi hj (by rw [← hr, hbr]) hb])
  have hI : ∀ b, Im I0 w0.heap.size st.T β w b → Im I0 w0.heap.size (upd (killO st.T old) i' (.live e s es')) (updV β i' y) w' b ∧ ∀ o, w'.cell? ⟨b, o, none⟩ = w.cell? ⟨b, o, none⟩ := by
    rintro b ⟨h1, h2, h3⟩
    have hbr : some b ≠ row := by
      intro hbr
      cases old with
      | none => rw [hrow rfl] at hbr; cases hbr
      | some i =>
        obtain ⟨e', s', es'', hi, hr⟩ := hold i rfl
        exact h3 i _ _ _ hi (by rw [← hr, hbr])
    refine ⟨⟨h1, Nat.lt_of_lt_of_le h2 hg.size, fun j e' s' es'' hj hb => ?_⟩, fun o => World.cell?_of_block (a := ⟨b, o, none⟩) (hg.block b h2 hbr)⟩
    simp only [upd, updV] at hj hb
    by_cases hji : j = i'
    · rw [if_pos hji] at hb
      rcases hy b hb with h | h
      · exact hbr h
      · omega
    · rw [if_neg hji] at hj hb
      exact h3 j _ _ _ (hk _ _ _ _ hj).1 hb
  have hT : ∀ j, st.T j ≠ .no → upd (killO st.T old) i' (.live e s es') j ≠ .no ∧ ∀ e1 s1 es1, upd (killO st.T old) i' (.live e s es') j = .live e1 s1 es1 →
      updV β i' y j = β j ∧ ∃ es, st.T j = .live e1 s1 es ∧ es.length = es1.length := by
    intro j hj
    have hji : j ≠ i' := fun e => hj (e ▸ hi')
    simp only [upd, updV, if_neg hji]
    refine ⟨?_, fun e1 s1 es1 h1 => ⟨trivial, es1, (hk _ _ _ _ h1).1, rfl⟩⟩
    cases old with
    | none => exact hj
    | some i => simp only [killO, upd]; split <;> simp_all
  have hmono : ∀ x v, Rep (Im I0 w0.heap.size st.T β w) st.T β w x v → Rep (Im I0 w0.heap.size (upd (killO st.T old) i' (.live e s es')) (updV β i' y) w') (upd (killO st.T old) i' (.live e s es')) (updV β i' y) w' x v :=
    fun x v hx => hx.mono hI hT
  have hpins : ∀ j v, I0.pin j = some v → N.z.contains j = true ∧ upd (killO st.T old) i' (.live e s es') j ≠ .no ∧ updV β i' y j = v := by
    intro j v hj
    obtain ⟨z1, z2, z3⟩ := h.pins j v hj
    have hji : j ≠ i' := fun e => z2 (e ▸ hi')
    exact ⟨z1, (hT j z2).1, by simp only [updV, if_neg hji]; exact z3⟩
  have hmk : Marks N.mm I0 w0.heap.size a w' := h.defers.step fun D _ hD => hg.block D (Array.getElem?_eq_some_iff.1 hD).1 fun hr => by
    cases old with
    | none => rw [hrow rfl] at hr; cases hr
    | some i => obtain ⟨e', s', es'', hi, hri⟩ := hold i rfl; exact h.objs.noDef hi (by rw [← hri, ← hr]) hD
  refine ⟨⟨h.old, h.size, hmk, fun t x hx => hmono _ _ (h.env t x hx), ⟨?_, ?_⟩, h.step _ _ h.below (.grown hg h.base ?_), h.step, Nat.le_trans h.base hg.size, hpins⟩, hmono⟩
  · intro j e1 s1 es1 hj
    simp only [upd] at hj
    by_cases hji : j = i'
    · rw [if_pos hji] at hj
      cases hj
      refine ⟨hs, xs, by simp only [updV, if_pos hji]; exact hown, fun q x hx => ?_⟩
      obtain ⟨v, hv, hr⟩ := hrep q x hx
      exact ⟨v, hv, hmono _ _ hr⟩
    · rw [if_neg hji] at hj
      obtain ⟨hj', hoj⟩ := hk _ _ _ _ hj
      obtain ⟨h1, xs', h2, h3⟩ := h.objs.obj j e1 s1 es1 hj'
      refine ⟨h1, xs', ?_, fun q x hx => ?_⟩
      · simp only [updV, if_neg hji]
        refine h2.kept hg ?_
        cases hb : (β j).ownBlock with
        | none => exact .inl rfl
        | some b => exact .inr (hne j _ _ _ hj' hoj b hb)
      · obtain ⟨v, hv, hr⟩ := h3 q x hx
        exact ⟨v, hv, hmono _ _ hr⟩
  · intro p e1 s1 es1 q e2 s2 es2 b hp hq hbp hbq
    simp only [upd, updV] at hp hq hbp hbq
    by_cases hpi : p = i' <;> by_cases hqi : q = i'
    · rw [hpi, hqi]
    · rw [if_neg hqi] at hq hbq
      rw [if_pos hpi] at hbp
      obtain ⟨hq', hoq⟩ := hk _ _ _ _ hq
      rcases hy b hbp with h' | h'
      · exact absurd h' (hne q _ _ _ hq' hoq b hbq)
      · have := hblk q _ _ _ hq' b hbq; omega
    · rw [if_neg hpi] at hp hbp
      rw [if_pos hqi] at hbq
      obtain ⟨hp', hop⟩ := hk _ _ _ _ hp
      rcases hy b hbq with h' | h'
      · exact absurd h' (hne p _ _ _ hp' hop b hbp)
      · have := hblk p _ _ _ hp' b hbp; omega
    · rw [if_neg hpi] at hp hbp
      rw [if_neg hqi] at hq hbq
      exact h.objs.inj p _ _ _ q _ _ _ b (hk _ _ _ _ hp).1 (hk _ _ _ _ hq).1 hbp hbq
  · intro k hkr
    cases old with
    | none => rw [hrow rfl] at hkr; cases hkr
    | some i =>
      obtain ⟨e', s', es'', hi, hr⟩ := hold i rfl
      exact (hblk i _ _ _ hi k (by rw [← hr, hkr])).1
theorem Rel.turn2 (h : Rel N I0 w0 st β a w) {i e s : Nat} {es es' : List (List AV)} (hi : st.T i = .live e s es)
    {w' : World} (hg : w.grownBy w' (β i).ownBlock) {xs : List Value} (hown : w'.owns (I0.own w0.heap.size) e s (β i) es'.length xs) (hlen : es.length = es'.length)
    (hs : ∀ x ∈ es', x.length = s) (hrep : ∀ (j : Nat) (x : AV), es'.flatten[j]? = some x → ∃ v : Value, xs[j]? = some v ∧ Rep (Im I0 w0.heap.size st.T β w) st.T β w x v) :
    Rel N I0 w0 ⟨st.env, upd st.T i (.live e s es')⟩ β a w' ∧
      ∀ x v, Rep (Im I0 w0.heap.size st.T β w) st.T β w x v → Rep (Im I0 w0.heap.size (upd st.T i (.live e s es')) β w') (upd st.T i (.live e s es')) β w' x v := by
  have hblk : ∀ j e s es, st.T j = .live e s es → ∀ b, (β j).ownBlock = some b → I0.own w0.heap.size b ∧ b < w.heap.size := by
    intro j e s es hj b hb
    obtain ⟨_, xs, ho, _⟩ := h.objs.obj j e s es hj
    exact ho.lt b hb
  have hlive : ∀ j e1 s1 es1, upd st.T i (.live e s es') j = .live e1 s1 es1 → ∃ es2, st.T j = .live e1 s1 es2 := by
    intro j e1 s1 es1 hj
    simp only [upd] at hj
    by_cases hji : j = i
    · rw [if_pos hji] at hj; cases hj; exact ⟨es, hji ▸ hi⟩
    · rw [if_neg hji] at hj; exact ⟨_, hj⟩
  have hI : ∀ b, Im I0 w0.heap.size st.T β w b → Im I0 w0.heap.size (upd st.T i (.live e s es')) β w' b ∧ ∀ o, w'.cell? ⟨b, o, none⟩ = w.cell? ⟨b, o, none⟩ := by
    rintro b ⟨h1, h2, h3⟩
    refine ⟨⟨h1, Nat.lt_of_lt_of_le h2 hg.size, fun j e1 s1 es1 hj hb => ?_⟩, fun o => World.cell?_of_block (a := ⟨b, o, none⟩) (hg.block b h2 fun hb => h3 i _ _ _ hi hb.symm)⟩
    obtain ⟨es2, hj'⟩ := hlive _ _ _ _ hj
    exact h3 j _ _ _ hj' hb
  have hT : ∀ j, st.T j ≠ .no → upd st.T i (.live e s es') j ≠ .no ∧ ∀ e1 s1 es1, upd st.T i (.live e s es') j = .live e1 s1 es1 → β j = β j ∧ ∃ es, st.T j = .live e1 s1 es ∧ es.length = es1.length := by
    intro j hj
    simp only [upd]
    by_cases hji : j = i
    · rw [if_pos hji]; subst hji
      exact ⟨by simp, fun e1 s1 es1 h1 => by cases h1; exact ⟨trivial, es, hi, hlen⟩⟩
    · rw [if_neg hji]; exact ⟨hj, fun e1 s1 es1 h1 => ⟨trivial, es1, h1, rfl⟩⟩
  have hmono : ∀ x v, Rep (Im I0 w0.heap.size st.T β w) st.T β w x v → Rep (Im I0 w0.heap.size (upd st.T i (.live e s es')) β w') (upd st.T i (.live e s es')) β w' x v :=
    fun x v hx => hx.mono hI hT
  refine ⟨⟨h.old, h.size, h.defers.step fun D _ hD => hg.block D (Array.getElem?_eq_some_iff.1 hD).1 fun hr => h.objs.noDef hi hr.symm hD, fun t x hx => hmono _ _ (h.env t x hx), ⟨?_, ?_⟩, h.step _ _ h.below (.grown hg h.base fun k hk => (hblk i _ _ _ hi k hk).1), h.step, Nat.le_trans h.base hg.size, fun j v hj => let ⟨z1, z2, z3⟩ := h.pins j v hj; ⟨z1, (hT j z2).1, z3⟩⟩, hmono⟩
  · intro j e1 s1 es1 hj
    simp only [upd] at hj
    by_cases hji : j = i
    · rw [if_pos hji] at hj; cases hj; subst hji
      refine ⟨hs, xs, hown, fun q x hx => ?_⟩
      obtain ⟨v, hv, hr⟩ := hrep q x hx
      exact ⟨v, hv, hmono _ _ hr⟩
    · rw [if_neg hji] at hj
      obtain ⟨h1, xs', h2, h3⟩ := h.objs.obj j e1 s1 es1 hj
      refine ⟨h1, xs', h2.kept hg ?_, fun q x hx => ?_⟩
      · cases hb : (β j).ownBlock with
        | none => exact .inl rfl
        | some b => exact .inr fun hb' => hji (h.objs.inj j _ _ _ i _ _ _ b hj hi hb hb'.symm)
      · obtain ⟨v, hv, hr⟩ := h3 q x hx
        exact ⟨v, hv, hmono _ _ hr⟩
  · intro p e1 s1 es1 q e2 s2 es2 b hp hq hbp hbq
    obtain ⟨_, hp'⟩ := hlive _ _ _ _ hp
    obtain ⟨_, hq'⟩ := hlive _ _ _ _ hq
    exact h.objs.inj p _ _ _ q _ _ _ b hp' hq' hbp hbq
theorem Rel.turn (h : Rel N I0 w0 st β a w) {i e s : Nat} {es es' : List (List AV)} (hi : st.T i = .live e s es)
    {w' : World} (hg : w.grownBy w' (β i).ownBlock) {xs : List Value} (hown : w'.owns (I0.own w0.heap.size) e s (β i) es'.length xs) (hlen : es.length = es'.length)
    (hs : ∀ x ∈ es', x.length = s) (hrep : ∀ (j : Nat) (x : AV), es'.flatten[j]? = some x → ∃ v : Value, xs[j]? = some v ∧ Rep (Im I0 w0.heap.size st.T β w) st.T β w x v) :
    Rel N I0 w0 ⟨st.env, upd st.T i (.live e s es')⟩ β a w' :=
  (h.turn2 hi hg hown hlen hs hrep).1
theorem Rel.row (h : Rel N I0 w0 st β a w) {i e s : Nat} {es : List (List AV)} (hi : st.T i = .no) {n : Nat} (hn : es.length = n) (hm : n ≤ maxLen) {cells : Array Value} (hs : ∀ x ∈ es, x.length = s) (hc : cells.size = n * s)
    (hrep : ∀ (j : Nat) (x : AV), es.flatten[j]? = some x → ∃ v : Value, cells[j]? = some v ∧ Rep (Im I0 w0.heap.size st.T β w) st.T β w x v) :
    Rel N I0 w0 ⟨st.env, upd st.T i (.live e s es)⟩ (updV β i (.slice (some ⟨w.heap.size, 0, none⟩) n n)) a (w.alloc (.cells cells e)) ∧
      ∀ x v, Rep (Im I0 w0.heap.size st.T β w) st.T β w x v → Rep (Im I0 w0.heap.size (upd st.T i (.live e s es)) (updV β i (.slice (some ⟨w.heap.size, 0, none⟩) n n)) (w.alloc (.cells cells e))) (upd st.T i (.live e s es)) (updV β i (.slice (some ⟨w.heap.size, 0, none⟩) n n)) (w.alloc (.cells cells e)) x v := by
  subst hn
  exact h.newObj (w' := w.alloc (.cells cells e)) hi none none (by simp) (by simp) (World.grownBy_alloc w _ none) ((World.ownsRow_lit w cells es.length h.base hm hc).owns fun g hg => .inl hg) (fun b hb => .inr (by simp [Value.ownBlock] at hb; omega)) hs
    (fun j x hx => by simpa using hrep j x hx)
section ops
variable {o : Oper} {K : ASt → Prop} {d : Nat} {x y : AV}
theorem flat_inv {s : Nat} : ∀ {es : List (List AV)}, (∀ x ∈ es, x.length = s) → ∀ {j : Nat} {y : AV}, es.flatten[j]? = some y → ∃ k r c, j = k * s + r ∧ r < s ∧ es[k]? = some c ∧ c[r]? = some y
  | [], _, j, y, h => by simp at h
  | x :: es, h, j, y, hj => by
    have hl := h x (.head _)
    rw [List.flatten_cons] at hj
    by_cases hlt : j < s
    · rw [List.getElem?_append_left (by omega)] at hj
      exact ⟨0, j, x, by simp, hlt, rfl, hj⟩
    · rw [List.getElem?_append_right (by omega)] at hj
      obtain ⟨k, r, c, h1, h2, h3, h4⟩ := flat_inv (fun y hy => h y (.tail _ hy)) hj
      exact ⟨k + 1, r, c, by rw [Nat.succ_mul]; omega, h2, h3, h4⟩
theorem mid_get {α : Type _} (xs vs : List α) {A n : Nat} (hA : A + n ≤ xs.length) (hv : vs.length = n) (j : Nat) :
    (xs.take A ++ vs ++ xs.drop (A + n))[j]? = if j < A then xs[j]? else if j < A + n then vs[j - A]? else xs[j]? := by
  have hl : (xs.take A).length = A := by simp; omega
  by_cases h1 : j < A
  · rw [if_pos h1, List.append_assoc, List.getElem?_append_left (by omega), List.getElem?_take_of_lt h1]
  · rw [if_neg h1]
    by_cases h2 : j < A + n
    · rw [if_pos h2, List.append_assoc, List.getElem?_append_right (by omega), List.getElem?_append_left (by omega), hl]
    · rw [if_neg h2, List.getElem?_append_right (by simp; omega), List.getElem?_drop]
      congr 1
      simp; omega
theorem oneCell_cells {v : Value} (h : v.oneCell' = true) : v.cells = #[v] := by cases v <;> first | rfl | cases h
theorem rep_cells {B : Nat} {T : Nat → Ob} (hO : Objs I0 B T β w) {x : AV} {v : Value} (h : Rep (Im I0 B T β w) T β w x v) (hx : (cellsA x).all (cok1 T) = true) :
    (cellsA x).length = v.cells.size ∧ (∀ (j : Nat) (p : AV), (cellsA x)[j]? = some p → ∃ u : Value, v.cells[j]? = some u ∧ Rep (Im I0 B T β w) T β w p u) ∧ ∀ u ∈ v.cells.toList, u.oneCell' = true := by
  by_cases hag : ∃ l, x = .agg l
  · obtain ⟨l, rfl⟩ := hag
    cases h with
    | agg l cs hl hc =>
      refine ⟨hl, fun j p hp => ?_, fun u hu => ?_⟩
      · have hlt : j < cs.size := by rw [← hl]; exact (List.getElem?_eq_some_iff.1 hp).1
        exact ⟨cs[j], by simp [Value.cells, hlt], hc j p _ hp (Array.getElem?_eq_getElem hlt)⟩
      · obtain ⟨j, hj, rfl⟩ := List.getElem_of_mem hu
        have hj' : j < cs.size := by simpa [Value.cells] using hj
        have hlt : j < l.length := by omega
        have := hc j l[j] cs[j] (List.getElem?_eq_getElem hlt) (Array.getElem?_eq_getElem hj')
        have hk : cok1 T l[j] = true := List.all_eq_true.1 hx _ (List.getElem_mem hlt)
        simpa [Value.cells] using this.one hO hk
  · have hc : cellsA x = [x] := by cases x <;> first | rfl | exact absurd ⟨_, rfl⟩ hag
    rw [hc] at hx ⊢
    have h1 := h.one hO (by simpa using hx)
    rw [oneCell_cells h1]
    refine ⟨rfl, fun j p hp => ?_, fun u hu => ?_⟩
    · cases j with
      | zero => simp at hp; subst hp; exact ⟨v, by simp, h⟩
      | succ j => simp at hp
    · simp at hu; subst hu; exact h1
theorem op_alloc {t n : Nat} {ag : Bool} {z : Value} {i : Nat} {info : TypeInfo} (ho : o.op = .alloc t) (hd : o.dst = some d) (hN : d < N) (hinfo : P.info? t = some info) (hz : info.zero = some z) (hi : st.T i = .no)
    (k : K (ASt.mk ((d, .ptr i 0 0) :: st.env) (upd st.T i (.live t z.cells.size [z.cells.toList.map .v])))) : AOp P N o K Q st := by
  intro I0 w0 β a w hr K' hK
  have hrun : (execOp a.eval o).run P w = .ok (.value (.pointer (some ⟨w.heap.size, 0, none⟩))) (w.alloc (.cells z.cells t)) := by
    simp [execOp, ho, Instr.alloc, zeroValue, typeInfo, hinfo, hz, newVar, newRow]
  obtain ⟨h1, h2⟩ := hr.row (i := i) (e := t) (s := z.cells.size) (es := [z.cells.toList.map .v]) hi (n := 1) rfl (by decide) (cells := z.cells) (by simp) (by simp) (fun j x hx => by
    simp at hx
    obtain ⟨u, hu, rfl⟩ := hx
    exact ⟨u, hu, .v u⟩)
  refine .inl ?_
  simp only [Oper.wp, hrun, Oper.upon, hd]
  refine hK _ _ _ _ (h1.put hN (.ptr i 0 0 _ (by simp [upd]) fun e s es he => ?_)) k
  simp only [upd, if_true] at he
  cases he
  exact ⟨by simp, Nat.zero_le _, w.heap.size, 1, 1, by simp [updV], by simp⟩
theorem op_box {t : Nat} {z : Operand} {i : Nat} (ho : o.op = .box t z) (hd : o.dst = some d) (hN : d < N) (hz : ev st z = some x) (hx : (cellsA x).all (cok1 st.T) = true) (hi : st.T i = .no)
    (k : K (ASt.mk ((d, .ptr i 0 0) :: st.env) (upd st.T i (.live t (cellsA x).length [cellsA x])))) : AOp P N o K Q st := by
  intro I0 w0 β a w hr K' hK
  obtain ⟨c1, c2, c3⟩ := rep_cells hr.objs (hr.ev hz) hx
  have hrun : (execOp a.eval o).run P w = .ok (.value (.pointer (some ⟨w.heap.size, 0, none⟩))) (w.alloc (.cells (a.eval z).cells t)) := by
    simp [execOp, ho, Instr.box, newVar, newRow]
  obtain ⟨h1, h2⟩ := hr.row (i := i) (e := t) (s := (cellsA x).length) (es := [cellsA x]) hi (n := 1) rfl (by decide) (cells := (a.eval z).cells) (by simp) (by simp [c1]) (fun j y hy => c2 j y (by simpa using hy))
  refine .inl ?_
  simp only [Oper.wp, hrun, Oper.upon, hd]
  refine hK _ _ _ _ (h1.put hN (.ptr i 0 0 _ (by simp [upd]) fun e s es he => ?_)) k
  simp only [upd, if_true] at he
  cases he
  exact ⟨by simp, Nat.zero_le _, w.heap.size, 1, 1, by simp [updV], by simp⟩
theorem store_core {t n : Nat} {ag : Bool} {zp zv : Operand} {i q r e s : Nat} {es : List (List AV)} {c : List AV} (ho : o.op = .store t zp zv) (hd : o.dst = none) (ht : szOf P t = some (n, ag))
    (hp : ev st zp = some (.ptr i q r)) (hi : st.T i = .live e s es) (hq : es[q]? = some c) (hv : ev st zv = some x) (hx : (cellsA x).all (cok1 st.T) = true) (hn : (cellsA x).length = n) (hrs : r + n ≤ s) (hr : Rel N I0 w0 st β a w) :
    ∃ w', (execOp a.eval o).run P w = .ok .skip w' ∧ Rel N I0 w0 ⟨st.env, upd st.T i (.live e s (es.set q (c.take r ++ cellsA x ++ c.drop (r + n))))⟩ β a w' ∧
      ∀ x' v, Rep (Im I0 w0.heap.size st.T β w) st.T β w x' v → Rep (Im I0 w0.heap.size (upd st.T i (.live e s (es.set q (c.take r ++ cellsA x ++ c.drop (r + n))))) β w') (upd st.T i (.live e s (es.set q (c.take r ++ cellsA x ++ c.drop (r + n))))) β w' x' v := by
  obtain ⟨c1, c2, c3⟩ := rep_cells hr.objs (hr.ev hv) hx
  obtain ⟨hs, xs, hown, hrep⟩ := hr.objs.obj i e s es hi
  have hpr := hr.ev hp
  generalize hy : a.eval zp = yp at hpr
  cases hpr with
  | ptr i' k' r' x' hn' hx' =>
    obtain ⟨hql, _, b, m, cp, hβ, rfl⟩ := hx' e s es hi
    rw [hβ] at hown
    have hm : m = es.length := by
      rcases hown.2 with ⟨hh, _⟩ | ⟨_, _, _, _, hh, _⟩
      · cases hh
      · simp at hh; exact hh.2.1
    subst hm
    have hclen : c.length = s := hs c (List.mem_of_getElem? hq)
    obtain ⟨g, cap', cur, fr, hh, hb, hg, hfr, hnc, hcm, hcs, htake⟩ := hown.2.resolve_left (by rintro ⟨hh, _⟩; cases hh)
    simp at hh
    obtain ⟨rfl, rfl⟩ := hh
    have hsz : (a.eval zv).cells.size = n := by rw [← c1, hn]
    have hqs : q * s + s ≤ es.length * s := by
      have : (q + 1) * s ≤ es.length * s := Nat.mul_le_mul_right _ hql
      rwa [Nat.succ_mul] at this
    have hfit : q * s + r + (a.eval zv).cells.toList.length ≤ cur.size := by
      rw [hcs, Array.length_toList, hsz]
      have : es.length * s ≤ cp * s := Nat.mul_le_mul_right _ hnc
      omega
    have hst := run_storeCells_fr P b (q * s + r) e (a.eval zv).cells.toList cur w fr hg hfr hfit c3
    simp only [Nat.add_zero, Array.length_toList, hsz] at hst
    have hrun : (execOp a.eval o).run P w = .ok .skip (w.setRow b (cur.toList.take (q * s + r) ++ (a.eval zv).cells.toList ++ cur.toList.drop (q * s + r + n)).toArray) := by
      simp [execOp, ho, hy, Instr.storeAt, Instr.sureAddr, storeVar, (szOf_run ht w).1, hsz, hst]
    have hxl : xs.length = es.length * s := hown.1
    have hnew : (c.take r ++ cellsA x ++ c.drop (r + n)).length = s := by simp [hclen, hn]; omega
    refine ⟨_, hrun, hr.turn2 (es' := es.set q (c.take r ++ cellsA x ++ c.drop (r + n))) hi (xs := xs.take (q * s + r) ++ (a.eval zv).cells.toList ++ xs.drop (q * s + r + n)) ?_ ?_ (by simp) ?_ ?_⟩
    · rw [hβ]; exact ⟨rfl, rfl, rfl, by simp [World.setRow], fun k _ hk => setRow_other w b k _ (fun e => hk (by simp [Value.ownBlock, e]))⟩
    · rw [hβ]
      have hA : q * s + r + n ≤ xs.length := by rw [hxl]; omega
      have hcl : xs.length ≤ cur.toList.length := by
        have h1 : cur.toList.length = cp * s := by simpa using hcs
        rw [h1, hxl]; exact Nat.mul_le_mul_right _ hnc
      have hvl : (a.eval zv).cells.toList.length = n := by simp [hsz]
      refine ⟨?_, .inr ⟨b, cp, _, fr, by simp, hb, setRow_heap w b cur _ e _ hg, ?_, by simpa using hnc, hcm, ?_, ?_⟩⟩
      · simp only [List.length_append, List.length_take, List.length_drop, hvl, List.length_set]; omega
      · have e1 : (cur.toList.take (q * s + r) ++ (a.eval zv).cells.toList ++ cur.toList.drop (q * s + r + n)).toArray.size = cur.size := by
          simp only [List.size_toArray, List.length_append, List.length_take, List.length_drop, hvl, Array.length_toList] at hcl ⊢; omega
        rw [e1]; exact hfr
      · simp only [List.size_toArray, List.length_append, List.length_take, List.length_drop, hvl, Array.length_toList] at hcl ⊢; omega
      · apply List.ext_getElem?
        intro j
        rw [List.length_set, mid_get xs _ hA hvl, ← hxl]
        by_cases hj : j < xs.length
        · rw [List.getElem?_take_of_lt hj, mid_get cur.toList _ (by omega) hvl]
          have : xs[j]? = cur.toList[j]? := by rw [← htake, List.getElem?_take_of_lt (by rw [← hxl]; exact hj)]
          rw [this]
        · rw [List.getElem?_eq_none (by simp; omega), if_neg (by omega), if_neg (by omega), List.getElem?_eq_none (by omega)]
    · intro y hy'
      rcases List.mem_or_eq_of_mem_set hy' with h | rfl
      · exact hs y h
      · exact hnew
    · intro j y hj
      have hA : q * s + r + n ≤ xs.length := by rw [hxl]; omega
      have hvl : (a.eval zv).cells.toList.length = n := by simp [hsz]
      have hs' : ∀ x_1 ∈ es.set q (c.take r ++ cellsA x ++ c.drop (r + n)), x_1.length = s := by
        intro y hy'
        rcases List.mem_or_eq_of_mem_set hy' with h | rfl
        · exact hs y h
        · exact hnew
      obtain ⟨kk, t', c', rfl, ht', hk, hc'⟩ := flat_inv hs' hj
      rw [mid_get xs _ hA hvl]
      by_cases hkq : kk = q
      · subst hkq
        rw [List.getElem?_set_self hql] at hk
        cases hk
        rw [mid_get c _ (by omega) hn] at hc'
        by_cases h1 : t' < r
        · rw [if_pos h1] at hc'
          rw [if_pos (by omega)]
          exact hrep _ _ (flat_get hs hq hc')
        · rw [if_neg h1] at hc'
          rw [if_neg (by omega)]
          by_cases h2 : t' < r + n
          · rw [if_pos h2] at hc'
            rw [if_pos (by omega)]
            have e1 : kk * s + t' - (kk * s + r) = t' - r := by omega
            rw [e1]
            obtain ⟨u, hu, hru⟩ := c2 _ _ hc'
            exact ⟨u, by simpa using hu, hru⟩
          · rw [if_neg h2] at hc'
            rw [if_neg (by omega)]
            exact hrep _ _ (flat_get hs hq hc')
      · rw [List.getElem?_set_ne (Ne.symm hkq)] at hk
        have hj' := hrep _ _ (flat_get hs hk hc')
        rcases Nat.lt_or_gt_of_ne hkq with h | h
        · have : (kk + 1) * s ≤ q * s := Nat.mul_le_mul_right _ h
          rw [Nat.succ_mul] at this
          rw [if_pos (by omega)]; exact hj'
        · have : (q + 1) * s ≤ kk * s := Nat.mul_le_mul_right _ h
          rw [Nat.succ_mul] at this
          rw [if_neg (by omega), if_neg (by omega)]; exact hj'
theorem op_store {t n : Nat} {ag : Bool} {zp zv : Operand} {i q r e s : Nat} {es : List (List AV)} {c : List AV} (ho : o.op = .store t zp zv) (hd : o.dst = none) (ht : szOf P t = some (n, ag))
    (hp : ev st zp = some (.ptr i q r)) (hi : st.T i = .live e s es) (hq : es[q]? = some c) (hv : ev st zv = some x) (hx : (cellsA x).all (cok1 st.T) = true) (hn : (cellsA x).length = n) (hrs : r + n ≤ s)
    (k : K (ASt.mk st.env (upd st.T i (.live e s (es.set q (c.take r ++ cellsA x ++ c.drop (r + n))))))) : AOp P N o K Q st := by
  intro I0 w0 β a w hr K' hK
  obtain ⟨w', h1, h2, _⟩ := store_core (o := o) ho hd ht hp hi hq hv hx hn hrs hr
  refine .inl ?_
  simp only [Oper.wp, h1, Oper.upon, hd, Act.put]
  exact hK _ _ _ _ h2 k
end ops
end
end Go.Proofs.Ytemcemimipagoaa.AW
namespace Go.Proofs.Ytemcemimipagoaa.AW
open Go Go.RowKit
def All2 (R : AV → Value → Prop) : List AV → List Value → Prop
  | [], [] => True
  | x :: xs, y :: ys => R x y ∧ All2 R xs ys
  | _, _ => False
def noβ : Nat → Value := fun _ => undef
def Ok (P : Program) (f : Nat) (args : List AV) (R : AV → (Nat → Ob) → Prop) : Prop :=
  ∀ (I0 : Dom) (w : World) (vs : List Value), (∀ b, (I0.I b → b < w.heap.size) ∧ ¬ I0.K b) → All2 (Rep I0.I noT noβ w) args vs →
    Calls P f vs.toArray w fun e w' => False ∨ ∃ v x T β, e = .returned v ∧ R x T ∧ Below w.heap.size w w' ∧ Objs I0 w.heap.size T β w' ∧ Rep (Im I0 w.heap.size T β w') T β w' x v
def Gives (P : Program) (f : Nat) (args : List AV) (x : AV) : Prop := Ok P f args fun y T => y = x ∧ T = noT
section
variable {P : Program} {N : Fr} {Q : Exit → ASt → Prop} {st : ASt} {I0 : Dom} {w0 : World} {β : Nat → Value} {a : Act} {w : World}
def argEnv : Nat → List AV → List (Nat × AV)
  | _, [] => []
  | i, x :: xs => (i, x) :: argEnv (i + 1) xs
theorem argEnv_get : ∀ (l : List AV) (i t : Nat) (x : AV), get (argEnv i l) t = some x → i ≤ t ∧ l[t - i]? = some x
  | [], i, t, x, h => by simp [argEnv, get] at h
  | y :: ys, i, t, x, h => by
    simp only [argEnv, get] at h
    by_cases hi : i = t
    · rw [if_pos hi] at h; cases h; subst hi; simp
    · rw [if_neg hi] at h
      obtain ⟨h1, h2⟩ := argEnv_get ys (i + 1) t x h
      refine ⟨by omega, ?_⟩
      have : t - i = (t - (i + 1)) + 1 := by omega
      rw [this]; simpa using h2
theorem All2.get {R : AV → Value → Prop} : ∀ {l : List AV} {vs : List Value}, All2 R l vs → ∀ {j : Nat} {x : AV}, l[j]? = some x → ∃ y, vs[j]? = some y ∧ R x y
  | [], [], _, j, x, h => by simp at h
  | x :: xs, y :: ys, ⟨h1, h2⟩, 0, z, h => by simp at h; subst h; exact ⟨y, rfl, h1⟩
  | x :: xs, y :: ys, ⟨h1, h2⟩, j + 1, z, h => by simp at h; simpa using All2.get h2 h
  | [], _ :: _, hh, _, _, _ => hh.elim
  | _ :: _, [], hh, _, _, _ => hh.elim
theorem All2.length {R : AV → Value → Prop} : ∀ {l : List AV} {vs : List Value}, All2 R l vs → l.length = vs.length
  | [], [], _ => rfl
  | x :: xs, y :: ys, ⟨h1, h2⟩ => by simp [All2.length h2]
  | [], _ :: _, hh => hh.elim
  | _ :: _, [], hh => hh.elim
def cellOf (P : Program) (st : ASt) (t : Nat) (x : AV) : Option AV := match look st x, szOf P t with
  | some cs, some (n, ag) => bif ag then (bif Nat.ble n cs.length then some (.agg (cs.take n)) else none) else cs[0]?
  | _, _ => none
def resOf (P : Program) (st : ASt) : List ResultVar → Option (List AV)
  | [] => some []
  | .tmp t :: r => match get st.env t, resOf P st r with
    | some x, some xs => some (x :: xs)
    | _, _ => none
  | .cell a t :: r => match (get st.env a).bind (cellOf P st t), resOf P st r with
    | some x, some xs => some (x :: xs)
    | _, _ => none
def resTup : List AV → AV
  | [x] => x
  | l => .tup l
def resA (P : Program) (fn : Func) (st : ASt) : Option AV := (resOf P st fn.results.toList).map resTup
theorem res_run {fn : Func} {st' : ASt} {β' : Nat → Value} {a' : Act} {w' : World} {x : AV} (h1 : Rel N I0 w0 st' β' a' w') (h3 : resA P fn st' = some x) :
    ∃ v, (results fn a'.tmps).run P w' = .ok v w' ∧ Rep (Im I0 w0.heap.size st'.T β' w') st'.T β' w' x v := by
  have many : ∀ (l : List ResultVar) (xs : List AV), resOf P st' l = some xs →
      ∃ vs : List Value, (l.mapM (m := Sem) fun | .tmp t => pure (a'.tmps.getD t undef) | .cell a t => do loadVar t (← asAddr (a'.tmps.getD a undef))).run P w' = .ok vs w' ∧ vs.length = xs.length ∧
        ∀ (j : Nat) (p : AV) (u : Value), xs[j]? = some p → vs[j]? = some u → Rep (Im I0 w0.heap.size st'.T β' w') st'.T β' w' p u := by
    intro l
    induction l with
    | nil => intro xs hx; simp [resOf] at hx; subst hx; exact ⟨[], by simp, rfl, by simp⟩
    | cons r l ih =>
      intro xs hx
      cases r with
      | cell b t =>
        simp only [resOf] at hx
        split at hx
        · rename_i p ps hg hm
          cases hx
          obtain ⟨vs, hv1, hv2, hv3⟩ := ih ps hm
          obtain ⟨q, hq1, hq2⟩ := Option.bind_eq_some_iff.1 hg
          have hev : ev st' (.tmp b) = some q := hq1
          have hld : ∃ v, (loadVar t · : Addr → Sem Value) = (loadVar t ·) ∧ (do loadVar t (← asAddr (a'.tmps.getD b undef)) : Sem Value).run P w' = .ok v w' ∧ Rep (Im I0 w0.heap.size st'.T β' w') st'.T β' w' p v := by
            unfold cellOf at hq2
            split at hq2
            · rename_i cs n ag hlk hsz
              obtain ⟨bb, of, us, he, hc⟩ := look_of h1 hev hlk
              have he' : a'.tmps.getD b undef = .pointer (some ⟨bb, of, none⟩) := he
              cases ag with
              | false =>
                simp only [cond_false] at hq2
                obtain ⟨h3, h4⟩ := hc 0 p hq2
                have h3' : w'.cell? ⟨bb, of, none⟩ = some (us 0) := by simpa using h3
                refine ⟨us 0, rfl, ?_, h4⟩
                rw [he']
                simp [asAddr, loadVar, Sem.run_bind, (szOf_run hsz w').2, Go.load, Sem.run, h3']
              | true =>
                simp only [cond_true, Bool.cond_eq_ite] at hq2
                by_cases hn : Nat.ble n cs.length = true
                · rw [if_pos hn] at hq2
                  cases hq2
                  have hn : n ≤ cs.length := by simpa using hn
                  refine ⟨.agg ((List.range n).map us).toArray, rfl, ?_, .agg _ _ (by simp [hn]) fun j y v hy hv => ?_⟩
                  · have hlc := run_loadCells_list (P := P) w' ⟨bb, of, none⟩ ((List.range n).map us) (fun j v hv => by
                      rw [Addr.add_mid]
                      simp only [List.getElem?_map] at hv
                      have hj : j < n := by
                        rcases Nat.lt_or_ge j n with h | h
                        · exact h
                        · rw [List.getElem?_eq_none (by simpa using h)] at hv; cases hv
                      rw [List.getElem?_range hj] at hv
                      simp only [Option.map_some, Option.some.injEq] at hv
                      subst hv
                      exact (hc j cs[j] (List.getElem?_eq_getElem (by omega))).1)
                    simp only [List.length_map, List.length_range] at hlc
                    rw [he']
                    simp [asAddr, loadVar, Sem.run_bind, (szOf_run hsz w').1, (szOf_run hsz w').2, hlc]
                  · have hj : j < n := by
                      have := (List.getElem?_eq_some_iff.1 hy).1
                      simp at this; omega
                    rw [List.getElem?_take_of_lt hj] at hy
                    simp [hj] at hv
                    subst hv
                    exact (hc j y hy).2
                · rw [if_neg hn] at hq2; cases hq2
            · cases hq2
          obtain ⟨v, _, hv4, hv5⟩ := hld
          refine ⟨v :: vs, ?_, by simp [hv2], ?_⟩
          · simp only [List.mapM_cons, Sem.run_bind, Sem.run_pure, Result.andThen_ok, hv1]
            simp only [Sem.run_bind] at hv4
            rw [hv4]
            simp only [Result.andThen_ok, hv1]
          · intro j q u hq hu
            cases j with
            | zero => simp only [List.getElem?_cons_zero, Option.some.injEq] at hq hu; subst hq; subst hu; exact hv5
            | succ j => simp only [List.getElem?_cons_succ] at hq hu; exact hv3 j q u hq hu
        · cases hx
      | tmp t =>
        simp only [resOf] at hx
        split at hx
        · rename_i p ps hg hm
          cases hx
          obtain ⟨vs, hv1, hv2, hv3⟩ := ih ps hm
          refine ⟨a'.tmps.getD t undef :: vs, ?_, by simp [hv2], ?_⟩
          · simp only [List.mapM_cons, Sem.run_bind, Sem.run_pure, Result.andThen_ok, hv1]
          · intro j q u hq hu
            cases j with
            | zero => simp only [List.getElem?_cons_zero, Option.some.injEq] at hq hu; subst hq; subst hu; exact h1.env t p hg
            | succ j => simp only [List.getElem?_cons_succ] at hq hu; exact hv3 j q u hq hu
        · cases hx
  cases hm : resOf P st' fn.results.toList with
  | none => simp [resA, hm] at h3
  | some xs =>
    simp only [resA, hm, Option.map_some, Option.some.injEq] at h3
    subst h3
    obtain ⟨us, hu1, hu2, hu3⟩ := many _ _ hm
    have hrun : (results fn a'.tmps).run P w' = .ok (if h : us.toArray.size = 1 then us.toArray[0] else .tuple us.toArray) w' := by
      unfold results
      rw [Sem.run_bind, Array.mapM_eq_mapM_toList]
      simp only [Sem.run_map]
      erw [hu1]
      rfl
    refine ⟨_, hrun, ?_⟩
    by_cases h1' : us.length = 1
    · obtain ⟨u, rfl⟩ : ∃ u, us = [u] := List.length_eq_one_iff.1 h1'
      obtain ⟨p, rfl⟩ : ∃ p, xs = [p] := List.length_eq_one_iff.1 (by rw [← hu2]; rfl)
      exact hu3 0 p u rfl rfl
    · rw [dif_neg (by simpa using h1')]
      have : resTup xs = .tup xs := by
        match xs, hu2 with
        | [], _ => rfl
        | [p], hu2 => exact absurd hu2 h1'
        | p :: q :: r, _ => rfl
      rw [this]
      exact .tup xs us.toArray (by simpa using hu2.symm) fun j p u hp hu => hu3 j p u hp (by simpa using hu)
theorem cell_other {D : Nat} {o o' : Obj} (hD : w.heap[D]? = some o) (ho : o.isCells = false) (ho' : o'.isCells = false) (p : Addr) : (w.putObj D o').cell? p = w.cell? p := by
  unfold World.cell?
  by_cases hp : p.block = D
  · rw [hp, World.putObj_heap_same (Array.getElem?_eq_some_iff.1 hD).1, hD]
    cases o <;> cases o' <;> simp_all [Obj.isCells]
  · rw [World.putObj_heap_other hp]
theorem Rel.other (h : Rel N I0 w0 st β a w) {D : Nat} {o o' : Obj} (hD : w.heap[D]? = some o) (ho : o.isCells = false) (ho' : o'.isCells = false) (hB : w0.heap.size ≤ D) {a' : Act} (ht : a'.tmps = a.tmps)
    (hm : Marks N.mm I0 w0.heap.size a' (w.putObj D o')) : Rel N I0 w0 st β a' (w.putObj D o') := by
  have hc := cell_other (w := w) hD ho ho'
  have hI : ∀ b, Im I0 w0.heap.size st.T β w b → Im I0 w0.heap.size st.T β (w.putObj D o') b ∧ ∀ q, (w.putObj D o').cell? ⟨b, q, none⟩ = w.cell? ⟨b, q, none⟩ := fun b ⟨h1, h2, h3⟩ =>
    ⟨⟨h1, by simpa using h2, h3⟩, fun q => hc _⟩
  have hT : ∀ i, st.T i ≠ .no → st.T i ≠ .no ∧ ∀ e s es', st.T i = .live e s es' → β i = β i ∧ ∃ es, st.T i = .live e s es ∧ es.length = es'.length := fun i hi => ⟨hi, fun e s es' h' => ⟨rfl, es', h', rfl⟩⟩
  refine ⟨h.old, by rw [ht]; exact h.size, hm, fun t x hx => by rw [ht]; exact (h.env t x hx).mono hI hT, ⟨fun i e s es hi => ?_, h.objs.inj⟩, h.step _ _ h.below ⟨rfl, rfl, rfl, by simp, fun k hk _ => World.putObj_heap_other (by omega)⟩, h.step, by simpa using h.base, h.pins⟩
  obtain ⟨h1, xs, h2, h3⟩ := h.objs.obj i e s es hi
  refine ⟨h1, xs, ⟨h2.1, h2.2.imp id ?_⟩, fun j y hy => let ⟨u, hu, hr⟩ := h3 j y hy; ⟨u, hu, hr.mono hI hT⟩⟩
  rintro ⟨g, cap, cur, fr, e1, e2, e3, e4⟩
  refine ⟨g, cap, cur, fr, e1, e2, ?_, e4⟩
  rw [World.putObj_heap_other]
  · exact e3
  · intro e; subst e; rw [hD] at e3; cases e3; simp [Obj.isCells] at ho
theorem leaves_of {fn : Func} {tmps : Array Value} {R : Ending → World → Prop} {u : FrameMode} (hu : u ≠ .run) (hds : I0.ds = []) (fin : ∀ a w, Rel N I0 w0 st β a w → a.tmps = tmps → LeavesInM Fence.wide 0 P fn tmps R [] u w) :
    ∀ (n : Nat) (a : Act) (w : World), a.defers.length = n → Rel N I0 w0 st β a w → a.tmps = tmps → LeavesInM Fence.wide 0 P fn tmps R a.defers u w := by
  intro n
  induction n with
  | zero =>
    intro a w hn hr ht
    have : a.defers = [] := List.eq_nil_of_length_eq_zero hn
    rw [this]; exact fin a w hr ht
  | succ n ih =>
    intro a w hn hr ht
    obtain ⟨ms, e, nd, hm, hk⟩ := hr.defers
    rw [hds, List.append_nil] at e
    cases ms with
    | nil => rw [e] at hn; simp at hn
    | cons D ms =>
      have hD := hm D (.head _)
      have hr' : Rel N I0 w0 st β { a with defers := ms.map markOf } (w.putObj D (.deferred none)) := hr.other hD.2 rfl rfl hD.1 rfl ⟨ms, by simp [hds], (List.nodup_cons.1 nd).2, fun D' hD' => by
        have hne : D' ≠ D := fun e => (List.nodup_cons.1 nd).1 (e ▸ hD')
        exact ⟨(hm D' (.tail _ hD')).1, by rw [World.putObj_heap_other hne]; exact (hm D' (.tail _ hD')).2⟩, fun h => by have := hk h; cases this⟩
      rw [e]
      exact ⟨hu, .inl ⟨D, _, rfl, run_takeDeferred hD.2, ih { a with defers := ms.map markOf } _ (by rw [e] at hn; simpa using hn) hr' ht⟩⟩
def walked (P : Program) (fn : Func) (R : Ending → World → Prop) (N : Fr) (I0 : Dom) (w0 : World) : Exit → ASt → (Nat → Value) → Act → Prop
  | .normal, st, β, a | .ret, st, β, a => ∀ a' w', Rel N I0 w0 st β a' w' → a'.tmps = a.tmps → ∃ v, (results fn a.tmps).run P w' = .ok v w' ∧ R (.returned v) w'
  | .panic ch, st, β, a => ∀ a' w', Rel N I0 w0 st β a' w' → a'.tmps = a.tmps → R (.panicked ch) w'
  | _, _, _, _ => False
theorem calls_of_walk {f : Nat} {fn : Func} {c : Code} {vs : Array Value} {R : Ending → World → Prop} (hf : P.funcs[f]? = some fn) (hb : fn.body = some c) (hds : I0.ds = []) (hrd : N.rd = none)
    (hr : Rel N I0 w st β { tmps := vs ++ Array.replicate (fn.ntmps - vs.size) undef, defers := [] } w) (h : AWp P N c Q st)
    (hq : ∀ e st' β' a' w', Rel N I0 w st' β' a' w' → Q e st' → walked P fn R N I0 w e st' β' a') : Calls P f vs w R := by
  refine (callsIn_wide (n := 0)).1 (callsIn_of_wp_marks hf hb trivial ?_)
  have h0 := h I0 w β _ w hr
  rw [hrd] at h0
  refine wpIn_mono h0 ?_
  rintro e a' w' (hF | ⟨st', β', h1, h2⟩)
  · exact hF.elim
  have h3 := hq e st' β' a' w' h1 h2
  cases e with
  | normal => exact leaves_of (by simp) hds (fun a'' w'' hr' ht => by obtain ⟨v, hv1, hv2⟩ := h3 a'' w'' hr' ht; exact ⟨v, hv1, hv2⟩) _ a' w' rfl h1 rfl
  | ret => exact leaves_of (by simp) hds (fun a'' w'' hr' ht => by obtain ⟨v, hv1, hv2⟩ := h3 a'' w'' hr' ht; exact ⟨v, hv1, hv2⟩) _ a' w' rfl h1 rfl
  | panic ch => exact leaves_of (u := .panicking ch) (fn := fn) (R := R) (tmps := a'.tmps) (by simp) hds (fun a'' w'' hr' ht => h3 a'' w'' hr' ht) _ a' w' rfl h1 rfl
  | _ => exact h3.elim
theorem ok_of {f : Nat} {fn : Func} {c : Code} {args : List AV} {R : AV → (Nat → Ob) → Prop} (hf : P.funcs[f]? = some fn) (hb : fn.body = some c) (hn : args.length ≤ fn.ntmps)
    (h : AWp P ⟨fn.ntmps, [], none, true⟩ c (fun e st => (e = .ret ∨ e = .normal) ∧ ∃ x, resA P fn st = some x ∧ R x st.T) ⟨argEnv 0 args, noT⟩) : Ok P f args R := by
  intro I0 w vs hI hvs
  have hl := hvs.length
  let D : Dom := { I := I0.I, K := I0.K, pin := fun _ => none, ds := [], Bel := BelowK I0.K w.heap.size w }
  have hr0 : Rel ⟨fn.ntmps, [], none, true⟩ D w ⟨argEnv 0 args, noT⟩ noβ { tmps := vs.toArray ++ Array.replicate (fn.ntmps - vs.toArray.size) undef, defers := [] } w := by
    refine ⟨fun b hb => (hI b).1 hb, ?_, ⟨[], rfl, .nil, fun D hD => (by cases hD), fun _ => rfl⟩, ?_, ⟨fun i e s es hh => (by cases hh), fun i e s es j e' s' es' b hh => (by cases hh)⟩, BelowK.refl _ _ w, fun _ _ h1 h2 => BelowK.trans h1 h2, Nat.le_refl _, fun i v hi => (by cases hi)⟩
    · simp; omega
    · intro t x hx
      obtain ⟨_, h1⟩ := argEnv_get args 0 t x hx
      obtain ⟨y, h2, h3⟩ := hvs.get h1
      simp only [Nat.sub_zero] at h2
      have hlt : t < vs.length := (List.getElem?_eq_some_iff.1 h2).1
      have e1 : (vs.toArray ++ Array.replicate (fn.ntmps - vs.toArray.size) undef).getD t undef = y := by
        rw [Array.getD_eq_getD_getElem?, Array.getElem?_append_left (by simpa using hlt)]
        simp [h2]
      rw [e1]
      exact h3.mono (fun b hb => ⟨⟨.inl hb, (hI b).1 hb, fun i e s es h => (by cases h)⟩, fun o => rfl⟩) (fun i hi => absurd rfl hi)
  refine calls_of_walk hf hb rfl rfl hr0 h ?_
  rintro e st' β' a' w' _ ⟨h2, x, h3, h4⟩
  have key : ∀ a'' w'', Rel ⟨fn.ntmps, [], none, true⟩ D w st' β' a'' w'' → a''.tmps = a'.tmps → ∃ v, (results fn a'.tmps).run P w'' = .ok v w'' ∧
      (False ∨ ∃ v_1 x T β, Ending.returned v = .returned v_1 ∧ R x T ∧ Below w.heap.size w w'' ∧ Objs I0 w.heap.size T β w'' ∧ Rep (Im I0 w.heap.size T β w'') T β w'' x v_1) := by
    intro a'' w'' h1 ht
    obtain ⟨v, hv1, hv2⟩ := res_run h1 h3
    rw [ht] at hv1
    have hbel : Below w.heap.size w w'' := BelowK.below h1.below fun b => (hI b).2
    exact ⟨v, hv1, .inr ⟨v, x, st'.T, β', rfl, h4, hbel, ⟨h1.objs.obj, h1.objs.inj⟩, hv2⟩⟩
  rcases h2 with rfl | rfl <;> exact key
end
end Go.Proofs.Ytemcemimipagoaa.AW
namespace Go.Proofs.Ytemcemimipagoaa.AW
open Go Go.RowKit
inductive NoOwn : AV → Prop
  | v (x : Value) : NoOwn (.v x)
  | agg (l : List AV) : (∀ x ∈ l, NoOwn x) → NoOwn (.agg l)
  | tup (l : List AV) : (∀ x ∈ l, NoOwn x) → NoOwn (.tup l)
  | sl (s : Nat) (es : List (List AV)) : (∀ c ∈ es, ∀ x ∈ c, NoOwn x) → NoOwn (.sl s es)
  | ip (cs : List AV) : (∀ x ∈ cs, NoOwn x) → NoOwn (.ip cs)
  | clo (f : Nat) (l : List AV) : (∀ x ∈ l, NoOwn x) → NoOwn (.clo f l)
theorem noOwn_v (x : Value) : NoOwn (.v x) ↔ True := ⟨fun _ => trivial, fun _ => .v x⟩
theorem noOwn_agg (l : List AV) : NoOwn (.agg l) ↔ ∀ x ∈ l, NoOwn x := ⟨fun h => by cases h; assumption, .agg l⟩
theorem noOwn_tup (l : List AV) : NoOwn (.tup l) ↔ ∀ x ∈ l, NoOwn x := ⟨fun h => by cases h; assumption, .tup l⟩
theorem noOwn_sl (s : Nat) (es : List (List AV)) : NoOwn (.sl s es) ↔ ∀ c ∈ es, ∀ x ∈ c, NoOwn x := ⟨fun h => by cases h; assumption, .sl s es⟩
theorem noOwn_ip (l : List AV) : NoOwn (.ip l) ↔ ∀ x ∈ l, NoOwn x := ⟨fun h => by cases h; assumption, .ip l⟩
theorem noOwn_clo (f : Nat) (l : List AV) : NoOwn (.clo f l) ↔ ∀ x ∈ l, NoOwn x := ⟨fun h => by cases h; assumption, .clo f l⟩
theorem Rep.noOwn {I : Nat → Prop} {T T' : Nat → Ob} {β β' : Nat → Value} {w : World} {x : AV} {y : Value} (h : Rep I T β w x y) (hx : NoOwn x) : Rep I T' β' w x y := by
  induction h with
  | v x => exact .v x
  | agg l cs hl hc ih => cases hx with | agg _ h => exact .agg l cs hl fun j a c ha hc' => ih j a c ha hc' (h a (List.mem_of_getElem? ha))
  | tup l cs hl hc ih => cases hx with | tup _ h => exact .tup l cs hl fun j a c ha hc' => ih j a c ha hc' (h a (List.mem_of_getElem? ha))
  | emp s b c h => exact .emp s b c h
  | sl s es b off cap vs h1 h2 h3 h4 h5 ih =>
    cases hx with
    | sl _ _ h => exact .sl s es b off cap vs h1 h2 h3 h4 fun j a ha => ih j a ha (by
        obtain ⟨c, hc, hac⟩ := List.mem_flatten.1 (List.mem_of_getElem? ha)
        exact h c hc a hac)
  | own => cases hx
  | ptr => cases hx
  | ip cs b off vs h1 h2 h3 ih => cases hx with | ip _ h => exact .ip cs b off vs h1 h2 fun j a ha => ih j a ha (h a (List.mem_of_getElem? ha))
  | clo f caps vs hl hc ih => cases hx with | clo _ _ h => exact .clo f caps vs hl fun j a c ha hc' => ih j a c ha hc' (h a (List.mem_of_getElem? ha))
def goFn (P : Program) (f : Nat) : Bool := match P.funcs[f]? with
  | some fn => !(fn.name == "runtime.NumGoroutine") && !fn.body.isNone
  | none => false
def mergeT (T T' : Nat → Ob) : Nat → Ob := fun j => match T' j with
  | .no => T j
  | o => o
section
variable {P : Program} {N : Fr} {Q : Exit → ASt → Prop} {st : ASt} {I0 : Dom} {w0 : World} {β : Nat → Value} {a : Act} {w : World}
theorem mergeT_no {T T' : Nat → Ob} {j : Nat} (h : T' j = .no) : mergeT T T' j = T j := by simp [mergeT, h]
theorem mergeT_some {T T' : Nat → Ob} {j : Nat} (h : T' j ≠ .no) : mergeT T T' j = T' j := by
  unfold mergeT
  split
  · rename_i h'; exact absurd h' h
  · rfl
def subD (I0 : Dom) (B : Nat) (T : Nat → Ob) (β : Nat → Value) (w : World) (Z : List Nat) : Dom :=
  { I := Im I0 B T β w
    K := fun b => ∃ i e s es, Z.contains i = true ∧ T i = .live e s es ∧ (β i).ownBlock = some b
    pin := fun i => if Z.contains i = true then some (β i) else none
    ds := []
    Bel := fun w' => BelowK (fun b => ∃ i e s es, Z.contains i = true ∧ T i = .live e s es ∧ (β i).ownBlock = some b) w.heap.size w w' }
theorem subD_no {I0 : Dom} {B : Nat} {T : Nat → Ob} {β : Nat → Value} {w : World} (b : Nat) : ((subD I0 B T β w []).I b → b < w.heap.size) ∧ ¬ (subD I0 B T β w []).K b :=
  ⟨fun h => h.2.1, fun ⟨i, _, _, _, h, _⟩ => by simp at h⟩
theorem Rel.mergeK (h : Rel N I0 w0 st β a w) {Z : List Nat} {T' : Nat → Ob} {β' : Nat → Value} {w' : World} (hb : BelowK (subD I0 w0.heap.size st.T β w Z).K w.heap.size w w')
    (hO : Objs (subD I0 w0.heap.size st.T β w Z) w.heap.size T' β' w') (hd : ∀ j, T' j ≠ .no → st.T j = .no ∨ Z.contains j = true)
    (hp : ∀ j, Z.contains j = true → T' j ≠ .no ∧ β' j = β j) (hsh : ∀ j e s es', Z.contains j = true → T' j = .live e s es' → ∃ es, st.T j = .live e s es ∧ es.length = es'.length) :
    ∃ β2, Rel N I0 w0 ⟨st.env, mergeT st.T T'⟩ β2 a w' ∧ (∀ x v, Rep (Im I0 w0.heap.size st.T β w) st.T β w x v → Rep (Im I0 w0.heap.size (mergeT st.T T') β2 w') (mergeT st.T T') β2 w' x v) ∧
      (∀ x v, Rep (Im (subD I0 w0.heap.size st.T β w Z) w.heap.size T' β' w') T' β' w' x v → Rep (Im I0 w0.heap.size (mergeT st.T T') β2 w') (mergeT st.T T') β2 w' x v) ∧
      ∀ j, st.T j ≠ .no → β2 j = β j := by
  let β2 : Nat → Value := fun j => match T' j with
    | .no => β j
    | _ => β' j
  have b2n : ∀ j, T' j = .no → β2 j = β j := fun j hj => by simp [β2, hj]
  have b2s : ∀ j, T' j ≠ .no → β2 j = β' j := fun j hj => by
    show (match T' j with | .no => β j | _ => β' j) = β' j
    split
    · rename_i h'; exact absurd h' hj
    · rfl
  have hinZ : ∀ j, T' j ≠ .no → st.T j ≠ .no → Z.contains j = true := fun j h1 h2 => (hd j h1).resolve_left h2
  have hsplit : ∀ j e s es, mergeT st.T T' j = .live e s es → (T' j = .no ∧ st.T j = .live e s es) ∨ (T' j = .live e s es) := by
    intro j e s es hj
    by_cases hn : T' j = .no
    · rw [mergeT_no hn] at hj; exact .inl ⟨hn, hj⟩
    · rw [mergeT_some hn] at hj; exact .inr hj
  have hblk : ∀ j e s es, st.T j = .live e s es → ∀ b, (β j).ownBlock = some b → I0.own w0.heap.size b ∧ b < w.heap.size := by
    intro j e s es hj b hb'
    obtain ⟨_, xs, ho, _⟩ := h.objs.obj j e s es hj
    exact ho.lt b hb'
  have hKown : ∀ b, (subD I0 w0.heap.size st.T β w Z).K b → I0.own w0.heap.size b ∧ b < w.heap.size := fun b ⟨i, e, s, es, _, hi, hbi⟩ => hblk i e s es hi b hbi
  have hblk' : ∀ j e s es, T' j = .live e s es → ∀ b, (β' j).ownBlock = some b → (subD I0 w0.heap.size st.T β w Z).own w.heap.size b ∧ b < w'.heap.size := by
    intro j e s es hj b hb'
    obtain ⟨_, xs, ho, _⟩ := hO.obj j e s es hj
    exact ho.lt b hb'
  have hImK : ∀ b, Im I0 w0.heap.size st.T β w b → ¬ (subD I0 w0.heap.size st.T β w Z).K b := fun b ⟨_, _, h3⟩ ⟨i, e, s, es, _, hi, hbi⟩ => h3 i e s es hi hbi
  have hcell : ∀ b, b < w.heap.size → ¬ (subD I0 w0.heap.size st.T β w Z).K b → ∀ o, w'.cell? ⟨b, o, none⟩ = w.cell? ⟨b, o, none⟩ := fun b h1 h2 o => World.cell?_of_block (a := ⟨b, o, none⟩) (hb.block b h1 h2)
  have hIA : ∀ b, Im I0 w0.heap.size st.T β w b → Im I0 w0.heap.size (mergeT st.T T') β2 w' b ∧ ∀ o, w'.cell? ⟨b, o, none⟩ = w.cell? ⟨b, o, none⟩ := by
    intro b hIm
    have hnK := hImK b hIm
    obtain ⟨h1, h2, h3⟩ := hIm
    refine ⟨⟨h1, Nat.lt_of_lt_of_le h2 hb.size, fun j e s es hj hbj => ?_⟩, hcell b h2 hnK⟩
    rcases hsplit _ _ _ _ hj with ⟨hn, hj'⟩ | hj'
    · rw [b2n j hn] at hbj; exact h3 j _ _ _ hj' hbj
    · rw [b2s j (by rw [hj']; simp)] at hbj
      rcases (hblk' j _ _ _ hj' b hbj).1 with h4 | h4
      · omega
      · exact hnK h4
  have hβ2 : ∀ j, st.T j ≠ .no → β2 j = β j := by
    intro j hj
    by_cases hn : T' j = .no
    · exact b2n j hn
    · rw [b2s j hn]; exact (hp j (hinZ j hn hj)).2
  have hTA : ∀ j, st.T j ≠ .no → mergeT st.T T' j ≠ .no ∧ ∀ e1 s1 es1, mergeT st.T T' j = .live e1 s1 es1 → β2 j = β j ∧ ∃ es, st.T j = .live e1 s1 es ∧ es.length = es1.length := by
    intro j hj
    by_cases hn : T' j = .no
    · rw [mergeT_no hn]
      exact ⟨hj, fun e1 s1 es1 h1 => ⟨hβ2 j hj, es1, h1, rfl⟩⟩
    · rw [mergeT_some hn]
      exact ⟨hn, fun e1 s1 es1 h1 => ⟨hβ2 j hj, hsh j e1 s1 es1 (hinZ j hn hj) h1⟩⟩
  have hA : ∀ x v, Rep (Im I0 w0.heap.size st.T β w) st.T β w x v → Rep (Im I0 w0.heap.size (mergeT st.T T') β2 w') (mergeT st.T T') β2 w' x v := fun x v hx => hx.mono hIA hTA
  have hB : ∀ x v, Rep (Im (subD I0 w0.heap.size st.T β w Z) w.heap.size T' β' w') T' β' w' x v → Rep (Im I0 w0.heap.size (mergeT st.T T') β2 w') (mergeT st.T T') β2 w' x v := by
    intro x v hx
    refine hx.mono ?_ ?_
    · rintro b ⟨h1, h2, h3⟩
      have hnew : ∀ j e s es, mergeT st.T T' j = .live e s es → (β2 j).ownBlock ≠ some b := by
        intro j e s es hj hbj
        rcases hsplit _ _ _ _ hj with ⟨hn, hj'⟩ | hj'
        · rw [b2n j hn] at hbj
          rcases h1 with ⟨_, _, h4⟩ | h1 | ⟨i, e2, s2, es2, hiZ, hi, hbi⟩
          · exact h4 j _ _ _ hj' hbj
          · have := (hblk j _ _ _ hj' b hbj).2; omega
          · have hij := h.objs.inj i _ _ _ j _ _ _ b hi hj' hbi hbj
            subst hij
            exact (hp i hiZ).1 hn
        · rw [b2s j (by rw [hj']; simp)] at hbj
          exact h3 j _ _ _ hj' hbj
      refine ⟨⟨?_, h2, hnew⟩, fun o => rfl⟩
      rcases h1 with ⟨h4, _, _⟩ | h1 | h1
      · exact h4
      · exact .inr (.inl (Nat.le_trans h.base h1))
      · exact .inr (hKown b h1).1
    · intro j hj
      rw [mergeT_some hj, b2s j hj]
      exact ⟨hj, fun e1 s1 es1 h1 => ⟨rfl, es1, h1, rfl⟩⟩
  have hbel : BelowK I0.K w0.heap.size w w' := ⟨hb.os, hb.tape, hb.output, hb.size, fun k hk hnK => hb.block k (Nat.lt_of_lt_of_le hk h.base) fun hK => by
    rcases (hKown k hK).1 with h4 | h4
    · omega
    · exact hnK h4⟩
  have hpins : ∀ j v, I0.pin j = some v → N.z.contains j = true ∧ mergeT st.T T' j ≠ .no ∧ β2 j = v := fun j v hj => by
    obtain ⟨z1, z2, z3⟩ := h.pins j v hj
    exact ⟨z1, (hTA j z2).1, (hβ2 j z2).trans z3⟩
  have hmk : Marks N.mm I0 w0.heap.size a w' := h.defers.step fun D _ hD => hb.block D (Array.getElem?_eq_some_iff.1 hD).1 fun ⟨i, e, s, es, _, hi, hbi⟩ => h.objs.noDef hi hbi hD
  refine ⟨β2, ⟨h.old, h.size, hmk, fun t x hx => hA _ _ (h.env t x hx), ⟨?_, ?_⟩, h.step _ _ h.below hbel, h.step, Nat.le_trans h.base hb.size, hpins⟩, hA, hB, hβ2⟩
  · intro j e s es hj
    rcases hsplit _ _ _ _ hj with ⟨hn, hj'⟩ | hj'
    · obtain ⟨h1, xs, h2, h3⟩ := h.objs.obj j e s es hj'
      rw [b2n j hn]
      have hkeep : ∀ b, (β j).ownBlock = some b → w'.heap[b]? = w.heap[b]? := fun b hbj => hb.block b (hblk j _ _ _ hj' b hbj).2 fun ⟨i, e2, s2, es2, hiZ, hi, hbi⟩ => by
        have hij := h.objs.inj i _ _ _ j _ _ _ b hi hj' hbi hbj
        subst hij
        exact (hp i hiZ).1 hn
      refine ⟨h1, xs, ⟨h2.1, h2.2.imp id ?_⟩, fun q y hy => ?_⟩
      · rintro ⟨g, cap, cur, fr, e1, e2, e3, rest⟩
        exact ⟨g, cap, cur, fr, e1, e2, by rw [hkeep g (by rw [e1]; rfl)]; exact e3, rest⟩
      · obtain ⟨u, hu, hr⟩ := h3 q y hy
        exact ⟨u, hu, hA _ _ hr⟩
    · obtain ⟨h1, xs, h2, h3⟩ := hO.obj j e s es hj'
      rw [b2s j (by rw [hj']; simp)]
      refine ⟨h1, xs, ?_, fun q y hy => ?_⟩
      · refine ⟨h2.1, h2.2.imp id ?_⟩
        rintro ⟨g, cap, cur, fr, e1, e2, e3⟩
        refine ⟨g, cap, cur, fr, e1, ?_, e3⟩
        rcases e2 with e2 | e2
        · exact .inl (Nat.le_trans h.base e2)
        · exact (hKown g e2).1
      · obtain ⟨u, hu, hr⟩ := h3 q y hy
        exact ⟨u, hu, hB _ _ hr⟩
  · have mix : ∀ p e1 s1 es1 q e2 s2 es2 b, T' p = .no → st.T p = .live e1 s1 es1 → T' q = .live e2 s2 es2 → (β p).ownBlock = some b → (β' q).ownBlock = some b → False := by
      intro p e1 s1 es1 q e2 s2 es2 b hn hp' hq' hbp hbq
      have h5 := (hblk p _ _ _ hp' b hbp).2
      rcases (hblk' q _ _ _ hq' b hbq).1 with h4 | ⟨i, e3, s3, es3, hiZ, hi, hbi⟩
      · omega
      · have hij := h.objs.inj i _ _ _ p _ _ _ b hi hp' hbi hbp
        subst hij
        exact (hp i hiZ).1 hn
    intro p e1 s1 es1 q e2 s2 es2 b hp hq hbp hbq
    rcases hsplit _ _ _ _ hp with ⟨hn, hp'⟩ | hp' <;> rcases hsplit _ _ _ _ hq with ⟨hm, hq'⟩ | hq'
    · rw [b2n p hn] at hbp; rw [b2n q hm] at hbq
      exact h.objs.inj p _ _ _ q _ _ _ b hp' hq' hbp hbq
    · rw [b2n p hn] at hbp; rw [b2s q (by rw [hq']; simp)] at hbq
      exact (mix p _ _ _ q _ _ _ b hn hp' hq' hbp hbq).elim
    · rw [b2s p (by rw [hp']; simp)] at hbp; rw [b2n q hm] at hbq
      exact (mix q _ _ _ p _ _ _ b hm hq' hp' hbq hbp).elim
    · rw [b2s p (by rw [hp']; simp)] at hbp; rw [b2s q (by rw [hq']; simp)] at hbq
      exact hO.inj p _ _ _ q _ _ _ b hp' hq' hbp hbq
theorem Rel.merge (h : Rel N I0 w0 st β a w) {T' : Nat → Ob} {β' : Nat → Value} {w' : World} (hb : Below w.heap.size w w')
    (hO : Objs (subD I0 w0.heap.size st.T β w []) w.heap.size T' β' w') (hd : ∀ j, T' j ≠ .no → st.T j = .no) :
    ∃ β2, Rel N I0 w0 ⟨st.env, mergeT st.T T'⟩ β2 a w' ∧ (∀ x v, Rep (Im I0 w0.heap.size st.T β w) st.T β w x v → Rep (Im I0 w0.heap.size (mergeT st.T T') β2 w') (mergeT st.T T') β2 w' x v) ∧
      ∀ x v, Rep (Im (subD I0 w0.heap.size st.T β w []) w.heap.size T' β' w') T' β' w' x v → Rep (Im I0 w0.heap.size (mergeT st.T T') β2 w') (mergeT st.T T') β2 w' x v :=
  let ⟨β2, h1, h2, h3, _⟩ := h.mergeK (Z := []) (.of hb (Nat.le_refl _)) hO (fun j hj => .inl (hd j hj)) (fun j hj => by simp at hj) (fun j e s es hj => by simp at hj)
  ⟨β2, h1, h2, h3⟩
theorem run_callFunc {f : Nat} (hf : goFn P f = true) (args : Array Value) (w : World) : (callFunc f args).run P w = .ok (.enter f args) w := by
  unfold goFn at hf
  split at hf
  · rename_i fn hfn
    simp only [Bool.and_eq_true, Bool.not_eq_true'] at hf
    unfold callFunc
    simp [program, Sem.run, hfn]
    have h1 : ¬ fn.name = "runtime.NumGoroutine" := by simpa using hf.1
    have h2 : ¬ fn.body = none := by intro h; rw [h] at hf; simp at hf
    simp [h1, h2]
  · cases hf
section ops
variable {o : Oper} {K : ASt → Prop} {d : Nat} {x y : AV}
theorem all2_of {R : AV → Value → Prop} : ∀ {l : List AV} {vs : List Value}, l.length = vs.length → (∀ (j : Nat) (x : AV) (v : Value), l[j]? = some x → vs[j]? = some v → R x v) → All2 R l vs
  | [], [], _, _ => trivial
  | x :: xs, y :: ys, hl, h => ⟨h 0 x y rfl rfl, all2_of (by simpa using hl) fun j p v hp hv => h (j + 1) p v (by simpa using hp) (by simpa using hv)⟩
  | [], _ :: _, hl, _ => by simp at hl
  | _ :: _, [], hl, _ => by simp at hl
theorem call_runs (hr : Rel N I0 w0 st β a w) {g : Nat} {caps : List AV} {z : Operand} {xs : Array Operand} {ts : Array TypeId} {l : List AV} {R : AV → (Nat → Ob) → Prop} (ho : o.op = .call ⟨.value z, xs, ts⟩)
    (hz : ev st z = some (.clo g caps)) (hg : goFn P g = true) (hl : xs.toList.map (ev st) = l.map some) (hno : ∀ x ∈ l ++ caps, NoOwn x) (hok : Ok P g (l ++ caps) R) :
    ∃ args : Array Value, (execOp a.eval o).run P w = .ok (.enter g args) w ∧ Calls P g args w fun e w' => False ∨ ∃ v x T β', e = .returned v ∧ R x T ∧ Below w.heap.size w w' ∧
      Objs (subD I0 w0.heap.size st.T β w []) w.heap.size T β' w' ∧ Rep (Im (subD I0 w0.heap.size st.T β w []) w.heap.size T β' w') T β' w' x v := by
  have hzr := hr.ev hz
  generalize hy : a.eval z = y at hzr
  cases hzr with
  | clo g caps vs hvl hvc =>
    have hlen : l.length = xs.size := by have := congrArg List.length hl; simpa using this.symm
    have hargs : All2 (Rep (Im I0 w0.heap.size st.T β w) noT noβ w) (l ++ caps) ((xs.map a.eval) ++ vs).toList := by
      refine all2_of (by simp [hlen, hvl]) fun j p v hp hv => ?_
      have hn := hno p (List.mem_of_getElem? hp)
      rcases Nat.lt_or_ge j l.length with hj | hj
      · rw [List.getElem?_append_left hj] at hp
        have h1 : (xs.toList.map (ev st))[j]? = some (some p) := by rw [hl]; simp [hp]
        simp only [List.getElem?_map, Array.getElem?_toList] at h1
        cases hcj : xs[j]? with
        | none => simp [hcj] at h1
        | some q =>
          simp only [hcj, Option.map_some, Option.some.injEq] at h1
          have hv' : v = a.eval q := by
            rw [Array.toList_append, List.getElem?_append_left (by simp; omega)] at hv
            simp [hcj] at hv
            exact hv.symm
          subst hv'
          exact (hr.ev h1).noOwn hn
      · rw [List.getElem?_append_right hj] at hp
        rw [Array.toList_append, List.getElem?_append_right (by simp; omega)] at hv
        simp only [Array.toList_map, List.length_map, Array.length_toList, Array.getElem?_toList] at hv
        rw [← hlen] at hv
        exact (hvc _ _ _ hp hv).noOwn hn
    have hc := hok (subD I0 w0.heap.size st.T β w []) w _ subD_no hargs
    simp only [Array.toArray_toList] at hc
    refine ⟨(xs.map a.eval) ++ vs, ?_, hc⟩
    have := run_callFunc hg ((xs.map a.eval) ++ vs) w
    simp [execOp, ho, resolve, hy, Deferred.ofValue, invoke, this]
theorem op_callT {g : Nat} {caps : List AV} {z : Operand} {xs : Array Operand} {ts : Array TypeId} {l : List AV} {R : AV → (Nat → Ob) → Prop} (ho : o.op = .call ⟨.value z, xs, ts⟩) (hd : o.dst = some d) (hN : d < N)
    (hz : ev st z = some (.clo g caps)) (hg : goFn P g = true) (hl : xs.toList.map (ev st) = l.map some) (hno : ∀ x ∈ l ++ caps, NoOwn x) (hok : Ok P g (l ++ caps) R)
    (k : ∀ x T', R x T' → (∀ j, T' j ≠ .no → st.T j = .no) ∧ K (ASt.mk ((d, x) :: st.env) (mergeT st.T T'))) : AOp P N o K Q st := by
  intro I0 w0 β a w hr K' hK
  obtain ⟨args, hrun, hc⟩ := call_runs hr ho hz hg hl hno hok
  refine .inl ?_
  simp only [Oper.wp, hrun, Oper.upon, hd]
  refine hc.mono ?_
  rintro e w' (hF | ⟨v, x, T', β', rfl, h1, h2, h3, h4⟩)
  · exact hF.elim
  · obtain ⟨hdis, hk⟩ := k x T' h1
    obtain ⟨β2, h5, _, h6⟩ := hr.merge h2 h3 hdis
    exact hK _ β2 _ w' (h5.put hN (h6 x v h4)) hk
theorem Rel.kept (h : Rel N I0 w0 st β a w) {β' : Nat → Value} {w' : World} {x : AV} {v : Value} (hb : Below w.heap.size w w')
    (hx : Rep (Im (subD I0 w0.heap.size st.T β w []) w.heap.size noT β' w') noT β' w' x v) : Rep (Im I0 w0.heap.size st.T β w') st.T β w' x v := by
  refine hx.mono ?_ (fun i hi => absurd rfl hi)
  rintro b ⟨h1, h2, h3⟩
  refine ⟨⟨?_, h2, fun j e s es hj hbj => ?_⟩, fun o => rfl⟩
  · rcases h1 with ⟨h4, _, _⟩ | h1 | h1
    · exact h4
    · exact .inr (.inl (Nat.le_trans h.base h1))
    · exact ((subD_no b).2 h1).elim
  · rcases h1 with ⟨_, _, h4⟩ | h1 | h1
    · exact h4 j _ _ _ hj hbj
    · obtain ⟨_, xs, ho, _⟩ := h.objs.obj j e s es hj
      have := (ho.lt b hbj).2; omega
    · exact ((subD_no b).2 h1).elim
def evs (st : ASt) : List Operand → Option (List AV)
  | [] => some []
  | z :: r => match ev st z, evs st r with
    | some x, some l => some (x :: l)
    | _, _ => none
theorem evs_map : ∀ {zs : List Operand} {l : List AV}, evs st zs = some l → zs.map (ev st) = l.map some
  | [], l, h => by simp [evs] at h; subst h; rfl
  | z :: r, l, h => by
    simp only [evs] at h
    split at h
    · rename_i x l' h1 h2
      cases h
      simp [h1, evs_map h2]
    · cases h
def NoOwnL : List AV → Prop
  | [] => True
  | x :: r => NoOwn x ∧ NoOwnL r
theorem NoOwnL.mem : ∀ {l : List AV}, NoOwnL l → ∀ x ∈ l, NoOwn x
  | _ :: _, ⟨h, _⟩, _, .head _ => h
  | _ :: _, ⟨_, h⟩, x, .tail _ hx => NoOwnL.mem h x hx
attribute [simp] noOwn_v noOwn_agg noOwn_tup noOwn_ip noOwn_clo
theorem y_call {g : Nat} {caps : List AV} {z : Operand} {xs : Array Operand} {ts : Array TypeId} {l l' : List AV} (hok : Gives P g l' y) (ho : o.op = .call ⟨.value z, xs, ts⟩ := by rfl)
    (hz : ev st z = some (.clo g caps) := by rfl) (hl : evs st xs.toList = some l := by rfl) (hl' : l ++ caps = l' := by rfl) (hg : goFn P g = true := by rfl) (hno : NoOwnL l' := by simp [NoOwnL]) : AYield P N Q o st y := by
  subst hl'
  intro I0 w0 β a w hr K' hK
  obtain ⟨args, hrun, hc⟩ := call_runs hr ho hz hg (evs_map hl) hno.mem hok
  refine .inl ?_
  simp only [Oper.wp, hrun, Oper.upon]
  refine hc.mono ?_
  rintro e w' (hF | ⟨v, x, T', β', rfl, ⟨rfl, rfl⟩, h2, h3, h4⟩)
  · exact hF.elim
  · exact hK v w' h2 (hr.kept h2 h4)
theorem y_makeFunc {f : Nat} {caps : Array Operand} {l : List AV} (ho : o.op = .makeFunc (.func f) #[] caps := by rfl) (hl : evs st caps.toList = some l := by rfl) : AYield P N Q o st (.clo f l) :=
  AYield.still (fun I0 w0 β a w hr => ⟨.func (.func f) #[] (caps.map a.eval), by simp [execOp, ho, Instr.makeFunc], .clo f l _ (by have := congrArg List.length (evs_map hl); simpa using this.symm) fun j p c hp hc => by
    have h1 : (caps.toList.map (ev st))[j]? = some (some p) := by rw [evs_map hl]; simp [hp]
    simp only [List.getElem?_map, Array.getElem?_toList] at h1
    cases hcj : caps[j]? with
    | none => simp [hcj] at h1
    | some z =>
      simp only [hcj, Option.map_some, Option.some.injEq] at h1
      simp [hcj] at hc
      subst hc
      exact hr.ev h1⟩)
end ops
end
end Go.Proofs.Ytemcemimipagoaa.AW
namespace Go.Proofs.Ytemcemimipagoaa.AW
open Go Go.RowKit
inductive Sh (T : Nat → Ob) : AV → AV → Prop
  | same (x : AV) : NoOwn x → Sh T x x
  | nil (s : Nat) : Sh T (.v (.slice none 0 0)) (.sl s [])
  | agg (l l' : List AV) : l.length = l'.length → (∀ (j : Nat) (a b : AV), l[j]? = some a → l'[j]? = some b → Sh T a b) → Sh T (.agg l) (.agg l')
  | tup (l l' : List AV) : l.length = l'.length → (∀ (j : Nat) (a b : AV), l[j]? = some a → l'[j]? = some b → Sh T a b) → Sh T (.tup l) (.tup l')
  | clo (f : Nat) (l l' : List AV) : l.length = l'.length → (∀ (j : Nat) (a b : AV), l[j]? = some a → l'[j]? = some b → Sh T a b) → Sh T (.clo f l) (.clo f l')
  | own (i e s : Nat) (es es' : List (List AV)) : T i = .live e s es → es.length = es'.length → (∀ c ∈ es', c.length = s) →
      (∀ (j : Nat) (a b : AV), es.flatten[j]? = some a → es'.flatten[j]? = some b → Sh T a b) → Sh T (.own i) (.sl s es')
  | ptr (i k r e s : Nat) (es : List (List AV)) (c c' : List AV) : T i = .live e s es → es[k]? = some c → c.length = c'.length →
      (∀ (j : Nat) (a b : AV), c[j]? = some a → c'[j]? = some b → Sh T a b) → Sh T (.ptr i k r) (.ip (c'.drop r))
section
variable {P : Program} {N : Fr} {Q : Exit → ASt → Prop} {st : ASt} {I0 : Dom} {w0 : World} {β : Nat → Value} {a : Act} {w : World}
theorem Im.noT {B : Nat} {T : Nat → Ob} {b : Nat} (h : Im I0 B T β w b) : Im I0 B AW.noT noβ w b := ⟨h.1, h.2.1, fun i e s es hi => (by cases hi)⟩
theorem Rep.noT {B : Nat} {T : Nat → Ob} {x : AV} {v : Value} (h : Rep (Im I0 B T β w) T β w x v) (hx : NoOwn x) : Rep (Im I0 B AW.noT noβ w) AW.noT noβ w x v := by
  have h1 : Rep (Im I0 B AW.noT noβ w) T β w x v := h.mono (fun b hb => ⟨hb.noT, fun o => rfl⟩) fun i hi => ⟨hi, fun e s es' h' => ⟨rfl, es', h', rfl⟩⟩
  exact h1.noOwn hx
theorem Sh.rep {B : Nat} {T : Nat → Ob} {x y : AV} (hO : Objs I0 B T β w) (h : Sh T x y) : ∀ v, Rep (Im I0 B T β w) T β w x v → Rep (Im I0 B AW.noT noβ w) AW.noT noβ w y v := by
  induction h with
  | same x hx => exact fun v hv => hv.noT hx
  | nil s => exact fun v hv => by rw [hv.v_inv]; exact .emp s none 0 fun _ => rfl
  | agg l l' hl _ ih =>
    intro v hv
    cases hv with
    | agg _ cs hc hr =>
      refine .agg l' cs (by omega) fun j p u hp hu => ?_
      have hlt : j < l.length := by rw [hl]; exact (List.getElem?_eq_some_iff.1 hp).1
      exact ih j l[j] p (List.getElem?_eq_getElem hlt) hp u (hr j _ u (List.getElem?_eq_getElem hlt) hu)
  | tup l l' hl _ ih =>
    intro v hv
    cases hv with
    | tup _ cs hc hr =>
      refine .tup l' cs (by omega) fun j p u hp hu => ?_
      have hlt : j < l.length := by rw [hl]; exact (List.getElem?_eq_some_iff.1 hp).1
      exact ih j l[j] p (List.getElem?_eq_getElem hlt) hp u (hr j _ u (List.getElem?_eq_getElem hlt) hu)
  | clo f l l' hl _ ih =>
    intro v hv
    cases hv with
    | clo _ _ vs hc hr =>
      refine .clo f l' vs (by omega) fun j p u hp hu => ?_
      have hlt : j < l.length := by rw [hl]; exact (List.getElem?_eq_some_iff.1 hp).1
      exact ih j l[j] p (List.getElem?_eq_getElem hlt) hp u (hr j _ u (List.getElem?_eq_getElem hlt) hu)
  | own i e s es es' hi hl hs _ ih =>
    intro v hv
    cases hv with
    | own _ _ hn hx =>
      have := hx e s es hi
      subst this
      obtain ⟨h1, xs, h2, h3⟩ := hO.obj i e s es hi
      have hfl : es.flatten.length = es'.flatten.length := by rw [flat_len h1, flat_len hs, hl]
      rcases h2.2 with ⟨hh, h0⟩ | ⟨g, cap, cur, fr, hh, hb, hg, _, hnc, _⟩
      · have : es' = [] := List.eq_nil_of_length_eq_zero (by omega)
        subst this
        rw [hh]; exact .emp s none 0 fun _ => rfl
      · rw [hh, hl]
        rw [hh] at h2
        refine .sl s es' g 0 cap (fun j => (xs[j]?).getD undef) ⟨.inr hb, (Array.getElem?_eq_some_iff.1 hg).1, fun i e s es hi => (by cases hi)⟩ (by omega) hs (fun j p hp => ?_) (fun j p hp => ?_)
        · have hlt : j < es.flatten.length := by rw [hfl]; exact (List.getElem?_eq_some_iff.1 hp).1
          have hc := h2.cellAt j (by rw [← flat_len h1]; exact hlt)
          obtain ⟨u, hu, _⟩ := h3 j _ (List.getElem?_eq_getElem hlt)
          rw [Nat.zero_add, hc, hu]; rfl
        · have hlt : j < es.flatten.length := by rw [hfl]; exact (List.getElem?_eq_some_iff.1 hp).1
          obtain ⟨u, hu, hr⟩ := h3 j _ (List.getElem?_eq_getElem hlt)
          simp only [hu, Option.getD_some]
          exact ih j _ p (List.getElem?_eq_getElem hlt) hp u hr
  | ptr i k r e s es c c' hi hk hl _ ih =>
    intro v hv
    cases hv with
    | ptr _ _ _ _ hn hx =>
      obtain ⟨hk1, hrs, b, n, cp, hβ, rfl⟩ := hx e s es hi
      obtain ⟨h1, xs, h2, h3⟩ := hO.obj i e s es hi
      rw [hβ] at h2
      have hnn : n = es.length := by
        rcases h2.2 with ⟨hh, _⟩ | ⟨_, _, _, _, hh, _⟩
        · cases hh
        · simp at hh; exact hh.2.1
      subst hnn
      obtain ⟨g, cap, cur, fr, hh, hb, hg, _, hnc, _⟩ := h2.2.resolve_left (by rintro ⟨hh, _⟩; cases hh)
      simp at hh
      obtain ⟨rfl, rfl⟩ := hh
      have key : ∀ j p, (c'.drop r)[j]? = some p → ∃ u, xs[k * s + (r + j)]? = some u ∧ w.cell? ⟨b, k * s + r + j, none⟩ = some u ∧ Rep (Im I0 B AW.noT noβ w) AW.noT noβ w p u := by
        intro j p hp
        have hp' : c'[r + j]? = some p := by simpa [List.getElem?_drop] using hp
        have hlt : r + j < c.length := by rw [hl]; exact (List.getElem?_eq_some_iff.1 hp').1
        have hf := flat_get h1 hk (List.getElem?_eq_getElem hlt)
        obtain ⟨u, hu, hr⟩ := h3 _ _ hf
        refine ⟨u, hu, ?_, ih _ _ p (List.getElem?_eq_getElem hlt) hp' u hr⟩
        have hlt2 : k * s + (r + j) < es.length * s := by
          have := (List.getElem?_eq_some_iff.1 hf).1
          rwa [flat_len h1] at this
        rw [Nat.add_assoc, h2.cellAt _ hlt2, hu]
      refine .ip _ b (k * s + r) (fun j => (xs[k * s + (r + j)]?).getD undef) ⟨.inr hb, (Array.getElem?_eq_some_iff.1 hg).1, fun i e s es hi => (by cases hi)⟩ (fun j p hp => ?_) (fun j p hp => ?_)
      · obtain ⟨u, hu, h4, _⟩ := key j p hp
        rw [h4]; simp [hu]
      · obtain ⟨u, hu, _, h5⟩ := key j p hp
        simp only [hu, Option.getD_some]; exact h5
theorem Objs.noT (B : Nat) : Objs I0 B AW.noT noβ w := ⟨fun i e s es hh => (by cases hh), fun i e s es j e' s' es' b hh => (by cases hh)⟩
theorem gives_of {f : Nat} {fn : Func} {c : Code} {args : List AV} {y : AV} (hf : P.funcs[f]? = some fn) (hb : fn.body = some c) (hn : args.length ≤ fn.ntmps)
    (h : AWp P ⟨fn.ntmps, [], none, true⟩ c (fun e st => (e = .ret ∨ e = .normal) ∧ ∃ x, resA P fn st = some x ∧ Sh st.T x y) ⟨argEnv 0 args, noT⟩) : Gives P f args y := by
  have h0 := ok_of (R := fun x T => Sh T x y) hf hb hn h
  intro I0 w vs hI hvs
  refine (h0 I0 w vs hI hvs).mono ?_
  rintro e w' (hF | ⟨v, x, T, β, rfl, h1, h2, h3, h4⟩)
  · exact hF.elim
  · exact .inr ⟨v, y, noT, noβ, rfl, ⟨rfl, rfl⟩, h2, Objs.noT _, h1.rep h3 v h4⟩
def opAt (N : Nat) (ops : Array Oper) (st : ASt) (i : Nat) : Bool :=
  match (ops.getD i default).guard with
  | none => true
  | some (g, want) => match (ops.getD g default).dst with
    | some t => (Nat.blt t N) && (match get st.env t with
      | some (.v (.bool b)) => b == want
      | _ => false)
    | none => false
def offAt (N : Nat) (ops : Array Oper) (st : ASt) (i : Nat) : Bool :=
  match (ops.getD i default).guard with
  | none => false
  | some (g, want) => match (ops.getD g default).dst with
    | some t => (Nat.blt t N) && (match get st.env t with
      | some (.v (.bool b)) => b == !want
      | some (.v (.tuple _)) => true
      | _ => false)
    | none => false
theorem blt_lt {a b : Nat} (h : Nat.blt a b = true) : a < b := by simpa [Nat.blt_eq] using h
theorem getD_some {ops : Array Oper} {i : Nat} (h : i < ops.size) : ops[i]? = some (ops.getD i default) := by simp [Array.getD, h]
theorem wanted_of {ops : Array Oper} {i : Nat} (hr : Rel N I0 w0 st β a w) (h : opAt N ops st i = true) : Region.wanted (ops.getD i default) (yielded ops a.tmps) = true := by
  unfold opAt at h
  unfold Region.wanted
  split at h
  · rename_i hg; rw [hg]
  · rename_i g want hg
    rw [hg]
    split at h
    · rename_i t ht
      simp only [Bool.and_eq_true] at h
      obtain ⟨h1, h2⟩ := h
      have h1 := blt_lt h1
      split at h2
      · rename_i b hv
        have hgs : g < ops.size := by
          rcases Nat.lt_or_ge g ops.size with h | h
          · exact h
          · rw [show ops.getD g default = default by simp [Array.getD, Nat.not_lt.2 h]] at ht; cases ht
        have hy := yielded_of hr (ops := ops) (g := g) h1 (by rw [getD_some hgs]; exact ht) hv
        simp only [hy]
        simpa using h2
      · cases h2
    · cases h
theorem off_of {ops : Array Oper} {i : Nat} (hr : Rel N I0 w0 st β a w) (h : offAt N ops st i = true) : Region.wanted (ops.getD i default) (yielded ops a.tmps) = false := by
  unfold offAt at h
  unfold Region.wanted
  split at h
  · cases h
  · rename_i g want hg
    rw [hg]
    split at h
    · rename_i t ht
      simp only [Bool.and_eq_true] at h
      obtain ⟨h1, h2⟩ := h
      have h1 := blt_lt h1
      split at h2
      · rename_i b hv
        have hgs : g < ops.size := by
          rcases Nat.lt_or_ge g ops.size with h | h
          · exact h
          · rw [show ops.getD g default = default by simp [Array.getD, Nat.not_lt.2 h]] at ht; cases ht
        have hy := yielded_of hr (ops := ops) (g := g) h1 (by rw [getD_some hgs]; exact ht) hv
        simp only [hy]
        have : b = !want := by simpa using h2
        subst this
        cases want <;> rfl
      · rename_i vs hv
        have hh := (hr.env t _ hv).v_inv
        have hts : t < a.tmps.size := by rw [hr.size]; exact h1
        have hgs : g < ops.size := by
          rcases Nat.lt_or_ge g ops.size with h | h
          · exact h
          · rw [show ops.getD g default = default by simp [Array.getD, Nat.not_lt.2 h]] at ht; cases ht
        have hy : yielded ops a.tmps g = none := by
          unfold yielded
          rw [getD_some hgs]
          simp only [Option.bind_some, ht]
          simp only [Array.getD_eq_getD_getElem?, Array.getElem?_eq_getElem hts, Option.getD_some] at hh ⊢
          rw [hh]
        simp only [hy]
        rfl
      · cases h2
    · cases h
theorem st2 {ops : Array Oper} {i : Nat} {l : List Nat} (h : AOp P N (ops.getD i default) (AOps P N ops Q l) Q st) (hi : Nat.blt i ops.size = true := by rfl) (hg : opAt N ops st i = true := by rfl) : AOps P N ops Q (i :: l) st := by
  intro I0 w0 β a w hr
  simp only [wpOps, getD_some (blt_lt hi), wanted_of hr hg, if_true]
  exact h I0 w0 β a w hr _ fun st' β' a' w' h1 h2 => h2 I0 w0 β' a' w' h1
theorem st1 {ops : Array Oper} {i : Nat} {l : List Nat} {d : Nat} {x : AV} (h : AYield P N Q (ops.getD i default) st x) (k : AOps P N ops Q l (st.put d x)) (hi : Nat.blt i ops.size = true := by rfl)
    (hg : opAt N ops st i = true := by rfl) (hd : (ops.getD i default).dst = some d := by rfl) (hN : Nat.blt d N = true := by rfl) : AOps P N ops Q (i :: l) st :=
  st2 (AOp.of_yield hd (blt_lt hN) h k) hi hg
theorem sk {ops : Array Oper} {i : Nat} {l : List Nat} {d : Nat} (k : AOps P N ops Q l (st.put d undefV)) (hi : Nat.blt i ops.size = true := by rfl)
    (hg : offAt N ops st i = true := by rfl) (hd : (ops.getD i default).dst = some d := by rfl) (hN : Nat.blt d N = true := by rfl) : AOps P N ops Q (i :: l) st := by
  intro I0 w0 β a w hr
  simp only [wpOps, getD_some (blt_lt hi), off_of hr hg, hd, Bool.false_eq_true, if_false]
  exact k I0 w0 β _ w (hr.put (blt_lt hN) (.v undef))
theorem Rel.known (hr : Rel N I0 w0 st β a w) {t : Nat} {b : Bool} (hv : get st.env t = some (.v (.bool b))) : Rel N I0 w0 (st.put t (.v (.bool b))) β a w := by
  refine ⟨hr.old, hr.size, hr.defers, fun q z hz => ?_, hr.objs, hr.below, hr.step, hr.base, hr.pins⟩
  simp only [ASt.put, get] at hz
  by_cases ht : t = q
  · subst ht
    simp only [if_true, Option.some.injEq] at hz
    subst hz
    exact hr.env t _ hv
  · rw [if_neg ht] at hz
    exact hr.env q z hz
inductive NL : Bool → Prop
  | any (b : Bool) : NL b
theorem NL.isT : NL true := .any true
theorem NL.isF : NL false := .any false
theorem gs {ops : Array Oper} {i : Nat} {l : List Nat} {g t : Nat} {b want : Bool} (h1 : b = true → AOps P N ops Q (i :: l) (st.put t (.v (.bool true)))) (h2 : b = false → AOps P N ops Q (i :: l) (st.put t (.v (.bool false))))
    (hg : (ops.getD i default).guard = some (g, want) := by rfl) (ht : (ops.getD g default).dst = some t := by rfl) (hv : get st.env t = some (.v (.bool b)) := by rfl) (_hn : NL b := by (fail_if_success exact NL.isT); (fail_if_success exact NL.isF); exact NL.any _) : AOps P N ops Q (i :: l) st := by
  intro I0 w0 β a w hr
  cases hb : b
  · exact h2 hb I0 w0 β a w (hb ▸ hr.known hv)
  · exact h1 hb I0 w0 β a w (hb ▸ hr.known hv)
theorem ps {ops : Array Oper} {i : Nat} {l : List Nat} {t : Nat} {p q : Operand} {b : Bool} (h1 : b = true → AOps P N ops Q (i :: l) (st.put t (.v (.bool true)))) (h2 : b = false → AOps P N ops Q (i :: l) (st.put t (.v (.bool false))))
    (hg : (ops.getD i default).op = .pick (.tmp t) p q := by rfl) (hv : get st.env t = some (.v (.bool b)) := by rfl) : AOps P N ops Q (i :: l) st := by
  intro I0 w0 β a w hr
  cases hb : b
  · exact h2 hb I0 w0 β a w (hb ▸ hr.known hv)
  · exact h1 hb I0 w0 β a w (hb ▸ hr.known hv)
theorem fin {fn : Func} {x y : AV} (h : Sh st.T x y) (hx : resA P fn st = some x := by rfl) : (Exit.ret = Exit.ret ∨ Exit.ret = Exit.normal) ∧ ∃ x, resA P fn st = some x ∧ Sh st.T x y := ⟨.inl rfl, x, hx, h⟩
end
end Go.Proofs.Ytemcemimipagoaa.AW
namespace Go.Proofs.Ytemcemimipagoaa.AW
open Go Go.RowKit
section
variable {P : Program} {N : Fr} {Q : Exit → ASt → Prop} {st : ASt} {I0 : Dom} {w0 : World} {β : Nat → Value} {a : Act} {w : World}
section ops
variable {o : Oper} {K : ASt → Prop} {d : Nat} {x y : AV}
def lenA (st : ASt) : AV → Option Nat
  | .sl _ es => some es.length
  | .own i => match st.T i with
    | .live _ _ es => some es.length
    | _ => none
  | .v (.slice none 0 0) => some 0
  | _ => none
theorem lenA_val (hr : Rel N I0 w0 st β a w) {z : Operand} {n : Nat} (hz : ev st z = some x) (hn : lenA st x = some n) : ∃ b c, a.eval z = .slice b n c := by
  have h := hr.ev hz
  generalize a.eval z = y at h
  cases h with
  | emp s base cap hh => simp only [lenA, List.length_nil, Option.some.injEq] at hn; subst hn; exact ⟨_, _, rfl⟩
  | sl s es b off cap vs => simp only [lenA, Option.some.injEq] at hn; subst hn; exact ⟨_, _, rfl⟩
  | own i x h1 h2 =>
    simp only [lenA] at hn
    split at hn
    · rename_i e s es hi
      cases hn
      rw [h2 e s es hi]
      obtain ⟨_, xs, ho, _⟩ := hr.objs.obj i e s es hi
      rcases ho.2 with ⟨hh, h0⟩ | ⟨g, cap, cur, fr, hh, _⟩
      · rw [hh, h0]; exact ⟨_, _, rfl⟩
      · rw [hh]; exact ⟨_, _, rfl⟩
    · cases hn
  | v =>
    cases y with
    | slice b n' c =>
      cases b with
      | none =>
        cases n' with
        | zero => cases c with
          | zero => simp only [lenA, Option.some.injEq] at hn; subst hn; exact ⟨_, _, rfl⟩
          | succ => simp [lenA] at hn
        | succ => simp [lenA] at hn
      | some b => simp [lenA] at hn
    | _ => simp [lenA] at hn
  | _ => simp [lenA] at hn
theorem y_len {z : Operand} {t e s n : Nat} {ts : Array TypeId} (ho : o.op = .call ⟨.builtin .len, #[z], ts⟩ := by rfl) (hts : ts[0]? = some t := by rfl) (ht : elOf P t = some (e, s) := by rfl) (hz : ev st z = some x := by rfl)
    (hn : lenA st x = some n := by rfl) : AYield P N Q o st (.v (.int .i64 (n : Int))) :=
  AYield.still fun I0 w0 β a w hr => by
    obtain ⟨b, c, he⟩ := lenA_val hr hz hn
    refine ⟨.int .i64 n, ?_, .v _⟩
    simp [execOp, ho, resolve, invoke, builtin, Builtin.len_, hts, he, run_underlying (elOf_el ht).1, goInt]
theorem y_lens {z : Operand} {t : Nat} {b : ByteArray} {ts : Array TypeId} (ho : o.op = .call ⟨.builtin .len, #[z], ts⟩ := by rfl) (hts : ts[0]? = some t := by rfl) (ht : P.underlying t = some .string := by rfl)
    (hz : ev st z = some (.v (.string b)) := by rfl) : AYield P N Q o st (.v (.int .i64 (b.size : Int))) :=
  AYield.still fun I0 w0 β a w hr => by
    have he := (hr.ev hz).v_inv
    refine ⟨.int .i64 b.size, ?_, .v _⟩
    simp [execOp, ho, resolve, invoke, builtin, Builtin.len_, hts, he, run_underlying ht, goInt]
def btA (b : ByteArray) (n : Int) : Int := ((b.data[n.toNat]?).getD 0).toNat
theorem y_index {z ix : Operand} {t : Nat} {b : ByteArray} {kk : IntKind} {n : Int} (h0 : 0 ≤ n) (h1 : n < b.size) (ho : o.op = .index t z ix := by rfl) (ht : P.underlying t = some .string := by rfl)
    (hz : ev st z = some (.v (.string b)) := by rfl) (hix : ev st ix = some (.v (.int kk n)) := by rfl) : AYield P N Q o st (.v (.int .u8 (btA b n))) :=
  AYield.still fun I0 w0 β a w hr => by
    have he := (hr.ev hz).v_inv
    have hi := (hr.ev hix).v_inv
    refine ⟨.int .u8 (btA b n), ?_, .v _⟩
    have hlt : n.toNat < b.size := by omega
    have hlt' : n.toNat < b.data.size := hlt
    have e1 : btA b n = ((b[n.toNat]'hlt).toNat : Int) := by
      unfold btA
      rw [Array.getElem?_eq_getElem hlt']
      rfl
    simp [execOp, ho, he, hi, run_index_string w t b kk n ht, h0, h1, e1]
theorem y_cut {z : Operand} {t e s : Nat} {lo hi : Option Operand} {es : List (List AV)} {l h : Nat} (ho : o.op = .slice t z lo hi none := by rfl) (ht : elOf P t = some (e, s) := by rfl) (hz : ev st z = some (.sl s es) := by rfl)
    (hl : ∀ q, lo = some q → ∃ k, ev st q = some (.v (.int k (l : Int)))) (hl0 : lo = none → l = 0) (hh : ∀ q, hi = some q → ∃ k, ev st q = some (.v (.int k (h : Int)))) (hh0 : hi = none → h = es.length) (hlh : l ≤ h) (hhe : h ≤ es.length) :
    AYield P N Q o st (.sl s ((es.take h).drop l)) :=
  AYield.still fun I0 w0 β a w hr => by
    obtain ⟨hu, bb, hs⟩ := elOf_el ht
    have hv := hr.ev hz
    have key : ∀ (b : Option Addr) (n c : Nat), a.eval z = .slice b n c → h ≤ n → n ≤ c → (hi = none → h = n) → (execOp a.eval o).run P w = .ok (.value (.slice (if c = l then b else b.map (·.add (l * s))) (h - l) (c - l))) w := by
      intro b n c he hn hc hno
      have hb1 : ∀ q, lo = some q → ∃ k, a.eval q = .int k (l : Int) := fun q hq => by obtain ⟨k, hk⟩ := hl q hq; exact ⟨k, (hr.ev hk).v_inv⟩
      have hb2 : ∀ q, hi = some q → ∃ k, a.eval q = .int k (h : Int) := fun q hq => by obtain ⟨k, hk⟩ := hh q hq; exact ⟨k, (hr.ev hk).v_inv⟩
      have hhc : (h : Int) ≤ (c : Int) := by omega
      have hlh' : (l : Int) ≤ (h : Int) := by omega
      have hhc2 : ¬ c < h := by omega
      have hlh2 : ¬ h < l := by omega
      have hhc3 : h ≤ c := by omega
      cases lo with
      | none =>
        have := hl0 rfl
        subst this
        cases hi with
        | none =>
          have := hno rfl
          subst this
          simp [execOp, ho, Instr.sliceAt, run_underlying hu, Instr.slice, he, Instr.sliceBounds, (szOf_run hs w).1]
        | some q2 =>
          obtain ⟨k2, hk2⟩ := hb2 q2 rfl
          simp [execOp, ho, Instr.sliceAt, run_underlying hu, Instr.slice, he, Instr.sliceBounds, (szOf_run hs w).1, hk2, Instr.sliceBound, asIntOf, hhc, hhc2, hhc3]
      | some q1 =>
        obtain ⟨k1, hk1⟩ := hb1 q1 rfl
        cases hi with
        | none =>
          have := hno rfl
          subst this
          simp [execOp, ho, Instr.sliceAt, run_underlying hu, Instr.slice, he, Instr.sliceBounds, (szOf_run hs w).1, hk1, Instr.sliceBound, asIntOf, hlh', hlh2, hlh]
        | some q2 =>
          obtain ⟨k2, hk2⟩ := hb2 q2 rfl
          simp [execOp, ho, Instr.sliceAt, run_underlying hu, Instr.slice, he, Instr.sliceBounds, (szOf_run hs w).1, hk1, hk2, Instr.sliceBound, asIntOf, hlh', hhc, hhc2, hhc3, hlh2, hlh]
    generalize hy : a.eval z = y at hv key
    cases hv with
    | emp s base cap hb =>
      simp only [List.length_nil, Nat.le_zero] at hhe
      have hl0' : l = 0 := by omega
      refine ⟨_, key base 0 cap rfl (by omega) (Nat.zero_le _) (fun _ => hhe), ?_⟩
      rw [hhe, hl0']
      simp only [List.take_nil, List.drop_nil, Nat.sub_zero, Nat.zero_mul]
      have : (if cap = 0 then base else base.map (·.add 0)) = base := by
        split
        · rfl
        · cases base <;> simp [Addr.add]
      rw [this]
      exact .emp s base cap hb
    | sl s es b off cap vs h1 h2 h3 h4 h5 =>
      refine ⟨_, key (some ⟨b, off, none⟩) es.length cap rfl hhe h2 hh0, ?_⟩
      have hlen : ((es.take h).drop l).length = h - l := by simp; omega
      by_cases hz0 : h = l
      · have he0 : (es.take h).drop l = [] := List.eq_nil_of_length_eq_zero (by omega)
        rw [he0, hz0, Nat.sub_self]
        refine .emp s _ _ fun hn => ?_
        split at hn <;> cases hn
      · have hcl : ¬ cap = l := by omega
        rw [if_neg hcl, Option.map_some, add_mid, ← hlen]
        have hsub : ∀ c ∈ (es.take h).drop l, c.length = s := fun c hc => h3 c (List.mem_of_mem_take (List.mem_of_mem_drop hc))
        have hfl : ∀ j p, ((es.take h).drop l).flatten[j]? = some p → es.flatten[l * s + j]? = some p := by
          intro j p hp
          obtain ⟨k, r, c, rfl, hr', hk, hc⟩ := flat_inv hsub hp
          rw [List.getElem?_drop] at hk
          have hk2 : es[l + k]? = some c := by
            rw [List.getElem?_take] at hk
            split at hk
            · exact hk
            · cases hk
          have := flat_get h3 hk2 hc
          rwa [Nat.add_mul, Nat.add_assoc] at this
        refine .sl s _ b (off + l * s) (cap - l) (fun j => vs (l * s + j)) h1 (by omega) hsub (fun j p hp => ?_) (fun j p hp => ?_)
        · rw [Nat.add_assoc]; exact h4 _ p (hfl j p hp)
        · exact h5 _ p (hfl j p hp)
theorem y_conv {z : Operand} {t t' : Nat} {k k' : IntKind} {n : Int} {dd : TypeDesc} (ho : o.op = .convert t t' z := by rfl) (ht : P.underlying t = some dd := by rfl) (ht' : P.underlying t' = some (.int k') := by rfl)
    (hz : ev st z = some (.v (.int k n)) := by rfl) : AYield P N Q o st (.v (.int k' (k'.wrap n))) :=
  AYield.still fun I0 w0 β a w hr => by
    have he := (hr.ev hz).v_inv
    refine ⟨.int k' (k'.wrap n), ?_, .v _⟩
    cases dd <;> simp [execOp, ho, he, convert, run_underlying ht, run_underlying ht', Conv.intToInt]
theorem y_quo {t t' : TypeId} {p q : Operand} {k : IntKind} {u v : Int} (h : v ≠ 0) (ho : o.op = .binOp .quo t p q t' := by rfl) (hp : ev st p = some (.v (.int k u)) := by rfl)
    (hq : ev st q = some (.v (.int k v)) := by rfl) : AYield P N Q o st (.v (.int k (k.wrap (u.tdiv v)))) :=
  y_bin (r := .int k (k.wrap (u.tdiv v))) ho hp hq fun w => by
    simp [eqGuard_quo, binOp, Op.intDiv, h]
theorem y_rem {t t' : TypeId} {p q : Operand} {k : IntKind} {u v : Int} (h : v ≠ 0) (ho : o.op = .binOp .rem t p q t' := by rfl) (hp : ev st p = some (.v (.int k u)) := by rfl)
    (hq : ev st q = some (.v (.int k v)) := by rfl) : AYield P N Q o st (.v (.int k (u.tmod v))) :=
  y_bin (r := .int k (u.tmod v)) ho hp hq fun w => by
    simp [eqGuard_rem, binOp, Op.intDiv, h]
theorem y_bin64 {f : BinOp} {t t' : TypeId} {p q : Operand} {u v : Value} {n : Int} (h : -9223372036854775808 ≤ n ∧ n ≤ 9223372036854775807) (ho : o.op = .binOp f t p q t' := by rfl) (hp : ev st p = some (.v u) := by rfl) (hq : ev st q = some (.v v) := by rfl)
    (hrun : ∀ w, (do eqGuard f t p q u v; binOp f t u v : Sem Value).run P w = .ok (.int .i64 (IntKind.i64.wrap n)) w := by intro w; rfl) : AYield P N Q o st (.v (.int .i64 n)) :=
  y_bin (r := .int .i64 n) ho hp hq fun w => by
    rw [hrun w, IntKind.wrap_i64]
    have e1 : (n + 9223372036854775808) % 18446744073709551616 = n + 9223372036854775808 := Int.emod_eq_of_lt (by omega) (by omega)
    congr 2
    omega
end ops
end
end Go.Proofs.Ytemcemimipagoaa.AW
