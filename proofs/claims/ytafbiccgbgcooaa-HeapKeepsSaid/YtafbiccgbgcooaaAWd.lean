/- Abstract states: memory is made, and written. -/
import Derived.Test.YtafbiccgbgcooaaAWc
import Derived.Laws.IdiomCopy
namespace Go.Proofs.Ytafbiccgbgcooaa.AW
open Go Go.RowKit
set_option linter.unusedVariables false

def updV (β : Nat → Value) (i : Nat) (y : Value) : Nat → Value := fun j => if j = i then y else β j
def killO (T : Nat → Ob) : Option Nat → Nat → Ob
  | none => T
  | some i => upd T i .dead

section
variable {P : Program} {N : Nat} {Q : Exit → ASt → Prop} {st : ASt} {I0 : Nat → Prop} {w0 : World} {β : Nat → Value} {a : Act} {w : World}

theorem setCells_row (b : Nat) (e : TypeId) (fr : Nat × Nat) : ∀ (vs : List Value) (o : Nat) (cur : Array Value) (w : World), w.heap[b]? = some (.cells cur e fr) → o + vs.length ≤ cur.size →
    w.setCells b o vs = w.setRow b (cur.toList.take o ++ vs ++ cur.toList.drop (o + vs.length)).toArray
  | [], o, cur, w, hg, _ => by
    simp only [World.setCells, List.append_nil, List.length_nil, Nat.add_zero, List.take_append_drop, Array.toArray_toList]
    rw [setRow_self w b cur e fr hg]
  | v :: vs, o, cur, w, hg, hl => by
    simp only [List.length_cons] at hl
    rw [World.setCells, setCell_eq_setRow w b o cur e fr v hg, setCells_row b e fr vs (o + 1) _ _ (setRow_heap w b cur _ e fr hg) (by simp; omega), setRow_setRow]
    congr 2
    have := list_seg_step cur.toList o v vs (by simp; omega)
    simpa [Array.toList_setIfInBounds] using this
theorem run_storeCells_fr (P : Program) (b o : Nat) (e : TypeId) (vs : List Value) (cur : Array Value) (w : World) (fr : Nat × Nat) (hg : w.heap[b]? = some (.cells cur e fr)) (hfr : frz fr cur.size) (hl : o + vs.length ≤ cur.size) (h1 : ∀ v ∈ vs, v.oneCell' = true) :
    (storeCells ⟨b, o, none⟩ vs 0).run P w = .ok () (w.setRow b (cur.toList.take o ++ vs ++ cur.toList.drop (o + vs.length)).toArray) := by
  rw [run_storeCells_cells b o vs 0 w (fun j hj => ?_) (fun j hj => ?_) h1, Nat.add_zero, setCells_row b e fr vs o cur w hg hl]
  · rw [cell_of_row w b _ cur e fr hg, Array.getElem?_eq_getElem (by omega)]; rfl
  · simp only [World.frozen?, hg]
    rcases hfr with ⟨h1, h2⟩ | h
    · simp [h2]
    · have : ¬ fr.1 ≤ o + j := by omega
      simp [this]
theorem Rel.newObj (h : Rel N I0 w0 st β a w) {i' e s : Nat} {es' : List (List AV)} (hi' : st.T i' = .no) (row old : Option Nat)
    (hold : ∀ i, old = some i → ∃ e s es, st.T i = .live e s es ∧ row = (β i).ownBlock) (hrow : old = none → row = none)
    {w' : World} (hg : w.grownBy w' row) {y : Value} {xs : List Value} (hown : w'.owns w0.heap.size e s y es'.length xs) (hy : ∀ b, y.ownBlock = some b → some b = row ∨ w.heap.size ≤ b)
    (hs : ∀ x ∈ es', x.length = s) (hrep : ∀ (j : Nat) (x : AV), es'.flatten[j]? = some x → ∃ v : Value, xs[j]? = some v ∧ Rep (Im I0 w0.heap.size st.T β w) st.T β w x v) :
    Rel N I0 w0 ⟨st.env, upd (killO st.T old) i' (.live e s es')⟩ (updV β i' y) a w' ∧
      ∀ x v, Rep (Im I0 w0.heap.size st.T β w) st.T β w x v → Rep (Im I0 w0.heap.size (upd (killO st.T old) i' (.live e s es')) (updV β i' y) w') (upd (killO st.T old) i' (.live e s es')) (updV β i' y) w' x v := by
  have hk : ∀ j e s es, killO st.T old j = .live e s es → st.T j = .live e s es ∧ old ≠ some j := by
    intro j e s es hj
    cases old with
    | none => exact ⟨hj, by simp⟩
    | some i =>
      simp only [killO, upd] at hj
      by_cases hji : j = i
      · rw [if_pos hji] at hj; cases hj
      · rw [if_neg hji] at hj; exact ⟨hj, fun e => hji (by cases e; rfl)⟩
  have hblk : ∀ j e s es, st.T j = .live e s es → ∀ b, (β j).ownBlock = some b → w0.heap.size ≤ b ∧ b < w.heap.size := by
    intro j e s es hj b hb
    obtain ⟨_, xs, ho, _⟩ := h.objs.obj j e s es hj
    exact ho.lt b hb
  have hne : ∀ j e s es, st.T j = .live e s es → old ≠ some j → ∀ b, (β j).ownBlock = some b → some b ≠ row := by
    intro j e s es hj ho b hb hbr
    cases old with
    | none => rw [hrow rfl] at hbr; cases hbr
    | some i =>
      obtain ⟨e', s', es'', hi, hr⟩ := hold i rfl
      exact ho (by rw [h.objs.inj i _ _ _ j _ _ _ b hi hj (by rw [← hr, hbr]) hb])
  have hI : ∀ b, Im I0 w0.heap.size st.T β w b → Im I0 w0.heap.size (upd (killO st.T old) i' (.live e s es')) (updV β i' y) w' b ∧ ∀ o, w'.cell? ⟨b, o, none⟩ = w.cell? ⟨b, o, none⟩ := by
    rintro b ⟨h1, h2, h3⟩
    have hbr : some b ≠ row := by
      intro hbr
      cases old with
      | none => rw [hrow rfl] at hbr; cases hbr
      | some i =>
        obtain ⟨e', s', es'', hi, hr⟩ := hold i rfl
        exact h3 i _ _ _ hi (by rw [← hr, hbr])
    refine ⟨⟨h1, Nat.lt_of_lt_of_le h2 hg.size, fun j e' s' es'' hj hb => ?_⟩, fun o => World.cell?_of_block (a := ⟨b, o, none⟩) (hg.block b h2 hbr)⟩
    simp only [upd, updV] at hj hb
    by_cases hji : j = i'
    · rw [if_pos hji] at hb
      rcases hy b hb with h | h
      · exact hbr h
      · omega
    · rw [if_neg hji] at hj hb
      exact h3 j _ _ _ (hk _ _ _ _ hj).1 hb
  have hT : ∀ j, st.T j ≠ .no → upd (killO st.T old) i' (.live e s es') j ≠ .no ∧ ∀ e1 s1 es1, upd (killO st.T old) i' (.live e s es') j = .live e1 s1 es1 →
      updV β i' y j = β j ∧ ∃ es, st.T j = .live e1 s1 es ∧ es.length = es1.length := by
    intro j hj
    have hji : j ≠ i' := fun e => hj (e ▸ hi')
    simp only [upd, updV, if_neg hji]
    refine ⟨?_, fun e1 s1 es1 h1 => ⟨trivial, es1, (hk _ _ _ _ h1).1, rfl⟩⟩
    cases old with
    | none => exact hj
    | some i => simp only [killO, upd]; split <;> simp_all
  have hmono : ∀ x v, Rep (Im I0 w0.heap.size st.T β w) st.T β w x v → Rep (Im I0 w0.heap.size (upd (killO st.T old) i' (.live e s es')) (updV β i' y) w') (upd (killO st.T old) i' (.live e s es')) (updV β i' y) w' x v :=
    fun x v hx => hx.mono hI hT
  refine ⟨⟨h.old, h.size, h.defers, fun t x hx => hmono _ _ (h.env t x hx), ⟨?_, ?_⟩, h.below.grown hg h.below.size ?_⟩, hmono⟩
  · intro j e1 s1 es1 hj
    simp only [upd] at hj
    by_cases hji : j = i'
    · rw [if_pos hji] at hj
      cases hj
      refine ⟨hs, xs, by simp only [updV, if_pos hji]; exact hown, fun q x hx => ?_⟩
      obtain ⟨v, hv, hr⟩ := hrep q x hx
      exact ⟨v, hv, hmono _ _ hr⟩
    · rw [if_neg hji] at hj
      obtain ⟨hj', hoj⟩ := hk _ _ _ _ hj
      obtain ⟨h1, xs', h2, h3⟩ := h.objs.obj j e1 s1 es1 hj'
      refine ⟨h1, xs', ?_, fun q x hx => ?_⟩
      · simp only [updV, if_neg hji]
        refine h2.kept hg ?_
        cases hb : (β j).ownBlock with
        | none => exact .inl rfl
        | some b => exact .inr (hne j _ _ _ hj' hoj b hb)
      · obtain ⟨v, hv, hr⟩ := h3 q x hx
        exact ⟨v, hv, hmono _ _ hr⟩
  · intro p e1 s1 es1 q e2 s2 es2 b hp hq hbp hbq
    simp only [upd, updV] at hp hq hbp hbq
    by_cases hpi : p = i' <;> by_cases hqi : q = i'
    · rw [hpi, hqi]
    · rw [if_neg hqi] at hq hbq
      rw [if_pos hpi] at hbp
      obtain ⟨hq', hoq⟩ := hk _ _ _ _ hq
      rcases hy b hbp with h' | h'
      · exact absurd h' (hne q _ _ _ hq' hoq b hbq)
      · have := hblk q _ _ _ hq' b hbq; omega
    · rw [if_neg hpi] at hp hbp
      rw [if_pos hqi] at hbq
      obtain ⟨hp', hop⟩ := hk _ _ _ _ hp
      rcases hy b hbq with h' | h'
      · exact absurd h' (hne p _ _ _ hp' hop b hbp)
      · have := hblk p _ _ _ hp' b hbp; omega
    · rw [if_neg hpi] at hp hbp
      rw [if_neg hqi] at hq hbq
      exact h.objs.inj p _ _ _ q _ _ _ b (hk _ _ _ _ hp).1 (hk _ _ _ _ hq).1 hbp hbq
  · intro k hkr
    cases old with
    | none => rw [hrow rfl] at hkr; cases hkr
    | some i =>
      obtain ⟨e', s', es'', hi, hr⟩ := hold i rfl
      exact (hblk i _ _ _ hi k (by rw [← hr, hkr])).1

theorem Rel.turn2 (h : Rel N I0 w0 st β a w) {i e s : Nat} {es es' : List (List AV)} (hi : st.T i = .live e s es)
    {w' : World} (hg : w.grownBy w' (β i).ownBlock) {xs : List Value} (hown : w'.owns w0.heap.size e s (β i) es'.length xs) (hlen : es.length = es'.length)
    (hs : ∀ x ∈ es', x.length = s) (hrep : ∀ (j : Nat) (x : AV), es'.flatten[j]? = some x → ∃ v : Value, xs[j]? = some v ∧ Rep (Im I0 w0.heap.size st.T β w) st.T β w x v) :
    Rel N I0 w0 ⟨st.env, upd st.T i (.live e s es')⟩ β a w' ∧
      ∀ x v, Rep (Im I0 w0.heap.size st.T β w) st.T β w x v → Rep (Im I0 w0.heap.size (upd st.T i (.live e s es')) β w') (upd st.T i (.live e s es')) β w' x v := by
  have hblk : ∀ j e s es, st.T j = .live e s es → ∀ b, (β j).ownBlock = some b → w0.heap.size ≤ b ∧ b < w.heap.size := by
    intro j e s es hj b hb
    obtain ⟨_, xs, ho, _⟩ := h.objs.obj j e s es hj
    exact ho.lt b hb
  have hlive : ∀ j e1 s1 es1, upd st.T i (.live e s es') j = .live e1 s1 es1 → ∃ es2, st.T j = .live e1 s1 es2 := by
    intro j e1 s1 es1 hj
    simp only [upd] at hj
    by_cases hji : j = i
    · rw [if_pos hji] at hj; cases hj; exact ⟨es, hji ▸ hi⟩
    · rw [if_neg hji] at hj; exact ⟨_, hj⟩
  have hI : ∀ b, Im I0 w0.heap.size st.T β w b → Im I0 w0.heap.size (upd st.T i (.live e s es')) β w' b ∧ ∀ o, w'.cell? ⟨b, o, none⟩ = w.cell? ⟨b, o, none⟩ := by
    rintro b ⟨h1, h2, h3⟩
    refine ⟨⟨h1, Nat.lt_of_lt_of_le h2 hg.size, fun j e1 s1 es1 hj hb => ?_⟩, fun o => World.cell?_of_block (a := ⟨b, o, none⟩) (hg.block b h2 fun hb => h3 i _ _ _ hi hb.symm)⟩
    obtain ⟨es2, hj'⟩ := hlive _ _ _ _ hj
    exact h3 j _ _ _ hj' hb
  have hT : ∀ j, st.T j ≠ .no → upd st.T i (.live e s es') j ≠ .no ∧ ∀ e1 s1 es1, upd st.T i (.live e s es') j = .live e1 s1 es1 → β j = β j ∧ ∃ es, st.T j = .live e1 s1 es ∧ es.length = es1.length := by
    intro j hj
    simp only [upd]
    by_cases hji : j = i
    · rw [if_pos hji]; subst hji
      exact ⟨by simp, fun e1 s1 es1 h1 => by cases h1; exact ⟨trivial, es, hi, hlen⟩⟩
    · rw [if_neg hji]; exact ⟨hj, fun e1 s1 es1 h1 => ⟨trivial, es1, h1, rfl⟩⟩
  have hmono : ∀ x v, Rep (Im I0 w0.heap.size st.T β w) st.T β w x v → Rep (Im I0 w0.heap.size (upd st.T i (.live e s es')) β w') (upd st.T i (.live e s es')) β w' x v :=
    fun x v hx => hx.mono hI hT
  refine ⟨⟨h.old, h.size, h.defers, fun t x hx => hmono _ _ (h.env t x hx), ⟨?_, ?_⟩, h.below.grown hg h.below.size fun k hk => (hblk i _ _ _ hi k hk).1⟩, hmono⟩
  · intro j e1 s1 es1 hj
    simp only [upd] at hj
    by_cases hji : j = i
    · rw [if_pos hji] at hj; cases hj; subst hji
      refine ⟨hs, xs, hown, fun q x hx => ?_⟩
      obtain ⟨v, hv, hr⟩ := hrep q x hx
      exact ⟨v, hv, hmono _ _ hr⟩
    · rw [if_neg hji] at hj
      obtain ⟨h1, xs', h2, h3⟩ := h.objs.obj j e1 s1 es1 hj
      refine ⟨h1, xs', h2.kept hg ?_, fun q x hx => ?_⟩
      · cases hb : (β j).ownBlock with
        | none => exact .inl rfl
        | some b => exact .inr fun hb' => hji (h.objs.inj j _ _ _ i _ _ _ b hj hi hb hb'.symm)
      · obtain ⟨v, hv, hr⟩ := h3 q x hx
        exact ⟨v, hv, hmono _ _ hr⟩
  · intro p e1 s1 es1 q e2 s2 es2 b hp hq hbp hbq
    obtain ⟨_, hp'⟩ := hlive _ _ _ _ hp
    obtain ⟨_, hq'⟩ := hlive _ _ _ _ hq
    exact h.objs.inj p _ _ _ q _ _ _ b hp' hq' hbp hbq

theorem Rel.turn (h : Rel N I0 w0 st β a w) {i e s : Nat} {es es' : List (List AV)} (hi : st.T i = .live e s es)
    {w' : World} (hg : w.grownBy w' (β i).ownBlock) {xs : List Value} (hown : w'.owns w0.heap.size e s (β i) es'.length xs) (hlen : es.length = es'.length)
    (hs : ∀ x ∈ es', x.length = s) (hrep : ∀ (j : Nat) (x : AV), es'.flatten[j]? = some x → ∃ v : Value, xs[j]? = some v ∧ Rep (Im I0 w0.heap.size st.T β w) st.T β w x v) :
    Rel N I0 w0 ⟨st.env, upd st.T i (.live e s es')⟩ β a w' :=
  (h.turn2 hi hg hown hlen hs hrep).1

/-- A new row of cells. -/
theorem Rel.row (h : Rel N I0 w0 st β a w) {i e s : Nat} {es : List (List AV)} (hi : st.T i = .no) {n : Nat} (hn : es.length = n) (hm : n ≤ maxLen) {cells : Array Value} (hs : ∀ x ∈ es, x.length = s) (hc : cells.size = n * s)
    (hrep : ∀ (j : Nat) (x : AV), es.flatten[j]? = some x → ∃ v : Value, cells[j]? = some v ∧ Rep (Im I0 w0.heap.size st.T β w) st.T β w x v) :
    Rel N I0 w0 ⟨st.env, upd st.T i (.live e s es)⟩ (updV β i (.slice (some ⟨w.heap.size, 0, none⟩) n n)) a (w.alloc (.cells cells e)) ∧
      ∀ x v, Rep (Im I0 w0.heap.size st.T β w) st.T β w x v → Rep (Im I0 w0.heap.size (upd st.T i (.live e s es)) (updV β i (.slice (some ⟨w.heap.size, 0, none⟩) n n)) (w.alloc (.cells cells e))) (upd st.T i (.live e s es)) (updV β i (.slice (some ⟨w.heap.size, 0, none⟩) n n)) (w.alloc (.cells cells e)) x v := by
  subst hn
  exact h.newObj (w' := w.alloc (.cells cells e)) hi none none (by simp) (by simp) (World.grownBy_alloc w _ none) (World.ownsRow_lit w cells es.length h.below.size hm hc).owns (fun b hb => .inr (by simp [Value.ownBlock] at hb; omega)) hs
    (fun j x hx => by simpa using hrep j x hx)

section ops
variable {o : Oper} {K : ASt → Prop} {d : Nat} {x y : AV}

theorem flat_inv {s : Nat} : ∀ {es : List (List AV)}, (∀ x ∈ es, x.length = s) → ∀ {j : Nat} {y : AV}, es.flatten[j]? = some y → ∃ k r c, j = k * s + r ∧ r < s ∧ es[k]? = some c ∧ c[r]? = some y
  | [], _, j, y, h => by simp at h
  | x :: es, h, j, y, hj => by
    have hl := h x (.head _)
    rw [List.flatten_cons] at hj
    by_cases hlt : j < s
    · rw [List.getElem?_append_left (by omega)] at hj
      exact ⟨0, j, x, by simp, hlt, rfl, hj⟩
    · rw [List.getElem?_append_right (by omega)] at hj
      obtain ⟨k, r, c, h1, h2, h3, h4⟩ := flat_inv (fun y hy => h y (.tail _ hy)) hj
      exact ⟨k + 1, r, c, by rw [Nat.succ_mul]; omega, h2, h3, h4⟩
theorem mid_get {α : Type _} (xs vs : List α) {A n : Nat} (hA : A + n ≤ xs.length) (hv : vs.length = n) (j : Nat) :
    (xs.take A ++ vs ++ xs.drop (A + n))[j]? = if j < A then xs[j]? else if j < A + n then vs[j - A]? else xs[j]? := by
  have hl : (xs.take A).length = A := by simp; omega
  by_cases h1 : j < A
  · rw [if_pos h1, List.append_assoc, List.getElem?_append_left (by omega), List.getElem?_take_of_lt h1]
  · rw [if_neg h1]
    by_cases h2 : j < A + n
    · rw [if_pos h2, List.append_assoc, List.getElem?_append_right (by omega), List.getElem?_append_left (by omega), hl]
    · rw [if_neg h2, List.getElem?_append_right (by simp; omega), List.getElem?_drop]
      congr 1
      simp; omega
theorem oneCell_cells {v : Value} (h : v.oneCell' = true) : v.cells = #[v] := by cases v <;> first | rfl | cases h
theorem rep_cells {B : Nat} {T : Nat → Ob} (hO : Objs I0 B T β w) {x : AV} {v : Value} (h : Rep (Im I0 B T β w) T β w x v) (hx : (cellsA x).all (cok1 T) = true) :
    (cellsA x).length = v.cells.size ∧ (∀ (j : Nat) (p : AV), (cellsA x)[j]? = some p → ∃ u : Value, v.cells[j]? = some u ∧ Rep (Im I0 B T β w) T β w p u) ∧ ∀ u ∈ v.cells.toList, u.oneCell' = true := by
  by_cases hag : ∃ l, x = .agg l
  · obtain ⟨l, rfl⟩ := hag
    cases h with
    | agg l cs hl hc =>
      refine ⟨hl, fun j p hp => ?_, fun u hu => ?_⟩
      · have hlt : j < cs.size := by rw [← hl]; exact (List.getElem?_eq_some_iff.1 hp).1
        exact ⟨cs[j], by simp [Value.cells, hlt], hc j p _ hp (Array.getElem?_eq_getElem hlt)⟩
      · obtain ⟨j, hj, rfl⟩ := List.getElem_of_mem hu
        have hj' : j < cs.size := by simpa [Value.cells] using hj
        have hlt : j < l.length := by omega
        have := hc j l[j] cs[j] (List.getElem?_eq_getElem hlt) (Array.getElem?_eq_getElem hj')
        have hk : cok1 T l[j] = true := List.all_eq_true.1 hx _ (List.getElem_mem hlt)
        simpa [Value.cells] using this.one hO hk
  · have hc : cellsA x = [x] := by cases x <;> first | rfl | exact absurd ⟨_, rfl⟩ hag
    rw [hc] at hx ⊢
    have h1 := h.one hO (by simpa using hx)
    rw [oneCell_cells h1]
    refine ⟨rfl, fun j p hp => ?_, fun u hu => ?_⟩
    · cases j with
      | zero => simp at hp; subst hp; exact ⟨v, by simp, h⟩
      | succ j => simp at hp
    · simp at hu; subst hu; exact h1

theorem op_alloc {t n : Nat} {ag : Bool} {z : Value} {i : Nat} {info : TypeInfo} (ho : o.op = .alloc t) (hd : o.dst = some d) (hN : d < N) (hinfo : P.info? t = some info) (hz : info.zero = some z) (hi : st.T i = .no)
    (k : K (ASt.mk ((d, .ptr i 0 0) :: st.env) (upd st.T i (.live t z.cells.size [z.cells.toList.map .v])))) : AOp P N o K Q st := by
  intro I0 w0 β a w hr K' hK
  have hrun : (execOp a.eval o).run P w = .ok (.value (.pointer (some ⟨w.heap.size, 0, none⟩))) (w.alloc (.cells z.cells t)) := by
    simp [execOp, ho, Instr.alloc, zeroValue, typeInfo, hinfo, hz, newVar, newRow]
  obtain ⟨h1, h2⟩ := hr.row (i := i) (e := t) (s := z.cells.size) (es := [z.cells.toList.map .v]) hi (n := 1) rfl (by decide) (cells := z.cells) (by simp) (by simp) (fun j x hx => by
    simp at hx
    obtain ⟨u, hu, rfl⟩ := hx
    exact ⟨u, hu, .v u⟩)
  refine .inl ?_
  simp only [Oper.wp, hrun, Oper.upon, hd]
  refine hK _ _ _ _ (h1.put hN (.ptr i 0 0 _ (by simp [upd]) fun e s es he => ?_)) k
  simp only [upd, if_true] at he
  cases he
  exact ⟨by simp, Nat.zero_le _, w.heap.size, 1, 1, by simp [updV], by simp⟩
theorem op_box {t : Nat} {z : Operand} {i : Nat} (ho : o.op = .box t z) (hd : o.dst = some d) (hN : d < N) (hz : ev st z = some x) (hx : (cellsA x).all (cok1 st.T) = true) (hi : st.T i = .no)
    (k : K (ASt.mk ((d, .ptr i 0 0) :: st.env) (upd st.T i (.live t (cellsA x).length [cellsA x])))) : AOp P N o K Q st := by
  intro I0 w0 β a w hr K' hK
  obtain ⟨c1, c2, c3⟩ := rep_cells hr.objs (hr.ev hz) hx
  have hrun : (execOp a.eval o).run P w = .ok (.value (.pointer (some ⟨w.heap.size, 0, none⟩))) (w.alloc (.cells (a.eval z).cells t)) := by
    simp [execOp, ho, Instr.box, newVar, newRow]
  obtain ⟨h1, h2⟩ := hr.row (i := i) (e := t) (s := (cellsA x).length) (es := [cellsA x]) hi (n := 1) rfl (by decide) (cells := (a.eval z).cells) (by simp) (by simp [c1]) (fun j y hy => c2 j y (by simpa using hy))
  refine .inl ?_
  simp only [Oper.wp, hrun, Oper.upon, hd]
  refine hK _ _ _ _ (h1.put hN (.ptr i 0 0 _ (by simp [upd]) fun e s es he => ?_)) k
  simp only [upd, if_true] at he
  cases he
  exact ⟨by simp, Nat.zero_le _, w.heap.size, 1, 1, by simp [updV], by simp⟩
theorem store_core {t n : Nat} {ag : Bool} {zp zv : Operand} {i q r e s : Nat} {es : List (List AV)} {c : List AV} (ho : o.op = .store t zp zv) (hd : o.dst = none) (ht : szOf P t = some (n, ag))
    (hp : ev st zp = some (.ptr i q r)) (hi : st.T i = .live e s es) (hq : es[q]? = some c) (hv : ev st zv = some x) (hx : (cellsA x).all (cok1 st.T) = true) (hn : (cellsA x).length = n) (hrs : r + n ≤ s) (hr : Rel N I0 w0 st β a w) :
    ∃ w', (execOp a.eval o).run P w = .ok .skip w' ∧ Rel N I0 w0 ⟨st.env, upd st.T i (.live e s (es.set q (c.take r ++ cellsA x ++ c.drop (r + n))))⟩ β a w' ∧
      ∀ x' v, Rep (Im I0 w0.heap.size st.T β w) st.T β w x' v → Rep (Im I0 w0.heap.size (upd st.T i (.live e s (es.set q (c.take r ++ cellsA x ++ c.drop (r + n))))) β w') (upd st.T i (.live e s (es.set q (c.take r ++ cellsA x ++ c.drop (r + n))))) β w' x' v := by
  obtain ⟨c1, c2, c3⟩ := rep_cells hr.objs (hr.ev hv) hx
  obtain ⟨hs, xs, hown, hrep⟩ := hr.objs.obj i e s es hi
  have hpr := hr.ev hp
  generalize hy : a.eval zp = yp at hpr
  cases hpr with
  | ptr i' k' r' x' hn' hx' =>
    obtain ⟨hql, _, b, m, cp, hβ, rfl⟩ := hx' e s es hi
    rw [hβ] at hown
    have hm : m = es.length := by
      rcases hown.2 with ⟨hh, _⟩ | ⟨_, _, _, _, hh, _⟩
      · cases hh
      · simp at hh; exact hh.2.1
    subst hm
    have hclen : c.length = s := hs c (List.mem_of_getElem? hq)
    obtain ⟨g, cap', cur, fr, hh, hb, hg, hfr, hnc, hcm, hcs, htake⟩ := hown.2.resolve_left (by rintro ⟨hh, _⟩; cases hh)
    simp at hh
    obtain ⟨rfl, rfl⟩ := hh
    have hsz : (a.eval zv).cells.size = n := by rw [← c1, hn]
    have hqs : q * s + s ≤ es.length * s := by
      have : (q + 1) * s ≤ es.length * s := Nat.mul_le_mul_right _ hql
      rwa [Nat.succ_mul] at this
    have hfit : q * s + r + (a.eval zv).cells.toList.length ≤ cur.size := by
      rw [hcs, Array.length_toList, hsz]
      have : es.length * s ≤ cp * s := Nat.mul_le_mul_right _ hnc
      omega
    have hst := run_storeCells_fr P b (q * s + r) e (a.eval zv).cells.toList cur w fr hg hfr hfit c3
    simp only [Nat.add_zero, Array.length_toList, hsz] at hst
    have hrun : (execOp a.eval o).run P w = .ok .skip (w.setRow b (cur.toList.take (q * s + r) ++ (a.eval zv).cells.toList ++ cur.toList.drop (q * s + r + n)).toArray) := by
      simp [execOp, ho, hy, Instr.storeAt, Instr.sureAddr, storeVar, (szOf_run ht w).1, hsz, hst]
    have hxl : xs.length = es.length * s := hown.1
    have hnew : (c.take r ++ cellsA x ++ c.drop (r + n)).length = s := by simp [hclen, hn]; omega
    refine ⟨_, hrun, hr.turn2 (es' := es.set q (c.take r ++ cellsA x ++ c.drop (r + n))) hi (xs := xs.take (q * s + r) ++ (a.eval zv).cells.toList ++ xs.drop (q * s + r + n)) ?_ ?_ (by simp) ?_ ?_⟩
    · rw [hβ]; exact ⟨rfl, rfl, rfl, by simp [World.setRow], fun k _ hk => setRow_other w b k _ (fun e => hk (by simp [Value.ownBlock, e]))⟩
    · rw [hβ]
      have hA : q * s + r + n ≤ xs.length := by rw [hxl]; omega
      have hcl : xs.length ≤ cur.toList.length := by
        have h1 : cur.toList.length = cp * s := by simpa using hcs
        rw [h1, hxl]; exact Nat.mul_le_mul_right _ hnc
      have hvl : (a.eval zv).cells.toList.length = n := by simp [hsz]
      refine ⟨?_, .inr ⟨b, cp, _, fr, by simp, hb, setRow_heap w b cur _ e _ hg, ?_, by simpa using hnc, hcm, ?_, ?_⟩⟩
      · simp only [List.length_append, List.length_take, List.length_drop, hvl, List.length_set]; omega
      · have e1 : (cur.toList.take (q * s + r) ++ (a.eval zv).cells.toList ++ cur.toList.drop (q * s + r + n)).toArray.size = cur.size := by
          simp only [List.size_toArray, List.length_append, List.length_take, List.length_drop, hvl, Array.length_toList] at hcl ⊢; omega
        rw [e1]; exact hfr
      · simp only [List.size_toArray, List.length_append, List.length_take, List.length_drop, hvl, Array.length_toList] at hcl ⊢; omega
      · apply List.ext_getElem?
        intro j
        rw [List.length_set, mid_get xs _ hA hvl, ← hxl]
        by_cases hj : j < xs.length
        · rw [List.getElem?_take_of_lt hj, mid_get cur.toList _ (by omega) hvl]
          have : xs[j]? = cur.toList[j]? := by rw [← htake, List.getElem?_take_of_lt (by rw [← hxl]; exact hj)]
          rw [this]
        · rw [List.getElem?_eq_none (by simp; omega), if_neg (by omega), if_neg (by omega), List.getElem?_eq_none (by omega)]
    · intro y hy'
      rcases List.mem_or_eq_of_mem_set hy' with h | rfl
      · exact hs y h
      · exact hnew
    · intro j y hj
      have hA : q * s + r + n ≤ xs.length := by rw [hxl]; omega
      have hvl : (a.eval zv).cells.toList.length = n := by simp [hsz]
      have hs' : ∀ x_1 ∈ es.set q (c.take r ++ cellsA x ++ c.drop (r + n)), x_1.length = s := by
        intro y hy'
        rcases List.mem_or_eq_of_mem_set hy' with h | rfl
        · exact hs y h
        · exact hnew
      obtain ⟨kk, t', c', rfl, ht', hk, hc'⟩ := flat_inv hs' hj
      rw [mid_get xs _ hA hvl]
      by_cases hkq : kk = q
      · subst hkq
        rw [List.getElem?_set_self hql] at hk
        cases hk
        rw [mid_get c _ (by omega) hn] at hc'
        by_cases h1 : t' < r
        · rw [if_pos h1] at hc'
          rw [if_pos (by omega)]
          exact hrep _ _ (flat_get hs hq hc')
        · rw [if_neg h1] at hc'
          rw [if_neg (by omega)]
          by_cases h2 : t' < r + n
          · rw [if_pos h2] at hc'
            rw [if_pos (by omega)]
            have e1 : kk * s + t' - (kk * s + r) = t' - r := by omega
            rw [e1]
            obtain ⟨u, hu, hru⟩ := c2 _ _ hc'
            exact ⟨u, by simpa using hu, hru⟩
          · rw [if_neg h2] at hc'
            rw [if_neg (by omega)]
            exact hrep _ _ (flat_get hs hq hc')
      · rw [List.getElem?_set_ne (Ne.symm hkq)] at hk
        have hj' := hrep _ _ (flat_get hs hk hc')
        rcases Nat.lt_or_gt_of_ne hkq with h | h
        · have : (kk + 1) * s ≤ q * s := Nat.mul_le_mul_right _ h
          rw [Nat.succ_mul] at this
          rw [if_pos (by omega)]; exact hj'
        · have : (q + 1) * s ≤ kk * s := Nat.mul_le_mul_right _ h
          rw [Nat.succ_mul] at this
          rw [if_neg (by omega), if_neg (by omega)]; exact hj'
theorem op_store {t n : Nat} {ag : Bool} {zp zv : Operand} {i q r e s : Nat} {es : List (List AV)} {c : List AV} (ho : o.op = .store t zp zv) (hd : o.dst = none) (ht : szOf P t = some (n, ag))
    (hp : ev st zp = some (.ptr i q r)) (hi : st.T i = .live e s es) (hq : es[q]? = some c) (hv : ev st zv = some x) (hx : (cellsA x).all (cok1 st.T) = true) (hn : (cellsA x).length = n) (hrs : r + n ≤ s)
    (k : K (ASt.mk st.env (upd st.T i (.live e s (es.set q (c.take r ++ cellsA x ++ c.drop (r + n))))))) : AOp P N o K Q st := by
  intro I0 w0 β a w hr K' hK
  obtain ⟨w', h1, h2, _⟩ := store_core (o := o) ho hd ht hp hi hq hv hx hn hrs hr
  refine .inl ?_
  simp only [Oper.wp, h1, Oper.upon, hd, Act.put]
  exact hK _ _ _ _ h2 k
end ops
end
end Go.Proofs.Ytafbiccgbgcooaa.AW
