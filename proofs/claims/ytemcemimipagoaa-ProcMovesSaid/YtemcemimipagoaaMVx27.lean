/- What the statements' walks need. -/
import Derived.Test.YtemcemimipagoaaMVa4
import Derived.Test.YtemcemimipagoaaMVx17
import Derived.Test.YtemcemimipagoaaMVa3
import Derived.Shelf.Spec.SlicesInsert
import Derived.Shelf.Spec.SlicesInsertGrow
import Derived.Shelf.Slices.Delete
import Derived.Lib.RowBridge
set_option linter.unusedVariables false
set_option linter.unusedSimpArgs false
set_option maxRecDepth 100000
namespace Go.Proofs.Ytemcemimipagoaa
open Go Go.Proofs AW
def insRen : Go.Shelf.Ren := ⟨fun | 21 => 50 | 27 => 67 | 28 => 68 | 35 => 78 | 39 => 82 | n => n, fun | 22 => 27 | 3 => 3 | 4 => 4 | 0 => 0 | n => n, fun | n => n⟩
theorem insLay : Lays2.n21 Try.prog insRen := {
  mixed := by kernel_rfl
  f21 := Try.func50.trans (congrArg some (by kernel_rfl))
  f27 := Try.func67.trans (congrArg some (by kernel_rfl))
  f28 := Try.func68.trans (congrArg some (by kernel_rfl))
  f35 := Try.func78.trans (congrArg some (by kernel_rfl))
  f39 := Try.func82.trans (congrArg some (by kernel_rfl))
  t0 := Try.underlying0
  a0 := Try.isAgg0
  z0 := Try.sizeOf0
  v0 := Try.zeroValue0
  t3 := Try.underlying3
  a3 := Try.isAgg3
  z3 := Try.sizeOf3
  v3 := Try.zeroValue3
  t4 := Try.underlying4
  a4 := Try.isAgg4
  z4 := Try.sizeOf4
  v4 := Try.zeroValue4
  t22 := Try.underlying27
  a22 := Try.isAgg27
  z22 := Try.sizeOf27
  v22 := Try.zeroValue27
  i3 := by kernel_rfl }
def delRen : Go.Shelf.Ren := ⟨fun | 23 => 47 | n => n, fun | 22 => 27 | 3 => 3 | 4 => 4 | 0 => 0 | n => n, fun | n => n⟩
theorem delLay : Lays2.n23 Try.prog delRen := {
  mixed := by kernel_rfl
  f23 := Try.func47.trans (congrArg some (by kernel_rfl))
  t0 := Try.underlying0
  a0 := Try.isAgg0
  z0 := Try.sizeOf0
  v0 := Try.zeroValue0
  t3 := Try.underlying3
  a3 := Try.isAgg3
  z3 := Try.sizeOf3
  v3 := Try.zeroValue3
  t4 := Try.underlying4
  a4 := Try.isAgg4
  z4 := Try.sizeOf4
  v4 := Try.zeroValue4
  t22 := Try.underlying27
  a22 := Try.isAgg27
  z22 := Try.sizeOf27
  v22 := Try.zeroValue27
  i3 := by kernel_rfl }
theorem own_made {D : Dom} {w w' : World} {β : Nat → Value} {z : List Nat} {k e s : Nat} {es' : List (List AV)} {y : Value} {xs : List Value} {row : Option Nat} (hk : z.contains k = false) (hg : w.grownBy w' row)
    (hrow : ∀ q, row = some q → w.heap.size ≤ q ∨ D.K q) (hown : w'.owns (D.own w.heap.size) e s y es'.length xs) (hs : ∀ x ∈ es', x.length = s) (hrep : ∀ (j : Nat) (p : AV), es'.flatten[j]? = some p → ∃ v, xs[j]? = some v ∧ p = .v v) :
    ∃ v x L' β', Ending.returned y = .returned v ∧ (x = AV.own k ∧ L' = (k, Ob.live e s es') :: deadL z) ∧ BelowK D.K w.heap.size w w' ∧ Objs D w.heap.size (tb L') β' w' ∧ (∀ i, z.contains i = true → tb L' i ≠ .no ∧ β' i = β i) ∧
      Rep (Im D w.heap.size (tb L') β' w') (tb L') β' w' x v := by
  have hlive : ∀ i e1 s1 es1, tb ((k, Ob.live e s es') :: deadL z) i = .live e1 s1 es1 → i = k ∧ e1 = e ∧ s1 = s ∧ es1 = es' := by
    intro i e1 s1 es1 h
    simp only [tb, upd] at h
    by_cases hi : i = k
    · rw [if_pos hi] at h; cases h; exact ⟨hi, rfl, rfl, rfl⟩
    · rw [if_neg hi] at h
      rcases dead_get (z := z) (i := i) with h0 | h0 <;> rw [h0] at h <;> cases h
  refine ⟨y, .own k, _, updV β k y, rfl, ⟨rfl, rfl⟩, BelowK.grown hg (Nat.le_refl _) hrow, ⟨fun i e1 s1 es1 h => ?_, fun i e1 s1 es1 j e2 s2 es2 b h1 h2 _ _ => ?_⟩, fun i hi => ?_, .own k y ?_ fun e1 s1 es1 h => ?_⟩
  · obtain ⟨rfl, rfl, rfl, rfl⟩ := hlive i e1 s1 es1 h
    refine ⟨hs, xs, ?_, fun j p hp => ?_⟩
    · simpa [updV] using hown
    · obtain ⟨v, hv, rfl⟩ := hrep j p hp
      exact ⟨v, hv, .v v⟩
  · rw [(hlive i e1 s1 es1 h1).1, (hlive j e2 s2 es2 h2).1]
  · have hik : i ≠ k := by intro e; subst e; rw [hk] at hi; cases hi
    refine ⟨?_, by simp [updV, hik]⟩
    simp only [tb, upd, if_neg hik]
    rw [dead_mem hi]; simp
  · simp [tb, upd]
  · simp [updV]
theorem flat_ints (l : List Int) : (encInts l).flatten = l.map fun x => iv x := by induction l with
  | nil => rfl
  | cons a l ih => simp only [encInts, List.map_cons, List.flatten_cons] at *; rw [ih]; rfl
def vInts (l : List Int) : List Value := l.map (Value.int .i64)
theorem rep_ints (l : List Int) : ∀ (j : Nat) (p : AV), (encInts l).flatten[j]? = some p → ∃ v, (vInts l)[j]? = some v ∧ p = .v v := by
  intro j p hp
  rw [flat_ints, List.getElem?_map] at hp
  cases h : l[j]? with
  | none => rw [h] at hp; cases hp
  | some x => rw [h] at hp; cases hp; exact ⟨.int .i64 x, by simp [vInts, h], rfl⟩
theorem one_ints (l : List Int) : ∀ v ∈ vInts l, v.oneCell' = true := by
  intro v hv
  simp only [vInts, List.mem_map] at hv
  obtain ⟨x, _, rfl⟩ := hv; rfl
theorem own_made2 {D : Dom} {w w' : World} {β : Nat → Value} {i j k e s gj cj : Nat} {es' : List (List AV)} {y : Value} {xs : List Value} {row : Option Nat} {x : Int} (hij : i ≠ j) (hik : k ≠ i) (hjk : k ≠ j) (hg : w.grownBy w' row)
    (hrow : ∀ q, row = some q → w.heap.size ≤ q ∨ D.K q) (hown : w'.owns (D.own w.heap.size) e s y es'.length xs) (hs : ∀ x ∈ es', x.length = s) (hrep : ∀ (j : Nat) (p : AV), es'.flatten[j]? = some p → ∃ v, xs[j]? = some v ∧ p = .v v)
    (hj : w.owns (D.own w.heap.size) 3 1 (β j) 1 [.int .i64 x]) (ejv : β j = .slice (some ⟨gj, 0, none⟩) 1 cj) (hrj : row ≠ some gj) (hyj : y.ownBlock ≠ some gj) :
    ∃ v y' L' β', Ending.returned y = .returned v ∧ (y' = AV.own k ∧ L' = [(k, Ob.live e s es'), (i, .dead), (j, .live 3 1 [[iv x]])]) ∧ BelowK D.K w.heap.size w w' ∧ Objs D w.heap.size (tb L') β' w' ∧ (∀ q, ([i, j] : List Nat).contains q = true → tb L' q ≠ .no ∧ β' q = β q) ∧
      Rep (Im D w.heap.size (tb L') β' w') (tb L') β' w' y' v := by
  have hlive : ∀ q e1 s1 es1, tb [(k, Ob.live e s es'), (i, .dead), (j, .live 3 1 [[iv x]])] q = .live e1 s1 es1 → (q = k ∧ e1 = e ∧ s1 = s ∧ es1 = es') ∨ (q = j ∧ e1 = 3 ∧ s1 = 1 ∧ es1 = [[iv x]]) := by
    intro q e1 s1 es1 h
    simp only [tb, upd] at h
    by_cases hq : q = k
    · rw [if_pos hq] at h; cases h; exact .inl ⟨hq, rfl, rfl, rfl⟩
    · rw [if_neg hq] at h
      by_cases hqi : q = i
      · rw [if_pos hqi] at h; cases h
      · rw [if_neg hqi] at h
        by_cases hqj : q = j
        · rw [if_pos hqj] at h; cases h; exact .inr ⟨hqj, rfl, rfl, rfl⟩
        · rw [if_neg hqj] at h; cases h
  have hbk : updV β k y k = y := by simp [updV]
  have hbj : updV β k y j = β j := by simp [updV, hjk.symm]
  refine ⟨y, .own k, _, updV β k y, rfl, ⟨rfl, rfl⟩, BelowK.grown hg (Nat.le_refl _) hrow, ⟨fun q e1 s1 es1 h => ?_, fun q e1 s1 es1 p e2 s2 es2 b h1 h2 hb1 hb2 => ?_⟩, fun q hq => ?_, .own k y ?_ fun e1 s1 es1 h => ?_⟩
  · rcases hlive q e1 s1 es1 h with ⟨rfl, rfl, rfl, rfl⟩ | ⟨rfl, rfl, rfl, rfl⟩
    · refine ⟨hs, xs, by rw [hbk]; exact hown, fun p a hp => ?_⟩
      obtain ⟨v, hv, rfl⟩ := hrep p a hp
      exact ⟨v, hv, .v v⟩
    · refine ⟨by simp, [.int .i64 x], ?_, fun p a hp => ?_⟩
      · rw [hbj]; exact hj.kept hg (.inr (by rw [ejv]; exact fun e => hrj e.symm))
      · cases p with
        | zero => simp at hp; subst hp; exact ⟨_, rfl, .v _⟩
        | succ p => simp at hp
  · rcases hlive q e1 s1 es1 h1 with ⟨rfl, _⟩ | ⟨rfl, _⟩ <;> rcases hlive p e2 s2 es2 h2 with ⟨rfl, _⟩ | ⟨rfl, _⟩
    · rfl
    · rw [hbk] at hb1; rw [hbj, ejv] at hb2
      simp only [Value.ownBlock, Option.some.injEq] at hb2
      subst hb2; exact absurd hb1 hyj
    · rw [hbk] at hb2; rw [hbj, ejv] at hb1
      simp only [Value.ownBlock, Option.some.injEq] at hb1
      subst hb1; exact absurd hb2 hyj
    · rfl
  · have hqk : q ≠ k := by
      intro e; subst e
      simp only [List.contains_cons, Bool.or_eq_true, beq_iff_eq, List.contains_nil, Bool.or_false] at hq
      rcases hq with h | h
      · exact hik h
      · exact hjk h
    refine ⟨?_, by simp [updV, hqk]⟩
    simp only [tb, upd, if_neg hqk]
    by_cases hqi : q = i
    · rw [if_pos hqi]; simp
    · rw [if_neg hqi]
      by_cases hqj : q = j
      · rw [if_pos hqj]; simp
      · simp [hqi, hqj] at hq
  · simp [tb, upd]
  · simp [updV]
theorem ints_row {D : Dom} {w : World} {T : Nat → Ob} {β : Nat → Value} (hO : Objs D w.heap.size T β w) {i : Nat} {l : List Int} (hi : T i = .live 3 1 (encInts l)) : w.owns (D.own w.heap.size) 3 1 (β i) l.length (vInts l) := by
  obtain ⟨_, xs, h1, h2⟩ := hO.obj i _ _ _ hi
  rw [len_ints] at h1
  have : xs = vInts l := by
    apply List.ext_getElem?
    intro j
    have hxl : xs.length = l.length := by have := h1.1; omega
    cases hj : l[j]? with
    | none =>
      have : l.length ≤ j := List.getElem?_eq_none_iff.1 hj
      rw [List.getElem?_eq_none (by omega), List.getElem?_eq_none (by simp [vInts]; omega)]
    | some x =>
      obtain ⟨y, hy, hr⟩ := h2 j (iv x) (by rw [flat_ints, List.getElem?_map, hj]; rfl)
      rw [hy, hr.v_inv]; simp [vInts, hj]
  rw [← this]; exact h1
theorem not_byte : 3 ≠ byteT := by decide
theorem row_frozen {w : World} {g : Nat} {cur : Array Value} {fr : Nat × Nat} (hg : w.heap[g]? = some (.cells cur 3 fr)) (hf : frz 3 fr cur.size) (o : Nat) : w.frozen? ⟨g, o, none⟩ = false := by
  rcases hf with ⟨h1, h2⟩ | ⟨h1, _⟩
  · simp only [World.frozen?, hg]; simp [h2]
  · exact absurd h1 not_byte
theorem grown_setRow {w : World} {g : Nat} {cs : Array Value} : w.grownBy (w.setRow g cs) (some g) := ⟨rfl, rfl, rfl, by simp [World.setRow], fun k _ hk => setRow_other w g k _ (fun e => hk (by rw [e]))⟩
theorem grown_drew {w : World} {row : Option Nat} : w.grownBy w.drew row := ⟨rfl, rfl, rfl, Nat.le_refl _, fun _ _ _ => rfl⟩
theorem grown_trans {a b c : World} {row : Option Nat} (h : a.grownBy b row) (k : b.grownBy c row) : a.grownBy c row := ⟨k.os.trans h.os, k.tape.trans h.tape, k.output.trans h.output, Nat.le_trans h.size k.size, fun q hq hn => (k.block q (Nat.lt_of_lt_of_le hq h.size) hn).trans (h.block q hq hn)⟩
theorem grown_over {a b c : World} {g : Nat} (h : a.grownBy b none) (k : b.grownBy c (some g)) (hg : a.heap.size ≤ g) : a.grownBy c none := ⟨k.os.trans h.os, k.tape.trans h.tape, k.output.trans h.output, Nat.le_trans h.size k.size, fun q hq hn => (k.block q (Nat.lt_of_lt_of_le hq h.size) (fun e => by cases e; omega)).trans (h.block q hq hn)⟩
theorem vInts_take (l : List Int) (k : Nat) : (vInts l).take k = vInts (l.take k) := by simp [vInts]
theorem vInts_drop (l : List Int) (k : Nat) : (vInts l).drop k = vInts (l.drop k) := by simp [vInts]
theorem vInts_len (l : List Int) : (vInts l).length = l.length := by simp [vInts]
theorem own_inv {I : Nat → Prop} {T : Nat → Ob} {β : Nat → Value} {w : World} {i e s : Nat} {es : List (List AV)} {v : Value} (h : Rep I T β w (.own i) v) (hT : T i = .live e s es) : v = β i := by
  cases h with
  | own _ _ _ hx => exact hx e s es hT
structure RowIs (D : Dom) (w : World) (v : Value) (l : List Int) (g cap : Nat) (cur : Array Value) (fr : Nat × Nat) : Prop where
  val : v = .slice (some ⟨g, 0, none⟩) l.length cap
  own : D.own w.heap.size g
  row : w.heap[g]? = some (.cells cur 3 fr)
  fr : frz 3 fr cur.size
  le : l.length ≤ cap
  max : cap ≤ maxLen
  size : cur.size = cap
  take : cur.toList.take l.length = vInts l
theorem row_is {D : Dom} {w : World} {v : Value} {l : List Int} (h : w.owns (D.own w.heap.size) 3 1 v l.length (vInts l)) : (v = .slice none 0 0 ∧ l = []) ∨ ∃ g cap cur fr, RowIs D w v l g cap cur fr := by
  rcases h.2 with ⟨h1, h2⟩ | ⟨g, cap, cur, fr, h1, h2, h3, h4, h5, h6, h7, h8⟩
  · exact .inl ⟨h1, List.eq_nil_of_length_eq_zero h2⟩
  · exact .inr ⟨g, cap, cur, fr, h1, h2, h3, h4, h5, h6, by omega, by simpa using h8⟩
section
variable {D : Dom} {w : World} {v : Value} {l : List Int} {g cap : Nat} {cur : Array Value} {fr : Nat × Nat}
theorem RowIs.cell (h : RowIs D w v l g cap cur fr) (j : Nat) : w.cell? ⟨g, j, none⟩ = cur[j]? := cell_of_row w g j cur _ fr h.row
theorem RowIs.get (h : RowIs D w v l g cap cur fr) (j : Nat) (u : Value) (hu : (vInts l)[j]? = some u) : w.cell? ⟨g, 0 + j, none⟩ = some u := by
  rw [Nat.zero_add, h.cell j]
  rw [← h.take] at hu
  rw [List.getElem?_take] at hu
  split at hu
  · simpa using hu
  · cases hu
theorem RowIs.there (h : RowIs D w v l g cap cur fr) (j : Nat) (hj : j < cap) : (w.cell? ⟨g, j, none⟩).isSome = true := by
  rw [h.cell j, Array.getElem?_eq_getElem (by rw [h.size]; exact hj)]; rfl
theorem RowIs.thaw (h : RowIs D w v l g cap cur fr) (j : Nat) : w.frozen? ⟨g, j, none⟩ = false := row_frozen h.row h.fr j
theorem RowIs.shape (h : RowIs D w v l g cap cur fr) : w.shape? g = some (3, cap) := by simp [World.shape?, h.row, h.size]
theorem RowIs.turned (h : RowIs D w v l g cap cur fr) (w1 : World) (hw : w1.heap = w.heap) {cs : Array Value} {l' : List Int} (hs : cs.size = cap) (hl : l'.length ≤ cap) (ht : cs.toList.take l'.length = vInts l') :
    (w1.setRow g cs).owns (D.own w.heap.size) 3 1 (.slice (some ⟨g, 0, none⟩) l'.length cap) (encInts l').length (vInts l') := by
  refine ⟨by rw [vInts_len, len_ints, Nat.mul_one], .inr ⟨g, cap, cs, fr, by rw [len_ints], h.own, setRow_heap w1 g cur cs _ fr (by rw [hw]; exact h.row), ?_, by rw [len_ints]; exact hl, h.max, by omega, by rw [len_ints, Nat.mul_one]; exact ht⟩⟩
  have := h.fr
  rw [h.size] at this; rw [hs]; exact this
end
theorem len_int (l : List Int) : ∀ x ∈ encInts l, x.length = 1 := by
  intro c hc
  simp only [encInts, List.mem_map] at hc
  obtain ⟨x, _, rfl⟩ := hc; rfl
theorem new_owns {D : Dom} {w w' : World} {cs : Array Value} {cap : Nat} {l' : List Int} (hr : w'.heap[w.heap.size]? = some (.cells cs 3 (0, 0))) (hs : cs.size = cap) (hl : l'.length ≤ cap) (hm : cap ≤ maxLen) (ht : cs.toList.take l'.length = vInts l') :
    w'.owns (D.own w.heap.size) 3 1 (.slice (some ⟨w.heap.size, 0, none⟩) l'.length cap) (encInts l').length (vInts l') :=
  ⟨by rw [vInts_len, len_ints, Nat.mul_one], .inr ⟨w.heap.size, cap, cs, (0, 0), by rw [len_ints], .inl (Nat.le_refl _), hr, .inl ⟨rfl, rfl⟩, by rw [len_ints]; exact hl, hm, by omega, by rw [len_ints, Nat.mul_one]; exact ht⟩⟩
theorem vInts_app (a b : List Int) : vInts (a ++ b) = vInts a ++ vInts b := by simp [vInts]
theorem shift_take {c vl : List Value} {n p : Nat} {v : Value} (hn : c.take n = vl) (hl : vl.length = n) (hp : p ≤ n) (hc : n + 1 ≤ c.length) :
    (((c.take (p + 1) ++ vl.drop p ++ c.drop (p + 1 + (vl.drop p).length)).take p ++ [v] ++ (c.take (p + 1) ++ vl.drop p ++ c.drop (p + 1 + (vl.drop p).length)).drop (p + [v].length))).take (n + 1) = vl.take p ++ v :: vl.drop p ∧
    (((c.take (p + 1) ++ vl.drop p ++ c.drop (p + 1 + (vl.drop p).length)).take p ++ [v] ++ (c.take (p + 1) ++ vl.drop p ++ c.drop (p + 1 + (vl.drop p).length)).drop (p + [v].length))).length = c.length := by
  have h1 : (c.take (p + 1)).length = p + 1 := by rw [List.length_take]; omega
  have h2 : (vl.drop p).length = n - p := by rw [List.length_drop, hl]
  have e1 : (c.take (p + 1) ++ vl.drop p ++ c.drop (p + 1 + (vl.drop p).length)).take p = vl.take p := by
    rw [List.append_assoc, List.take_append_of_le_length (by omega), List.take_take, Nat.min_eq_left (by omega), ← hn, List.take_take, Nat.min_eq_left hp]
  have e2 : (c.take (p + 1) ++ vl.drop p ++ c.drop (p + 1 + (vl.drop p).length)).drop (p + [v].length) = vl.drop p ++ c.drop (p + 1 + (vl.drop p).length) := by
    rw [List.append_assoc]
    show List.drop (p + 1) _ = _
    rw [List.drop_left' h1]
  rw [e1, e2]
  constructor
  · have h3 : (vl.take p ++ [v] ++ vl.drop p).length = n + 1 := by simp [hl]; omega
    rw [← List.append_assoc, List.take_left' h3]; simp
  · simp [hl]; omega
set_option maxHeartbeats 4000000 in
theorem ins_ok (l : List Int) (p : Nat) (x : Int) (i j k : Nat) (hij : i ≠ j) (hik : k ≠ i) (hjk : k ≠ j) (hp : p ≤ l.length) (hl : l.length < 1099511627776) :
    Mut Try.prog 50 [(i, .live 3 1 (encInts l)), (j, .live 3 1 [[iv x]])] [.own i, iv (p : Int), .own j] (.own k) [(k, .live 3 1 (encInts (l.take p ++ x :: l.drop p))), (i, .dead), (j, .live 3 1 [[iv x]])] := by
  intro D w β vs hI hO hvs
  have hTi : tb [(i, Ob.live 3 1 (encInts l)), (j, Ob.live 3 1 [[iv x]])] i = .live 3 1 (encInts l) := by simp [tb, upd]
  have hTj : tb [(i, Ob.live 3 1 (encInts l)), (j, Ob.live 3 1 [[iv x]])] j = .live 3 1 (encInts [x]) := by simp [tb, upd, hij.symm]; rfl
  have hz : ([i, j] : List Nat).contains k = false := by simp [hik, hjk]
  have hlen : (l.take p ++ x :: l.drop p).length = l.length + 1 := by simp; omega
  have hvl : vInts (l.take p ++ x :: l.drop p) = (vInts l).take p ++ (.int .i64 x) :: (vInts l).drop p := by rw [vInts_app, vInts_take, vInts_drop]; rfl
  match vs, hvs with
  | [vi, va, vj], ⟨r1, r2, r3, _⟩ =>
    rw [own_inv r1 hTi, own_inv r3 hTj, r2.v_inv]
    have oi := ints_row hO hTi
    have oj := ints_row hO hTj
    rcases row_is oj with ⟨_, h⟩ | ⟨gj, cj, curj, frj, hJ⟩
    · cases h
    have hvx : ∀ (q : Nat) (u : Value), ([Value.int .i64 x] : List Value)[q]? = some u → w.cell? ⟨gj, 0 + q, none⟩ = some u := fun q u hu => hJ.get q u hu
    have h1v : ∀ v ∈ ([Value.int .i64 x] : List Value), v.oneCell' = true := one_ints [x]
    have hJo : w.owns (D.own w.heap.size) 3 1 (β j) 1 [.int .i64 x] := oj
    have hgj : gj < w.heap.size := (hJo.lt gj (by rw [hJ.val]; rfl)).2
    have ejv : β j = .slice (some ⟨gj, 0, none⟩) 1 cj := hJ.val
    have grow : ∀ (base : Option Addr) (c : Nat), β i = .slice base l.length c → p = l.length → l.length ≤ c → c < l.length + 1 → (base = none → l.length = 0) → (∀ a, base = some a → ∀ (q : Nat) (u : Value), (vInts l)[q]? = some u → w.cell? (a.add q) = some u) →
        Calls Try.prog 50 #[β i, .int .i64 (p : Int), β j] w fun e w' => (∃ v y L' β', e = .returned v ∧ (y = AV.own k ∧ L' = [(k, Ob.live 3 1 (encInts (l.take p ++ x :: l.drop p))), (i, .dead), (j, .live 3 1 [[iv x]])]) ∧ BelowK D.K w.heap.size w w' ∧ Objs D w.heap.size (tb L') β' w' ∧
          (∀ q, ([i, j] : List Nat).contains q = true → tb L' q ≠ .no ∧ β' q = β q) ∧ Rep (Im D w.heap.size (tb L') β' w') (tb L') β' w' y v) := by
      intro base c ei ep h1 h2 h3 h4
      rw [ei, ejv, ep]
      refine (Any2.slices_Insert_int_end_grow insLay base l.length c gj 0 1 cj (vInts l) [.int .i64 x] w (by omega) h1 h2 (by omega) (vInts_len l) rfl h3 h4 hvx h1v).mono ?_
      rintro e w' ⟨rfl, rfl⟩
      have hge := grownCap_ge w (l.length + 1) c (insRen.t 3)
      have hmx := grownCap_le_maxLen w (l.length + 1) c (insRen.t 3) (by simp only [maxLen]; omega)
      have hz1 : (Builtin.zeroCells (Value.int .i64 0).cells (grownCap w (l.length + 1) c (insRen.t 3) - (l.length + 1))).size = grownCap w (l.length + 1) c (insRen.t 3) - (l.length + 1) := by simp [Builtin.zeroCells, Value.cells]
      have hh := new_owns (D := D) (w := w) (w' := w.drew.alloc (.cells ((vInts l ++ [Value.int .i64 x]).toArray ++ Builtin.zeroCells (Value.int .i64 0).cells (grownCap w (l.length + 1) c (insRen.t 3) - (l.length + 1))) (insRen.t 3))) (cs := (vInts l ++ [Value.int .i64 x]).toArray ++ Builtin.zeroCells (Value.int .i64 0).cells (grownCap w (l.length + 1) c (insRen.t 3) - (l.length + 1))) (l' := l.take l.length ++ x :: l.drop l.length) (cap := grownCap w (l.length + 1) c (insRen.t 3)) ?_ ?_ ?_ hmx ?_
      · rw [show (l.take l.length ++ x :: l.drop l.length).length = l.length + 1 by simp] at hh
        exact own_made2 (row := none) hij hik hjk (grown_trans grown_drew (World.grownBy_alloc _ _ none)) (fun q hq => by cases hq) hh (len_int _) (rep_ints _) hJo ejv (by intro e; first | (cases e; done) | (injection e with e; exact hne e.symm)) (by intro e; simp only [Value.ownBlock, Option.some.injEq] at e; first | (exact hne e.symm) | omega)
      · exact World.alloc_heap_new w.drew _
      · rw [Array.size_append, hz1]; simp [vInts_len]; omega
      · simp; exact hge
      · rw [Array.toList_append, List.take_append_of_le_length (by simp [vInts_len]), List.take_of_length_le (by simp [vInts_len])]
        simp [vInts_app]; rfl
    rcases row_is oi with ⟨h1, h2⟩ | ⟨gi, ci, cur, fr, hR⟩
    · subst h2
      have hp0 : p = 0 := by simpa using hp
      refine (grow none 0 h1 (by simpa using hp0) (by simp) (by simp) (fun _ => rfl) (fun a ha => by cases ha)).mono ?_
      rintro e w' h; exact .inl h
    · have hne : gj ≠ gi := by
        intro e
        have := hO.inj i _ _ _ j _ _ _ gi hTi hTj (by rw [hR.val]; rfl) (by rw [ejv, e]; rfl)
        exact hij this
      have hmax := hR.max
      simp only [maxLen] at hmax
      by_cases hroom : l.length + 1 ≤ ci
      · by_cases hpl : p < l.length
        · rw [hR.val, ejv]
          refine (Any2.slices_Insert_int_shift insLay gi 0 l.length ci p gj 0 1 cj (vInts l) [.int .i64 x] w hpl (by omega) hroom (by omega) hne (vInts_len l) rfl hR.get (fun q hq => by rw [Nat.zero_add]; exact hR.there q (by omega)) (fun q hq => hR.thaw _) hvx (one_ints l) h1v
            _ _ _ _ hJ.shape hR.shape (by omega) (hJ.thaw _) (hJ.thaw _)).mono ?_
          rintro e w' ⟨rfl, rfl⟩
          refine .inl ?_
          have hcl : cur.toList.length = ci := by have := hR.size; simpa using this
          obtain ⟨t1, t2⟩ := shift_take (v := .int .i64 x) hR.take (vInts_len l) hp (by omega)
          have hd : ((vInts l).drop p).length = l.length - p := by simp [vInts_len]
          rw [Nat.zero_add, Nat.zero_add, setCells_row gi _ fr _ _ cur w.drew hR.row (by rw [hd, hR.size]; omega), setCells_row gi _ fr _ _ _ _ (setRow_heap w.drew gi cur _ _ fr hR.row) (by simp only [List.size_toArray, List.length_append, List.length_take, List.length_drop, hcl, vInts_len, List.length_singleton]; omega)]
          rw [setRow_setRow]
          have hh := hR.turned w.drew rfl (l' := l.take p ++ x :: l.drop p) (cs := _) (by rw [List.size_toArray]; exact t2.trans hcl) (by omega) (by rw [hlen]; exact t1.trans hvl.symm)
          rw [hlen] at hh
          exact own_made2 (row := some gi) hij hik hjk (grown_trans grown_drew grown_setRow) (fun q hq => by cases hq; exact hR.own) hh (len_int _) (rep_ints _) hJo ejv (by intro e; first | (cases e; done) | (injection e with e; exact hne e.symm)) (by intro e; simp only [Value.ownBlock, Option.some.injEq] at e; first | (exact hne e.symm) | omega)
        · have hpe : p = l.length := by omega
          subst hpe
          rw [hR.val, ejv]
          refine (Any2.slices_Insert_int_end_room insLay gi 0 l.length ci gj 0 1 cj [.int .i64 x] w (by omega) hroom (by omega) rfl (fun q hq => by rw [Nat.zero_add]; exact hR.there _ (by omega)) (fun q hq => hR.thaw _) hvx h1v).mono ?_
          rintro e w' ⟨rfl, rfl⟩
          refine .inl ?_
          have hcl : cur.toList.length = ci := by have := hR.size; simpa using this
          rw [Nat.zero_add, setCells_row gi _ fr _ _ cur w hR.row (by simp only [List.length_singleton, hR.size]; omega)]
          have hh := hR.turned w rfl (l' := l.take l.length ++ x :: l.drop l.length) (cs := (cur.toList.take l.length ++ [Value.int .i64 x] ++ cur.toList.drop (l.length + [Value.int .i64 x].length)).toArray) (by simp only [List.size_toArray, List.length_append, List.length_take, List.length_drop, hcl, List.length_singleton]; omega) (by omega)
            (by rw [hlen, hR.take, hvl]
                show List.take (l.length + 1) (vInts l ++ [Value.int .i64 x] ++ _) = _
                rw [List.take_left' (by simp [vInts_len])]
                rw [List.take_of_length_le (by rw [vInts_len]; exact Nat.le_refl _), List.drop_of_length_le (by rw [vInts_len]; exact Nat.le_refl _)])
          rw [hlen] at hh
          exact own_made2 (row := some gi) hij hik hjk grown_setRow (fun q hq => by cases hq; exact hR.own) hh (len_int _) (rep_ints _) hJo ejv (by intro e; first | (cases e; done) | (injection e with e; exact hne e.symm)) (by intro e; simp only [Value.ownBlock, Option.some.injEq] at e; first | (exact hne e.symm) | omega)
      · by_cases hpl : p < l.length
        · have hle := hR.le
          rw [hR.val, ejv]
          refine (Any2.slices_Insert_int_grow insLay gi 0 l.length ci p gj 0 1 cj (vInts l) [.int .i64 x] w hpl (by omega) hle (by omega) (by omega) (vInts_len l) rfl hR.get hvx (one_ints l) h1v).mono ?_
          rintro e w' ⟨rfl, rfl⟩
          refine .inl ?_
          have hge := grownCap_ge w (l.length + 1) ci (insRen.t 3)
          have hmx := grownCap_le_maxLen w (l.length + 1) ci (insRen.t 3) (by simp only [maxLen]; omega)
          generalize hG : grownCap w (l.length + 1) ci (insRen.t 3) = G at *
          generalize hA : (((vInts l).take p).toArray ++ Builtin.zeroCells (Value.int .i64 0).cells (l.length + 1 - p) ++ Builtin.zeroCells (Value.int .i64 0).cells (G - (l.length + 1))) = A
          have hAs : A.size = G := by rw [← hA]; simp [Builtin.zeroCells, Value.cells, vInts_len]; omega
          have hAt : A.toList.take p = (vInts l).take p := by rw [← hA, Array.toList_append, Array.toList_append, List.append_assoc, List.take_append_of_le_length (by simp [vInts_len]; omega)]; simp [List.take_take]
          have hrow : (w.alloc (.cells A (insRen.t 3))).drew.heap[w.heap.size]? = some (.cells A (insRen.t 3) (0, 0)) := World.alloc_heap_new w _
          have hd : ((vInts l).drop p).length = l.length - p := by simp [vInts_len]
          have hAl : A.toList.length = G := by simpa using hAs
          rw [setCells_row w.heap.size _ _ [Value.int .i64 x] p A _ hrow (by simp only [List.length_singleton]; omega)]
          generalize hC : (A.toList.take p ++ [Value.int .i64 x] ++ A.toList.drop (p + [Value.int .i64 x].length)).toArray = C
          have hCs : C.toList = (vInts l).take p ++ Value.int .i64 x :: A.toList.drop (p + 1) := by rw [← hC, hAt]; simp
          have hCl : C.toList.length = G := by rw [hCs]; simp [vInts_len, hAs]; omega
          have hrow2 : ((w.alloc (.cells A (insRen.t 3))).drew.setRow w.heap.size C).drew.heap[w.heap.size]? = some (.cells C (insRen.t 3) (0, 0)) := setRow_heap _ w.heap.size A C _ (0, 0) hrow
          rw [setCells_row w.heap.size _ (0, 0) ((vInts l).drop p) (p + 1) C _ hrow2 (by have := hCl; simp only [Array.length_toList] at this; rw [this, hd]; omega)]
          have h1l : ((vInts l).take p ++ [Value.int .i64 x]).length = p + 1 := by simp [vInts_len]; omega
          have hCt : C.toList.take (p + 1) = (vInts l).take p ++ [Value.int .i64 x] := by
            rw [hCs, show (vInts l).take p ++ Value.int .i64 x :: A.toList.drop (p + 1) = ((vInts l).take p ++ [Value.int .i64 x]) ++ A.toList.drop (p + 1) by simp, List.take_left' h1l]
          have hh := new_owns (D := D) (w := w) (w' := ((((w.alloc (.cells A (insRen.t 3))).drew.setRow w.heap.size C).drew).setRow w.heap.size (C.toList.take (p + 1) ++ (vInts l).drop p ++ C.toList.drop (p + 1 + ((vInts l).drop p).length)).toArray)) (cs := (C.toList.take (p + 1) ++ (vInts l).drop p ++ C.toList.drop (p + 1 + ((vInts l).drop p).length)).toArray) (l' := l.take p ++ x :: l.drop p) (cap := G) ?_ ?_ (by omega) hmx ?_
          · rw [hlen] at hh
            have hg1 : w.grownBy (w.alloc (.cells A (insRen.t 3))) none := World.grownBy_alloc _ _ none
            exact own_made2 (row := none) hij hik hjk (grown_over (g := w.heap.size) (grown_trans (grown_over (g := w.heap.size) (grown_trans hg1 grown_drew) grown_setRow (Nat.le_refl _)) grown_drew) grown_setRow (Nat.le_refl _)) (fun q hq => by cases hq) hh (len_int _) (rep_ints _) hJo ejv (by intro e; first | (cases e; done) | (injection e with e; exact hne e.symm)) (by intro e; simp only [Value.ownBlock, Option.some.injEq] at e; first | (exact hne e.symm) | omega)
          · exact setRow_heap _ w.heap.size C _ _ (0, 0) (setRow_heap _ w.heap.size A C _ (0, 0) hrow)
          · simp only [List.size_toArray, List.length_append, List.length_take, List.length_drop, hCl, vInts_len]; omega
          · rw [hlen, hvl, hCt]
            show List.take (l.length + 1) ((vInts l).take p ++ [Value.int .i64 x] ++ (vInts l).drop p ++ _) = _
            rw [List.take_left' (by simp [vInts_len]; omega)]; simp
        · refine (grow (some ⟨gi, 0, none⟩) ci hR.val (by omega) hR.le (by omega) (fun h => by cases h) (fun a ha q u hu => ?_)).mono ?_
          · cases ha; have := hR.get q u hu; rwa [Addr.add_lit]
          · rintro e w' h; exact .inl h
set_option maxHeartbeats 4000000 in
theorem del_ok (l : List Int) (p : Nat) (i k : Nat) (hik : k ≠ i) (hp : p < l.length) :
    Mut Try.prog 47 [(i, .live 3 1 (encInts l))] [.own i, iv (p : Int), iv ((p : Int) + 1)] (.own k) ((k, .live 3 1 (encInts (l.eraseIdx p))) :: deadL [i]) := by
  intro D w β vs hI hO hvs
  have hTi : tb [(i, Ob.live 3 1 (encInts l))] i = .live 3 1 (encInts l) := by simp [tb, upd]
  have hz : ([i] : List Nat).contains k = false := by simp [hik]
  have hle : (l.eraseIdx p).length = l.length - 1 := by simp [List.length_eraseIdx, hp]
  match vs, hvs with
  | [vi, va, vb], ⟨r1, r2, r3, _⟩ =>
    rw [own_inv r1 hTi, r2.v_inv, r3.v_inv]
    rcases row_is (ints_row hO hTi) with ⟨_, h⟩ | ⟨g, c, cur, fr, hR⟩
    · subst h; simp at hp
    have hmax := hR.max
    have hlc := hR.le
    simp only [maxLen] at hmax
    rw [hR.val]
    have hH : Go.Sort.Holds (Value.int .i64) w g 0 l.toArray := fun j hj => by
      have hj' : j < l.length := by simpa using hj
      refine ⟨hR.get j _ ?_, hR.thaw _⟩
      simp [vInts, hj']
    refine (Any.slices_Delete_int delLay g 0 c p (p + 1) l w hH hlc (by omega) (by omega) hp).mono ?_
    rintro e w' ⟨rfl, hw⟩
    refine .inl ?_
    obtain ⟨q, rfl⟩ := hw
    have hvl : (l.take p ++ l.drop (p + 1) ++ List.replicate (p + 1 - p) 0).length = l.length := by simp; omega
    have hcl : cur.toList.length = c := by have := hR.size; simpa using this
    rw [Go.Lib.putRow_eq_setCells _ w g 0 l.toArray _ q hH (by rw [hvl]; simp), setCells_row g _ fr _ 0 cur (w.drewN q) hR.row (by rw [List.length_map, hvl, hR.size]; omega)]
    have hml : ((l.take p ++ l.drop (p + 1) ++ List.replicate (p + 1 - p) 0).map (Value.int .i64)).length = l.length := by rw [List.length_map, hvl]
    have hh := hR.turned (w.drewN q) rfl (l' := l.eraseIdx p) (cs := (cur.toList.take 0 ++ (l.take p ++ l.drop (p + 1) ++ List.replicate (p + 1 - p) 0).map (Value.int .i64) ++ cur.toList.drop (0 + ((l.take p ++ l.drop (p + 1) ++ List.replicate (p + 1 - p) 0).map (Value.int .i64)).length)).toArray) (by simp only [List.size_toArray, List.length_append, List.length_take, List.length_drop, hcl, hml]; omega) (by omega)
      (by rw [hle, List.take_zero, List.nil_append]
          have h1 : ((l.take p ++ l.drop (p + 1)).map (Value.int .i64)).length = l.length - 1 := by simp; omega
          show List.take (l.length - 1) ((l.take p ++ l.drop (p + 1) ++ List.replicate (p + 1 - p) 0).map (Value.int .i64) ++ _) = _
          rw [List.map_append, List.append_assoc, List.take_left' h1, List.eraseIdx_eq_take_drop_succ]; rfl)
    rw [hle] at hh
    have e1 : l.length - (p + 1 - p) = l.length - 1 := by omega
    rw [e1]
    exact own_made (row := some g) hz (grown_trans (b := w.drewN q) ⟨rfl, rfl, rfl, Nat.le_refl _, fun _ _ _ => rfl⟩ grown_setRow) (fun q hq => by cases hq; exact hR.own) hh (len_int _) (rep_ints _)
end Go.Proofs.Ytemcemimipagoaa
