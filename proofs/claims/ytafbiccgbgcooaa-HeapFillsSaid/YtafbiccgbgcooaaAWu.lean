/- Abstract states: tables told row by row. -/
import Derived.Test.YtafbiccgbgcooaaAWt
namespace Go.Proofs.Ytafbiccgbgcooaa.AW
open Go Go.RowKit
set_option linter.unusedVariables false
set_option linter.unusedSimpArgs false

/-- A table, row by row. -/
def tb : List (Nat × Ob) → Nat → Ob
  | [] => noT
  | (i, o) :: l => upd (tb l) i o
theorem tb_keys : ∀ {l : List (Nat × Ob)} {j : Nat}, tb l j ≠ .no → j ∈ l.map (·.1)
  | [], j, h => absurd rfl h
  | (i, o) :: l, j, h => by
    simp only [tb, upd] at h
    by_cases hj : j = i
    · simp [hj]
    · rw [if_neg hj] at h
      exact List.mem_cons_of_mem _ (tb_keys h)
/-- What a row of the new table was. -/
inductive FzAt (r : Nat → Nat) (T T' : Nat → Ob) (j : Nat) : Prop
  | one (e s : Nat) (c c' : List AV) : T (r j) = .live e s [c] → T' j = .live e s [c'] → FzL r T T' c c' → FzAt r T T' j
  | same (e s : Nat) (es : List (List AV)) : T (r j) = .live e s es → T' j = .live e s es → (∀ c ∈ es, ∀ x ∈ c, NoOwn x) → FzAt r T T' j
  | rows (e s : Nat) (es es' : List (List AV)) : T (r j) = .live e s es → T' j = .live e s es' → es.length = es'.length → (∀ (q : Nat) (c c' : List AV), es[q]? = some c → es'[q]? = some c' → FzL r T T' c c') → FzAt r T T' j
  | dead : T' j = .dead → T (r j) ≠ .no → FzAt r T T' j
theorem fzT_of {r : Nat → Nat} {T T' : Nat → Ob} (keys : List Nat) (hk : ∀ j, T' j ≠ .no → j ∈ keys) (h : ∀ j ∈ keys, FzAt r T T' j) (hinj : ∀ i ∈ keys, ∀ j ∈ keys, r i = r j → i = j) : FzT r T T' := by
  refine ⟨fun j e s es' hj => ?_, fun j hj => ?_, fun i j hi hj hij => hinj i (hk i hi) j (hk j hj) hij⟩
  · cases h j (hk j (by rw [hj]; simp)) with
    | one e0 s0 c c' h1 h2 h3 =>
      rw [hj] at h2; cases h2
      refine ⟨[c], h1, rfl, fun q d d' hd hd' => ?_⟩
      cases q with
      | zero => simp at hd hd'; subst hd; subst hd'; exact h3
      | succ q => simp at hd
    | same e0 s0 es h1 h2 h3 =>
      rw [hj] at h2; cases h2
      refine ⟨_, h1, rfl, fun q d d' hd hd' => ?_⟩
      rw [hd] at hd'; cases hd'
      exact fzL_all (h3 d (List.mem_of_getElem? hd))
    | rows e0 s0 es es2 h1 h2 h3 h4 =>
      rw [hj] at h2; cases h2
      exact ⟨_, h1, h3, h4⟩
    | dead h1 => rw [hj] at h1; cases h1
  · cases h j (hk j hj) with
    | one e0 s0 c c' h1 => rw [h1]; simp
    | same e0 s0 es h1 => rw [h1]; simp
    | rows e0 s0 es es2 h1 => rw [h1]; simp
    | dead _ h1 => exact h1
/-- For a table told row by row. -/
def FzAll (r : Nat → Nat) (T T' : Nat → Ob) : List Nat → Prop
  | [] => True
  | j :: l => FzAt r T T' j ∧ FzAll r T T' l
theorem FzAll.mem {r : Nat → Nat} {T T' : Nat → Ob} : ∀ {l : List Nat}, FzAll r T T' l → ∀ j ∈ l, FzAt r T T' j
  | [], _, j, hj => by cases hj
  | i :: l, ⟨h1, h2⟩, j, hj => by
    rcases List.mem_cons.1 hj with rfl | hj
    · exact h1
    · exact FzAll.mem h2 j hj
theorem fzT_tb {r : Nat → Nat} {T : Nat → Ob} (l : List (Nat × Ob)) (h : FzAll r T (tb l) (l.map (·.1))) (hinj : ((l.map (·.1)).all fun i => (l.map (·.1)).all fun j => !(r i == r j) || i == j) = true := by rfl) : FzT r T (tb l) :=
  fzT_of (l.map (·.1)) (fun j hj => tb_keys hj) (fun j hj => h.mem j hj) fun i hi j hj hij => by
    have := List.all_eq_true.1 (List.all_eq_true.1 hinj i hi) j hj
    simpa [hij] using this
/-- New names, out of a list: (new, old). -/
def nm : List (Nat × Nat) → Nat → Nat
  | [], j => j
  | (a, b) :: l, j => if j = a then b else nm l j
section
variable {P : Program} {N : Nat} {Q : Exit → ASt → Prop} {st : ASt}
/-- The state is another one: rows under other names, some shared. -/
theorem ent_tb (r : Nat → Nat) (l : List (Nat × Ob)) {e : List (Nat × AV)} (h : FzAll r st.T (tb l) (l.map (·.1))) (he : FzE r st.T (tb l) st.env e)
    (hinj : ((l.map (·.1)).all fun i => (l.map (·.1)).all fun j => !(r i == r j) || i == j) = true := by rfl) : Ent st ⟨e, tb l⟩ := ent_fz r (fzT_tb l h hinj) he
theorem y_bw {o : Oper} {f : BinOp} {t t' : TypeId} {p q : Operand} {u v : Value} {n : Int} (ho : o.op = .binOp f t p q t' := by rfl) (hp : ev st p = some (.v u) := by rfl) (hq : ev st q = some (.v v) := by rfl)
    (hrun : ∀ w, (do eqGuard f t p q u v; binOp f t u v : Sem Value).run P w = .ok (.int .i64 (IntKind.i64.wrap n)) w := by intro w; rfl) (h : -9223372036854775808 ≤ n ∧ n ≤ 9223372036854775807 := by omega) : AYield P N Q o st (.v (.int .i64 n)) :=
  y_bin64 h ho hp hq hrun
/-- A comparison whose answer is known. -/
theorem y_bt {o : Oper} {f : BinOp} {t t' : TypeId} {p q : Operand} {u v : Value} {b : Bool} (ho : o.op = .binOp f t p q t' := by rfl) (hp : ev st p = some (.v u) := by rfl) (hq : ev st q = some (.v v) := by rfl)
    (hrun : ∀ w, (do eqGuard f t p q u v; binOp f t u v : Sem Value).run P w = .ok (.bool b) w := by intro w; rfl) (h : b = true := by first | (simp; done) | (simp; omega)) : AYield P N Q o st (.v (.bool true)) :=
  y_bin ho hp hq (h ▸ hrun)
theorem y_bf {o : Oper} {f : BinOp} {t t' : TypeId} {p q : Operand} {u v : Value} {b : Bool} (ho : o.op = .binOp f t p q t' := by rfl) (hp : ev st p = some (.v u) := by rfl) (hq : ev st q = some (.v v) := by rfl)
    (hrun : ∀ w, (do eqGuard f t p q u v; binOp f t u v : Sem Value).run P w = .ok (.bool b) w := by intro w; rfl) (h : b = false := by first | (simp; done) | (simp; omega)) : AYield P N Q o st (.v (.bool false)) :=
  y_bin ho hp hq (h ▸ hrun)
section steps
variable {ops : Array Oper} {i : Nat} {l : List Nat} {d : Nat}
/-- Strings, one behind the other. -/
theorem sa {t t' : TypeId} {p q : Operand} {u v : ByteArray} (k : AOps P N ops Q l (st.put d (.v (.string (u ++ v))))) (ho : (ops.getD i default).op = .binOp .add t p q t' := by rfl) (hp : ev st p = some (.v (.string u)) := by rfl)
    (hq : ev st q = some (.v (.string v)) := by rfl) (hi : Nat.blt i ops.size = true := by rfl) (hg : opAt N ops st i = true := by rfl) (hd : (ops.getD i default).dst = some d := by rfl) (hN : Nat.blt d N = true := by rfl)
    (h : u.size + v.size ≤ 9223372036854775807) : AOps P N ops Q (i :: l) st := st1 (y_adds h ho hp hq) k hi hg hd hN
theorem bt {f : BinOp} {t t' : TypeId} {p q : Operand} {u v : Value} {b : Bool} (k : AOps P N ops Q l (st.put d (.v (.bool true)))) (ho : (ops.getD i default).op = .binOp f t p q t' := by rfl) (hp : ev st p = some (.v u) := by rfl) (hq : ev st q = some (.v v) := by rfl)
    (hrun : ∀ w, (do eqGuard f t p q u v; binOp f t u v : Sem Value).run P w = .ok (.bool b) w := by intro w; rfl) (hi : Nat.blt i ops.size = true := by rfl)
    (hg : opAt N ops st i = true := by rfl) (hd : (ops.getD i default).dst = some d := by rfl) (hN : Nat.blt d N = true := by rfl) (h : b = true := by first | (simp; done) | (simp; omega)) : AOps P N ops Q (i :: l) st := st1 (y_bin ho hp hq (h ▸ hrun)) k hi hg hd hN
theorem bf {f : BinOp} {t t' : TypeId} {p q : Operand} {u v : Value} {b : Bool} (k : AOps P N ops Q l (st.put d (.v (.bool false)))) (ho : (ops.getD i default).op = .binOp f t p q t' := by rfl) (hp : ev st p = some (.v u) := by rfl) (hq : ev st q = some (.v v) := by rfl)
    (hrun : ∀ w, (do eqGuard f t p q u v; binOp f t u v : Sem Value).run P w = .ok (.bool b) w := by intro w; rfl) (hi : Nat.blt i ops.size = true := by rfl)
    (hg : opAt N ops st i = true := by rfl) (hd : (ops.getD i default).dst = some d := by rfl) (hN : Nat.blt d N = true := by rfl) (h : b = false := by first | (simp; done) | (simp; omega)) : AOps P N ops Q (i :: l) st := st1 (y_bin ho hp hq (h ▸ hrun)) k hi hg hd hN
end steps
end
end Go.Proofs.Ytafbiccgbgcooaa.AW
