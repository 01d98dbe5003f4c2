/- Abstract states: what a function's call gives, and calls. -/
import Derived.Test.YtafbiccgbgcooaaAWd
import Derived.Laws.Build
namespace Go.Proofs.Ytafbiccgbgcooaa.AW
open Go Go.RowKit
set_option linter.unusedVariables false

/-- Slot for slot. -/
def All2 (R : AV → Value → Prop) : List AV → List Value → Prop
  | [], [] => True
  | x :: xs, y :: ys => R x y ∧ All2 R xs ys
  | _, _ => False
def noβ : Nat → Value := fun _ => undef

/-- WHAT A CALL GIVES: of arguments that nobody turns: what is told ('R': its meaning, and the rows that are the caller's from now on). -/
def Ok (P : Program) (f : Nat) (args : List AV) (R : AV → (Nat → Ob) → Prop) : Prop :=
  ∀ (I0 : Nat → Prop) (w : World) (vs : List Value), (∀ b, I0 b → b < w.heap.size) → All2 (Rep I0 noT noβ w) args vs →
    Calls P f vs.toArray w fun e w' => False ∨ ∃ v x T β, e = .returned v ∧ R x T ∧ Below w.heap.size w w' ∧ Objs I0 w.heap.size T β w' ∧ Rep (Im I0 w.heap.size T β w') T β w' x v
/-- It gives what nobody turns. -/
def Gives (P : Program) (f : Nat) (args : List AV) (x : AV) : Prop := Ok P f args fun y T => y = x ∧ T = noT

section
variable {P : Program} {N : Nat} {Q : Exit → ASt → Prop} {st : ASt} {I0 : Nat → Prop} {w0 : World} {β : Nat → Value} {a : Act} {w : World}

/-- The slots at a call's begin. -/
def argEnv : Nat → List AV → List (Nat × AV)
  | _, [] => []
  | i, x :: xs => (i, x) :: argEnv (i + 1) xs
theorem argEnv_get : ∀ (l : List AV) (i t : Nat) (x : AV), get (argEnv i l) t = some x → i ≤ t ∧ l[t - i]? = some x
  | [], i, t, x, h => by simp [argEnv, get] at h
  | y :: ys, i, t, x, h => by
    simp only [argEnv, get] at h
    by_cases hi : i = t
    · rw [if_pos hi] at h; cases h; subst hi; simp
    · rw [if_neg hi] at h
      obtain ⟨h1, h2⟩ := argEnv_get ys (i + 1) t x h
      refine ⟨by omega, ?_⟩
      have : t - i = (t - (i + 1)) + 1 := by omega
      rw [this]; simpa using h2
theorem All2.get {R : AV → Value → Prop} : ∀ {l : List AV} {vs : List Value}, All2 R l vs → ∀ {j : Nat} {x : AV}, l[j]? = some x → ∃ y, vs[j]? = some y ∧ R x y
  | [], [], _, j, x, h => by simp at h
  | x :: xs, y :: ys, ⟨h1, h2⟩, 0, z, h => by simp at h; subst h; exact ⟨y, rfl, h1⟩
  | x :: xs, y :: ys, ⟨h1, h2⟩, j + 1, z, h => by simp at h; simpa using All2.get h2 h
  | [], _ :: _, hh, _, _, _ => hh.elim
  | _ :: _, [], hh, _, _, _ => hh.elim
theorem All2.length {R : AV → Value → Prop} : ∀ {l : List AV} {vs : List Value}, All2 R l vs → l.length = vs.length
  | [], [], _ => rfl
  | x :: xs, y :: ys, ⟨h1, h2⟩ => by simp [All2.length h2]
  | [], _ :: _, hh => hh.elim
  | _ :: _, [], hh => hh.elim

/-- The results' slots, together. -/
def cellOf (P : Program) (st : ASt) (t : Nat) (x : AV) : Option AV := match look st x, szOf P t with
  | some cs, some (n, ag) => bif ag then (bif Nat.ble n cs.length then some (.agg (cs.take n)) else none) else cs[0]?
  | _, _ => none
def resOf (P : Program) (st : ASt) : List ResultVar → Option (List AV)
  | [] => some []
  | .tmp t :: r => match get st.env t, resOf P st r with
    | some x, some xs => some (x :: xs)
    | _, _ => none
  | .cell a t :: r => match (get st.env a).bind (cellOf P st t), resOf P st r with
    | some x, some xs => some (x :: xs)
    | _, _ => none
def resTup : List AV → AV
  | [x] => x
  | l => .tup l
def resA (P : Program) (fn : Func) (st : ASt) : Option AV := (resOf P st fn.results.toList).map resTup

/-- FROM THE WALK TO THE CALL. -/
theorem ok_of {f : Nat} {fn : Func} {c : Code} {args : List AV} {R : AV → (Nat → Ob) → Prop} (hf : P.funcs[f]? = some fn) (hb : fn.body = some c) (hn : args.length ≤ fn.ntmps)
    (h : AWp P fn.ntmps c (fun e st => (e = .ret ∨ e = .normal) ∧ ∃ x, resA P fn st = some x ∧ R x st.T) ⟨argEnv 0 args, noT⟩) : Ok P f args R := by
  intro I0 w vs hI hvs
  have hl := hvs.length
  refine calls_of_wp hf hb ?_
  have hr0 : Rel fn.ntmps I0 w ⟨argEnv 0 args, noT⟩ noβ { tmps := vs.toArray ++ Array.replicate (fn.ntmps - vs.toArray.size) undef, defers := [] } w := by
    refine ⟨hI, ?_, rfl, ?_, ⟨fun i e s es hh => (by cases hh), fun i e s es j e' s' es' b hh => (by cases hh)⟩, Below.refl _ w⟩
    · simp; omega
    · intro t x hx
      obtain ⟨_, h1⟩ := argEnv_get args 0 t x hx
      obtain ⟨y, h2, h3⟩ := hvs.get h1
      simp only [Nat.sub_zero] at h2
      have hlt : t < vs.length := (List.getElem?_eq_some_iff.1 h2).1
      have e1 : (vs.toArray ++ Array.replicate (fn.ntmps - vs.toArray.size) undef).getD t undef = y := by
        rw [Array.getD_eq_getD_getElem?, Array.getElem?_append_left (by simpa using hlt)]
        simp [h2]
      rw [e1]
      exact h3.mono (fun b hb => ⟨⟨.inl hb, hI b hb, fun i e s es h => (by cases h)⟩, fun o => rfl⟩) (fun i hi => absurd rfl hi)
  refine wp_mono (h I0 w noβ _ w hr0) ?_
  rintro e a' w' (hF | ⟨st', β', h1, h2, x, h3, h4⟩)
  · exact hF.elim
  · have hres : ∃ v, (results fn a'.tmps).run P w' = .ok v w' ∧ Rep (Im I0 w.heap.size st'.T β' w') st'.T β' w' x v := by
      have many : ∀ (l : List ResultVar) (xs : List AV), resOf P st' l = some xs →
          ∃ vs : List Value, (l.mapM (m := Sem) fun | .tmp t => pure (a'.tmps.getD t undef) | .cell a t => do loadVar t (← asAddr (a'.tmps.getD a undef))).run P w' = .ok vs w' ∧ vs.length = xs.length ∧
            ∀ (j : Nat) (p : AV) (u : Value), xs[j]? = some p → vs[j]? = some u → Rep (Im I0 w.heap.size st'.T β' w') st'.T β' w' p u := by
        intro l
        induction l with
        | nil => intro xs hx; simp [resOf] at hx; subst hx; exact ⟨[], by simp, rfl, by simp⟩
        | cons r l ih =>
          intro xs hx
          cases r with
          | cell b t =>
            simp only [resOf] at hx
            split at hx
            · rename_i p ps hg hm
              cases hx
              obtain ⟨vs, hv1, hv2, hv3⟩ := ih ps hm
              obtain ⟨q, hq1, hq2⟩ := Option.bind_eq_some_iff.1 hg
              have hev : ev st' (.tmp b) = some q := hq1
              have hld : ∃ v, (loadVar t · : Addr → Sem Value) = (loadVar t ·) ∧ (do loadVar t (← asAddr (a'.tmps.getD b undef)) : Sem Value).run P w' = .ok v w' ∧ Rep (Im I0 w.heap.size st'.T β' w') st'.T β' w' p v := by
                unfold cellOf at hq2
                split at hq2
                · rename_i cs n ag hlk hsz
                  obtain ⟨bb, of, us, he, hc⟩ := look_of h1 hev hlk
                  have he' : a'.tmps.getD b undef = .pointer (some ⟨bb, of, none⟩) := he
                  cases ag with
                  | false =>
                    simp only [cond_false] at hq2
                    obtain ⟨h3, h4⟩ := hc 0 p hq2
                    have h3' : w'.cell? ⟨bb, of, none⟩ = some (us 0) := by simpa using h3
                    refine ⟨us 0, rfl, ?_, h4⟩
                    rw [he']
                    simp [asAddr, loadVar, Sem.run_bind, (szOf_run hsz w').2, Go.load, Sem.run, h3']
                  | true =>
                    simp only [cond_true, Bool.cond_eq_ite] at hq2
                    by_cases hn : Nat.ble n cs.length = true
                    · rw [if_pos hn] at hq2
                      cases hq2
                      have hn : n ≤ cs.length := by simpa using hn
                      refine ⟨.agg ((List.range n).map us).toArray, rfl, ?_, .agg _ _ (by simp [hn]) fun j y v hy hv => ?_⟩
                      · have hlc := run_loadCells_list (P := P) w' ⟨bb, of, none⟩ ((List.range n).map us) (fun j v hv => by
                          rw [Addr.add_mid]
                          simp only [List.getElem?_map] at hv
                          have hj : j < n := by
                            rcases Nat.lt_or_ge j n with h | h
                            · exact h
                            · rw [List.getElem?_eq_none (by simpa using h)] at hv; cases hv
                          rw [List.getElem?_range hj] at hv
                          simp only [Option.map_some, Option.some.injEq] at hv
                          subst hv
                          exact (hc j cs[j] (List.getElem?_eq_getElem (by omega))).1)
                        simp only [List.length_map, List.length_range] at hlc
                        rw [he']
                        simp [asAddr, loadVar, Sem.run_bind, (szOf_run hsz w').1, (szOf_run hsz w').2, hlc]
                      · have hj : j < n := by
                          have := (List.getElem?_eq_some_iff.1 hy).1
                          simp at this; omega
                        rw [List.getElem?_take_of_lt hj] at hy
                        simp [hj] at hv
                        subst hv
                        exact (hc j y hy).2
                    · rw [if_neg hn] at hq2; cases hq2
                · cases hq2
              obtain ⟨v, _, hv4, hv5⟩ := hld
              refine ⟨v :: vs, ?_, by simp [hv2], ?_⟩
              · simp only [List.mapM_cons, Sem.run_bind, Sem.run_pure, Result.andThen_ok, hv1]
                simp only [Sem.run_bind] at hv4
                rw [hv4]
                simp only [Result.andThen_ok, hv1]
              · intro j q u hq hu
                cases j with
                | zero => simp only [List.getElem?_cons_zero, Option.some.injEq] at hq hu; subst hq; subst hu; exact hv5
                | succ j => simp only [List.getElem?_cons_succ] at hq hu; exact hv3 j q u hq hu
            · cases hx
          | tmp t =>
            simp only [resOf] at hx
            split at hx
            · rename_i p ps hg hm
              cases hx
              obtain ⟨vs, hv1, hv2, hv3⟩ := ih ps hm
              refine ⟨a'.tmps.getD t undef :: vs, ?_, by simp [hv2], ?_⟩
              · simp only [List.mapM_cons, Sem.run_bind, Sem.run_pure, Result.andThen_ok, hv1]
              · intro j q u hq hu
                cases j with
                | zero => simp only [List.getElem?_cons_zero, Option.some.injEq] at hq hu; subst hq; subst hu; exact h1.env t p hg
                | succ j => simp only [List.getElem?_cons_succ] at hq hu; exact hv3 j q u hq hu
            · cases hx
      cases hm : resOf P st' fn.results.toList with
      | none => simp [resA, hm] at h3
      | some xs =>
        simp only [resA, hm, Option.map_some, Option.some.injEq] at h3
        subst h3
        obtain ⟨us, hu1, hu2, hu3⟩ := many _ _ hm
        have hrun : (results fn a'.tmps).run P w' = .ok (if h : us.toArray.size = 1 then us.toArray[0] else .tuple us.toArray) w' := by
          unfold results
          rw [Sem.run_bind, Array.mapM_eq_mapM_toList]
          simp only [Sem.run_map]
          erw [hu1]
          rfl
        refine ⟨_, hrun, ?_⟩
        by_cases h1' : us.length = 1
        · obtain ⟨u, rfl⟩ : ∃ u, us = [u] := List.length_eq_one_iff.1 h1'
          obtain ⟨p, rfl⟩ : ∃ p, xs = [p] := List.length_eq_one_iff.1 (by rw [← hu2]; rfl)
          exact hu3 0 p u rfl rfl
        · rw [dif_neg (by simpa using h1')]
          have : resTup xs = .tup xs := by
            match xs, hu2 with
            | [], _ => rfl
            | [p], hu2 => exact absurd hu2 h1'
            | p :: q :: r, _ => rfl
          rw [this]
          exact .tup xs us.toArray (by simpa using hu2.symm) fun j p u hp hu => hu3 j p u hp (by simpa using hu)
    obtain ⟨v, hv1, hv2⟩ := hres
    have hfin : a'.defers = [] ∧ ∃ v, (results fn a'.tmps).run P w' = .ok v w' ∧ (False ∨ ∃ v_1 x T β, Ending.returned v = .returned v_1 ∧ R x T ∧ Below w.heap.size w w' ∧ Objs I0 w.heap.size T β w' ∧ Rep (Im I0 w.heap.size T β w') T β w' x v_1) :=
      ⟨h1.defers, v, hv1, .inr ⟨v, x, st'.T, β', rfl, h4, h1.below, h1.objs, hv2⟩⟩
    rcases h2 with rfl | rfl <;> exact hfin
end
end Go.Proofs.Ytafbiccgbgcooaa.AW
