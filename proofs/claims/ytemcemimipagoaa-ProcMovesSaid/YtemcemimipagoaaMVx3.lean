/- What the statements' walks need. -/
import Derived.Test.YtemcemimipagoaaMVa4
import Derived.Test.YtemcemimipagoaaMVx2
import Derived.Test.YtemcemimipagoaaMVa3
set_option linter.unusedVariables false
set_option linter.unusedSimpArgs false
set_option maxRecDepth 100000
namespace Go.Proofs.Ytemcemimipagoaa
open Go Go.Proofs AW
theorem indexFunc_int (xs : List Int) (g : Nat) (caps : List AV) (p : Int → Bool) (hg : goFn Try.prog g = true) (hcaps : NoOwnL caps) (hp : ∀ x ∈ xs, Gives Try.prog g (iv x :: caps) (bv (p x))) (hlen : xs.length < 1099511627776) :
    Gives Try.prog 30 [.sl 1 (encInts xs), .clo g caps] (iv (findI p xs)) := by
  refine gives_of Try.func30 rfl (Nat.le_of_ble_eq_true rfl) ?_
  (repeat' (first | refine mv ?_ | refine asg ?_ | refine ln ?_ | refine aops_nil ?_ | refine aw_seq ?_ | refine aw_region ?_ | refine aw_block ?_ | fail))
  refine aw_for xs.length (fun k => k ≤ xs.length ∧ ∀ (j : Nat) (y : Int), j < k → xs[j]? = some y → p y = false) (fun k => ⟨[(8, iv (k : Int)), (7, iv ((encInts xs).length : Int)), (0, .sl 1 (encInts xs)), (1, .clo g caps)], noT⟩)
    0 ⟨by omega, by omega⟩ (ent_env ⟨rfl, rfl, rfl, rfl, trivial⟩) ?_
  rintro k ⟨hk, hprev⟩
  (repeat' (first | refine bi ?_ | refine aops_nil ?_ | refine aw_seq ?_ | refine aw_region ?_ | fail))
  refine aw_cond rfl (fun h => ?_) (fun h => ?_) <;> simp at h
  · (repeat' (first | refine mv ?_ | refine asg ?_ | refine aops_nil ?_ | refine aw_seq ?_ | refine aw_region ?_ | refine aw_block ?_ | refine aw_skip ?_ | fail))
    have hget : xs[k]? = some xs[k] := List.getElem?_eq_getElem h
    refine ia k (ints_get hget) ?_
    (repeat' (first | refine ld ?_ | fail))
    refine cl (hp xs[k] (List.getElem_mem h)) ?_ (hg' := hg) (hno := ⟨.v _, hcaps⟩)
    (repeat' (first | refine aops_nil ?_ | fail))
    refine aw_cond rfl (fun h2 => ?_) (fun h2 => ?_)
    · (repeat' (first | refine mv ?_ | refine asg ?_ | refine aops_nil ?_ | refine aw_seq ?_ | refine aw_region ?_ | refine aw_ret ?_ | fail))
      refine fin (sh_iv ?_)
      rw [findI_at hget h2 hprev]
    · (repeat' (first | refine mv ?_ | refine bw ?_ | refine aops_nil ?_ | refine aw_region ?_ | refine aw_skip ?_ | fail))
      refine ⟨h, ⟨by omega, fun j y hj hy => ?_⟩, ent_env ⟨rfl, rfl, rfl, rfl, trivial⟩⟩
      by_cases hjk : j = k
      · subst hjk; rw [hget] at hy; cases hy; exact h2
      · exact hprev j y (by omega) hy
  · (repeat' (first | refine asg ?_ | refine aops_nil ?_ | refine aw_seq ?_ | refine aw_region ?_ | refine aw_exit ?_ | refine aw_ret ?_ | fail))
    refine fin (sh_iv ?_)
    rw [findI_none fun j y hy => hprev j y (by have := (List.getElem?_eq_some_iff.1 hy).1; omega) hy]
theorem containsFunc_int (xs : List Int) (g : Nat) (caps : List AV) (p : Int → Bool) (hg : goFn Try.prog g = true) (hcaps : NoOwnL caps) (hp : ∀ x ∈ xs, Gives Try.prog g (iv x :: caps) (bv (p x))) (hlen : xs.length < 1099511627776) :
    Gives Try.prog 72 [.sl 1 (encInts xs), .clo g caps] (bv (xs.any p)) := by
  refine gives_of Try.func72 rfl (Nat.le_of_ble_eq_true rfl) ?_
  (repeat' (first | refine mv ?_ | refine asg ?_ | refine aops_nil ?_ | refine aw_seq ?_ | refine aw_region ?_ | fail))
  refine cl (indexFunc_int xs g caps p hg hcaps hp hlen) ?_ (hno := ⟨noOwn_ints 1 xs, .clo _ _ hcaps.mem, trivial⟩)
  (repeat' (first | refine asg ?_ | refine bi ?_ | refine aops_nil ?_ | refine aw_ret ?_ | fail))
  exact fin (sh_bv (findI_any p xs))
theorem indexFunc_obj (xs : List HObj) (g : Nat) (caps : List AV) (p : HObj → Bool) (hg : goFn Try.prog g = true) (hcaps : NoOwnL caps) (hp : ∀ x ∈ xs, Gives Try.prog g (.agg (encObj x) :: caps) (bv (p x))) (hlen : xs.length < 1099511627776) :
    Gives Try.prog 69 [.sl 6 (encObjs xs), .clo g caps] (iv (findI p xs)) := by
  refine gives_of Try.func69 rfl (Nat.le_of_ble_eq_true rfl) ?_
  (repeat' (first | refine mv ?_ | refine asg ?_ | refine ln ?_ | refine aops_nil ?_ | refine aw_seq ?_ | refine aw_region ?_ | refine aw_block ?_ | fail))
  refine aw_for xs.length (fun k => k ≤ xs.length ∧ ∀ (j : Nat) (y : HObj), j < k → xs[j]? = some y → p y = false) (fun k => ⟨[(8, iv (k : Int)), (7, iv ((encObjs xs).length : Int)), (0, .sl 6 (encObjs xs)), (1, .clo g caps)], noT⟩)
    0 ⟨by omega, by omega⟩ (ent_env ⟨rfl, rfl, rfl, rfl, trivial⟩) ?_
  rintro k ⟨hk, hprev⟩
  (repeat' (first | refine bi ?_ | refine aops_nil ?_ | refine aw_seq ?_ | refine aw_region ?_ | fail))
  refine aw_cond rfl (fun h => ?_) (fun h => ?_) <;> simp at h
  · (repeat' (first | refine mv ?_ | refine asg ?_ | refine aops_nil ?_ | refine aw_seq ?_ | refine aw_region ?_ | refine aw_block ?_ | refine aw_skip ?_ | fail))
    have hget : xs[k]? = some xs[k] := List.getElem?_eq_getElem h
    refine ia k (objs_get hget) ?_
    (repeat' (first | refine la ?_ | fail))
    refine cl (hp xs[k] (List.getElem_mem h)) ?_ (hg' := hg) (hno := ⟨noOwn_aobj _, hcaps⟩)
    (repeat' (first | refine aops_nil ?_ | fail))
    refine aw_cond rfl (fun h2 => ?_) (fun h2 => ?_)
    · (repeat' (first | refine mv ?_ | refine asg ?_ | refine aops_nil ?_ | refine aw_seq ?_ | refine aw_region ?_ | refine aw_ret ?_ | fail))
      refine fin (sh_iv ?_)
      rw [findI_at hget h2 hprev]
    · (repeat' (first | refine mv ?_ | refine bw ?_ | refine aops_nil ?_ | refine aw_region ?_ | refine aw_skip ?_ | fail))
      refine ⟨h, ⟨by omega, fun j y hj hy => ?_⟩, ent_env ⟨rfl, rfl, rfl, rfl, trivial⟩⟩
      by_cases hjk : j = k
      · subst hjk; rw [hget] at hy; cases hy; exact h2
      · exact hprev j y (by omega) hy
  · (repeat' (first | refine asg ?_ | refine aops_nil ?_ | refine aw_seq ?_ | refine aw_region ?_ | refine aw_exit ?_ | refine aw_ret ?_ | fail))
    refine fin (sh_iv ?_)
    rw [findI_none fun j y hy => hprev j y (by have := (List.getElem?_eq_some_iff.1 hy).1; omega) hy]
theorem containsFunc_obj (xs : List HObj) (g : Nat) (caps : List AV) (p : HObj → Bool) (hg : goFn Try.prog g = true) (hcaps : NoOwnL caps) (hp : ∀ x ∈ xs, Gives Try.prog g (.agg (encObj x) :: caps) (bv (p x))) (hlen : xs.length < 1099511627776) :
    Gives Try.prog 52 [.sl 6 (encObjs xs), .clo g caps] (bv (xs.any p)) := by
  refine gives_of Try.func52 rfl (Nat.le_of_ble_eq_true rfl) ?_
  (repeat' (first | refine mv ?_ | refine asg ?_ | refine aops_nil ?_ | refine aw_seq ?_ | refine aw_region ?_ | fail))
  refine cl (indexFunc_obj xs g caps p hg hcaps hp hlen) ?_ (hno := ⟨noOwn_objs 6 xs, .clo _ _ hcaps.mem, trivial⟩)
  (repeat' (first | refine asg ?_ | refine bi ?_ | refine aops_nil ?_ | refine aw_ret ?_ | fail))
  exact fin (sh_bv (findI_any p xs))
end Go.Proofs.Ytemcemimipagoaa
