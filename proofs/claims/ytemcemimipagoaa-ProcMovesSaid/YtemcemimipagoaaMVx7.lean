/- What the statements' walks need. -/
import Derived.Test.YtemcemimipagoaaMVa4
import Derived.Test.YtemcemimipagoaaMVx4
import Derived.Test.YtemcemimipagoaaMVa2
set_option linter.unusedVariables false
set_option linter.unusedSimpArgs false
set_option maxRecDepth 100000
namespace Go.Proofs.Ytemcemimipagoaa
open Go Go.Proofs AW
theorem rmost_ok : Gives Try.prog 81 [] (iv 9223372036854775807) := by
  refine gives_of Try.func81 rfl (Nat.le_of_ble_eq_true rfl) ?_
  (repeat' (first | refine asg ?_ | refine aops_nil ?_ | refine aw_seq ?_ | refine aw_region ?_ | refine aw_ret ?_ | fail))
  exact fin (.same _ (.v _))
theorem rNaN_ok : Gives Try.prog 61 [] (iv 9221120237041090561) := by
  refine gives_of Try.func61 rfl (Nat.le_of_ble_eq_true rfl) ?_
  (repeat' (first | refine asg ?_ | refine aops_nil ?_ | refine aw_seq ?_ | refine aw_region ?_ | refine aw_ret ?_ | fail))
  exact fin (.same _ (.v _))
theorem rplain_ok (a : Int) : Gives Try.prog 75 [iv a] (iv (a % 9223372036854775808)) := by
  refine gives_of Try.func75 rfl (Nat.le_of_ble_eq_true rfl) ?_
  (repeat' (first | refine mv ?_ | refine asg ?_ | refine aops_nil ?_ | refine aw_seq ?_ | refine aw_region ?_ | fail))
  refine cl rmost_ok ?_
  (repeat' (first | refine asg ?_ | refine ms 63 ?_ | refine aops_nil ?_ | refine aw_ret ?_ | fail))
  refine fin (sh_iv ?_)
  simp
def kindI (a : Int) : Int :=
  let x := a % 9223372036854775808 / 4503599627370496
  let f := a % 9223372036854775808 % 4503599627370496
  if x = 2047 then (if f = 0 then 1 else 0) else if 0 < x then 4 else if 0 < f then 3 else 2
theorem rKind_ok (a : Int) : Gives Try.prog 60 [iv a] (iv (kindI a)) := by
  have e : (a % 9223372036854775808).tmod 4503599627370496 = a % 9223372036854775808 % 4503599627370496 := Int.tmod_eq_emod_of_nonneg (Int.emod_nonneg _ (by decide))
  refine gives_of Try.func60 rfl (Nat.le_of_ble_eq_true rfl) ?_
  (repeat' (first | refine mv ?_ | refine asg ?_ | refine sr ?_ | refine rm ?_ | refine bi ?_ | refine aops_nil ?_ | refine aw_seq ?_ | refine aw_region ?_ | refine aw_skip ?_ | refine aw_ret ?_ | refine cl (rplain_ok _) ?_ | refine aw_cond rfl (fun h => ?_) (fun h => ?_) | fail))
  all_goals refine fin (sh_iv ?_)
  all_goals simp [e, IntKind.bits] at *
  all_goals simp [kindI]
  all_goals grind
theorem kind0 (a : Int) : kindI a = 0 ↔ ¬ a % 9223372036854775808 ≤ 9218868437227405312 := by
  unfold kindI
  simp only
  constructor
  · intro h
    split at h
    · split at h <;> omega
    · split at h
      · omega
      · split at h <;> omega
  · intro h
    rw [if_pos (by omega), if_neg (by omega)]
theorem rcanon_ok (a : Int) : Gives Try.prog 45 [iv a] (iv (canI a)) := by
  have k := kind0 a
  refine gives_of Try.func45 rfl (Nat.le_of_ble_eq_true rfl) ?_
  (repeat' (first | refine mv ?_ | refine asg ?_ | refine bi ?_ | refine aops_nil ?_ | refine aw_seq ?_ | refine aw_region ?_ | refine aw_skip ?_ | refine aw_ret ?_ | refine cl (rKind_ok _) ?_ | refine cl rNaN_ok ?_ | refine aw_cond rfl (fun h => ?_) (fun h => ?_) | fail))
  all_goals refine fin (sh_iv ?_)
  all_goals simp [k] at *
  all_goals simp [canI]
  all_goals omega
end Go.Proofs.Ytemcemimipagoaa
