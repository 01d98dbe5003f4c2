import Derived.Test.YtafbiccgbgcooaaDoorPValx4
import Derived.Test.YtafbiccgbgcooaaDoorVB
namespace Go.Proofs.YtafbiccgbgcooaaDoor.Pure
open Go.RowKit Go.Proofs.YtafbiccgbgcooaaDoor.PVal Go.Proofs.YtafbiccgbgcooaaDoorW.PrintWords Go.Proofs.YtafbiccgbgcooaaDoorW.PrintLast
open Go.Proofs.YtafbiccgbgcooaaDoor.VA
theorem ValueEven : anamnesislaw01_ValueEven.Pure := by
  intro a hw
  have hb := wf64 hw
  unfold anamnesislaw01_ValueEven.f
  simp only [n_eq, at_eq, may_eq, Option.bind_some, anamnesislaw01_fixed.f]
  unfold nOf atOf
  by_cases h : a % 2 = 1 ∧ -1073741824 ≤ a / 2 ∧ a / 2 ≤ 1073741823
  · have h2 : ¬ (a % 2 = 0 ∧ 0 ≤ a / 2 ∧ a / 2 < 1048576) := by omega
    simp only [if_pos h, if_neg h2, if_true, Bool.or_false, beq_self_eq_true, Bool.not_true, Bool.false_eq_true, if_false]
    rw [w_id (2 * (a / 2)) (by omega) (by omega), w_id _ (by omega) (by omega), if_pos (by omega)]
  · by_cases h2 : a % 2 = 0 ∧ 0 ≤ a / 2 ∧ a / 2 < 1048576
    · simp only [if_neg h, if_pos h2, if_true, Bool.false_or, beq_self_eq_true, Bool.not_true, Bool.false_eq_true, if_false]
      rw [w_id (2 * (a / 2)) (by omega) (by omega), if_pos (by omega), if_neg (by omega)]
    · simp only [if_neg h, if_neg h2]
      rfl
end Go.Proofs.YtafbiccgbgcooaaDoor.Pure
