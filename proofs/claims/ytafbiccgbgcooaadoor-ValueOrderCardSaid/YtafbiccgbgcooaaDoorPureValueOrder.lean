import Derived.Test.YtafbiccgbgcooaaDoorPValx4
import Derived.Test.YtafbiccgbgcooaaDoorVB
namespace Go.Proofs.YtafbiccgbgcooaaDoor.Pure
open Go.RowKit Go.Proofs.YtafbiccgbgcooaaDoor.PVal Go.Proofs.YtafbiccgbgcooaaDoorW.PrintWords Go.Proofs.YtafbiccgbgcooaaDoorW.PrintLast
open Go.Proofs.YtafbiccgbgcooaaDoor.VA
theorem ord_j0 (a b : Int) (ha : -9223372036854775808 ≤ a ∧ a ≤ 9223372036854775807) (hb : -9223372036854775808 ≤ b ∧ b ≤ 9223372036854775807) :
    anamnesislaw01_ValueOrder.j0 1 a b (intOf a).1 (intOf a).2 (intOf b).1 (intOf b).2 false = some true := by
  unfold anamnesislaw01_ValueOrder.j0
  simp only [Bool.false_eq_true, if_false, int_eq, Option.bind_some]
  by_cases h1 : -1073741824 ≤ a ∧ a ≤ 1073741823
  · by_cases h2 : -1073741824 ≤ b ∧ b ≤ 1073741823
    · have e1 : intOf a = (2 * a + 1, true) := if_pos h1
      have e2 : intOf b = (2 * b + 1, true) := if_pos h2
      have c : (decide (2 * a + 1 < 2 * b + 1) == decide (a < b)) = true := by
        by_cases h : a < b
        · simp [h]
        · simp [h]
      simp only [e1, e2, if_true, c]
      rw [w_id (a + b) (by omega) (by omega)]
      by_cases h3 : -1073741824 ≤ a + b ∧ a + b ≤ 1073741823
      · have e3 : intOf (a + b) = (2 * (a + b) + 1, true) := if_pos h3
        simp only [e3, if_true]
        rw [w_id (2 * a + 1 + (2 * b + 1)) (by omega) (by omega), w_id _ (by omega) (by omega), if_pos (by omega), if_pos (by omega)]
        simp; omega
      · have e3 : intOf (a + b) = (0, false) := if_neg h3
        simp only [e3, Bool.false_eq_true, if_false]
        by_cases h4 : a + b ≥ -1073741824
        · rw [if_pos h4]; simp; omega
        · rw [if_neg h4]; rfl
    · have e2 : intOf b = (0, false) := if_neg h2
      simp only [e2, Bool.false_eq_true, if_false]
      split <;> rfl
  · have e1 : intOf a = (0, false) := if_neg h1
    simp only [e1, Bool.false_eq_true, if_false]
theorem ValueOrder : anamnesislaw01_ValueOrder.Pure := by
  intro a b hwa hwb
  have ha := wf64 hwa; have hb := wf64 hwb
  refine ⟨1, ?_⟩
  unfold anamnesislaw01_ValueOrder.f
  simp only [int_eq, ref_eq, Option.bind_some, anamnesislaw01_fixed.f]
  have c : (refOf a).2 = true → (refOf b).2 = true → (!decide ((refOf a).1 < (refOf b).1) == decide (a < b)) = false := by
    unfold refOf
    intro h1 h2
    by_cases z1 : 0 ≤ a ∧ a < 1048576
    · by_cases z2 : 0 ≤ b ∧ b < 1048576
      · rw [if_pos z1, if_pos z2]
        by_cases h : a < b
        · simp [h]
        · simp [h]
      · rw [if_neg z2] at h2; cases h2
    · rw [if_neg z1] at h1; cases h1
  by_cases h1 : (refOf a).2 = true
  · rw [if_pos h1]
    by_cases h2 : (refOf b).2 = true
    · rw [if_pos h2, c h1 h2]; exact ord_j0 a b ha hb
    · rw [if_neg h2]; exact ord_j0 a b ha hb
  · rw [if_neg h1]; exact ord_j0 a b ha hb
end Go.Proofs.YtafbiccgbgcooaaDoor.Pure
