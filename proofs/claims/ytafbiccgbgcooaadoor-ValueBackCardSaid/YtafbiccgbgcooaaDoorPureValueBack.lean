import Derived.Test.YtafbiccgbgcooaaDoorPValx3
import Derived.Test.YtafbiccgbgcooaaDoorVB
namespace Go.Proofs.YtafbiccgbgcooaaDoor.Pure
open Go.RowKit Go.Proofs.YtafbiccgbgcooaaDoor.PVal Go.Proofs.YtafbiccgbgcooaaDoorW.PrintWords Go.Proofs.YtafbiccgbgcooaaDoorW.PrintLast
open Go.Proofs.YtafbiccgbgcooaaDoor.VA
theorem n_int (a : Int) (h : -1073741824 ≤ a ∧ a ≤ 1073741823) : nOf (2 * a + 1) = (a, true) ∧ atOf (2 * a + 1) = (0, false) := by
  unfold nOf atOf
  rw [if_pos (by omega), if_neg (by omega), show (2 * a + 1) / 2 = a by omega]
  exact ⟨rfl, rfl⟩
theorem n_refOf (a : Int) (h : 0 ≤ a ∧ a < 1048576) : nOf (2 * a) = (0, false) ∧ atOf (2 * a) = (a, true) := by
  unfold nOf atOf
  rw [if_neg (by omega), if_pos (by omega), show (2 * a) / 2 = a by omega]
  exact ⟨rfl, rfl⟩
theorem back_j1 (a b : Int) : anamnesislaw01_ValueBack.j1 1 b (intOf a).1 (intOf a).2 (refOf b).1 (refOf b).2 = some true := by
  unfold anamnesislaw01_ValueBack.j1
  simp only [at_eq, n_eq, may_eq, Option.bind_some]
  by_cases hb : 0 ≤ b ∧ b < 1048576
  · have e : refOf b = (2 * b, true) := if_pos hb
    obtain ⟨e1, e2⟩ := n_refOf b hb
    simp only [e, e1, e2, if_true, Bool.false_eq_true, if_false, Bool.or_true]
    by_cases ha : -1073741824 ≤ a ∧ a ≤ 1073741823
    · have e3 : intOf a = (2 * a + 1, true) := if_pos ha
      simp only [e3, if_true]
      simp; omega
    · have e3 : intOf a = (0, false) := if_neg ha
      simp only [e3, Bool.false_eq_true, if_false]
  · have e : refOf b = (0, false) := if_neg hb
    simp only [e, Bool.false_eq_true, if_false]
    split <;> rfl
theorem back_j0 (a b : Int) : anamnesislaw01_ValueBack.j0 2 a b (intOf a).1 (intOf a).2 (refOf b).1 (refOf b).2 false = some true := by
  unfold anamnesislaw01_ValueBack.j0
  simp only [at_eq, n_eq, may_eq, Option.bind_some, back_j1, Bool.false_eq_true, if_false]
  by_cases ha : -1073741824 ≤ a ∧ a ≤ 1073741823
  · have e3 : intOf a = (2 * a + 1, true) := if_pos ha
    obtain ⟨e1, e2⟩ := n_int a ha
    simp only [e3, e1, e2, if_true, Bool.false_eq_true, if_false, Bool.true_or]
  · have e3 : intOf a = (0, false) := if_neg ha
    simp only [e3, Bool.false_eq_true, if_false]
theorem ValueBack : anamnesislaw01_ValueBack.Pure := by
  intro a b _ _
  refine ⟨2, ?_⟩
  unfold anamnesislaw01_ValueBack.f
  simp only [int_eq, ref_eq, Option.bind_some, anamnesislaw01_fixed.f]
  have k1 : a ≥ -1073741824 → (!(intOf a).2 == decide (a < 1073741824)) = false := by
    intro h; unfold VA.intOf
    by_cases h1 : a < 1073741824
    · rw [if_pos (by omega)]; simp [h1]
    · rw [if_neg (by omega)]; simp [h1]
  have k2 : ¬ a ≥ -1073741824 → (!(intOf a).2 == false) = false := by
    intro h; unfold VA.intOf; rw [if_neg (by omega)]; rfl
  have k3 : b ≥ 0 → (!(refOf b).2 == decide (b < 1048576)) = false := by
    intro h; unfold refOf
    by_cases h1 : b < 1048576
    · rw [if_pos (by omega)]; simp [h1]
    · rw [if_neg (by omega)]; simp [h1]
  have k4 : ¬ b ≥ 0 → (!(refOf b).2 == false) = false := by
    intro h; unfold refOf; rw [if_neg (by omega)]; rfl
  by_cases h : a ≥ -1073741824
  · rw [if_pos h, k1 h, if_neg (by simp)]
    by_cases h2 : b ≥ 0
    · rw [if_pos h2, k3 h2]; exact back_j0 a b
    · rw [if_neg h2, k4 h2]; exact back_j0 a b
  · rw [if_neg h, k2 h, if_neg (by simp)]
    by_cases h2 : b ≥ 0
    · rw [if_pos h2, k3 h2]; exact back_j0 a b
    · rw [if_neg h2, k4 h2]; exact back_j0 a b
end Go.Proofs.YtafbiccgbgcooaaDoor.Pure
