/- What the statements' walks need. -/
import Derived.Test.YtemcemimipagoaaMVa4
import Derived.Test.YtemcemimipagoaaMVx9
import Derived.Test.YtemcemimipagoaaMVx11
import Derived.Test.YtemcemimipagoaaMVa2
set_option linter.unusedVariables false
set_option linter.unusedSimpArgs false
set_option maxRecDepth 100000
namespace Go.Proofs.Ytemcemimipagoaa
open Go Go.Proofs AW
theorem wrong0 {H : HHeap} {v kind a : Int} (h : wrongE H v kind a = 0) : mayH H = true ∧ 0 ≤ H.ref v ∧ (H.at' v).kind = kind ∧ 0 ≤ a ∧ a < ((H.at' v).slots.length : Int) + ((H.at' v).text.size : Int) := by
  unfold wrongE at h
  by_cases h1 : mayH H = false
  · rw [if_pos h1] at h; omega
  rw [if_neg h1] at h
  by_cases h2 : H.ref v < 0
  · rw [if_pos h2] at h; omega
  rw [if_neg h2] at h
  by_cases h3 : (H.at' v).kind ≠ kind
  · rw [if_pos h3] at h; omega
  rw [if_neg h3] at h
  by_cases h4 : a < 0 ∨ ((H.at' v).slots.length : Int) + ((H.at' v).text.size : Int) ≤ a
  · rw [if_pos h4] at h; omega
  exact ⟨by simpa using h1, by omega, by simpa using h3, by omega, by omega⟩
theorem kind_lens {H : HHeap} {v : Int} (h1 : mayH H = true) (h2 : 0 ≤ H.ref v) : ((H.at' v).kind ≠ 0 → (H.at' v).slots.length = 0) ∧ ((H.at' v).kind ≠ 1 → (H.at' v).text.size = 0) := by
  have := may_obj h1 (at_mem h2)
  simp only [mayObj, kindB, Bool.and_eq_true, decide_eq_true_eq] at this
  exact ⟨this.2.1.1, this.2.1.2.1⟩
end Go.Proofs.Ytemcemimipagoaa
