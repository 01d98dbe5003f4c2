/- What the statements' walks need. -/
import Derived.Test.YtemcemimipagoaaMVa4
import Derived.Test.YtemcemimipagoaaMVx33
import Derived.Test.YtemcemimipagoaaMVx32
import Derived.Test.YtemcemimipagoaaMVa3
set_option linter.unusedVariables false
set_option linter.unusedSimpArgs false
set_option maxRecDepth 100000
namespace Go.Proofs.Ytemcemimipagoaa
open Go Go.Proofs AW
theorem obj_in {o : HObj} (h : (decide (-9223372036854775808 ≤ o.cls ∧ o.cls ≤ 9223372036854775807 ∧ -9223372036854775808 ≤ o.kind ∧ o.kind ≤ 9223372036854775807 ∧ -9223372036854775808 ≤ o.bits ∧ o.bits ≤ 9223372036854775807 ∧ -9223372036854775808 ≤ o.hash ∧ o.hash ≤ 9223372036854775807 ∧ o.slots.length < 1099511627776 ∧ o.text.size < 1099511627776) &&
    o.slots.all fun x => decide (-9223372036854775808 ≤ x ∧ x ≤ 9223372036854775807)) = true) : o.In := by
  simp only [Bool.and_eq_true, decide_eq_true_eq, List.all_eq_true] at h
  obtain ⟨⟨a, b, c, d, e, f, g, i, j, k⟩, l⟩ := h
  exact ⟨⟨a, b⟩, ⟨c, d⟩, l, ⟨e, f⟩, ⟨g, i⟩, j, k⟩
theorem heap_in {H : HHeap} (h : ((H.objs.all fun o => decide (-9223372036854775808 ≤ o.cls ∧ o.cls ≤ 9223372036854775807 ∧ -9223372036854775808 ≤ o.kind ∧ o.kind ≤ 9223372036854775807 ∧ -9223372036854775808 ≤ o.bits ∧ o.bits ≤ 9223372036854775807 ∧ -9223372036854775808 ≤ o.hash ∧ o.hash ≤ 9223372036854775807 ∧ o.slots.length < 1099511627776 ∧ o.text.size < 1099511627776) &&
    o.slots.all fun x => decide (-9223372036854775808 ≤ x ∧ x ≤ 9223372036854775807)) && decide (-9223372036854775808 ≤ H.cap ∧ H.cap ≤ 9223372036854775807 ∧ -9223372036854775808 ≤ H.last ∧ H.last ≤ 9223372036854775807 ∧ H.objs.length < 1099511627776)) = true) : H.In := by
  rw [Bool.and_eq_true, decide_eq_true_eq, List.all_eq_true] at h
  obtain ⟨a, b, c, d, e, f⟩ := h
  exact ⟨fun o ho => obj_in (a o ho), ⟨b, c⟩, ⟨d, e⟩, f⟩
end Go.Proofs.Ytemcemimipagoaa
