/- What the statements' walks need. -/
import Derived.Test.YtemcemimipagoaaMVa4
import Derived.Test.YtemcemimipagoaaMVx31
import Derived.Test.YtemcemimipagoaaMVx33
import Derived.Test.YtemcemimipagoaaMVx32
import Derived.Test.YtemcemimipagoaaMVa3
import Derived.Test.YtemcemimipagoaaMVx34
import Derived.Test.YtemcemimipagoaaMVx35
import Derived.Test.YtemcemimipagoaaMVx21
import Derived.Test.YtemcemimipagoaaMVx20
set_option linter.unusedVariables false
set_option linter.unusedSimpArgs false
set_option maxRecDepth 100000
namespace Go.Proofs.Ytemcemimipagoaa
open Go Go.RowKit Go.Proofs FM
theorem u64 {n : Int} (h1 : 0 ≤ n) (h2 : n < 18446744073709551616) : IntKind.u64.wrap n = n := by
  simp only [IntKind.wrap, IntKind.bits, IntKind.signed, Bool.false_and, Bool.false_eq_true, if_false]; omega
theorem split (a : Int) (h : (Lit.int .i64 a).wf = true) : ∃ (s : Bool) (p : Nat), p < 2 ^ 63 ∧ a = toI s p := by
  simp only [Lit.wf, IntKind.min, IntKind.max, IntKind.signed, IntKind.bits, Bool.and_eq_true, decide_eq_true_eq, if_true] at h
  by_cases h0 : a < 0
  · exact ⟨true, (a + 9223372036854775808).toNat, by omega, by unfold toI; rw [if_pos rfl]; omega⟩
  · exact ⟨false, a.toNat, by omega, by unfold toI; rw [if_neg (by decide)]; omega⟩
end Go.Proofs.Ytemcemimipagoaa
namespace Go.Proofs.Ytemcemimipagoaa
open Go Go.Proofs AW
abbrev doA (H : HHeap) (num s : Int) (a : List Int) : List AV := [.agg (encHeap H), iv num, iv s, .sl 1 (encInts a)]
end Go.Proofs.Ytemcemimipagoaa
namespace Go.Proofs.Ytemcemimipagoaa
open Go Go.Proofs AW
abbrev Told := HHeap × Int × Int
end Go.Proofs.Ytemcemimipagoaa
namespace Go.Proofs.Ytemcemimipagoaa
open Go Go.Proofs AW
theorem hcell (H : HHeap) : ∀ x ∈ encHeap H, NoOwn x := by
  have := noOwn_heap H
  rwa [noOwn_agg] at this
end Go.Proofs.Ytemcemimipagoaa
