/- What the statements' walks need. -/
import Derived.Test.YtemcemimipagoaaMUa4
import Derived.Test.YtemcemimipagoaaMUx32
import Derived.Test.YtemcemimipagoaaMUx31
import Derived.Test.YtemcemimipagoaaMUa3
import Derived.Test.YtemcemimipagoaaMUx30
set_option linter.unusedVariables false
set_option linter.unusedSimpArgs false
set_option maxRecDepth 100000
namespace Go.Proofs.Ytemcemimipagoaa
open Go Go.Proofs AW
theorem qcok_of {T : Nat → Ob} {es : List (List AV)} (h : (es.all fun c => c.all (cok1 T)) = true) : ∀ c ∈ es, ∀ y ∈ c, cok1 T y = true := fun c hc y hy => List.all_eq_true.1 (List.all_eq_true.1 h c hc) y hy
def qObj : HObj := ⟨0, 0, [], ⟨#[]⟩, 0, 0⟩
def qC : List AV := [iv 0, iv 0, .v (.slice none 0 0), sv ⟨#[]⟩, iv 0, iv 0]
theorem noOwn_qC (k : Nat) : ∀ c ∈ List.replicate k qC, ∀ x ∈ c, NoOwn x := by
  intro c hc x hx
  rw [List.eq_of_mem_replicate hc] at hx
  simp only [qC, List.mem_cons, List.not_mem_nil, or_false] at hx
  rcases hx with rfl | rfl | rfl | rfl | rfl | rfl <;> exact .v _
end Go.Proofs.Ytemcemimipagoaa
namespace Go.Proofs.Ytemcemimipagoaa
open Go Go.RowKit Go.Proofs FM
theorem u64 {n : Int} (h1 : 0 ≤ n) (h2 : n < 18446744073709551616) : IntKind.u64.wrap n = n := by
  simp only [IntKind.wrap, IntKind.bits, IntKind.signed, Bool.false_and, Bool.false_eq_true, if_false]; omega
theorem split (a : Int) (h : (Lit.int .i64 a).wf = true) : ∃ (s : Bool) (p : Nat), p < 2 ^ 63 ∧ a = toI s p := by
  simp only [Lit.wf, IntKind.min, IntKind.max, IntKind.signed, IntKind.bits, Bool.and_eq_true, decide_eq_true_eq, if_true] at h
  by_cases h0 : a < 0
  · exact ⟨true, (a + 9223372036854775808).toNat, by omega, by unfold toI; rw [if_pos rfl]; omega⟩
  · exact ⟨false, a.toNat, by omega, by unfold toI; rw [if_neg (by decide)]; omega⟩
end Go.Proofs.Ytemcemimipagoaa
