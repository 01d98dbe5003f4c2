/- What the statements' walks need. -/
import Derived.Test.YtemcemimipagoaaMVa4
import Derived.Test.YtemcemimipagoaaMVx22
import Derived.Test.YtemcemimipagoaaMVa3
set_option linter.unusedVariables false
set_option linter.unusedSimpArgs false
set_option maxRecDepth 100000
namespace Go.Proofs.Ytemcemimipagoaa
open Go Go.Proofs AW
theorem noOwn_heapc (H : HHeap) : ∀ x ∈ encHeap H, NoOwn x := by
  have := noOwn_heap H
  rwa [noOwn_agg] at this
@[simp] theorem noOwn_heapI (H : HHeap) : (∀ x ∈ encHeap H, NoOwn x) ↔ True := ⟨fun _ => trivial, fun _ => noOwn_heapc H⟩
@[simp] theorem noOwn_objI (o : HObj) : (∀ x ∈ encObj o, NoOwn x) ↔ True := ⟨fun _ => trivial, fun _ => noOwn_obj o⟩
@[simp] theorem noOwn_mthI (o : HMethod) : (∀ x ∈ encMethod o, NoOwn x) ↔ True := ⟨fun _ => trivial, fun _ => noOwn_mth o⟩
@[simp] theorem noOwn_ctxI (o : HCtx) : (∀ x ∈ encCtx o, NoOwn x) ↔ True := ⟨fun _ => trivial, fun _ => noOwn_ctx o⟩
def encPairs (l : List (Int × Int)) : List (List AV) := l.map fun x => [iv x.1, iv x.2]
@[simp] theorem len_pairsE (l : List (Int × Int)) : (encPairs l).length = l.length := by simp [encPairs]
theorem noOwn_pairs (l : List (Int × Int)) : ∀ c ∈ encPairs l, ∀ x ∈ c, NoOwn x := by
  intro c hc x hx
  simp only [encPairs, List.mem_map] at hc
  obtain ⟨p, _, rfl⟩ := hc
  simp only [List.mem_cons, List.not_mem_nil, or_false] at hx
  rcases hx with rfl | rfl <;> exact .v _
@[simp] theorem noOwn_apairs (l : List (Int × Int)) : NoOwn (.sl 2 (encPairs l)) := by rw [noOwn_sl]; exact noOwn_pairs l
end Go.Proofs.Ytemcemimipagoaa
