/- What the statements' walks need. -/
import Derived.Test.YtemcemimipagoaaMUa4
import Derived.Test.YtemcemimipagoaaMUx20
import Derived.Test.YtemcemimipagoaaMUa3
set_option linter.unusedVariables false
set_option linter.unusedSimpArgs false
set_option maxRecDepth 100000
namespace Go.Proofs.Ytemcemimipagoaa
open Go Go.Proofs AW
@[simp] theorem all_heap (H : HHeap) : (∀ x ∈ encHeap H, NoOwn x) ↔ True := ⟨fun _ => trivial, fun _ => by have := noOwn_heap H; rwa [noOwn_agg] at this⟩
@[simp] theorem all_obj (o : HObj) : (∀ x ∈ encObj o, NoOwn x) ↔ True := ⟨fun _ => trivial, fun _ => noOwn_obj o⟩
@[simp] theorem all_objs (l : List HObj) : (∀ c ∈ encObjs l, ∀ x ∈ c, NoOwn x) ↔ True := ⟨fun _ => trivial, fun _ c hc => by obtain ⟨o, _, rfl⟩ := List.mem_map.1 hc; exact noOwn_obj o⟩
@[simp] theorem all_ints (l : List Int) : (∀ c ∈ encInts l, ∀ x ∈ c, NoOwn x) ↔ True := ⟨fun _ => trivial, fun _ c hc => noOwn_intsc hc⟩
end Go.Proofs.Ytemcemimipagoaa
