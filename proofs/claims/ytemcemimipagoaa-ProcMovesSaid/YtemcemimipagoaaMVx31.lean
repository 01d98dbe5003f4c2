/- What the statements' walks need. -/
import Derived.Test.YtemcemimipagoaaMVa4
import Derived.Test.YtemcemimipagoaaMVx22
import Derived.Test.YtemcemimipagoaaMVa3
import Derived.Test.YtemcemimipagoaaMVx4
import Derived.Laws.FloatArith
import Derived.Deep.Draws
set_option linter.unusedVariables false
set_option linter.unusedSimpArgs false
set_option maxRecDepth 100000
namespace Go.Proofs.Ytemcemimipagoaa
open Go Go.Proofs AW
@[simp] theorem all_heap (H : HHeap) : (∀ x ∈ encHeap H, NoOwn x) ↔ True := ⟨fun _ => trivial, fun _ => by have := noOwn_heap H; rwa [noOwn_agg] at this⟩
@[simp] theorem all_obj (o : HObj) : (∀ x ∈ encObj o, NoOwn x) ↔ True := ⟨fun _ => trivial, fun _ => noOwn_obj o⟩
@[simp] theorem all_objs (l : List HObj) : (∀ c ∈ encObjs l, ∀ x ∈ c, NoOwn x) ↔ True := ⟨fun _ => trivial, fun _ c hc => by obtain ⟨o, _, rfl⟩ := List.mem_map.1 hc; exact noOwn_obj o⟩
@[simp] theorem all_ints (l : List Int) : (∀ c ∈ encInts l, ∀ x ∈ c, NoOwn x) ↔ True := ⟨fun _ => trivial, fun _ c hc => noOwn_intsc hc⟩
end Go.Proofs.Ytemcemimipagoaa
namespace Go.Proofs.Ytemcemimipagoaa
open Go Go.Proofs AW Go.RowKit
def fcut (b : Nat) : Nat := Ieee.double.write ((Ieee.double.read b).integral .zero)
def flt_Trunc.f (a0 : Int) : Option (Int × Bool) :=
  if (Ieee.double.read (fbits a0)).isNaN = true then .some (0, false)
  else if Ieee.double.order (fcut (fbits a0)) 13965662444475908096 = .some .gt ∨ Ieee.double.order (fcut (fbits a0)) 13965662444475908096 = .some .eq then
    if Ieee.double.order (fcut (fbits a0)) 4742290407621132288 = .some .lt then (floatToIntVal .f64 (fcut (fbits a0)) .i64).map (·, true)
    else .some (0, false)
  else .some (0, false)
end Go.Proofs.Ytemcemimipagoaa
