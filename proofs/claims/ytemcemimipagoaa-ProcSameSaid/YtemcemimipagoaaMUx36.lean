/- What the statements' walks need. -/
import Derived.Test.YtemcemimipagoaaMUa4
import Derived.Test.YtemcemimipagoaaMUx34
import Derived.Test.YtemcemimipagoaaMUx35
import Derived.Test.YtemcemimipagoaaMUx19
import Derived.Test.YtemcemimipagoaaMUa3
import Derived.Test.YtemcemimipagoaaMUx17
import Derived.Test.YtemcemimipagoaaMUx32
import Derived.Test.YtemcemimipagoaaMUx31
import Derived.Test.YtemcemimipagoaaMUx33
set_option linter.unusedVariables false
set_option linter.unusedSimpArgs false
set_option maxRecDepth 100000
namespace Go.Proofs.Ytemcemimipagoaa
open Go Go.Proofs AW
theorem qSame_id (A : HHeap) (hA : A.In) : Gives Try.prog 17 [.agg (encHeap A), .agg (encHeap A)] (bv true) := (rSame_ok A A hA hA).to' (by simp)
end Go.Proofs.Ytemcemimipagoaa
namespace Go.Proofs.Ytemcemimipagoaa
open Go Go.Proofs AW
abbrev doA (H : HHeap) (num s : Int) (a : List Int) : List AV := [.agg (encHeap H), iv num, iv s, .sl 1 (encInts a)]
end Go.Proofs.Ytemcemimipagoaa
namespace Go.Proofs.Ytemcemimipagoaa
open Go Go.Proofs AW
abbrev Told := HHeap × Int × Int
end Go.Proofs.Ytemcemimipagoaa
namespace Go.Proofs.Ytemcemimipagoaa
open Go Go.Proofs AW
theorem hcell (H : HHeap) : ∀ x ∈ encHeap H, NoOwn x := by
  have := noOwn_heap H
  rwa [noOwn_agg] at this
end Go.Proofs.Ytemcemimipagoaa
