/- What the statements' walks need. -/
import Derived.Test.YtemcemimipagoaaMVa4
import Derived.Test.YtemcemimipagoaaMVx31
import Derived.Test.YtemcemimipagoaaMVx21
import Derived.Test.YtemcemimipagoaaMVa3
import Derived.Test.YtemcemimipagoaaMVx12
import Derived.Test.YtemcemimipagoaaMVa2
import Derived.Test.YtemcemimipagoaaMVx30
import Derived.Test.YtemcemimipagoaaMVx3
import Derived.Test.YtemcemimipagoaaMVx15
import Ieee.Arith
set_option linter.unusedVariables false
set_option linter.unusedSimpArgs false
set_option maxRecDepth 100000
namespace Go.Proofs.Ytemcemimipagoaa
open Go Go.Proofs AW
abbrev callC (H : HHeap) (s : Int) (a : List Int) : List AV := [.sl 6 (encObjs H.objs), iv H.cap, iv H.last, iv s, .sl 1 (encInts a)]
end Go.Proofs.Ytemcemimipagoaa
namespace Go.Proofs.Ytemcemimipagoaa
open Go Go.Proofs AW
abbrev twoC (g : Nat) : List AV := [.ptr 1000 0 0, .ip [.clo g []]]
end Go.Proofs.Ytemcemimipagoaa
namespace Go.Proofs.Ytemcemimipagoaa
open Go Go.Proofs AW
theorem _root_.Go.Proofs.Ytemcemimipagoaa.AW.Gives.to {P : Program} {f : Nat} {args : List AV} {x y : AV} (h : Gives P f args x) (e : x = y) : Gives P f args y := e ▸ h
end Go.Proofs.Ytemcemimipagoaa
namespace FM
open Ieee
def rne (n d : Nat) : Nat := n / d + if d < 2 * (n % d) ∨ (d = 2 * (n % d) ∧ n / d % 2 = 1) then 1 else 0
end FM
