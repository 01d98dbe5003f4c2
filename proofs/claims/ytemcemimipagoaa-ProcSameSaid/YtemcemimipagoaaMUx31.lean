/- What the statements' walks need. -/
import Derived.Test.YtemcemimipagoaaMUa4
import Derived.Test.YtemcemimipagoaaMUx28
import Derived.Test.YtemcemimipagoaaMUx19
import Derived.Test.YtemcemimipagoaaMUa3
import Derived.Test.YtemcemimipagoaaMUx14
import Derived.Test.YtemcemimipagoaaMUa2
import Derived.Test.YtemcemimipagoaaMUx29
import Derived.Test.YtemcemimipagoaaMUx3
import Derived.Test.YtemcemimipagoaaMUx18
import Ieee.Arith
set_option linter.unusedVariables false
set_option linter.unusedSimpArgs false
set_option maxRecDepth 100000
namespace Go.Proofs.Ytemcemimipagoaa
open Go Go.Proofs AW
abbrev callC (H : HHeap) (s : Int) (a : List Int) : List AV := [.sl 6 (encObjs H.objs), iv H.cap, iv H.last, iv s, .sl 1 (encInts a)]
end Go.Proofs.Ytemcemimipagoaa
namespace Go.Proofs.Ytemcemimipagoaa
open Go Go.Proofs AW
abbrev twoC (g : Nat) : List AV := [.ptr 1000 0 0, .ip [.clo g []]]
end Go.Proofs.Ytemcemimipagoaa
namespace Go.Proofs.Ytemcemimipagoaa
open Go Go.Proofs AW
theorem _root_.Go.Proofs.Ytemcemimipagoaa.AW.Gives.to {P : Program} {f : Nat} {args : List AV} {x y : AV} (h : Gives P f args x) (e : x = y) : Gives P f args y := e ▸ h
end Go.Proofs.Ytemcemimipagoaa
namespace FM
open Ieee
def rne (n d : Nat) : Nat := n / d + if d < 2 * (n % d) ∨ (d = 2 * (n % d) ∧ n / d % 2 = 1) then 1 else 0
end FM
