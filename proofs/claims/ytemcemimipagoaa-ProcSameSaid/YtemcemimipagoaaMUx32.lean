/- What the statements' walks need. -/
import Derived.Test.YtemcemimipagoaaMUa4
import Derived.Test.YtemcemimipagoaaMUx31
import Derived.Test.YtemcemimipagoaaMUa3
import Derived.Test.YtemcemimipagoaaMUx30
set_option linter.unusedVariables false
set_option linter.unusedSimpArgs false
set_option maxRecDepth 100000
namespace Go.Proofs.Ytemcemimipagoaa
open Go Go.Proofs AW
abbrev hasV (H : HHeap) (v : Int) : Prop := isN v = true ∨ 0 ≤ H.ref v
end Go.Proofs.Ytemcemimipagoaa
namespace FM
open Ieee
def rung (mag : Nat) (place : Int) : Nat :=
  let last := max (place + mag.log2 - 52) (-1074)
  min ((last + 1074).toNat * 2 ^ 52 + rne (mag * 2 ^ (place - last).toNat) (2 ^ (last - place).toNat)) (2047 * 2 ^ 52)
end FM
namespace FM
open Ieee
def toI (neg : Bool) (p : Nat) : Int := if neg then (p : Int) - 2 ^ 63 else p
def val (p : Nat) : Nat := if p < 2 ^ 52 then p else (2 ^ 52 + p % 2 ^ 52) * 2 ^ (p / 2 ^ 52 - 1)
def place (neg : Bool) (p : Nat) : Int := if neg then -(p : Int) else p
end FM
namespace FM
open Ieee
def told : Option Datum → Int
  | some (.number s m e) => toI s (if m = 0 then 0 else rung m e)
  | some (.infinity s) => toI s (2047 * 2 ^ 52)
  | _ => 9221120237041090561
end FM
