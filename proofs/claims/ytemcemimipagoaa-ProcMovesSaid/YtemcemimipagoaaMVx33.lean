/- What the statements' walks need. -/
import Derived.Test.YtemcemimipagoaaMVa4
import Derived.Test.YtemcemimipagoaaMVx32
import Derived.Test.YtemcemimipagoaaMVa3
import Derived.Test.YtemcemimipagoaaMVx31
set_option linter.unusedVariables false
set_option linter.unusedSimpArgs false
set_option maxRecDepth 100000
namespace Go.Proofs.Ytemcemimipagoaa
open Go Go.Proofs AW
abbrev hasV (H : HHeap) (v : Int) : Prop := isN v = true ∨ 0 ≤ H.ref v
end Go.Proofs.Ytemcemimipagoaa
namespace Go.Proofs.Ytemcemimipagoaa
open Go Go.Proofs AW
theorem qcok_of {T : Nat → Ob} {es : List (List AV)} (h : (es.all fun c => c.all (cok1 T)) = true) : ∀ c ∈ es, ∀ y ∈ c, cok1 T y = true := fun c hc y hy => List.all_eq_true.1 (List.all_eq_true.1 h c hc) y hy
def qObj : HObj := ⟨0, 0, [], ⟨#[]⟩, 0, 0⟩
def qC : List AV := [iv 0, iv 0, .v (.slice none 0 0), sv ⟨#[]⟩, iv 0, iv 0]
theorem noOwn_qC (k : Nat) : ∀ c ∈ List.replicate k qC, ∀ x ∈ c, NoOwn x := by
  intro c hc x hx
  rw [List.eq_of_mem_replicate hc] at hx
  simp only [qC, List.mem_cons, List.not_mem_nil, or_false] at hx
  rcases hx with rfl | rfl | rfl | rfl | rfl | rfl <;> exact .v _
end Go.Proofs.Ytemcemimipagoaa
namespace FM
open Ieee
def rung (mag : Nat) (place : Int) : Nat :=
  let last := max (place + mag.log2 - 52) (-1074)
  min ((last + 1074).toNat * 2 ^ 52 + rne (mag * 2 ^ (place - last).toNat) (2 ^ (last - place).toNat)) (2047 * 2 ^ 52)
end FM
namespace FM
open Ieee
def toI (neg : Bool) (p : Nat) : Int := if neg then (p : Int) - 2 ^ 63 else p
def val (p : Nat) : Nat := if p < 2 ^ 52 then p else (2 ^ 52 + p % 2 ^ 52) * 2 ^ (p / 2 ^ 52 - 1)
def place (neg : Bool) (p : Nat) : Int := if neg then -(p : Int) else p
end FM
namespace FM
open Ieee
def told : Option Datum → Int
  | some (.number s m e) => toI s (if m = 0 then 0 else rung m e)
  | some (.infinity s) => toI s (2047 * 2 ^ 52)
  | _ => 9221120237041090561
end FM
