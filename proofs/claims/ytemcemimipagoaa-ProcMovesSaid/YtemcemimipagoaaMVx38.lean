/- What the statements' walks need. -/
import Derived.Test.YtemcemimipagoaaMVa4
import Derived.Test.YtemcemimipagoaaMVx23
import Derived.Test.YtemcemimipagoaaMVx36
import Derived.Test.YtemcemimipagoaaMVx3
import Derived.Test.YtemcemimipagoaaMVx15
import Derived.Test.YtemcemimipagoaaMVx22
import Derived.Test.YtemcemimipagoaaMVx37
import Derived.Test.YtemcemimipagoaaMVa3
import Derived.Test.YtemcemimipagoaaMVx16
import Derived.Test.YtemcemimipagoaaMVx21
import Derived.Test.YtemcemimipagoaaMVx30
import Derived.Test.YtemcemimipagoaaMVx24
import Derived.Test.YtemcemimipagoaaMVx17
import Derived.Test.YtemcemimipagoaaMVa2
set_option linter.unusedVariables false
set_option linter.unusedSimpArgs false
set_option maxRecDepth 100000
namespace Go.Proofs.Ytemcemimipagoaa
open Go Go.Proofs AW
structure HSt where
  heap : HHeap
  proc : Int
  ready : Int
  halt : Int
  steps : Int
  used : Int
structure HTp where
  log : List Int
  rest : List Int
structure HEng where
  s : HSt
  t : HTp
  c : Int
abbrev EM (α : Type) := HEng → Except Int (α × HEng)
def EM.bind {α β : Type} (m : EM α) (f : α → EM β) : EM β := fun x => match m x with
  | .ok (a, y) => f a y
  | .error e => .error e
def EM.pure {α : Type} (a : α) : EM α := fun x => .ok (a, x)
instance : Monad EM where
  pure := EM.pure
  bind := EM.bind
def HEng.hp (x : HEng) : HHeap := x.s.heap
def HEng.put (x : HEng) (H : HHeap) : HEng := { x with s := { x.s with heap := H } }
def lstE (H : HHeap) (p : Int) : Int := if mayH H = true then (lstI H p).2 else 1
def lstL (H : HHeap) (p : Int) : List Int := if mayH H = true then (lstI H p).1 else []
def insAt (H : HHeap) (l : List Int) (p : Int) : Nat := match l.findIdx? (fun q => decide ((H.at' q).sl 2 < (H.at' p).sl 2)) with
  | some i => i
  | none => l.length
def pinE (H : HHeap) (first p : Int) : Int := if lstE H first = 0 then (if prcB H p = true ∧ nxt H p = 0 ∧ (lstL H first).contains p = false then 0 else 140) else lstE H first
def pinAt (H : HHeap) (l : List Int) (at' : Nat) (p : Int) : List Int := l.take at' ++ p :: l.drop at'
def insL (H : HHeap) (first p : Int) : List Int := pinAt H (lstL H first) (insAt H (lstL H first) p) p
def pinHp (H : HHeap) (first p : Int) (l : List Int) : HHeap := if pinE H first p = 0 then lnkH H l else keptH H (pinE H first p)
def pinV (H : HHeap) (first p : Int) (l : List Int) : Int := if pinE H first p = 0 then l.headD 0 else 0
def woH (H : HHeap) (l : List Int) (at' : Nat) : HHeap := setH (lnkH H (l.eraseIdx at')) ((l[at']?).getD 0) 0 0
def dropE (H : HHeap) (first p : Int) : Int := if lstE H first = 0 then (if (lstL H first).contains p = true then 0 else 140) else lstE H first
def dropAt (H : HHeap) (first p : Int) : Nat := (lstL H first).idxOf p
def dropHp (H : HHeap) (first p : Int) : HHeap := if dropE H first p = 0 then woH H (lstL H first) (dropAt H first p) else keptH H (dropE H first p)
def dropV (H : HHeap) (first p : Int) : Int := if dropE H first p = 0 then ((lstL H first).eraseIdx (dropAt H first p)).headD 0 else 0
def takeE (H : HHeap) (first : Int) : Int := if lstE H first = 0 then (if lstL H first = [] then 141 else 0) else lstE H first
def takeHp (H : HHeap) (first : Int) : HHeap := if takeE H first = 0 then woH H (lstL H first) 0 else keptH H (takeE H first)
def takeV (H : HHeap) (first : Int) : Int := if takeE H first = 0 then (lstL H first).tail.headD 0 else 0
def takeP (H : HHeap) (first : Int) : Int := if takeE H first = 0 then first else 0
end Go.Proofs.Ytemcemimipagoaa
