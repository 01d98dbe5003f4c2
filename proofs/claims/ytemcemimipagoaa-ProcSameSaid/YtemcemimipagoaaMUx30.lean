/- What the statements' walks need. -/
import Derived.Test.YtemcemimipagoaaMUa4
import Derived.Test.YtemcemimipagoaaMUx4
import Derived.Laws.FloatArith
import Derived.Deep.Draws
set_option linter.unusedVariables false
set_option linter.unusedSimpArgs false
set_option maxRecDepth 100000
namespace Go.Proofs.Ytemcemimipagoaa
open Go Go.Proofs AW Go.RowKit
theorem cq {P : Program} {N : Fr} {Q : Exit → ASt → Prop} {st : ASt} {ops : Array Oper} {i : Nat} {l : List Nat} {d : Nat} {g : Nat} {caps : List AV} {z : Operand} {xs : Array Operand} {ts : Array TypeId} {ls l' : List AV} {X : Value → Prop} (hok : Ok P g l' fun y T => ∃ r, y = .v r ∧ X r ∧ T = noT) (k : ∀ r, X r → AOps P N ops Q l (st.put d (.v r))) (ho : (ops.getD i default).op = .call ⟨.value z, xs, ts⟩ := by rfl)
    (hz : ev st z = some (.clo g caps) := by rfl) (hl : evs st xs.toList = some ls := by rfl) (hl' : ls ++ caps = l' := by rfl) (hg' : goFn P g = true := by rfl) (hno : NoOwnL l' := by simp [NoOwnL]) (hi : Nat.blt i ops.size = true := by rfl)
    (hg : opAt N ops st i = true := by rfl) (hd : (ops.getD i default).dst = some d := by rfl) (hN : Nat.blt d N = true := by rfl) : AOps P N ops Q (i :: l) st := by
  subst hl'
  refine st2 (op_callT ho hd (blt_lt hN) hz hg' (evs_map hl) hno.mem hok ?_) hi hg
  rintro x T' ⟨r, rfl, hX, rfl⟩
  refine ⟨fun j hj => absurd rfl hj, ?_⟩
  have e : mergeT st.T noT = st.T := by funext j; rfl
  rw [e]
  exact k r hX
def fcut (b : Nat) : Nat := Ieee.double.write ((Ieee.double.read b).integral .zero)
def flt_Trunc.f (a0 : Int) : Option (Int × Bool) :=
  if (Ieee.double.read (fbits a0)).isNaN = true then .some (0, false)
  else if Ieee.double.order (fcut (fbits a0)) 13965662444475908096 = .some .gt ∨ Ieee.double.order (fcut (fbits a0)) 13965662444475908096 = .some .eq then
    if Ieee.double.order (fcut (fbits a0)) 4742290407621132288 = .some .lt then (floatToIntVal .f64 (fcut (fbits a0)) .i64).map (·, true)
    else .some (0, false)
  else .some (0, false)
end Go.Proofs.Ytemcemimipagoaa
