/- What the statements' walks need. -/
import Derived.Test.YtnjihhheiiapnaaGreatMRa4
import Derived.Test.YtnjihhheiiapnaaGreatMRx14
import Derived.Test.YtnjihhheiiapnaaGreatMRx10
import Derived.Test.YtnjihhheiiapnaaGreatMRx16
import Derived.ChangeShapes
import Derived.OpenShut
set_option linter.unusedVariables false
set_option linter.unusedSimpArgs false
set_option maxRecDepth 100000
namespace Go.Proofs.YtnjihhheiiapnaaGreat
open Go Go.Proofs AW
structure HMethod where
  prim : Int
  args : Int
  temps : Int
  code : List HInstr
  lits : List Int
  deriving DecidableEq
def HObj.sl (o : HObj) (k : Nat) : Int := (o.slots[k]?).getD 0
theorem sl_get {o : HObj} {k : Nat} (h : k < o.slots.length) : o.slots[k]? = some (o.sl k) := by simp [HObj.sl, h]
def HHeap.is (H : HHeap) (v kind : Int) : Prop := 0 ≤ H.ref v ∧ (H.at' v).kind = kind
instance (H : HHeap) (v kind : Int) : Decidable (H.is v kind) := inferInstanceAs (Decidable (_ ∧ _))
end Go.Proofs.YtnjihhheiiapnaaGreat
namespace Go.Proofs.YtnjihhheiiapnaaGreat.AW
open Go Go.Proofs
section
variable {H : Type} {enc : TypeId × Value → H} {P : Program} {w : World} {sp : Nat → Bool} {held : Bool}
theorem open_arr2 {t e : TypeId} {v : Value} {d : DataW H} {ps : List MemPlace} (hu : P.underlying t = some (.array 2 e)) (he : P.underlying e = some (.int .i64)) (hce : P.cellsOf e = 1) (hct : P.cellsOf t = 2) {b0 : Nat} (hval : Value.okWide P w .any b0 t v) (h : DataW.Trod enc P w 0 sp held t v d ps) :
    ∃ x y : Int, Rep (fun b => b < w.heap.size) noT noβ w (.agg [iv x, iv y]) v ∧ (In64 x ∧ In64 y) := by
  unfold Value.okWide at hval
  rw [hu] at hval
  obtain ⟨cs, rfl, hsz, _⟩ := hval
  obtain ⟨fuel, hf⟩ := h
  obtain ⟨xs, m, rfl, hx, hl, hxl, hget⟩ := DataW.trod_array hu hf
  have g0 := hget 0 (by omega)
  have g1 := hget 1 (by omega)
  rw [List.getElem?_eq_getElem (by omega)] at g0 g1
  obtain ⟨x, e0, _, hn0⟩ := DataW.trod_int he g0
  obtain ⟨y, e1, _, hn1⟩ := DataW.trod_int he g1
  simp only [Lit.wf, Bool.and_eq_true, decide_eq_true_eq] at hn0 hn1
  refine ⟨x, y, ?_, hn0, hn1⟩
  have hc : cs.toList = [.int .i64 x, .int .i64 y] := by
    have e0 : (cs.toList.drop (0 * P.cellsOf e)).take (P.cellsOf e) = [Value.int IntKind.i64 x] := e0
    have e1 : (cs.toList.drop (1 * P.cellsOf e)).take (P.cellsOf e) = [Value.int IntKind.i64 y] := e1
    rw [hce] at e0 e1
    rw [hct] at hsz
    have hl2 : cs.toList.length = 2 := by simpa using hsz
    match cs.toList, hl2, e0, e1 with
    | [a, b], _, e0, e1 =>
      simp at e0 e1
      rw [e0, e1]
  exact all2_agg (by rw [hc]; exact ⟨.v _, .v _, trivial⟩)
end
end Go.Proofs.YtnjihhheiiapnaaGreat.AW
