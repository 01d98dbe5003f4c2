/- The law ProcMoves: the row, out of what its call gives. Proved for every input, with no condition. -/
import Derived.Test.YtemcemimipagoaaRows
import Derived.Test.YtemcemimipagoaaMVx46
import Derived.Test.YtemcemimipagoaaMVa4
import Derived.WalkKit
import Derived.Handed
import Derived.ProofKit
import Derived.OpenShut
import Derived.ShutString
import Derived.ChangeOld
import Derived.Below
import Derived.SizedLaws
namespace Go.Proofs.Ytemcemimipagoaa.procMoves
open Go.ChangeShapes Go.WideShapes Go.ChangeAt Go.RowKit Go.Proofs.Ytemcemimipagoaa Go.Proofs.Ytemcemimipagoaa.AW
set_option linter.unusedVariables false
theorem own : ownKnob Try.prog.godebug = none := by kernel_rfl
theorem laid : laidOutB Try.prog = true := by kernel_rfl
set_option maxRecDepth 100000 in
theorem lifted (os : Os) (started : os.Started) (H : Type) (enc : TypeId × Value → H) :
    ReturnsInHanded {} Try.checked os 3 .any (Rows.procMovesSpec.pre6 enc Try.prog Try.f3 Rows.procMovesRow.domain false) (Rows.procMovesSpec.post enc Try.prog Try.f3 false true false false) := by
  refine returnsInHanded_of_change_sized (C := Try.checked) own started (by kernel_rfl) Try.func3
    (ChangeSpec.witness6 (enc := enc) (C := Try.checked) false ⟨#[], #[.agg #[.slice none 0 0, .int .i64 0, .int .i64 0], .int .i64 0, .int .i64 0], []⟩ 8 (by kernel_rfl) (by kernel_rfl) (by kernel_rfl) (by kernel_rfl)) ?_
  intro W base args ds gs before hval0 hW hcnd hsz0 _
  have hsz : (DataW.weightsEach Try.prog (Try.f3.params.toList ++ Rows.procMovesSpec.plain.varTypes Try.prog) (ds ++ gs)).all (· ≤ reachBytes) = true := hsz0
  have hval : ∀ (j : Nat) t v, Try.f3.params[j]? = some t → args[j]? = some v → Value.okWide Try.prog W .any base t v := hval0
  have hW' := hW
  obtain ⟨p, q, hA0, hV, rfl, hfz, hnd⟩ := hW
  have hA : DataW.TrodAll enc Try.prog W 0 (fun _ => true) true Try.f3.params.toList args.toList ds p := hA0
  rw [Try.params3] at hA hval hsz
  obtain ⟨v0, vs0, d0, ds0, p0, q0, hargs, rfl, rfl, h0, r0⟩ := trodAll_cons hA
  obtain ⟨v1, vs1, d1, ds1, p1, q1, rfl, rfl, rfl, h1, r1⟩ := trodAll_cons r0
  obtain ⟨v2, vs2, d2, ds2, p2, q2, rfl, rfl, rfl, h2, r2⟩ := trodAll_cons r1
  obtain ⟨rfl, rfl, rfl⟩ := trodAll_nil r2
  obtain rfl : args = #[v0, v1, v2] := by cases args; simp_all
  obtain ⟨rfl, rfl⟩ := trodVars_none hV
  have lt0 : ∀ x ∈ p0, x.block < W.heap.size := fun x hx => hW'.lt x (by simp [hx])
  have ww0 : (d0.weights Try.prog 24).all (· ≤ reachBytes) = true := List.all_eq_true.2 fun y hy => List.all_eq_true.1 hsz y (DataW.weights_mem_each (j := 0) rfl rfl y hy)
  obtain ⟨as0, R0, T0⟩ := open_struct 8 Try.underlying24 (by kernel_rfl) (hval 0 24 v0 rfl rfl) h0 ww0
  obtain ⟨x0_0, rfl, b0⟩ := ty_heap T0
  obtain ⟨a1, rfl, rfl, rfl, w1⟩ := open_int Try.underlying3 (hval 1 3 v1 rfl rfl) h1
  obtain ⟨a2, rfl, rfl, rfl, w2⟩ := open_int Try.underlying3 (hval 2 3 v2 rfl rfl) h2
  clear hA0 hval0 hsz0 hsz
  refine (pmove_ok x0_0 b0 a1 a2 { I := fun b => b < W.heap.size, K := fun _ => False, pin := fun _ => none, ds := [], Bel := fun _ => True } W [v0, .int .i64 a1, .int .i64 a2] (fun b => ⟨fun hb => hb, fun h => h⟩) ⟨R0, .v _, .v _, trivial⟩).mono ?_
  rintro e W' (hF | ⟨v, x, T, β, rfl, ⟨rfl, rfl⟩, bel, hO, hR⟩)
  · exact hF.elim
  obtain rfl := hR.v_inv
  exact ⟨_, rfl, _, _, _, [], _, [], hW', trodAll_mk1 (shut_bool Try.underlying4 _), (trodAll_cons_mk (Below.trod laid (by kernel_rfl) (of_decide_eq_true (by kernel_rfl)) h0 bel lt0) (trodAll_cons_mk (shut_int Try.underlying3 w1) (trodAll_cons_mk (shut_int Try.underlying3 w2) trodAll_mk0))), rfl, bel.frame _, fun h => by cases h⟩
theorem over : Rows.procMovesRow.holds Try.pinned (OpenSpec.ofChange Rows.procMovesSpec) :=
  OpenClaim.holds_of_wide 3 Try.f3 rfl rfl rfl rfl rfl rfl rfl ⟨rfl, rfl, rfl, rfl, rfl⟩ rfl rfl rfl rfl rfl (by kernel_rfl) Try.func3 (by kernel_rfl)
    (of_decide_eq_true (by kernel_rfl)) (by unfold Func.isWrapper; first | (rw [if_pos (by decide +kernel)]; kernel_rfl) | (rw [if_neg (by decide +kernel)]; exact ⟨rfl, rfl⟩))
    (fun os started H enc _ => lifted os started H enc)
theorem proved : Rows.ProcMovesSaid := over
#print axioms proved
end Go.Proofs.Ytemcemimipagoaa.procMoves
namespace Go.Proofs.Ytemcemimipagoaa
/-- The row, under a short name, for the claim. -/
theorem procMoves_holds : Rows.ProcMovesSaid := procMoves.proved
end Go.Proofs.Ytemcemimipagoaa
