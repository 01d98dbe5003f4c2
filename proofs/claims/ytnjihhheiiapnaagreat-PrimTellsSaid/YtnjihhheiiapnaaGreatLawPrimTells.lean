/- The law PrimTells: the row, out of what its call gives. Proved for every input, with no condition. -/
import Derived.Test.YtnjihhheiiapnaaGreatRows
import Derived.Test.YtnjihhheiiapnaaGreatMTx46
import Derived.Test.YtnjihhheiiapnaaGreatMTa4
import Derived.WalkKit
import Derived.Handed
import Derived.ProofKit
import Derived.OpenShut
import Derived.ShutString
import Derived.ChangeOld
import Derived.Below
import Derived.SizedLaws
namespace Go.Proofs.YtnjihhheiiapnaaGreat.primTells
open Go.ChangeShapes Go.WideShapes Go.ChangeAt Go.RowKit Go.Proofs.YtnjihhheiiapnaaGreat Go.Proofs.YtnjihhheiiapnaaGreat.AW
set_option linter.unusedVariables false
theorem own : ownKnob Tryz.prog.godebug = none := by kernel_rfl
theorem laid : laidOutB Tryz.prog = true := by kernel_rfl
set_option maxRecDepth 100000 in
theorem lifted (os : Os) (started : os.Started) (H : Type) (enc : TypeId × Value → H) :
    ReturnsInHanded {} Tryz.checked os 3 .any (Rows.primTellsSpec.pre6 enc Tryz.prog Tryz.f3 Rows.primTellsRow.domain false) (Rows.primTellsSpec.post enc Tryz.prog Tryz.f3 false true false false) := by
  refine returnsInHanded_of_change_sized (C := Tryz.checked) own started (by kernel_rfl) Tryz.func3
    (ChangeSpec.witness6 (enc := enc) (C := Tryz.checked) false ⟨#[], #[.agg #[.slice none 0 0, .int .i64 0, .int .i64 0], .agg #[.int .i64 0, .int .i64 0, .slice none 0 0]], []⟩ 8 (by kernel_rfl) (by kernel_rfl) (by kernel_rfl) (by kernel_rfl)) ?_
  intro W base args ds gs before hval0 hW hcnd hsz0 _
  have hsz : (DataW.weightsEach Tryz.prog (Tryz.f3.params.toList ++ Rows.primTellsSpec.plain.varTypes Tryz.prog) (ds ++ gs)).all (· ≤ reachBytes) = true := hsz0
  have hval : ∀ (j : Nat) t v, Tryz.f3.params[j]? = some t → args[j]? = some v → Value.okWide Tryz.prog W .any base t v := hval0
  have hW' := hW
  obtain ⟨p, q, hA0, hV, rfl, hfz, hnd⟩ := hW
  have hA : DataW.TrodAll enc Tryz.prog W 0 (fun _ => true) true Tryz.f3.params.toList args.toList ds p := hA0
  rw [Tryz.params3] at hA hval hsz
  obtain ⟨v0, vs0, d0, ds0, p0, q0, hargs, rfl, rfl, h0, r0⟩ := trodAll_cons hA
  obtain ⟨v1, vs1, d1, ds1, p1, q1, rfl, rfl, rfl, h1, r1⟩ := trodAll_cons r0
  obtain ⟨rfl, rfl, rfl⟩ := trodAll_nil r1
  obtain rfl : args = #[v0, v1] := by cases args; simp_all
  obtain ⟨rfl, rfl⟩ := trodVars_none hV
  have lt0 : ∀ x ∈ p0, x.block < W.heap.size := fun x hx => hW'.lt x (by simp [hx])
  have ww0 : (d0.weights Tryz.prog 24).all (· ≤ reachBytes) = true := List.all_eq_true.2 fun y hy => List.all_eq_true.1 hsz y (DataW.weights_mem_each (j := 0) rfl rfl y hy)
  obtain ⟨as0, R0, T0⟩ := open_struct 8 Tryz.underlying24 (by kernel_rfl) (hval 0 24 v0 rfl rfl) h0 ww0
  obtain ⟨x0_0, rfl, b0⟩ := ty_heap T0
  have lt1 : ∀ x ∈ p1, x.block < W.heap.size := fun x hx => hW'.lt x (by simp [hx])
  have ww1 : (d1.weights Tryz.prog 27).all (· ≤ reachBytes) = true := List.all_eq_true.2 fun y hy => List.all_eq_true.1 hsz y (DataW.weights_mem_each (j := 1) rfl rfl y hy)
  obtain ⟨as1, R1, T1⟩ := open_struct 8 Tryz.underlying27 (by kernel_rfl) (hval 1 27 v1 rfl rfl) h1 ww1
  obtain ⟨x1_0, x1_1, x1_2, rfl, b1⟩ := ty_call T1
  clear hA0 hval0 hsz0 hsz
  refine (ptell_ok x0_0 b0 x1_0 x1_1 x1_2 b1 { I := fun b => b < W.heap.size, K := fun _ => False, pin := fun _ => none, ds := [], Bel := fun _ => True } W [v0, v1] (fun b => ⟨fun hb => hb, fun h => h⟩) ⟨R0, R1, trivial⟩).mono ?_
  rintro e W' (hF | ⟨v, x, T, β, rfl, ⟨rfl, rfl⟩, bel, hO, hR⟩)
  · exact hF.elim
  obtain rfl := hR.v_inv
  exact ⟨_, rfl, _, _, _, [], _, [], hW', trodAll_mk1 (shut_bool Tryz.underlying4 _), (trodAll_cons_mk (Below.trod laid (by kernel_rfl) (of_decide_eq_true (by kernel_rfl)) h0 bel lt0) (trodAll_cons_mk (Below.trod laid (by kernel_rfl) (of_decide_eq_true (by kernel_rfl)) h1 bel lt1) trodAll_mk0)), rfl, bel.frame _, fun h => by cases h⟩
theorem over : Rows.primTellsRow.holds Tryz.pinned (OpenSpec.ofChange Rows.primTellsSpec) :=
  OpenClaim.holds_of_wide 3 Tryz.f3 rfl rfl rfl rfl rfl rfl rfl ⟨rfl, rfl, rfl, rfl, rfl⟩ rfl rfl rfl rfl rfl (by kernel_rfl) Tryz.func3 (by kernel_rfl)
    (of_decide_eq_true (by kernel_rfl)) (by unfold Func.isWrapper; first | (rw [if_pos (by decide +kernel)]; kernel_rfl) | (rw [if_neg (by decide +kernel)]; exact ⟨rfl, rfl⟩))
    (fun os started H enc _ => lifted os started H enc)
theorem proved : Rows.PrimTellsSaid := over
#print axioms proved
end Go.Proofs.YtnjihhheiiapnaaGreat.primTells
namespace Go.Proofs.YtnjihhheiiapnaaGreat
/-- The row, under a short name, for the claim. -/
theorem primTells_holds : Rows.PrimTellsSaid := primTells.proved
end Go.Proofs.YtnjihhheiiapnaaGreat
