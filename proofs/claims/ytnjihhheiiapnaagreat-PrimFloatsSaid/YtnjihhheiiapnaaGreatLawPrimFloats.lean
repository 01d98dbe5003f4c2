/- The law PrimFloats: the row, out of what its call gives. Proved for every input, with no condition. -/
import Derived.Test.YtnjihhheiiapnaaGreatRows
import Derived.Test.YtnjihhheiiapnaaGreatMSx46
import Derived.Test.YtnjihhheiiapnaaGreatMSx16
import Derived.Test.YtnjihhheiiapnaaGreatMSa4
import Derived.WalkKit
import Derived.Handed
import Derived.ProofKit
import Derived.OpenShut
import Derived.ShutString
import Derived.ChangeOld
import Derived.Below
import Derived.SizedLaws
namespace Go.Proofs.YtnjihhheiiapnaaGreat.primFloats
open Go.ChangeShapes Go.WideShapes Go.ChangeAt Go.RowKit Go.Proofs.YtnjihhheiiapnaaGreat Go.Proofs.YtnjihhheiiapnaaGreat.AW
set_option linter.unusedVariables false
theorem own : ownKnob Tryz.prog.godebug = none := by kernel_rfl
theorem laid : laidOutB Tryz.prog = true := by kernel_rfl
set_option maxRecDepth 100000 in
theorem lifted (os : Os) (started : os.Started) (H : Type) (enc : TypeId × Value → H) :
    ReturnsInHanded {} Tryz.checked os 6 .any (Rows.primFloatsSpec.pre6 enc Tryz.prog Tryz.f6 Rows.primFloatsRow.domain false) (Rows.primFloatsSpec.post enc Tryz.prog Tryz.f6 false true false false) := by
  refine returnsInHanded_of_change_sized (C := Tryz.checked) own started (by kernel_rfl) Tryz.func6
    (ChangeSpec.witness6 (enc := enc) (C := Tryz.checked) false ⟨#[], #[.agg #[.slice none 0 0, .int .i64 0, .int .i64 0], .int .i64 0, .agg #[.int .i64 0, .int .i64 0]], []⟩ 8 (by kernel_rfl) (by kernel_rfl) (by kernel_rfl) (by kernel_rfl)) ?_
  intro W base args ds gs before hval0 hW hcnd hsz0 _
  have hsz : (DataW.weightsEach Tryz.prog (Tryz.f6.params.toList ++ Rows.primFloatsSpec.plain.varTypes Tryz.prog) (ds ++ gs)).all (· ≤ reachBytes) = true := hsz0
  have hval : ∀ (j : Nat) t v, Tryz.f6.params[j]? = some t → args[j]? = some v → Value.okWide Tryz.prog W .any base t v := hval0
  have hW' := hW
  obtain ⟨p, q, hA0, hV, rfl, hfz, hnd⟩ := hW
  have hA : DataW.TrodAll enc Tryz.prog W 0 (fun _ => true) true Tryz.f6.params.toList args.toList ds p := hA0
  rw [Tryz.params6] at hA hval hsz
  obtain ⟨v0, vs0, d0, ds0, p0, q0, hargs, rfl, rfl, h0, r0⟩ := trodAll_cons hA
  obtain ⟨v1, vs1, d1, ds1, p1, q1, rfl, rfl, rfl, h1, r1⟩ := trodAll_cons r0
  obtain ⟨v2, vs2, d2, ds2, p2, q2, rfl, rfl, rfl, h2, r2⟩ := trodAll_cons r1
  obtain ⟨rfl, rfl, rfl⟩ := trodAll_nil r2
  obtain rfl : args = #[v0, v1, v2] := by cases args; simp_all
  obtain ⟨rfl, rfl⟩ := trodVars_none hV
  have lt0 : ∀ x ∈ p0, x.block < W.heap.size := fun x hx => hW'.lt x (by simp [hx])
  have ww0 : (d0.weights Tryz.prog 24).all (· ≤ reachBytes) = true := List.all_eq_true.2 fun y hy => List.all_eq_true.1 hsz y (DataW.weights_mem_each (j := 0) rfl rfl y hy)
  obtain ⟨as0, R0, T0⟩ := open_struct 8 Tryz.underlying24 (by kernel_rfl) (hval 0 24 v0 rfl rfl) h0 ww0
  obtain ⟨x0_0, rfl, b0⟩ := ty_heap T0
  obtain ⟨a1, rfl, rfl, rfl, w1⟩ := open_int Tryz.underlying3 (hval 1 3 v1 rfl rfl) h1
  have lt2 : ∀ x ∈ p2, x.block < W.heap.size := fun x hx => hW'.lt x (by simp [hx])
  obtain ⟨x2_0, x2_1, R2, b2⟩ := open_arr2 Tryz.underlying39 Tryz.underlying3 (by kernel_rfl) (by kernel_rfl) (hval 2 39 v2 rfl rfl) h2
  clear hA0 hval0 hsz0 hsz
  refine (pfloat_ok x0_0 b0 a1 x2_0 x2_1 b2 { I := fun b => b < W.heap.size, K := fun _ => False, pin := fun _ => none, ds := [], Bel := fun _ => True } W [v0, .int .i64 a1, v2] (fun b => ⟨fun hb => hb, fun h => h⟩) ⟨R0, .v _, R2, trivial⟩).mono ?_
  rintro e W' (hF | ⟨v, x, T, β, rfl, ⟨rfl, rfl⟩, bel, hO, hR⟩)
  · exact hF.elim
  obtain rfl := hR.v_inv
  exact ⟨_, rfl, _, _, _, [], _, [], hW', trodAll_mk1 (shut_bool Tryz.underlying4 _), (trodAll_cons_mk (Below.trod laid (by kernel_rfl) (of_decide_eq_true (by kernel_rfl)) h0 bel lt0) (trodAll_cons_mk (shut_int Tryz.underlying3 w1) (trodAll_cons_mk (Below.trod laid (by kernel_rfl) (of_decide_eq_true (by kernel_rfl)) h2 bel lt2) trodAll_mk0))), rfl, bel.frame _, fun h => by cases h⟩
theorem over : Rows.primFloatsRow.holds Tryz.pinned (OpenSpec.ofChange Rows.primFloatsSpec) :=
  OpenClaim.holds_of_wide 6 Tryz.f6 rfl rfl rfl rfl rfl rfl rfl ⟨rfl, rfl, rfl, rfl, rfl⟩ rfl rfl rfl rfl rfl (by kernel_rfl) Tryz.func6 (by kernel_rfl)
    (of_decide_eq_true (by kernel_rfl)) (by unfold Func.isWrapper; first | (rw [if_pos (by decide +kernel)]; kernel_rfl) | (rw [if_neg (by decide +kernel)]; exact ⟨rfl, rfl⟩))
    (fun os started H enc _ => lifted os started H enc)
theorem proved : Rows.PrimFloatsSaid := over
#print axioms proved
end Go.Proofs.YtnjihhheiiapnaaGreat.primFloats
namespace Go.Proofs.YtnjihhheiiapnaaGreat
/-- The row, under a short name, for the claim. -/
theorem primFloats_holds : Rows.PrimFloatsSaid := primFloats.proved
end Go.Proofs.YtnjihhheiiapnaaGreat
