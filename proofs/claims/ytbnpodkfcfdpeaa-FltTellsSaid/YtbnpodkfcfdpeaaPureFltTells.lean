/- Any operation on any two floats, as the program does it, is exactly the reference's: done exactly and rounded once. No condition. -/
import Derived.Test.YtbnpodkfcfdpeaaFltD
namespace Go.Proofs.Ytbnpodkfcfdpeaa.Pure
open Go.RowKit Go.Proofs.Ytbnpodkfcfdpeaa.PFlt Go.Proofs.YtbnpodkfcfdpeaaW.PrintWords Go.Proofs.YtbnpodkfcfdpeaaW.PrintLast FM Go.Proofs.Ytbnpodkfcfdpeaa.FA

theorem FltTells : anamnesislaw02_FltTells.Pure := by
  intro o a b _ ha hb
  obtain ⟨s, p, hp, rfl⟩ := split a ha
  obtain ⟨t, q, hq, rfl⟩ := split b hb
  refine ⟨200, ?_⟩
  unfold anamnesislaw02_FltTells.f
  rw [show anamnesislaw02_fixed.f = some true from rfl, Option.bind_some, Op_told 200 o s t p q (by omega) hp hq]
  unfold flt_Op.f
  rw [Option.bind_some, Option.bind_some, beq_self_eq_true]
end Go.Proofs.Ytbnpodkfcfdpeaa.Pure
