import Derived.Test.YtafbiccgbgcooaaDoorPValx2
import Derived.Test.YtafbiccgbgcooaaDoorVB
namespace Go.Proofs.YtafbiccgbgcooaaDoor.Pure
open Go.RowKit Go.Proofs.YtafbiccgbgcooaaDoor.PVal Go.Proofs.YtafbiccgbgcooaaDoorW.PrintWords Go.Proofs.YtafbiccgbgcooaaDoorW.PrintLast
open Go.Proofs.YtafbiccgbgcooaaDoor.VA
theorem ValueTells : anamnesislaw01_ValueTells.Pure := by
  intro a hw
  have hb := wf64 hw
  refine ⟨13, ?_⟩
  unfold anamnesislaw01_ValueTells.f
  simp only [int_eq, int_ref, ref_eq, ref_ref, may_eq, may_ref a hb, text_eq, text_ref a hb, Option.bind_some, if_true, bne_self_eq_false]
  unfold anamnesislaw01_ValueTells.j0
  simp only [n_eq, n_ref a hb, at_eq, at_ref, Option.bind_some, anamnesislaw01_fixed.f, if_true, Bool.false_eq_true, if_false, beq_self_eq_true]
  rfl
end Go.Proofs.YtafbiccgbgcooaaDoor.Pure
