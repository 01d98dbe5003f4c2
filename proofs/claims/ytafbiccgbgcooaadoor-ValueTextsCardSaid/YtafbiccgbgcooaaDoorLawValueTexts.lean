-- laid by a program of this session (gprint.py)
import Derived.Test.YtafbiccgbgcooaaDoorRows
import Derived.Test.YtafbiccgbgcooaaDoorPValx3
import Derived.Test.YtafbiccgbgcooaaDoorPureValueTexts
import Derived.WalkKit
import Derived.Test.YtafbiccgbgcooaaDoorTie
import Derived.Test.YtafbiccgbgcooaaDoorCards
import Derived.LaidLaws
import Derived.LaidSub
import Derived.MakeChecks
import Derived.Lay
import Derived.Handed
import Derived.SevenTiedAt
import Derived.ProofKit
import Derived.OpenShut
import Derived.ShutString
import Derived.ChangeOld
import Derived.Below
import Derived.SizedLaws
namespace Go.Proofs.YtafbiccgbgcooaaDoor.valueTexts
open Go.ChangeShapes Go.WideShapes Go.ChangeAt Go.RowKit
open Go.ChangeMaps (open_string shut_string)
set_option linter.unusedVariables false
theorem own : ownKnob Tryd.prog.godebug = none := by kernel_rfl
theorem tab_of_laid {W : World} (h : laidMetH Tryd.prog Rows.valueTextsRow.laid W) : PVal.pow10Is W := by
  have h1 := (laidMetH_iff.1 (h.filter fun x => x.1 == "internal/strconv.uint64pow10")).1
  have e : ((Rows.valueTextsRow.laid.filter fun x : String × DataW Unit => x.1 == "internal/strconv.uint64pow10").filter fun x => x.2.handleName?.isNone) = ("internal/strconv.uint64pow10", Lib.tabData .u64 Lib.pow10Tab) :: [] := by kernel_rfl
  rw [e] at h1
  exact Lib.tabIs_of_head (g := 0) (t := 39) (e := 32) (n := 20) (by kernel_rfl) (by kernel_rfl) (by kernel_rfl) (by kernel_rfl) (by kernel_rfl) (by kernel_rfl) h1
set_option maxRecDepth 100000 in
theorem lifted (os : Os) (started : os.Started) (H : Type) (enc : TypeId × Value → H) :
    ReturnsInHanded {} Tryd.checked os 5 .any (fun w args => (Rows.valueTextsSpec.pre enc Tryd.prog Tryd.f5 Rows.valueTextsRow.domain false w args ∧ laidMetH Tryd.prog Rows.valueTextsRow.laid w) ∧ sizedMet enc Tryd.prog Tryd.f5 (OpenSpec.ofChange Rows.valueTextsSpec) false w args) (Rows.valueTextsSpec.post enc Tryd.prog Tryd.f5 false true false false) := by
  refine returnsInHanded_of_change_and (C := Tryd.checked) (X := fun w _ => laidMetH Tryd.prog Rows.valueTextsRow.laid w) (fun _ _ _ hh h => h.of_heap hh) own started (by kernel_rfl) Tryd.func5
    (ChangeSpec.witness_shaped (enc := enc) (C := Tryd.checked) (os := os) (X := fun w _ => laidMetH Tryd.prog Rows.valueTextsRow.laid w) false (World.laidAll Tryd.prog os Rows.valueTextsRow.laid) #[.int .i64 0, .int .i64 0] 8 (World.laidAll_os _ _ _)
      (World.shaped_of_ZipB (by kernel_rfl) (by kernel_rfl)) (by kernel_rfl) (by kernel_rfl) (by kernel_rfl)
      (by rw [MakeChecks.laidMetH_plain _ _ _ (by kernel_rfl)]; exact laidMet_laidAll _ (by kernel_rfl) (by kernel_rfl))) ?_
  intro W base args ds gs before hval0 hW hcnd hsz0 hL _
  have hsz : (DataW.weightsEach Tryd.prog (Tryd.f5.params.toList ++ Rows.valueTextsSpec.plain.varTypes Tryd.prog) (ds ++ gs)).all (· ≤ reachBytes) = true := hsz0
  have hval : ∀ (j : Nat) t v, Tryd.f5.params[j]? = some t → args[j]? = some v → Value.okWide Tryd.prog W .any base t v := hval0
  have hW' := hW
  obtain ⟨p, q, hA0, hV, rfl, hfz, hnd⟩ := hW
  have hA : DataW.TrodAll enc Tryd.prog W 0 (fun _ => true) true Tryd.f5.params.toList args.toList ds p := hA0
  rw [Tryd.params5] at hA hval hsz
  obtain ⟨v0, vs0, d0, ds0, p0, q0, hargs, rfl, rfl, h0, r0⟩ := trodAll_cons hA
  obtain ⟨v1, vs1, d1, ds1, p1, q1, rfl, rfl, rfl, h1, r1⟩ := trodAll_cons r0
  obtain ⟨rfl, rfl, rfl⟩ := trodAll_nil r1
  obtain rfl : args = #[v0, v1] := by cases args; simp_all
  obtain ⟨rfl, rfl⟩ := trodVars_none hV
  obtain ⟨a0, rfl, rfl, rfl, w0⟩ := open_int Tryd.underlying3 (hval 0 3 v0 rfl rfl) h0
  obtain ⟨a1, rfl, rfl, rfl, w1⟩ := open_int Tryd.underlying3 (hval 1 3 v1 rfl rfl) h1
  clear hA0 hval0 hsz0 hsz
  refine (PVal.anamnesislaw01_ValueTexts.walk Pure.ValueTexts a0 a1 W w0 w1 (tab_of_laid hL)).mono fun e W' ⟨he, bel⟩ => ?_
  subst he
  exact ⟨_, rfl, _, _, _, [], _, [], hW', trodAll_mk1 (shut_bool Tryd.underlying4 _), (trodAll_cons_mk (shut_int Tryd.underlying3 w0) (trodAll_cons_mk (shut_int Tryd.underlying3 w1) trodAll_mk0)), rfl, bel.frame _, fun h => by cases h⟩
theorem over : Rows.valueTextsRow.holds Tryd.pinned (OpenSpec.ofChange Rows.valueTextsSpec) :=
  OpenClaim.holds_of_wide 5 Tryd.f5 rfl rfl rfl rfl rfl rfl rfl ⟨rfl, rfl, rfl, rfl, rfl⟩ rfl rfl rfl rfl rfl (by kernel_rfl) Tryd.func5 (by kernel_rfl)
    (of_decide_eq_true (by kernel_rfl)) (by unfold Func.isWrapper; first | (rw [if_pos (by decide +kernel)]; kernel_rfl) | (rw [if_neg (by decide +kernel)]; exact ⟨rfl, rfl⟩))
    (fun os started H enc _ => lifted os started H enc)
theorem proved : Rows.ValueTextsSaid := over
#print axioms proved
theorem card : Rows.ValueTextsCardSaid :=
  Claim7.holds_tied_plain_at .later [] [.data, .data, .data] true (true, "eec4a7f4993c7f34d6085e6b9fe151f0ffe483c3a44d11074a2a92ec3c618ae1") false
    proved (fun _ h => by cases h) (by kernel_rfl) (fun _ h => by cases h) valueTexts_row_tie rfl ⟨rfl, rfl⟩ (by kernel_rfl) rfl
    (fun f fn hf hfn => by
      obtain rfl : f = 5 := Option.some.inj ((show Tryd.prog.funcNamed "anamnesis/anamnesislaw01.ValueTexts" = some 5 by kernel_rfl).symm.trans hf) |>.symm
      obtain rfl : fn = Tryd.f5 := (Option.some.inj (Tryd.func5.symm.trans hfn)).symm
      exact ⟨by kernel_rfl, fun j t ht => by
        rw [Tryd.params5] at ht
        have hm := Array.mem_of_getElem? ht
        have hall : ((Tryd.f5.params).all fun u => !Tryd.prog.wantsStandIn u) = true := by kernel_rfl
        rw [Tryd.params5] at hall
        have h5 : (!Tryd.prog.wantsStandIn t) = true := (Array.all_eq_true_iff_forall_mem.mp hall) t hm
        have h6 : Tryd.prog.wantsStandIn t = false := by simpa using h5
        exact h6⟩)
    (by kernel_rfl)
#print axioms card
end Go.Proofs.YtafbiccgbgcooaaDoor.valueTexts
namespace Go.Proofs.YtafbiccgbgcooaaDoor
/-- The row, under a short name, for the claim. -/
theorem valueTextsCard_holds : Rows.ValueTextsCardSaid := valueTexts.card
end Go.Proofs.YtafbiccgbgcooaaDoor
