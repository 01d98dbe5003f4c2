-- laid by a program of this session (gprint.py)
import Derived.Test.YtbnpodkfcfdpeaaPFltx0
import Derived.Test.YtbnpodkfcfdpeaaPFltx2
namespace Go.Proofs.Ytbnpodkfcfdpeaa.PFlt
open Go.RowKit Go.Proofs.YtbnpodkfcfdpeaaW.PrintWords Go.Proofs.YtbnpodkfcfdpeaaW.PrintLast Go.Proofs.YtbnpodkfcfdpeaaW.PrintMore
attribute [local go_sem] max2_int min2_int max_two min_two max_three min_three max_four min_four   -- for this text's walks alone
set_option linter.unusedVariables false
set_option linter.unusedSimpArgs false

/-! ### anamnesisref02_round: function 41 -/
mutual
def anamnesisref02_round.j0 : Nat → Int → Int → Int → Option (Int)
  | 0, _, _, _ => none
  | k + 1, x0, x1, x7 => if x0 = 9007199254740992 then (anamnesisref02_round.j1 k 4503599627370496 (wrap64 ((wrap64 (x1 + x7)) + 1))) else (anamnesisref02_round.j1 k x0 (wrap64 (x1 + x7)))
def anamnesisref02_round.j1 : Nat → Int → Int → Option (Int)
  | 0, _, _ => none
  | k + 1, x0, x1 => if x0 < 4503599627370496 then (some x0) else (if x1 > 971 then (some 9218868437227405312) else (some (wrap64 ((wrap64 ((wrap64 ((wrap64 (x1 + 1075)) * 4503599627370496)) + x0)) - 4503599627370496))))
end
def anamnesisref02_round.f (k : Nat) (a0 : Int) (a1 : Int) (a2 : Bool) : Option (Int) := (anamnesisref02_top.f k a0).bind fun t132 => (if (mx (wrap64 (t132 - 52)) (wrap64 ((-1074) - a1))) ≤ 0 then (if 0 ≤ (IntKind.u64.wrap (wrap64 (-(mx (wrap64 (t132 - 52)) (wrap64 ((-1074) - a1)))))) then (anamnesisref02_round.j0 k (shl .i64 a0 (IntKind.u64.wrap (wrap64 (-(mx (wrap64 (t132 - 52)) (wrap64 ((-1074) - a1))))))) a1 (mx (wrap64 (t132 - 52)) (wrap64 ((-1074) - a1)))) else (none)) else (if (mx (wrap64 (t132 - 52)) (wrap64 ((-1074) - a1))) < 63 then (if 0 ≤ (IntKind.u64.wrap (mx (wrap64 (t132 - 52)) (wrap64 ((-1074) - a1)))) then (if (shl .i64 1 (IntKind.u64.wrap (mx (wrap64 (t132 - 52)) (wrap64 ((-1074) - a1))))) = 0 then (none) else (if 0 ≤ (IntKind.u64.wrap (wrap64 ((mx (wrap64 (t132 - 52)) (wrap64 ((-1074) - a1))) - 1))) then (if (Int.tmod a0 (shl .i64 1 (IntKind.u64.wrap (mx (wrap64 (t132 - 52)) (wrap64 ((-1074) - a1)))))) > (shl .i64 1 (IntKind.u64.wrap (wrap64 ((mx (wrap64 (t132 - 52)) (wrap64 ((-1074) - a1))) - 1)))) then (anamnesisref02_round.j0 k (wrap64 ((shr .i64 a0 (IntKind.u64.wrap (mx (wrap64 (t132 - 52)) (wrap64 ((-1074) - a1))))) + 1)) a1 (mx (wrap64 (t132 - 52)) (wrap64 ((-1074) - a1)))) else (if (Int.tmod a0 (shl .i64 1 (IntKind.u64.wrap (mx (wrap64 (t132 - 52)) (wrap64 ((-1074) - a1)))))) = (shl .i64 1 (IntKind.u64.wrap (wrap64 ((mx (wrap64 (t132 - 52)) (wrap64 ((-1074) - a1))) - 1)))) then (if a2 = true then (anamnesisref02_round.j0 k (wrap64 ((shr .i64 a0 (IntKind.u64.wrap (mx (wrap64 (t132 - 52)) (wrap64 ((-1074) - a1))))) + 1)) a1 (mx (wrap64 (t132 - 52)) (wrap64 ((-1074) - a1)))) else (if (Int.tmod (shr .i64 a0 (IntKind.u64.wrap (mx (wrap64 (t132 - 52)) (wrap64 ((-1074) - a1))))) 2) = 1 then (anamnesisref02_round.j0 k (wrap64 ((shr .i64 a0 (IntKind.u64.wrap (mx (wrap64 (t132 - 52)) (wrap64 ((-1074) - a1))))) + 1)) a1 (mx (wrap64 (t132 - 52)) (wrap64 ((-1074) - a1)))) else (anamnesisref02_round.j0 k (shr .i64 a0 (IntKind.u64.wrap (mx (wrap64 (t132 - 52)) (wrap64 ((-1074) - a1))))) a1 (mx (wrap64 (t132 - 52)) (wrap64 ((-1074) - a1)))))) else (anamnesisref02_round.j0 k (shr .i64 a0 (IntKind.u64.wrap (mx (wrap64 (t132 - 52)) (wrap64 ((-1074) - a1))))) a1 (mx (wrap64 (t132 - 52)) (wrap64 ((-1074) - a1)))))) else (none))) else (none)) else ((anamnesisref02_most.f).bind fun t133 => (if a0 > t133 then (anamnesisref02_round.j0 k 1 a1 (mx (wrap64 (t132 - 52)) (wrap64 ((-1074) - a1)))) else (if a0 = t133 then (if a2 = true then (anamnesisref02_round.j0 k 1 a1 (mx (wrap64 (t132 - 52)) (wrap64 ((-1074) - a1)))) else (anamnesisref02_round.j0 k 0 a1 (mx (wrap64 (t132 - 52)) (wrap64 ((-1074) - a1))))) else (anamnesisref02_round.j0 k 0 a1 (mx (wrap64 (t132 - 52)) (wrap64 ((-1074) - a1)))))))))
theorem anamnesisref02_round.mono_l : ∀ k, (∀ y0 y1 y2, LeO (anamnesisref02_round.j0 k y0 y1 y2) (anamnesisref02_round.j0 (k + 1) y0 y1 y2)) ∧ (∀ y0 y1, LeO (anamnesisref02_round.j1 k y0 y1) (anamnesisref02_round.j1 (k + 1) y0 y1))
  | 0 => ⟨fun _ _ _ r h => by simp [anamnesisref02_round.j0] at h, fun _ _ r h => by simp [anamnesisref02_round.j1] at h⟩
  | k + 1 => by
    obtain ⟨ih0, ih1⟩ := anamnesisref02_round.mono_l k
    refine ⟨?_, ?_⟩
    · intro y0 y1 y2
      unfold anamnesisref02_round.j0
      repeat' first
      | (with_reducible exact ih0 _ _ _)
      | (with_reducible exact ih1 _ _)
      | (with_reducible exact anamnesisref02_top.mono _ _)
      | (with_reducible exact LeO.refl _)
      | (with_reducible exact LeO.none _)
      | (with_reducible refine LeO.ite ?_ ?_)
      | (with_reducible refine LeO.bind ?_ (fun _ => ?_))
      | exact ih0 _ _ _
      | exact ih1 _ _
      | exact anamnesisref02_top.mono _ _
      | exact LeO.none _
      | refine LeO.ite ?_ ?_
      | refine LeO.bind ?_ (fun _ => ?_)
    · intro y0 y1
      unfold anamnesisref02_round.j1
      repeat' first
      | (with_reducible exact ih0 _ _ _)
      | (with_reducible exact ih1 _ _)
      | (with_reducible exact anamnesisref02_top.mono _ _)
      | (with_reducible exact LeO.refl _)
      | (with_reducible exact LeO.none _)
      | (with_reducible refine LeO.ite ?_ ?_)
      | (with_reducible refine LeO.bind ?_ (fun _ => ?_))
      | exact ih0 _ _ _
      | exact ih1 _ _
      | exact anamnesisref02_top.mono _ _
      | exact LeO.none _
      | refine LeO.ite ?_ ?_
      | refine LeO.bind ?_ (fun _ => ?_)
theorem anamnesisref02_round.mono : ∀ a0 a1 a2 k, LeO (anamnesisref02_round.f k a0 a1 a2) (anamnesisref02_round.f (k + 1) a0 a1 a2) := by
  intro a0 a1 a2 k
  obtain ⟨ih0, ih1⟩ := anamnesisref02_round.mono_l k
  unfold anamnesisref02_round.f
  repeat' first
      | (with_reducible exact ih0 _ _ _)
      | (with_reducible exact ih1 _ _)
      | (with_reducible exact anamnesisref02_top.mono _ _)
      | (with_reducible exact LeO.refl _)
      | (with_reducible exact LeO.none _)
      | (with_reducible refine LeO.ite ?_ ?_)
      | (with_reducible refine LeO.bind ?_ (fun _ => ?_))
      | exact ih0 _ _ _
      | exact ih1 _ _
      | exact anamnesisref02_top.mono _ _
      | exact LeO.none _
      | refine LeO.ite ?_ ?_
      | refine LeO.bind ?_ (fun _ => ?_)
set_option maxHeartbeats 8000000 in
set_option maxRecDepth 100000 in
theorem anamnesisref02_round.calls (k : Nat) (a0 : Int) (a1 : Int) (a2 : Bool) (r : Int) (w : World) (h : anamnesisref02_round.f k a0 a1 a2 = some r) :
    Calls Try.prog 41 #[.int .i64 a0, .int .i64 a1, .bool a2] w fun e w' => e = .returned (.int .i64 r) ∧ Below w.heap.size w w' := by
  have HB := Aside0.mk (Below.refl w.heap.size w)
  have H : ((anamnesisref02_top.f k a0).bind fun t132 => (if (mx (wrap64 (t132 - 52)) (wrap64 ((-1074) - a1))) ≤ 0 then (if 0 ≤ (IntKind.u64.wrap (wrap64 (-(mx (wrap64 (t132 - 52)) (wrap64 ((-1074) - a1)))))) then (anamnesisref02_round.j0 k (shl .i64 a0 (IntKind.u64.wrap (wrap64 (-(mx (wrap64 (t132 - 52)) (wrap64 ((-1074) - a1))))))) a1 (mx (wrap64 (t132 - 52)) (wrap64 ((-1074) - a1)))) else (none)) else (if (mx (wrap64 (t132 - 52)) (wrap64 ((-1074) - a1))) < 63 then (if 0 ≤ (IntKind.u64.wrap (mx (wrap64 (t132 - 52)) (wrap64 ((-1074) - a1)))) then (if (shl .i64 1 (IntKind.u64.wrap (mx (wrap64 (t132 - 52)) (wrap64 ((-1074) - a1))))) = 0 then (none) else (if 0 ≤ (IntKind.u64.wrap (wrap64 ((mx (wrap64 (t132 - 52)) (wrap64 ((-1074) - a1))) - 1))) then (if (Int.tmod a0 (shl .i64 1 (IntKind.u64.wrap (mx (wrap64 (t132 - 52)) (wrap64 ((-1074) - a1)))))) > (shl .i64 1 (IntKind.u64.wrap (wrap64 ((mx (wrap64 (t132 - 52)) (wrap64 ((-1074) - a1))) - 1)))) then (anamnesisref02_round.j0 k (wrap64 ((shr .i64 a0 (IntKind.u64.wrap (mx (wrap64 (t132 - 52)) (wrap64 ((-1074) - a1))))) + 1)) a1 (mx (wrap64 (t132 - 52)) (wrap64 ((-1074) - a1)))) else (if (Int.tmod a0 (shl .i64 1 (IntKind.u64.wrap (mx (wrap64 (t132 - 52)) (wrap64 ((-1074) - a1)))))) = (shl .i64 1 (IntKind.u64.wrap (wrap64 ((mx (wrap64 (t132 - 52)) (wrap64 ((-1074) - a1))) - 1)))) then (if a2 = true then (anamnesisref02_round.j0 k (wrap64 ((shr .i64 a0 (IntKind.u64.wrap (mx (wrap64 (t132 - 52)) (wrap64 ((-1074) - a1))))) + 1)) a1 (mx (wrap64 (t132 - 52)) (wrap64 ((-1074) - a1)))) else (if (Int.tmod (shr .i64 a0 (IntKind.u64.wrap (mx (wrap64 (t132 - 52)) (wrap64 ((-1074) - a1))))) 2) = 1 then (anamnesisref02_round.j0 k (wrap64 ((shr .i64 a0 (IntKind.u64.wrap (mx (wrap64 (t132 - 52)) (wrap64 ((-1074) - a1))))) + 1)) a1 (mx (wrap64 (t132 - 52)) (wrap64 ((-1074) - a1)))) else (anamnesisref02_round.j0 k (shr .i64 a0 (IntKind.u64.wrap (mx (wrap64 (t132 - 52)) (wrap64 ((-1074) - a1))))) a1 (mx (wrap64 (t132 - 52)) (wrap64 ((-1074) - a1)))))) else (anamnesisref02_round.j0 k (shr .i64 a0 (IntKind.u64.wrap (mx (wrap64 (t132 - 52)) (wrap64 ((-1074) - a1))))) a1 (mx (wrap64 (t132 - 52)) (wrap64 ((-1074) - a1)))))) else (none))) else (none)) else ((anamnesisref02_most.f).bind fun t133 => (if a0 > t133 then (anamnesisref02_round.j0 k 1 a1 (mx (wrap64 (t132 - 52)) (wrap64 ((-1074) - a1)))) else (if a0 = t133 then (if a2 = true then (anamnesisref02_round.j0 k 1 a1 (mx (wrap64 (t132 - 52)) (wrap64 ((-1074) - a1)))) else (anamnesisref02_round.j0 k 0 a1 (mx (wrap64 (t132 - 52)) (wrap64 ((-1074) - a1))))) else (anamnesisref02_round.j0 k 0 a1 (mx (wrap64 (t132 - 52)) (wrap64 ((-1074) - a1)))))))))) = some r := h
  clear h
  replace H := Option.bind_eq_some_iff.mp H
  obtain ⟨t132, A40, H⟩ := H
  replace H : (if (mx (wrap64 (t132 - 52)) (wrap64 ((-1074) - a1))) ≤ 0 then (if 0 ≤ (IntKind.u64.wrap (wrap64 (-(mx (wrap64 (t132 - 52)) (wrap64 ((-1074) - a1)))))) then (anamnesisref02_round.j0 k (shl .i64 a0 (IntKind.u64.wrap (wrap64 (-(mx (wrap64 (t132 - 52)) (wrap64 ((-1074) - a1))))))) a1 (mx (wrap64 (t132 - 52)) (wrap64 ((-1074) - a1)))) else (none)) else (if (mx (wrap64 (t132 - 52)) (wrap64 ((-1074) - a1))) < 63 then (if 0 ≤ (IntKind.u64.wrap (mx (wrap64 (t132 - 52)) (wrap64 ((-1074) - a1)))) then (if (shl .i64 1 (IntKind.u64.wrap (mx (wrap64 (t132 - 52)) (wrap64 ((-1074) - a1))))) = 0 then (none) else (if 0 ≤ (IntKind.u64.wrap (wrap64 ((mx (wrap64 (t132 - 52)) (wrap64 ((-1074) - a1))) - 1))) then (if (Int.tmod a0 (shl .i64 1 (IntKind.u64.wrap (mx (wrap64 (t132 - 52)) (wrap64 ((-1074) - a1)))))) > (shl .i64 1 (IntKind.u64.wrap (wrap64 ((mx (wrap64 (t132 - 52)) (wrap64 ((-1074) - a1))) - 1)))) then (anamnesisref02_round.j0 k (wrap64 ((shr .i64 a0 (IntKind.u64.wrap (mx (wrap64 (t132 - 52)) (wrap64 ((-1074) - a1))))) + 1)) a1 (mx (wrap64 (t132 - 52)) (wrap64 ((-1074) - a1)))) else (if (Int.tmod a0 (shl .i64 1 (IntKind.u64.wrap (mx (wrap64 (t132 - 52)) (wrap64 ((-1074) - a1)))))) = (shl .i64 1 (IntKind.u64.wrap (wrap64 ((mx (wrap64 (t132 - 52)) (wrap64 ((-1074) - a1))) - 1)))) then (if a2 = true then (anamnesisref02_round.j0 k (wrap64 ((shr .i64 a0 (IntKind.u64.wrap (mx (wrap64 (t132 - 52)) (wrap64 ((-1074) - a1))))) + 1)) a1 (mx (wrap64 (t132 - 52)) (wrap64 ((-1074) - a1)))) else (if (Int.tmod (shr .i64 a0 (IntKind.u64.wrap (mx (wrap64 (t132 - 52)) (wrap64 ((-1074) - a1))))) 2) = 1 then (anamnesisref02_round.j0 k (wrap64 ((shr .i64 a0 (IntKind.u64.wrap (mx (wrap64 (t132 - 52)) (wrap64 ((-1074) - a1))))) + 1)) a1 (mx (wrap64 (t132 - 52)) (wrap64 ((-1074) - a1)))) else (anamnesisref02_round.j0 k (shr .i64 a0 (IntKind.u64.wrap (mx (wrap64 (t132 - 52)) (wrap64 ((-1074) - a1))))) a1 (mx (wrap64 (t132 - 52)) (wrap64 ((-1074) - a1)))))) else (anamnesisref02_round.j0 k (shr .i64 a0 (IntKind.u64.wrap (mx (wrap64 (t132 - 52)) (wrap64 ((-1074) - a1))))) a1 (mx (wrap64 (t132 - 52)) (wrap64 ((-1074) - a1)))))) else (none))) else (none)) else ((anamnesisref02_most.f).bind fun t133 => (if a0 > t133 then (anamnesisref02_round.j0 k 1 a1 (mx (wrap64 (t132 - 52)) (wrap64 ((-1074) - a1)))) else (if a0 = t133 then (if a2 = true then (anamnesisref02_round.j0 k 1 a1 (mx (wrap64 (t132 - 52)) (wrap64 ((-1074) - a1)))) else (anamnesisref02_round.j0 k 0 a1 (mx (wrap64 (t132 - 52)) (wrap64 ((-1074) - a1))))) else (anamnesisref02_round.j0 k 0 a1 (mx (wrap64 (t132 - 52)) (wrap64 ((-1074) - a1))))))))) = some r := H
  have A4 := Aside0.mk A40
  clear A40
  obtain ⟨ji5, hji5⟩ : ∃ j_ : Int, (mx (wrap64 (t132 - 52)) (wrap64 ((-1074) - a1))) = j_ := ⟨_, rfl⟩
  replace H : (if (ji5) ≤ 0 then (if 0 ≤ (IntKind.u64.wrap (wrap64 (-(ji5)))) then (anamnesisref02_round.j0 k (shl .i64 a0 (IntKind.u64.wrap (wrap64 (-(ji5))))) a1 ji5) else (none)) else (if (ji5) < 63 then (if 0 ≤ (IntKind.u64.wrap (ji5)) then (if (shl .i64 1 (IntKind.u64.wrap (ji5))) = 0 then (none) else (if 0 ≤ (IntKind.u64.wrap (wrap64 ((ji5) - 1))) then (if (Int.tmod a0 (shl .i64 1 (IntKind.u64.wrap (ji5)))) > (shl .i64 1 (IntKind.u64.wrap (wrap64 ((ji5) - 1)))) then (anamnesisref02_round.j0 k (wrap64 ((shr .i64 a0 (IntKind.u64.wrap (ji5))) + 1)) a1 ji5) else (if (Int.tmod a0 (shl .i64 1 (IntKind.u64.wrap (ji5)))) = (shl .i64 1 (IntKind.u64.wrap (wrap64 ((ji5) - 1)))) then (if a2 = true then (anamnesisref02_round.j0 k (wrap64 ((shr .i64 a0 (IntKind.u64.wrap (ji5))) + 1)) a1 ji5) else (if (Int.tmod (shr .i64 a0 (IntKind.u64.wrap (ji5))) 2) = 1 then (anamnesisref02_round.j0 k (wrap64 ((shr .i64 a0 (IntKind.u64.wrap (ji5))) + 1)) a1 ji5) else (anamnesisref02_round.j0 k (shr .i64 a0 (IntKind.u64.wrap (ji5))) a1 ji5))) else (anamnesisref02_round.j0 k (shr .i64 a0 (IntKind.u64.wrap (ji5))) a1 ji5))) else (none))) else (none)) else ((anamnesisref02_most.f).bind fun t133 => (if a0 > t133 then (anamnesisref02_round.j0 k 1 a1 ji5) else (if a0 = t133 then (if a2 = true then (anamnesisref02_round.j0 k 1 a1 ji5) else (anamnesisref02_round.j0 k 0 a1 ji5)) else (anamnesisref02_round.j0 k 0 a1 ji5)))))) = some r := by first | (rw [hji5] at H; exact H) | (simp only [hji5] at H ⊢; exact H)
  (try rw [hji5] at A4)
  have hji5_ : (if (wrap64 (t132 - 52)) < (wrap64 ((-1074) - a1)) then (wrap64 ((-1074) - a1)) else (wrap64 (t132 - 52))) = ji5 := hji5
  have HC6 := Aside0.mk H
  clear H
  go_enter Try.func41, Try.ntmps41
  go_upto_if 17 with (first | ((with_reducible refine gate_callee (f := 49) rfl ?_); refine goesL_ (some 11) rfl rfl Try.func49 (by kernel_rfl) rfl #[.int .i64 a0] rfl (by (try simp only [List.map_toArray, List.map_cons, List.map_nil]); first | done | rfl | (simp only [List.length_drop, List.length_take]; rfl)) ?_; (with_reducible refine (anamnesisref02_top.calls k a0 t132 _ A4.out).mono ?_); rintro e w' ⟨rfl, ⟨nd, rfl⟩⟩; refine ⟨_, rfl, ?_⟩))
  (try simp only [Act.put, List.setIfInBounds_toArray, List.set_cons_zero, List.set_cons_succ])
  go_cut [0] (fun v0 wc => ∃ (kq : Nat) (x0_5 : Int), v0 = .int .i64 x0_5 ∧ Aside0 (anamnesisref02_round.j0 kq x0_5 a1 ji5 = some r) ∧ Aside0 (kq ≤ k) ∧ Aside0 (Below w.heap.size w wc))
  case first =>
    have H := HC6.out
    clear HC6
    by_cases c7 : (ji5) ≤ 0
    · rw [if_pos c7] at H
      have c7b0 : decide ((ji5) ≤ 0) = true := decide_eq_true c7
      clear c7
      (first | rw [c7b0] | (simp only [i64_w, i32_w]; rw [c7b0]) | skip)
      obtain ⟨ji8, hji8⟩ : ∃ j_ : Int, (IntKind.u64.wrap (wrap64 (-(ji5)))) = j_ := ⟨_, rfl⟩
      replace H : (if 0 ≤ (ji8) then (anamnesisref02_round.j0 k (shl .i64 a0 (ji8)) a1 ji5) else (none)) = some r := by first | (rw [hji8] at H; exact H) | (simp only [hji8] at H ⊢; exact H)
      by_cases c9 : 0 ≤ (ji8)
      · rw [if_pos c9] at H
        have c9b0 := eq_true c9
        have c9b1 : decide (0 ≤ (ji8)) = true := decide_eq_true c9
        clear c9
        obtain ⟨ji10, hji10⟩ : ∃ j_ : Int, (shl .i64 a0 (ji8)) = j_ := ⟨_, rfl⟩
        replace H : (anamnesisref02_round.j0 k ji10 a1 ji5) = some r := by first | (rw [hji10] at H; exact H) | (simp only [hji10] at H ⊢; exact H)
        have hji10_ : (IntKind.i64.wrap (a0 * 2 ^ min (ji8).toNat 64)) = ji10 := hji10
        have hji10z : (ji8) ≤ 64 → (IntKind.i64.wrap (a0 * 2 ^ (ji8).toNat)) = ji10 := shl_small hji10
        have hji10y : (wrap64 (a0 * 2 ^ min (ji8).toNat 64)) = ji10 := (i64_w _).symm.trans hji10_
        have hji10x : (ji8) ≤ 64 → (wrap64 (a0 * 2 ^ (ji8).toNat)) = ji10 := fun h_ => (i64_w _).symm.trans (hji10z h_)
        have H' := Aside0.mk H
        clear H
        go_wp2
        go_meet
        case rel => exact ⟨_, (ji10), (by first | rfl | (simp; done) | (simp only [← hji10] <;> (first | rfl | simp)) | (simp [*]; done)), H', ⟨by first | omega | exact Nat.le_refl _⟩, ⟨by repeat (first | (with_reducible first | exact HB.out | apply below_alloc | apply pw_below_drewN | apply below_drew1) | exact HB.out)⟩⟩
      · rw [if_neg c9] at H
        exact absurd H (by simp)
    · rw [if_neg c7] at H
      have c7b0 : decide ((ji5) ≤ 0) = false := decide_eq_false c7
      clear c7
      (first | rw [c7b0] | (simp only [i64_w, i32_w]; rw [c7b0]) | skip)
      by_cases c11 : (ji5) < 63
      · rw [if_pos c11] at H
        have c11b0 : decide ((ji5) < 63) = true := decide_eq_true c11
        clear c11
        obtain ⟨ji12, hji12⟩ : ∃ j_ : Int, (IntKind.u64.wrap (ji5)) = j_ := ⟨_, rfl⟩
        replace H : (if 0 ≤ (ji12) then (if (shl .i64 1 (ji12)) = 0 then (none) else (if 0 ≤ (IntKind.u64.wrap (wrap64 ((ji5) - 1))) then (if (Int.tmod a0 (shl .i64 1 (ji12))) > (shl .i64 1 (IntKind.u64.wrap (wrap64 ((ji5) - 1)))) then (anamnesisref02_round.j0 k (wrap64 ((shr .i64 a0 (ji12)) + 1)) a1 ji5) else (if (Int.tmod a0 (shl .i64 1 (ji12))) = (shl .i64 1 (IntKind.u64.wrap (wrap64 ((ji5) - 1)))) then (if a2 = true then (anamnesisref02_round.j0 k (wrap64 ((shr .i64 a0 (ji12)) + 1)) a1 ji5) else (if (Int.tmod (shr .i64 a0 (ji12)) 2) = 1 then (anamnesisref02_round.j0 k (wrap64 ((shr .i64 a0 (ji12)) + 1)) a1 ji5) else (anamnesisref02_round.j0 k (shr .i64 a0 (ji12)) a1 ji5))) else (anamnesisref02_round.j0 k (shr .i64 a0 (ji12)) a1 ji5))) else (none))) else (none)) = some r := by first | (rw [hji12] at H; exact H) | (simp only [hji12] at H ⊢; exact H)
        by_cases c13 : 0 ≤ (ji12)
        · rw [if_pos c13] at H
          have c13b0 := eq_true c13
          have c13b1 : decide (0 ≤ (ji12)) = true := decide_eq_true c13
          clear c13
          obtain ⟨ji14, hji14⟩ : ∃ j_ : Int, (shl .i64 1 (ji12)) = j_ := ⟨_, rfl⟩
          replace H : (if (ji14) = 0 then (none) else (if 0 ≤ (IntKind.u64.wrap (wrap64 ((ji5) - 1))) then (if (Int.tmod a0 (ji14)) > (shl .i64 1 (IntKind.u64.wrap (wrap64 ((ji5) - 1)))) then (anamnesisref02_round.j0 k (wrap64 ((shr .i64 a0 (ji12)) + 1)) a1 ji5) else (if (Int.tmod a0 (ji14)) = (shl .i64 1 (IntKind.u64.wrap (wrap64 ((ji5) - 1)))) then (if a2 = true then (anamnesisref02_round.j0 k (wrap64 ((shr .i64 a0 (ji12)) + 1)) a1 ji5) else (if (Int.tmod (shr .i64 a0 (ji12)) 2) = 1 then (anamnesisref02_round.j0 k (wrap64 ((shr .i64 a0 (ji12)) + 1)) a1 ji5) else (anamnesisref02_round.j0 k (shr .i64 a0 (ji12)) a1 ji5))) else (anamnesisref02_round.j0 k (shr .i64 a0 (ji12)) a1 ji5))) else (none))) = some r := by first | (rw [hji14] at H; exact H) | (simp only [hji14] at H ⊢; exact H)
          have hji14_ : (IntKind.i64.wrap (1 * 2 ^ min (ji12).toNat 64)) = ji14 := hji14
          have hji14z : (ji12) ≤ 64 → (IntKind.i64.wrap (1 * 2 ^ (ji12).toNat)) = ji14 := shl_small hji14
          have hji14u : (IntKind.i64.wrap (2 ^ min (ji12).toNat 64)) = ji14 := by have h_ := hji14_; rw [Int.one_mul] at h_; exact h_
          have hji14v : (ji12) ≤ 64 → (IntKind.i64.wrap (2 ^ (ji12).toNat)) = ji14 := fun hle_ => by have h_ := hji14z hle_; rw [Int.one_mul] at h_; exact h_
          have hji14y : (wrap64 (1 * 2 ^ min (ji12).toNat 64)) = ji14 := (i64_w _).symm.trans hji14_
          have hji14x : (ji12) ≤ 64 → (wrap64 (1 * 2 ^ (ji12).toNat)) = ji14 := fun h_ => (i64_w _).symm.trans (hji14z h_)
          by_cases c15 : (ji14) = 0
          · rw [if_pos c15] at H
            exact absurd H (by simp)
          · rw [if_neg c15] at H
            have c15b0 : ((ji14) == 0) = false := beq_eq_false_iff_ne.mpr c15
            have c15b1 : ((ji14) != 0) = true := bne_iff_ne.mpr c15
            obtain ⟨ji16, hji16⟩ : ∃ j_ : Int, (IntKind.u64.wrap (wrap64 ((ji5) - 1))) = j_ := ⟨_, rfl⟩
            replace H : (if 0 ≤ (ji16) then (if (Int.tmod a0 (ji14)) > (shl .i64 1 (ji16)) then (anamnesisref02_round.j0 k (wrap64 ((shr .i64 a0 (ji12)) + 1)) a1 ji5) else (if (Int.tmod a0 (ji14)) = (shl .i64 1 (ji16)) then (if a2 = true then (anamnesisref02_round.j0 k (wrap64 ((shr .i64 a0 (ji12)) + 1)) a1 ji5) else (if (Int.tmod (shr .i64 a0 (ji12)) 2) = 1 then (anamnesisref02_round.j0 k (wrap64 ((shr .i64 a0 (ji12)) + 1)) a1 ji5) else (anamnesisref02_round.j0 k (shr .i64 a0 (ji12)) a1 ji5))) else (anamnesisref02_round.j0 k (shr .i64 a0 (ji12)) a1 ji5))) else (none)) = some r := by first | (rw [hji16] at H; exact H) | (simp only [hji16] at H ⊢; exact H)
            by_cases c17 : 0 ≤ (ji16)
            · rw [if_pos c17] at H
              have c17b0 := eq_true c17
              have c17b1 : decide (0 ≤ (ji16)) = true := decide_eq_true c17
              clear c17
              obtain ⟨ji18, hji18⟩ : ∃ j_ : Int, (shl .i64 1 (ji16)) = j_ := ⟨_, rfl⟩
              replace H : (if (Int.tmod a0 (ji14)) > (ji18) then (anamnesisref02_round.j0 k (wrap64 ((shr .i64 a0 (ji12)) + 1)) a1 ji5) else (if (Int.tmod a0 (ji14)) = (ji18) then (if a2 = true then (anamnesisref02_round.j0 k (wrap64 ((shr .i64 a0 (ji12)) + 1)) a1 ji5) else (if (Int.tmod (shr .i64 a0 (ji12)) 2) = 1 then (anamnesisref02_round.j0 k (wrap64 ((shr .i64 a0 (ji12)) + 1)) a1 ji5) else (anamnesisref02_round.j0 k (shr .i64 a0 (ji12)) a1 ji5))) else (anamnesisref02_round.j0 k (shr .i64 a0 (ji12)) a1 ji5))) = some r := by first | (rw [hji18] at H; exact H) | (simp only [hji18] at H ⊢; exact H)
              have hji18_ : (IntKind.i64.wrap (1 * 2 ^ min (ji16).toNat 64)) = ji18 := hji18
              have hji18z : (ji16) ≤ 64 → (IntKind.i64.wrap (1 * 2 ^ (ji16).toNat)) = ji18 := shl_small hji18
              have hji18u : (IntKind.i64.wrap (2 ^ min (ji16).toNat 64)) = ji18 := by have h_ := hji18_; rw [Int.one_mul] at h_; exact h_
              have hji18v : (ji16) ≤ 64 → (IntKind.i64.wrap (2 ^ (ji16).toNat)) = ji18 := fun hle_ => by have h_ := hji18z hle_; rw [Int.one_mul] at h_; exact h_
              have hji18y : (wrap64 (1 * 2 ^ min (ji16).toNat 64)) = ji18 := (i64_w _).symm.trans hji18_
              have hji18x : (ji16) ≤ 64 → (wrap64 (1 * 2 ^ (ji16).toNat)) = ji18 := fun h_ => (i64_w _).symm.trans (hji18z h_)
              have c19b0 := eq_true (of_decide_eq_true (by first | (with_reducible assumption) | assumption) : 0 ≤ (ji12))
              obtain ⟨ji20, hji20⟩ : ∃ j_ : Int, (shr .i64 a0 (ji12)) = j_ := ⟨_, rfl⟩
              replace H : (if (Int.tmod a0 (ji14)) > (ji18) then (anamnesisref02_round.j0 k (wrap64 ((ji20) + 1)) a1 ji5) else (if (Int.tmod a0 (ji14)) = (ji18) then (if a2 = true then (anamnesisref02_round.j0 k (wrap64 ((ji20) + 1)) a1 ji5) else (if (Int.tmod (ji20) 2) = 1 then (anamnesisref02_round.j0 k (wrap64 ((ji20) + 1)) a1 ji5) else (anamnesisref02_round.j0 k ji20 a1 ji5))) else (anamnesisref02_round.j0 k ji20 a1 ji5))) = some r := by first | (rw [hji20] at H; exact H) | (simp only [hji20] at H ⊢; exact H)
              have hji20_ : (a0 / 2 ^ min (ji12).toNat 64) = ji20 := hji20
              have hji20z : (ji12) ≤ 64 → (a0 / 2 ^ (ji12).toNat) = ji20 := shr_small hji20
              by_cases c21 : (Int.tmod a0 (ji14)) > (ji18)
              · rw [if_pos c21] at H
                have c21b0 : decide ((ji18) < (Int.tmod a0 (ji14))) = true := decide_eq_true c21
                clear c21
                have H' := Aside0.mk H
                clear H
                go_wp2
                go_meet
                case rel => exact ⟨_, (wrap64 ((ji20) + 1)), (by first | rfl | (simp; done) | (simp only [← hji20] <;> (first | rfl | simp)) | (simp [*]; done)), H', ⟨by first | omega | exact Nat.le_refl _⟩, ⟨by repeat (first | (with_reducible first | exact HB.out | apply below_alloc | apply pw_below_drewN | apply below_drew1) | exact HB.out)⟩⟩
              · rw [if_neg c21] at H
                have c21b0 : decide ((ji18) < (Int.tmod a0 (ji14))) = false := decide_eq_false c21
                clear c21
                by_cases c22 : (Int.tmod a0 (ji14)) = (ji18)
                · rw [if_pos c22] at H
                  have c22b0 : ((Int.tmod a0 (ji14)) == (ji18)) = true := beq_iff_eq.mpr c22
                  have c22b1 : ((Int.tmod a0 (ji14)) != (ji18)) = false := bne_eq_false_iff_eq.mpr c22
                  clear c22
                  by_cases c23 : a2 = true
                  · subst c23
                    have H1 : (anamnesisref02_round.j0 k (wrap64 ((ji20) + 1)) a1 ji5) = some r := by rw [if_pos rfl] at H; exact H
                    clear H
                    have H := H1
                    clear H1
                    have H' := Aside0.mk H
                    clear H
                    go_wp2
                    go_meet
                    case rel => exact ⟨_, (wrap64 ((ji20) + 1)), (by first | rfl | (simp; done) | (simp only [← hji20] <;> (first | rfl | simp)) | (simp [*]; done)), H', ⟨by first | omega | exact Nat.le_refl _⟩, ⟨by repeat (first | (with_reducible first | exact HB.out | apply below_alloc | apply pw_below_drewN | apply below_drew1) | exact HB.out)⟩⟩
                  · replace c23 := Bool.eq_false_iff.mpr c23
                    subst c23
                    have H1 : (if (Int.tmod (ji20) 2) = 1 then (anamnesisref02_round.j0 k (wrap64 ((ji20) + 1)) a1 ji5) else (anamnesisref02_round.j0 k ji20 a1 ji5)) = some r := by rw [if_neg (show ¬ (false = true) by decide)] at H; exact H
                    clear H
                    have H := H1
                    clear H1
                    by_cases c24 : (Int.tmod (ji20) 2) = 1
                    · rw [if_pos c24] at H
                      have c24b0 : ((Int.tmod (ji20) 2) == 1) = true := beq_iff_eq.mpr c24
                      have c24b1 : ((Int.tmod (ji20) 2) != 1) = false := bne_eq_false_iff_eq.mpr c24
                      clear c24
                      have H' := Aside0.mk H
                      clear H
                      go_wp2
                      go_meet
                      case rel => exact ⟨_, (wrap64 ((ji20) + 1)), (by first | rfl | (simp; done) | (simp only [← hji20] <;> (first | rfl | simp)) | (simp [*]; done)), H', ⟨by first | omega | exact Nat.le_refl _⟩, ⟨by repeat (first | (with_reducible first | exact HB.out | apply below_alloc | apply pw_below_drewN | apply below_drew1) | exact HB.out)⟩⟩
                    · rw [if_neg c24] at H
                      have c24b0 : ((Int.tmod (ji20) 2) == 1) = false := beq_eq_false_iff_ne.mpr c24
                      have c24b1 : ((Int.tmod (ji20) 2) != 1) = true := bne_iff_ne.mpr c24
                      have H' := Aside0.mk H
                      clear H
                      go_wp2
                      go_meet
                      case rel => exact ⟨_, (ji20), (by first | rfl | (simp; done) | (simp only [← hji20] <;> (first | rfl | simp)) | (simp [*]; done)), H', ⟨by first | omega | exact Nat.le_refl _⟩, ⟨by repeat (first | (with_reducible first | exact HB.out | apply below_alloc | apply pw_below_drewN | apply below_drew1) | exact HB.out)⟩⟩
                · rw [if_neg c22] at H
                  have c22b0 : ((Int.tmod a0 (ji14)) == (ji18)) = false := beq_eq_false_iff_ne.mpr c22
                  have c22b1 : ((Int.tmod a0 (ji14)) != (ji18)) = true := bne_iff_ne.mpr c22
                  have H' := Aside0.mk H
                  clear H
                  go_wp2
                  go_meet
                  case rel => exact ⟨_, (ji20), (by first | rfl | (simp; done) | (simp only [← hji20] <;> (first | rfl | simp)) | (simp [*]; done)), H', ⟨by first | omega | exact Nat.le_refl _⟩, ⟨by repeat (first | (with_reducible first | exact HB.out | apply below_alloc | apply pw_below_drewN | apply below_drew1) | exact HB.out)⟩⟩
            · rw [if_neg c17] at H
              exact absurd H (by simp)
        · rw [if_neg c13] at H
          exact absurd H (by simp)
      · rw [if_neg c11] at H
        have c11b0 : decide ((ji5) < 63) = false := decide_eq_false c11
        clear c11
        replace H := Option.bind_eq_some_iff.mp H
        obtain ⟨t133, A250, H⟩ := H
        replace H : (if a0 > t133 then (anamnesisref02_round.j0 k 1 a1 ji5) else (if a0 = t133 then (if a2 = true then (anamnesisref02_round.j0 k 1 a1 ji5) else (anamnesisref02_round.j0 k 0 a1 ji5)) else (anamnesisref02_round.j0 k 0 a1 ji5))) = some r := H
        have A25 := Aside0.mk A250
        clear A250
        by_cases c26 : a0 > t133
        · rw [if_pos c26] at H
          have c26b0 : decide (t133 < a0) = true := decide_eq_true c26
          clear c26
          have H' := Aside0.mk H
          clear H
          go_wp2_with (first | ((with_reducible refine gate_callee (f := 46) rfl ?_); refine goesL_ (some 39) rfl rfl Try.func46 (by kernel_rfl) rfl #[] rfl (by (try simp only [List.map_toArray, List.map_cons, List.map_nil]); first | done | rfl | (simp only [List.length_drop, List.length_take]; rfl)) ?_; (with_reducible refine (anamnesisref02_most.calls  t133 _ A25.out).mono ?_); rintro e w' ⟨rfl, ⟨nd, rfl⟩⟩; refine ⟨_, rfl, ?_⟩))
          go_meet
          case rel => exact ⟨_, (1), (by first | rfl | (simp; done) | (simp [*]; done)), H', ⟨by first | omega | exact Nat.le_refl _⟩, ⟨by repeat (first | (with_reducible first | exact HB.out | apply below_alloc | apply pw_below_drewN | apply below_drew1) | exact HB.out)⟩⟩
        · rw [if_neg c26] at H
          have c26b0 : decide (t133 < a0) = false := decide_eq_false c26
          clear c26
          by_cases c27 : a0 = t133
          · rw [if_pos c27] at H
            have c27b0 : (a0 == t133) = true := beq_iff_eq.mpr c27
            have c27b1 : (a0 != t133) = false := bne_eq_false_iff_eq.mpr c27
            clear c27
            by_cases c28 : a2 = true
            · subst c28
              have H1 : (anamnesisref02_round.j0 k 1 a1 ji5) = some r := by rw [if_pos rfl] at H; exact H
              clear H
              have H := H1
              clear H1
              have H' := Aside0.mk H
              clear H
              go_wp2_with (first | ((with_reducible refine gate_callee (f := 46) rfl ?_); refine goesL_ (some 39) rfl rfl Try.func46 (by kernel_rfl) rfl #[] rfl (by (try simp only [List.map_toArray, List.map_cons, List.map_nil]); first | done | rfl | (simp only [List.length_drop, List.length_take]; rfl)) ?_; (with_reducible refine (anamnesisref02_most.calls  t133 _ A25.out).mono ?_); rintro e w' ⟨rfl, ⟨nd, rfl⟩⟩; refine ⟨_, rfl, ?_⟩))
              go_meet
              case rel => exact ⟨_, (1), (by first | rfl | (simp; done) | (simp [*]; done)), H', ⟨by first | omega | exact Nat.le_refl _⟩, ⟨by repeat (first | (with_reducible first | exact HB.out | apply below_alloc | apply pw_below_drewN | apply below_drew1) | exact HB.out)⟩⟩
            · replace c28 := Bool.eq_false_iff.mpr c28
              subst c28
              have H1 : (anamnesisref02_round.j0 k 0 a1 ji5) = some r := by rw [if_neg (show ¬ (false = true) by decide)] at H; exact H
              clear H
              have H := H1
              clear H1
              have H' := Aside0.mk H
              clear H
              go_wp2_with (first | ((with_reducible refine gate_callee (f := 46) rfl ?_); refine goesL_ (some 39) rfl rfl Try.func46 (by kernel_rfl) rfl #[] rfl (by (try simp only [List.map_toArray, List.map_cons, List.map_nil]); first | done | rfl | (simp only [List.length_drop, List.length_take]; rfl)) ?_; (with_reducible refine (anamnesisref02_most.calls  t133 _ A25.out).mono ?_); rintro e w' ⟨rfl, ⟨nd, rfl⟩⟩; refine ⟨_, rfl, ?_⟩))
              go_meet
              case rel => exact ⟨_, (0), (by first | rfl | (simp; done) | (simp [*]; done)), H', ⟨by first | omega | exact Nat.le_refl _⟩, ⟨by repeat (first | (with_reducible first | exact HB.out | apply below_alloc | apply pw_below_drewN | apply below_drew1) | exact HB.out)⟩⟩
          · rw [if_neg c27] at H
            have c27b0 : (a0 == t133) = false := beq_eq_false_iff_ne.mpr c27
            have c27b1 : (a0 != t133) = true := bne_iff_ne.mpr c27
            have H' := Aside0.mk H
            clear H
            go_wp2_with (first | ((with_reducible refine gate_callee (f := 46) rfl ?_); refine goesL_ (some 39) rfl rfl Try.func46 (by kernel_rfl) rfl #[] rfl (by (try simp only [List.map_toArray, List.map_cons, List.map_nil]); first | done | rfl | (simp only [List.length_drop, List.length_take]; rfl)) ?_; (with_reducible refine (anamnesisref02_most.calls  t133 _ A25.out).mono ?_); rintro e w' ⟨rfl, ⟨nd, rfl⟩⟩; refine ⟨_, rfl, ?_⟩))
            go_meet
            case rel => exact ⟨_, (0), (by first | rfl | (simp; done) | (simp [*]; done)), H', ⟨by first | omega | exact Nat.le_refl _⟩, ⟨by repeat (first | (with_reducible first | exact HB.out | apply below_alloc | apply pw_below_drewN | apply below_drew1) | exact HB.out)⟩⟩
  case rest =>
    clear HC6
    try clear c1
    try clear c2
    try clear p2
    try clear c4
    try clear p6
    try clear c7
    try clear c7b0
    try clear c9
    try clear c9b0
    try clear c9b1
    try clear c11
    try clear c11b0
    try clear c13
    try clear c13b0
    try clear c13b1
    try clear c15
    try clear c15b0
    try clear c15b1
    try clear c17
    try clear c17b0
    try clear c17b1
    try clear c19
    try clear c19b0
    try clear c21
    try clear c21b0
    try clear c22
    try clear c22b0
    try clear c22b1
    try clear c23
    try clear c24
    try clear c24b0
    try clear c24b1
    try clear c26
    try clear c26b0
    try clear c27
    try clear c27b0
    try clear c27b1
    try clear c28
    obtain ⟨kq, x0_5, rfl, HA, HJ5, HB⟩ := hcut
    cases kq with
    | zero => exact absurd HA.out (by simp [anamnesisref02_round.j0])
    | succ kj5 =>
      have H := HA.out
      clear HA
      simp only [anamnesisref02_round.j0] at H
      have HC29 := Aside0.mk H
      clear H
      go_upto_if 62 with (fail)
      go_cut [0, 1] (fun v0 v1 wc => ∃ (kq : Nat) (x0_28 : Int) (x1_28 : Int), v0 = .int .i64 x0_28 ∧ v1 = .int .i64 x1_28 ∧ Aside0 (anamnesisref02_round.j1 kq x0_28 x1_28 = some r) ∧ Aside0 (kq ≤ kj5) ∧ Aside0 (Below w.heap.size w wc))
      case first =>
        have H := HC29.out
        clear HC29
        by_cases c30 : x0_5 = 9007199254740992
        · rw [if_pos c30] at H
          have c30b0 : (x0_5 == 9007199254740992) = true := beq_iff_eq.mpr c30
          have c30b1 : (x0_5 != 9007199254740992) = false := bne_eq_false_iff_eq.mpr c30
          clear c30
          (first | rw [c30b0] | (simp only [i64_w, i32_w]; rw [c30b0]) | skip)
          have H' := Aside0.mk H
          clear H
          go_wp2
          go_meet
          case rel => exact ⟨_, (4503599627370496), (wrap64 ((wrap64 (a1 + ji5)) + 1)), (by first | rfl | (simp; done) | (simp [*]; done)), (by first | rfl | (simp; done) | (simp only [← hji5] <;> (first | rfl | simp)) | (simp [*]; done)), H', ⟨by have := HJ5.out; first | omega | exact Nat.le_refl _⟩, ⟨by repeat (first | (with_reducible first | exact HB.out | apply below_alloc | apply pw_below_drewN | apply below_drew1) | exact HB.out)⟩⟩
        · rw [if_neg c30] at H
          have c30b0 : (x0_5 == 9007199254740992) = false := beq_eq_false_iff_ne.mpr c30
          have c30b1 : (x0_5 != 9007199254740992) = true := bne_iff_ne.mpr c30
          (first | rw [c30b0] | (simp only [i64_w, i32_w]; rw [c30b0]) | skip)
          have H' := Aside0.mk H
          clear H
          go_wp2
          go_meet
          case rel => exact ⟨_, (x0_5), (wrap64 (a1 + ji5)), (by first | rfl | (simp; done) | (simp [*]; done)), (by first | rfl | (simp; done) | (simp only [← hji5] <;> (first | rfl | simp)) | (simp [*]; done)), H', ⟨by have := HJ5.out; first | omega | exact Nat.le_refl _⟩, ⟨by repeat (first | (with_reducible first | exact HB.out | apply below_alloc | apply pw_below_drewN | apply below_drew1) | exact HB.out)⟩⟩
      case rest =>
        clear HC29
        try clear c1
        try clear c2
        try clear p2
        try clear c3
        try clear c4
        try clear p6
        try clear c7
        try clear c7b0
        try clear c9
        try clear c9b0
        try clear c9b1
        try clear c11
        try clear c11b0
        try clear c13
        try clear c13b0
        try clear c13b1
        try clear c15
        try clear c15b0
        try clear c15b1
        try clear c17
        try clear c17b0
        try clear c17b1
        try clear c19
        try clear c19b0
        try clear c21
        try clear c21b0
        try clear c22
        try clear c22b0
        try clear c22b1
        try clear c23
        try clear c24
        try clear c24b0
        try clear c24b1
        try clear c26
        try clear c26b0
        try clear c27
        try clear c27b0
        try clear c27b1
        try clear c28
        try clear c30
        try clear c30b0
        try clear c30b1
        try clear p2
        try clear p6
        obtain ⟨kq, x0_28, x1_28, rfl, rfl, HA, HJ28, HB⟩ := hcut
        cases kq with
        | zero => exact absurd HA.out (by simp [anamnesisref02_round.j1])
        | succ kj28 =>
          have H := HA.out
          clear HA
          simp only [anamnesisref02_round.j1] at H
          by_cases c31 : x0_28 < 4503599627370496
          · rw [if_pos c31] at H
            have c31b0 : decide (x0_28 < 4503599627370496) = true := decide_eq_true c31
            clear c31
            obtain rfl := Option.some.inj H
            go_wp2
            go_ret
            exact ⟨by first | rfl | (simp [errW_none, errW_some] <;> rfl) | (simp only [← hji5]; first | rfl | (simp [errW_none, errW_some] <;> rfl)) | (simp [*, errW_none, errW_some] <;> rfl) | (simp [wrap64, errW_none, errW_some]; done), by repeat (first | (with_reducible first | exact HB.out | apply below_alloc | apply pw_below_drewN | apply below_drew1) | exact HB.out)⟩
          · rw [if_neg c31] at H
            have c31b0 : decide (x0_28 < 4503599627370496) = false := decide_eq_false c31
            clear c31
            by_cases c32 : x1_28 > 971
            · rw [if_pos c32] at H
              have c32b0 : decide (971 < x1_28) = true := decide_eq_true c32
              clear c32
              obtain rfl := Option.some.inj H
              go_wp2
              go_ret
              exact ⟨by first | rfl | (simp [errW_none, errW_some] <;> rfl) | (simp only [← hji5]; first | rfl | (simp [errW_none, errW_some] <;> rfl)) | (simp [*, errW_none, errW_some] <;> rfl) | (simp [wrap64, errW_none, errW_some]; done), by repeat (first | (with_reducible first | exact HB.out | apply below_alloc | apply pw_below_drewN | apply below_drew1) | exact HB.out)⟩
            · rw [if_neg c32] at H
              have c32b0 : decide (971 < x1_28) = false := decide_eq_false c32
              clear c32
              obtain rfl := Option.some.inj H
              go_wp2
              go_ret
              exact ⟨by first | rfl | (simp [errW_none, errW_some] <;> rfl) | (simp only [← hji5]; first | rfl | (simp [errW_none, errW_some] <;> rfl)) | (simp [*, errW_none, errW_some] <;> rfl) | (simp [wrap64, errW_none, errW_some]; done), by repeat (first | (with_reducible first | exact HB.out | apply below_alloc | apply pw_below_drewN | apply below_drew1) | exact HB.out)⟩

/-! ### anamnesisref02_add: function 45 -/
mutual
def anamnesisref02_add.j0 : Nat → Int → Int → Int → Int → Int → Bool → Option (Int)
  | 0, _, _, _, _, _, _ => none
  | k + 1, x0, x1, x5, x6, x7, x10 => (anamnesisref02_sign.f x0).bind fun t141 => ((anamnesisref02_sign.f x1).bind fun t142 => (if (t141 == t142) = true then ((anamnesisref02_sign.f x0).bind fun t143 => ((anamnesisref02_round.f k (wrap64 (x5 + x7)) (wrap64 (x6 - 8)) x10).bind fun t144 => ((anamnesisref02_with.f t143 t144).bind fun t145 => (some t145)))) else (if x10 = true then (anamnesisref02_add.j1 k x0 (wrap64 ((wrap64 (x5 - x7)) - 1)) x6 x10) else (anamnesisref02_add.j1 k x0 (wrap64 (x5 - x7)) x6 x10))))
def anamnesisref02_add.j1 : Nat → Int → Int → Int → Bool → Option (Int)
  | 0, _, _, _, _ => none
  | k + 1, x0, x5, x6, x10 => if x5 = 0 then (some 0) else ((anamnesisref02_sign.f x0).bind fun t146 => ((anamnesisref02_round.f k x5 (wrap64 (x6 - 8)) x10).bind fun t147 => ((anamnesisref02_with.f t146 t147).bind fun t148 => (some t148))))
def anamnesisref02_add.f : Nat → Int → Int → Option (Int)
  | 0, _, _ => none
  | k + 1, a0, a1 => (anamnesisref02_plain.f a0).bind fun t134 => ((anamnesisref02_plain.f a1).bind fun t135 => (if t134 < t135 then ((anamnesisref02_add.f k a1 a0).bind fun t136 => (some t136)) else ((anamnesisref02_part.f k a0).bind fun bt137 => ((anamnesisref02_part.f k a1).bind fun bt139 => (if (wrap64 (bt137.2 - bt139.2)) > 62 then (anamnesisref02_add.j0 k a0 a1 (wrap64 (bt137.1 * 256)) bt137.2 0 true) else (if 0 ≤ (IntKind.u64.wrap (wrap64 (bt137.2 - bt139.2))) then (if (shl .i64 1 (IntKind.u64.wrap (wrap64 (bt137.2 - bt139.2)))) = 0 then (none) else (anamnesisref02_add.j0 k a0 a1 (wrap64 (bt137.1 * 256)) bt137.2 (shr .i64 (wrap64 (bt139.1 * 256)) (IntKind.u64.wrap (wrap64 (bt137.2 - bt139.2)))) ((Int.tmod (wrap64 (bt139.1 * 256)) (shl .i64 1 (IntKind.u64.wrap (wrap64 (bt137.2 - bt139.2))))) != 0))) else (none)))))))
end
theorem anamnesisref02_add.mono_l : ∀ k, (∀ y0 y1, LeO (anamnesisref02_add.f k y0 y1) (anamnesisref02_add.f (k + 1) y0 y1)) ∧ (∀ y0 y1 y2 y3 y4 y5, LeO (anamnesisref02_add.j0 k y0 y1 y2 y3 y4 y5) (anamnesisref02_add.j0 (k + 1) y0 y1 y2 y3 y4 y5)) ∧ (∀ y0 y1 y2 y3, LeO (anamnesisref02_add.j1 k y0 y1 y2 y3) (anamnesisref02_add.j1 (k + 1) y0 y1 y2 y3))
  | 0 => ⟨fun _ _ r h => by simp [anamnesisref02_add.f] at h, fun _ _ _ _ _ _ r h => by simp [anamnesisref02_add.j0] at h, fun _ _ _ _ r h => by simp [anamnesisref02_add.j1] at h⟩
  | k + 1 => by
    obtain ⟨ih0, ih1, ih2⟩ := anamnesisref02_add.mono_l k
    refine ⟨?_, ?_, ?_⟩
    · intro y0 y1
      unfold anamnesisref02_add.f
      repeat' first
      | (with_reducible exact ih0 _ _)
      | (with_reducible exact ih1 _ _ _ _ _ _)
      | (with_reducible exact ih2 _ _ _ _)
      | (with_reducible exact anamnesisref02_part.mono _ _)
      | (with_reducible exact anamnesisref02_round.mono _ _ _ _)
      | (with_reducible exact LeO.refl _)
      | (with_reducible exact LeO.none _)
      | (with_reducible refine LeO.ite ?_ ?_)
      | (with_reducible refine LeO.bind ?_ (fun _ => ?_))
      | exact ih0 _ _
      | exact ih1 _ _ _ _ _ _
      | exact ih2 _ _ _ _
      | exact anamnesisref02_part.mono _ _
      | exact anamnesisref02_round.mono _ _ _ _
      | exact LeO.none _
      | refine LeO.ite ?_ ?_
      | refine LeO.bind ?_ (fun _ => ?_)
    · intro y0 y1 y2 y3 y4 y5
      unfold anamnesisref02_add.j0
      repeat' first
      | (with_reducible exact ih0 _ _)
      | (with_reducible exact ih1 _ _ _ _ _ _)
      | (with_reducible exact ih2 _ _ _ _)
      | (with_reducible exact anamnesisref02_part.mono _ _)
      | (with_reducible exact anamnesisref02_round.mono _ _ _ _)
      | (with_reducible exact LeO.refl _)
      | (with_reducible exact LeO.none _)
      | (with_reducible refine LeO.ite ?_ ?_)
      | (with_reducible refine LeO.bind ?_ (fun _ => ?_))
      | exact ih0 _ _
      | exact ih1 _ _ _ _ _ _
      | exact ih2 _ _ _ _
      | exact anamnesisref02_part.mono _ _
      | exact anamnesisref02_round.mono _ _ _ _
      | exact LeO.none _
      | refine LeO.ite ?_ ?_
      | refine LeO.bind ?_ (fun _ => ?_)
    · intro y0 y1 y2 y3
      unfold anamnesisref02_add.j1
      repeat' first
      | (with_reducible exact ih0 _ _)
      | (with_reducible exact ih1 _ _ _ _ _ _)
      | (with_reducible exact ih2 _ _ _ _)
      | (with_reducible exact anamnesisref02_part.mono _ _)
      | (with_reducible exact anamnesisref02_round.mono _ _ _ _)
      | (with_reducible exact LeO.refl _)
      | (with_reducible exact LeO.none _)
      | (with_reducible refine LeO.ite ?_ ?_)
      | (with_reducible refine LeO.bind ?_ (fun _ => ?_))
      | exact ih0 _ _
      | exact ih1 _ _ _ _ _ _
      | exact ih2 _ _ _ _
      | exact anamnesisref02_part.mono _ _
      | exact anamnesisref02_round.mono _ _ _ _
      | exact LeO.none _
      | refine LeO.ite ?_ ?_
      | refine LeO.bind ?_ (fun _ => ?_)
theorem anamnesisref02_add.mono : ∀ a0 a1 k, LeO (anamnesisref02_add.f k a0 a1) (anamnesisref02_add.f (k + 1) a0 a1) := by
  intro a0 a1 k
  obtain ⟨ih0, ih1, ih2⟩ := anamnesisref02_add.mono_l k
  exact ih0 a0 a1
set_option maxHeartbeats 8000000 in
set_option maxRecDepth 100000 in
theorem anamnesisref02_add.calls (k : Nat) : ∀ (a0 : Int) (a1 : Int) (r : Int) (w : World) (h : anamnesisref02_add.f k a0 a1 = some r),
    Calls Try.prog 45 #[.int .i64 a0, .int .i64 a1] w fun e w' => e = .returned (.int .i64 r) ∧ Below w.heap.size w w' := by
  induction k using Nat.strongRecOn with
  | _ k ih =>
  intro a0 a1 r w h
  cases k with
  | zero => exact absurd h (by simp [anamnesisref02_add.f])
  | succ k =>
  simp only [anamnesisref02_add.f] at h
  have HB := Aside0.mk (Below.refl w.heap.size w)
  have H : ((anamnesisref02_plain.f a0).bind fun t134 => ((anamnesisref02_plain.f a1).bind fun t135 => (if t134 < t135 then ((anamnesisref02_add.f k a1 a0).bind fun t136 => (some t136)) else ((anamnesisref02_part.f k a0).bind fun bt137 => ((anamnesisref02_part.f k a1).bind fun bt139 => (if (wrap64 (bt137.2 - bt139.2)) > 62 then (anamnesisref02_add.j0 k a0 a1 (wrap64 (bt137.1 * 256)) bt137.2 0 true) else (if 0 ≤ (IntKind.u64.wrap (wrap64 (bt137.2 - bt139.2))) then (if (shl .i64 1 (IntKind.u64.wrap (wrap64 (bt137.2 - bt139.2)))) = 0 then (none) else (anamnesisref02_add.j0 k a0 a1 (wrap64 (bt137.1 * 256)) bt137.2 (shr .i64 (wrap64 (bt139.1 * 256)) (IntKind.u64.wrap (wrap64 (bt137.2 - bt139.2)))) ((Int.tmod (wrap64 (bt139.1 * 256)) (shl .i64 1 (IntKind.u64.wrap (wrap64 (bt137.2 - bt139.2))))) != 0))) else (none)))))))) = some r := h
  clear h
  replace H := Option.bind_eq_some_iff.mp H
  obtain ⟨t134, A30, H⟩ := H
  replace H : ((anamnesisref02_plain.f a1).bind fun t135 => (if t134 < t135 then ((anamnesisref02_add.f k a1 a0).bind fun t136 => (some t136)) else ((anamnesisref02_part.f k a0).bind fun bt137 => ((anamnesisref02_part.f k a1).bind fun bt139 => (if (wrap64 (bt137.2 - bt139.2)) > 62 then (anamnesisref02_add.j0 k a0 a1 (wrap64 (bt137.1 * 256)) bt137.2 0 true) else (if 0 ≤ (IntKind.u64.wrap (wrap64 (bt137.2 - bt139.2))) then (if (shl .i64 1 (IntKind.u64.wrap (wrap64 (bt137.2 - bt139.2)))) = 0 then (none) else (anamnesisref02_add.j0 k a0 a1 (wrap64 (bt137.1 * 256)) bt137.2 (shr .i64 (wrap64 (bt139.1 * 256)) (IntKind.u64.wrap (wrap64 (bt137.2 - bt139.2)))) ((Int.tmod (wrap64 (bt139.1 * 256)) (shl .i64 1 (IntKind.u64.wrap (wrap64 (bt137.2 - bt139.2))))) != 0))) else (none))))))) = some r := H
  have A3 := Aside0.mk A30
  clear A30
  replace H := Option.bind_eq_some_iff.mp H
  obtain ⟨t135, A40, H⟩ := H
  replace H : (if t134 < t135 then ((anamnesisref02_add.f k a1 a0).bind fun t136 => (some t136)) else ((anamnesisref02_part.f k a0).bind fun bt137 => ((anamnesisref02_part.f k a1).bind fun bt139 => (if (wrap64 (bt137.2 - bt139.2)) > 62 then (anamnesisref02_add.j0 k a0 a1 (wrap64 (bt137.1 * 256)) bt137.2 0 true) else (if 0 ≤ (IntKind.u64.wrap (wrap64 (bt137.2 - bt139.2))) then (if (shl .i64 1 (IntKind.u64.wrap (wrap64 (bt137.2 - bt139.2)))) = 0 then (none) else (anamnesisref02_add.j0 k a0 a1 (wrap64 (bt137.1 * 256)) bt137.2 (shr .i64 (wrap64 (bt139.1 * 256)) (IntKind.u64.wrap (wrap64 (bt137.2 - bt139.2)))) ((Int.tmod (wrap64 (bt139.1 * 256)) (shl .i64 1 (IntKind.u64.wrap (wrap64 (bt137.2 - bt139.2))))) != 0))) else (none)))))) = some r := H
  have A4 := Aside0.mk A40
  clear A40
  by_cases c5 : t134 < t135
  · rw [if_pos c5] at H
    have c5b0 : decide (t134 < t135) = true := decide_eq_true c5
    clear c5
    replace H := Option.bind_eq_some_iff.mp H
    obtain ⟨t136, A60, H⟩ := H
    replace H : (some t136) = some r := H
    have A6 := Aside0.mk A60
    clear A60
    obtain rfl := Option.some.inj H
    go_enter Try.func45, Try.ntmps45
    go_wp2_with (first | ((with_reducible refine gate_callee (f := 34) rfl ?_); refine goesL_ (some 12) rfl rfl Try.func34 (by kernel_rfl) rfl #[.int .i64 a0] rfl (by (try simp only [List.map_toArray, List.map_cons, List.map_nil]); first | done | rfl | (simp only [List.length_drop, List.length_take]; rfl)) ?_; (with_reducible refine (anamnesisref02_plain.calls a0 t134 _ A3.out).mono ?_); rintro e w' ⟨rfl, ⟨nd, rfl⟩⟩; refine ⟨_, rfl, ?_⟩) | ((with_reducible refine gate_callee (f := 34) rfl ?_); refine goesL_ (some 14) rfl rfl Try.func34 (by kernel_rfl) rfl #[.int .i64 a1] rfl (by (try simp only [List.map_toArray, List.map_cons, List.map_nil]); first | done | rfl | (simp only [List.length_drop, List.length_take]; rfl)) ?_; (with_reducible refine (anamnesisref02_plain.calls a1 t135 _ A4.out).mono ?_); rintro e w' ⟨rfl, ⟨nd, rfl⟩⟩; refine ⟨_, rfl, ?_⟩) | ((with_reducible refine gate_callee (f := 45) rfl ?_); refine goesL_ (some 18) rfl rfl Try.func45 (by kernel_rfl) rfl #[.int .i64 a1, .int .i64 a0] rfl (by (try simp only [List.map_toArray, List.map_cons, List.map_nil]); first | done | rfl | (simp only [List.length_drop, List.length_take]; rfl)) ?_; (with_reducible refine (ih k (by omega) a1 a0 t136 _ A6.out).mono ?_); rintro e w7 ⟨rfl, hb⟩; refine ⟨_, rfl, ?_⟩; have n0_ := Aside0.mk (below_step (by repeat (first | (with_reducible first | exact HB.out | apply below_alloc | apply pw_below_drewN | apply below_drew1) | exact HB.out)) hb); clear HB; have HB := n0_; clear n0_; (try clear hb); (try clear hb2); (try clear hk); (try clear hi)))
    go_ret
    exact ⟨by first | rfl | (simp [errW_none, errW_some] <;> rfl) | (simp [*, errW_none, errW_some] <;> rfl) | (simp [wrap64, errW_none, errW_some]; done), by repeat (first | (with_reducible first | exact HB.out | apply below_alloc | apply pw_below_drewN | apply below_drew1) | exact HB.out)⟩
  · rw [if_neg c5] at H
    have c5b0 : decide (t134 < t135) = false := decide_eq_false c5
    clear c5
    replace H := Option.bind_eq_some_iff.mp H
    obtain ⟨⟨t137, t138⟩, A80, H⟩ := H
    replace H : ((anamnesisref02_part.f k a1).bind fun bt139 => (if (wrap64 (t138 - bt139.2)) > 62 then (anamnesisref02_add.j0 k a0 a1 (wrap64 (t137 * 256)) t138 0 true) else (if 0 ≤ (IntKind.u64.wrap (wrap64 (t138 - bt139.2))) then (if (shl .i64 1 (IntKind.u64.wrap (wrap64 (t138 - bt139.2)))) = 0 then (none) else (anamnesisref02_add.j0 k a0 a1 (wrap64 (t137 * 256)) t138 (shr .i64 (wrap64 (bt139.1 * 256)) (IntKind.u64.wrap (wrap64 (t138 - bt139.2)))) ((Int.tmod (wrap64 (bt139.1 * 256)) (shl .i64 1 (IntKind.u64.wrap (wrap64 (t138 - bt139.2))))) != 0))) else (none)))) = some r := H
    have A8 := Aside0.mk A80
    clear A80
    replace H := Option.bind_eq_some_iff.mp H
    obtain ⟨⟨t139, t140⟩, A90, H⟩ := H
    replace H : (if (wrap64 (t138 - t140)) > 62 then (anamnesisref02_add.j0 k a0 a1 (wrap64 (t137 * 256)) t138 0 true) else (if 0 ≤ (IntKind.u64.wrap (wrap64 (t138 - t140))) then (if (shl .i64 1 (IntKind.u64.wrap (wrap64 (t138 - t140)))) = 0 then (none) else (anamnesisref02_add.j0 k a0 a1 (wrap64 (t137 * 256)) t138 (shr .i64 (wrap64 (t139 * 256)) (IntKind.u64.wrap (wrap64 (t138 - t140)))) ((Int.tmod (wrap64 (t139 * 256)) (shl .i64 1 (IntKind.u64.wrap (wrap64 (t138 - t140))))) != 0))) else (none))) = some r := H
    have A9 := Aside0.mk A90
    clear A90
    have HC10 := Aside0.mk H
    clear H
    go_enter Try.func45, Try.ntmps45
    go_upto_if 37 with (first | ((with_reducible refine gate_callee (f := 34) rfl ?_); refine goesL_ (some 12) rfl rfl Try.func34 (by kernel_rfl) rfl #[.int .i64 a0] rfl (by (try simp only [List.map_toArray, List.map_cons, List.map_nil]); first | done | rfl | (simp only [List.length_drop, List.length_take]; rfl)) ?_; (with_reducible refine (anamnesisref02_plain.calls a0 t134 _ A3.out).mono ?_); rintro e w' ⟨rfl, ⟨nd, rfl⟩⟩; refine ⟨_, rfl, ?_⟩) | ((with_reducible refine gate_callee (f := 34) rfl ?_); refine goesL_ (some 14) rfl rfl Try.func34 (by kernel_rfl) rfl #[.int .i64 a1] rfl (by (try simp only [List.map_toArray, List.map_cons, List.map_nil]); first | done | rfl | (simp only [List.length_drop, List.length_take]; rfl)) ?_; (with_reducible refine (anamnesisref02_plain.calls a1 t135 _ A4.out).mono ?_); rintro e w' ⟨rfl, ⟨nd, rfl⟩⟩; refine ⟨_, rfl, ?_⟩) | ((with_reducible refine gate_callee (f := 38) rfl ?_); refine goesL_ (some 21) rfl rfl Try.func38 (by kernel_rfl) rfl #[.int .i64 a0] rfl (by (try simp only [List.map_toArray, List.map_cons, List.map_nil]); first | done | rfl | (simp only [List.length_drop, List.length_take]; rfl)) ?_; (with_reducible refine (anamnesisref02_part.calls k a0 t137 t138 _ A8.out).mono ?_); rintro e w' ⟨rfl, ⟨nd, rfl⟩⟩; refine ⟨_, rfl, ?_⟩) | ((with_reducible refine gate_callee (f := 38) rfl ?_); refine goesL_ (some 26) rfl rfl Try.func38 (by kernel_rfl) rfl #[.int .i64 a1] rfl (by (try simp only [List.map_toArray, List.map_cons, List.map_nil]); first | done | rfl | (simp only [List.length_drop, List.length_take]; rfl)) ?_; (with_reducible refine (anamnesisref02_part.calls k a1 t139 t140 _ A9.out).mono ?_); rintro e w' ⟨rfl, ⟨nd, rfl⟩⟩; refine ⟨_, rfl, ?_⟩))
    (try simp only [Act.put, List.setIfInBounds_toArray, List.set_cons_zero, List.set_cons_succ])
    go_cut [7, 10] (fun v7 v10 wc => ∃ (kq : Nat) (x7_9 : Int) (x10_9 : Bool), v7 = .int .i64 x7_9 ∧ v10 = .bool x10_9 ∧ Aside0 (anamnesisref02_add.j0 kq a0 a1 (wrap64 (t137 * 256)) t138 x7_9 x10_9 = some r) ∧ Aside0 (kq ≤ k) ∧ Aside0 (Below w.heap.size w wc))
    case first =>
      have H := HC10.out
      clear HC10
      by_cases c11 : (wrap64 (t138 - t140)) > 62
      · rw [if_pos c11] at H
        have c11b0 : decide (62 < (wrap64 (t138 - t140))) = true := decide_eq_true c11
        clear c11
        (first | rw [c11b0] | (simp only [i64_w, i32_w]; rw [c11b0]) | skip)
        have H' := Aside0.mk H
        clear H
        go_wp2
        go_meet
        case rel => exact ⟨_, (0), (true), (by first | rfl | (simp; done) | (simp [*]; done)), (by first | rfl | (simp; done) | (simp [*]; done)), H', ⟨by first | omega | exact Nat.le_refl _⟩, ⟨by repeat (first | (with_reducible first | exact HB.out | apply below_alloc | apply pw_below_drewN | apply below_drew1) | exact HB.out)⟩⟩
      · rw [if_neg c11] at H
        have c11b0 : decide (62 < (wrap64 (t138 - t140))) = false := decide_eq_false c11
        clear c11
        (first | rw [c11b0] | (simp only [i64_w, i32_w]; rw [c11b0]) | skip)
        obtain ⟨ji12, hji12⟩ : ∃ j_ : Int, (IntKind.u64.wrap (wrap64 (t138 - t140))) = j_ := ⟨_, rfl⟩
        replace H : (if 0 ≤ (ji12) then (if (shl .i64 1 (ji12)) = 0 then (none) else (anamnesisref02_add.j0 k a0 a1 (wrap64 (t137 * 256)) t138 (shr .i64 (wrap64 (t139 * 256)) (ji12)) ((Int.tmod (wrap64 (t139 * 256)) (shl .i64 1 (ji12))) != 0))) else (none)) = some r := by first | (rw [hji12] at H; exact H) | (simp only [hji12] at H ⊢; exact H)
        by_cases c13 : 0 ≤ (ji12)
        · rw [if_pos c13] at H
          have c13b0 := eq_true c13
          have c13b1 : decide (0 ≤ (ji12)) = true := decide_eq_true c13
          clear c13
          obtain ⟨ji14, hji14⟩ : ∃ j_ : Int, (shl .i64 1 (ji12)) = j_ := ⟨_, rfl⟩
          replace H : (if (ji14) = 0 then (none) else (anamnesisref02_add.j0 k a0 a1 (wrap64 (t137 * 256)) t138 (shr .i64 (wrap64 (t139 * 256)) (ji12)) ((Int.tmod (wrap64 (t139 * 256)) (ji14)) != 0))) = some r := by first | (rw [hji14] at H; exact H) | (simp only [hji14] at H ⊢; exact H)
          have hji14_ : (IntKind.i64.wrap (1 * 2 ^ min (ji12).toNat 64)) = ji14 := hji14
          have hji14z : (ji12) ≤ 64 → (IntKind.i64.wrap (1 * 2 ^ (ji12).toNat)) = ji14 := shl_small hji14
          have hji14u : (IntKind.i64.wrap (2 ^ min (ji12).toNat 64)) = ji14 := by have h_ := hji14_; rw [Int.one_mul] at h_; exact h_
          have hji14v : (ji12) ≤ 64 → (IntKind.i64.wrap (2 ^ (ji12).toNat)) = ji14 := fun hle_ => by have h_ := hji14z hle_; rw [Int.one_mul] at h_; exact h_
          have hji14y : (wrap64 (1 * 2 ^ min (ji12).toNat 64)) = ji14 := (i64_w _).symm.trans hji14_
          have hji14x : (ji12) ≤ 64 → (wrap64 (1 * 2 ^ (ji12).toNat)) = ji14 := fun h_ => (i64_w _).symm.trans (hji14z h_)
          by_cases c15 : (ji14) = 0
          · rw [if_pos c15] at H
            exact absurd H (by simp)
          · rw [if_neg c15] at H
            have c15b0 : ((ji14) == 0) = false := beq_eq_false_iff_ne.mpr c15
            have c15b1 : ((ji14) != 0) = true := bne_iff_ne.mpr c15
            have c16b0 := eq_true (of_decide_eq_true (by first | (with_reducible assumption) | assumption) : 0 ≤ (ji12))
            obtain ⟨ji17, hji17⟩ : ∃ j_ : Int, (shr .i64 (wrap64 (t139 * 256)) (ji12)) = j_ := ⟨_, rfl⟩
            replace H : (anamnesisref02_add.j0 k a0 a1 (wrap64 (t137 * 256)) t138 ji17 ((Int.tmod (wrap64 (t139 * 256)) (ji14)) != 0)) = some r := by first | (rw [hji17] at H; exact H) | (simp only [hji17] at H ⊢; exact H)
            have hji17_ : ((wrap64 (t139 * 256)) / 2 ^ min (ji12).toNat 64) = ji17 := hji17
            have hji17z : (ji12) ≤ 64 → ((wrap64 (t139 * 256)) / 2 ^ (ji12).toNat) = ji17 := shr_small hji17
            have H' := Aside0.mk H
            clear H
            go_wp2
            go_meet
            case rel => exact ⟨_, (ji17), (((Int.tmod (wrap64 (t139 * 256)) (ji14)) != 0)), (by first | rfl | (simp; done) | (simp only [← hji17] <;> (first | rfl | simp)) | (simp [*]; done)), (by first | rfl | (simp; done) | (simp only [← hji14] <;> (first | rfl | simp)) | (simp [*]; done)), H', ⟨by first | omega | exact Nat.le_refl _⟩, ⟨by repeat (first | (with_reducible first | exact HB.out | apply below_alloc | apply pw_below_drewN | apply below_drew1) | exact HB.out)⟩⟩
        · rw [if_neg c13] at H
          exact absurd H (by simp)
    case rest =>
      clear HC10
      try clear c1
      try clear p2
      try clear c3
      try clear c4
      try clear c5
      try clear c5b0
      try clear p6
      try clear c11
      try clear c11b0
      try clear c13
      try clear c13b0
      try clear c13b1
      try clear c15
      try clear c15b0
      try clear c15b1
      try clear c16
      try clear c16b0
      obtain ⟨kq, x7_9, x10_9, rfl, rfl, HA, HJ9, HB⟩ := hcut
      cases kq with
      | zero => exact absurd HA.out (by simp [anamnesisref02_add.j0])
      | succ kj9 =>
        have H := HA.out
        clear HA
        simp only [anamnesisref02_add.j0] at H
        replace H := Option.bind_eq_some_iff.mp H
        obtain ⟨t141, A180, H⟩ := H
        replace H : ((anamnesisref02_sign.f a1).bind fun t142 => (if (t141 == t142) = true then ((anamnesisref02_sign.f a0).bind fun t143 => ((anamnesisref02_round.f kj9 (wrap64 ((wrap64 (t137 * 256)) + x7_9)) (wrap64 (t138 - 8)) x10_9).bind fun t144 => ((anamnesisref02_with.f t143 t144).bind fun t145 => (some t145)))) else (if x10_9 = true then (anamnesisref02_add.j1 kj9 a0 (wrap64 ((wrap64 ((wrap64 (t137 * 256)) - x7_9)) - 1)) t138 x10_9) else (anamnesisref02_add.j1 kj9 a0 (wrap64 ((wrap64 (t137 * 256)) - x7_9)) t138 x10_9)))) = some r := H
        have A18 := Aside0.mk A180
        clear A180
        replace H := Option.bind_eq_some_iff.mp H
        obtain ⟨t142, A190, H⟩ := H
        replace H : (if (t141 == t142) = true then ((anamnesisref02_sign.f a0).bind fun t143 => ((anamnesisref02_round.f kj9 (wrap64 ((wrap64 (t137 * 256)) + x7_9)) (wrap64 (t138 - 8)) x10_9).bind fun t144 => ((anamnesisref02_with.f t143 t144).bind fun t145 => (some t145)))) else (if x10_9 = true then (anamnesisref02_add.j1 kj9 a0 (wrap64 ((wrap64 ((wrap64 (t137 * 256)) - x7_9)) - 1)) t138 x10_9) else (anamnesisref02_add.j1 kj9 a0 (wrap64 ((wrap64 (t137 * 256)) - x7_9)) t138 x10_9))) = some r := H
        have A19 := Aside0.mk A190
        clear A190
        by_cases c20 : (t141 == t142) = true
        · rw [if_pos c20] at H
          have c20b0 : (t141 == t142) = true := c20
          (try (have c20b1 : decide (t141 = t142) = true := by simpa using c20))
          (try (have c20b2 : (t141 == t142) = true := by simpa using c20))
          clear c20
          replace H := Option.bind_eq_some_iff.mp H
          obtain ⟨t143, A210, H⟩ := H
          replace H : ((anamnesisref02_round.f kj9 (wrap64 ((wrap64 (t137 * 256)) + x7_9)) (wrap64 (t138 - 8)) x10_9).bind fun t144 => ((anamnesisref02_with.f t143 t144).bind fun t145 => (some t145))) = some r := H
          have A21 := Aside0.mk A210
          clear A210
          replace H := Option.bind_eq_some_iff.mp H
          obtain ⟨t144, A220, H⟩ := H
          replace H : ((anamnesisref02_with.f t143 t144).bind fun t145 => (some t145)) = some r := H
          have A22 := Aside0.mk A220
          clear A220
          replace H := Option.bind_eq_some_iff.mp H
          obtain ⟨t145, A230, H⟩ := H
          replace H : (some t145) = some r := H
          have A23 := Aside0.mk A230
          clear A230
          obtain rfl := Option.some.inj H
          go_wp2_with (first | ((with_reducible refine gate_callee (f := 33) rfl ?_); refine goesL_ (some 49) rfl rfl Try.func33 (by kernel_rfl) rfl #[.int .i64 a0] rfl (by (try simp only [List.map_toArray, List.map_cons, List.map_nil]); first | done | rfl | (simp only [List.length_drop, List.length_take]; rfl)) ?_; (with_reducible refine (anamnesisref02_sign.calls a0 t141 _ A18.out).mono ?_); rintro e w' ⟨rfl, ⟨nd, rfl⟩⟩; refine ⟨_, rfl, ?_⟩) | ((with_reducible refine gate_callee (f := 33) rfl ?_); refine goesL_ (some 51) rfl rfl Try.func33 (by kernel_rfl) rfl #[.int .i64 a1] rfl (by (try simp only [List.map_toArray, List.map_cons, List.map_nil]); first | done | rfl | (simp only [List.length_drop, List.length_take]; rfl)) ?_; (with_reducible refine (anamnesisref02_sign.calls a1 t142 _ A19.out).mono ?_); rintro e w' ⟨rfl, ⟨nd, rfl⟩⟩; refine ⟨_, rfl, ?_⟩) | ((with_reducible refine gate_callee (f := 33) rfl ?_); refine goesL_ (some 54) rfl rfl Try.func33 (by kernel_rfl) rfl #[.int .i64 a0] rfl (by (try simp only [List.map_toArray, List.map_cons, List.map_nil]); first | done | rfl | (simp only [List.length_drop, List.length_take]; rfl)) ?_; (with_reducible refine (anamnesisref02_sign.calls a0 t143 _ A21.out).mono ?_); rintro e w' ⟨rfl, ⟨nd, rfl⟩⟩; refine ⟨_, rfl, ?_⟩) | ((with_reducible refine gate_callee (f := 41) rfl ?_); refine goesL_ (some 61) rfl rfl Try.func41 (by kernel_rfl) rfl #[.int .i64 (wrap64 ((wrap64 (t137 * 256)) + x7_9)), .int .i64 (wrap64 (t138 - 8)), .bool x10_9] rfl (by (try simp only [List.map_toArray, List.map_cons, List.map_nil]); first | done | rfl | (simp only [List.length_drop, List.length_take]; rfl)) ?_; (with_reducible refine (anamnesisref02_round.calls kj9 (wrap64 ((wrap64 (t137 * 256)) + x7_9)) (wrap64 (t138 - 8)) x10_9 t144 _ A22.out).mono ?_); rintro e w24 ⟨rfl, hb⟩; refine ⟨_, rfl, ?_⟩; have n0_ := Aside0.mk (below_step (by repeat (first | (with_reducible first | exact HB.out | apply below_alloc | apply pw_below_drewN | apply below_drew1) | exact HB.out)) hb); clear HB; have HB := n0_; clear n0_; (try clear hb); (try clear hb2); (try clear hk); (try clear hi)) | ((with_reducible refine gate_callee (f := 32) rfl ?_); refine goesL_ (some 62) rfl rfl Try.func32 (by kernel_rfl) rfl #[.bool t143, .int .i64 t144] rfl (by (try simp only [List.map_toArray, List.map_cons, List.map_nil]); first | done | rfl | (simp only [List.length_drop, List.length_take]; rfl)) ?_; (with_reducible refine (anamnesisref02_with.calls t143 t144 t145 _ A23.out).mono ?_); rintro e w' ⟨rfl, ⟨nd, rfl⟩⟩; refine ⟨_, rfl, ?_⟩))
          go_ret
          exact ⟨by first | rfl | (simp [errW_none, errW_some] <;> rfl) | (simp [*, errW_none, errW_some] <;> rfl) | (simp [wrap64, errW_none, errW_some]; done), by repeat (first | (with_reducible first | exact HB.out | apply below_alloc | apply pw_below_drewN | apply below_drew1) | exact HB.out)⟩
        · rw [if_neg c20] at H
          have c20b0 : (t141 == t142) = false := by simpa using c20
          (try (have c20b1 : decide (t141 = t142) = false := by simpa using c20))
          (try (have c20b2 : (t141 == t142) = false := by simpa using c20))
          (try (have c20b3 : ¬ (t141 = t142) := by simpa using c20))
          clear c20
          have HC25 := Aside0.mk H
          clear H
          go_upto_if 66 with (first | ((with_reducible refine gate_callee (f := 33) rfl ?_); refine goesL_ (some 49) rfl rfl Try.func33 (by kernel_rfl) rfl #[.int .i64 a0] rfl (by (try simp only [List.map_toArray, List.map_cons, List.map_nil]); first | done | rfl | (simp only [List.length_drop, List.length_take]; rfl)) ?_; (with_reducible refine (anamnesisref02_sign.calls a0 t141 _ A18.out).mono ?_); rintro e w' ⟨rfl, ⟨nd, rfl⟩⟩; refine ⟨_, rfl, ?_⟩) | ((with_reducible refine gate_callee (f := 33) rfl ?_); refine goesL_ (some 51) rfl rfl Try.func33 (by kernel_rfl) rfl #[.int .i64 a1] rfl (by (try simp only [List.map_toArray, List.map_cons, List.map_nil]); first | done | rfl | (simp only [List.length_drop, List.length_take]; rfl)) ?_; (with_reducible refine (anamnesisref02_sign.calls a1 t142 _ A19.out).mono ?_); rintro e w' ⟨rfl, ⟨nd, rfl⟩⟩; refine ⟨_, rfl, ?_⟩))
          (try simp only [Act.put, List.setIfInBounds_toArray, List.set_cons_zero, List.set_cons_succ])
          go_cut [5] (fun v5 wc => ∃ (kq : Nat) (x5_24 : Int), v5 = .int .i64 x5_24 ∧ Aside0 (anamnesisref02_add.j1 kq a0 x5_24 t138 x10_9 = some r) ∧ Aside0 (kq ≤ kj9) ∧ Aside0 (Below w.heap.size w wc))
          case first =>
            have H := HC25.out
            clear HC25
            by_cases c26 : x10_9 = true
            · subst c26
              have H1 : (anamnesisref02_add.j1 kj9 a0 (wrap64 ((wrap64 ((wrap64 (t137 * 256)) - x7_9)) - 1)) t138 true) = some r := by rw [if_pos rfl] at H; exact H
              clear H
              have H := H1
              clear H1
              have H' := Aside0.mk H
              clear H
              go_wp2
              go_meet
              case rel => exact ⟨_, (wrap64 ((wrap64 ((wrap64 (t137 * 256)) - x7_9)) - 1)), (by first | rfl | (simp; done) | (simp [*]; done)), H', ⟨by have := HJ9.out; first | omega | exact Nat.le_refl _⟩, ⟨by repeat (first | (with_reducible first | exact HB.out | apply below_alloc | apply pw_below_drewN | apply below_drew1) | exact HB.out)⟩⟩
            · replace c26 := Bool.eq_false_iff.mpr c26
              subst c26
              have H1 : (anamnesisref02_add.j1 kj9 a0 (wrap64 ((wrap64 (t137 * 256)) - x7_9)) t138 false) = some r := by rw [if_neg (show ¬ (false = true) by decide)] at H; exact H
              clear H
              have H := H1
              clear H1
              have H' := Aside0.mk H
              clear H
              go_wp2
              go_meet
              case rel => exact ⟨_, (wrap64 ((wrap64 (t137 * 256)) - x7_9)), (by first | rfl | (simp; done) | (simp [*]; done)), H', ⟨by have := HJ9.out; first | omega | exact Nat.le_refl _⟩, ⟨by repeat (first | (with_reducible first | exact HB.out | apply below_alloc | apply pw_below_drewN | apply below_drew1) | exact HB.out)⟩⟩
          case rest =>
            clear HC25
            try clear c1
            try clear c2
            try clear p2
            try clear c3
            try clear c4
            try clear c5
            try clear c5b0
            try clear p6
            try clear c11
            try clear c11b0
            try clear c13
            try clear c13b0
            try clear c13b1
            try clear c15
            try clear c15b0
            try clear c15b1
            try clear c16
            try clear c16b0
            try clear c20
            try clear c20b0
            try clear c20b1
            try clear c20b2
            try clear c26
            try clear p2
            try clear p6
            obtain ⟨kq, x5_24, rfl, HA, HJ24, HB⟩ := hcut
            cases kq with
            | zero => exact absurd HA.out (by simp [anamnesisref02_add.j1])
            | succ kj24 =>
              have H := HA.out
              clear HA
              simp only [anamnesisref02_add.j1] at H
              by_cases c27 : x5_24 = 0
              · rw [if_pos c27] at H
                have c27b0 : (x5_24 == 0) = true := beq_iff_eq.mpr c27
                have c27b1 : (x5_24 != 0) = false := bne_eq_false_iff_eq.mpr c27
                clear c27
                obtain rfl := Option.some.inj H
                go_wp2
                go_ret
                exact ⟨by first | rfl | (simp [errW_none, errW_some] <;> rfl) | (simp [*, errW_none, errW_some] <;> rfl) | (simp [wrap64, errW_none, errW_some]; done), by repeat (first | (with_reducible first | exact HB.out | apply below_alloc | apply pw_below_drewN | apply below_drew1) | exact HB.out)⟩
              · rw [if_neg c27] at H
                have c27b0 : (x5_24 == 0) = false := beq_eq_false_iff_ne.mpr c27
                have c27b1 : (x5_24 != 0) = true := bne_iff_ne.mpr c27
                replace H := Option.bind_eq_some_iff.mp H
                obtain ⟨t146, A280, H⟩ := H
                replace H : ((anamnesisref02_round.f kj24 x5_24 (wrap64 (t138 - 8)) x10_9).bind fun t147 => ((anamnesisref02_with.f t146 t147).bind fun t148 => (some t148))) = some r := H
                have A28 := Aside0.mk A280
                clear A280
                replace H := Option.bind_eq_some_iff.mp H
                obtain ⟨t147, A290, H⟩ := H
                replace H : ((anamnesisref02_with.f t146 t147).bind fun t148 => (some t148)) = some r := H
                have A29 := Aside0.mk A290
                clear A290
                replace H := Option.bind_eq_some_iff.mp H
                obtain ⟨t148, A300, H⟩ := H
                replace H : (some t148) = some r := H
                have A30 := Aside0.mk A300
                clear A300
                obtain rfl := Option.some.inj H
                go_wp2_with (first | ((with_reducible refine gate_callee (f := 33) rfl ?_); refine goesL_ (some 72) rfl rfl Try.func33 (by kernel_rfl) rfl #[.int .i64 a0] rfl (by (try simp only [List.map_toArray, List.map_cons, List.map_nil]); first | done | rfl | (simp only [List.length_drop, List.length_take]; rfl)) ?_; (with_reducible refine (anamnesisref02_sign.calls a0 t146 _ A28.out).mono ?_); rintro e w' ⟨rfl, ⟨nd, rfl⟩⟩; refine ⟨_, rfl, ?_⟩) | ((with_reducible refine gate_callee (f := 41) rfl ?_); refine goesL_ (some 77) rfl rfl Try.func41 (by kernel_rfl) rfl #[.int .i64 x5_24, .int .i64 (wrap64 (t138 - 8)), .bool x10_9] rfl (by (try simp only [List.map_toArray, List.map_cons, List.map_nil]); first | done | rfl | (simp only [List.length_drop, List.length_take]; rfl)) ?_; (with_reducible refine (anamnesisref02_round.calls kj24 x5_24 (wrap64 (t138 - 8)) x10_9 t147 _ A29.out).mono ?_); rintro e w31 ⟨rfl, hb⟩; refine ⟨_, rfl, ?_⟩; have n0_ := Aside0.mk (below_step (by repeat (first | (with_reducible first | exact HB.out | apply below_alloc | apply pw_below_drewN | apply below_drew1) | exact HB.out)) hb); clear HB; have HB := n0_; clear n0_; (try clear hb); (try clear hb2); (try clear hk); (try clear hi)) | ((with_reducible refine gate_callee (f := 32) rfl ?_); refine goesL_ (some 78) rfl rfl Try.func32 (by kernel_rfl) rfl #[.bool t146, .int .i64 t147] rfl (by (try simp only [List.map_toArray, List.map_cons, List.map_nil]); first | done | rfl | (simp only [List.length_drop, List.length_take]; rfl)) ?_; (with_reducible refine (anamnesisref02_with.calls t146 t147 t148 _ A30.out).mono ?_); rintro e w' ⟨rfl, ⟨nd, rfl⟩⟩; refine ⟨_, rfl, ?_⟩))
                go_ret
                exact ⟨by first | rfl | (simp [errW_none, errW_some] <;> rfl) | (simp [*, errW_none, errW_some] <;> rfl) | (simp [wrap64, errW_none, errW_some]; done), by repeat (first | (with_reducible first | exact HB.out | apply below_alloc | apply pw_below_drewN | apply below_drew1) | exact HB.out)⟩

end Go.Proofs.Ytbnpodkfcfdpeaa.PFlt
