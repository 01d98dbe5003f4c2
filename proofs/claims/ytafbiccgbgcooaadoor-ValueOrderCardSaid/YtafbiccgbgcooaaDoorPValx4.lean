-- laid by a program of this session (gprint.py)
import Derived.Test.YtafbiccgbgcooaaDoorPValx0
import Derived.Test.YtafbiccgbgcooaaDoorPValx1
import Derived.Test.YtafbiccgbgcooaaDoorPValx2
namespace Go.Proofs.YtafbiccgbgcooaaDoor.PVal
open Go.RowKit Go.Proofs.YtafbiccgbgcooaaDoorW.PrintWords Go.Proofs.YtafbiccgbgcooaaDoorW.PrintLast Go.Proofs.YtafbiccgbgcooaaDoorW.PrintMore
attribute [local go_sem] max2_int min2_int max_two min_two max_three min_three max_four min_four   -- for this text's walks alone
set_option linter.unusedVariables false
set_option linter.unusedSimpArgs false

/-! ### anamnesislaw01_ValueOrder: function 6 -/
def anamnesislaw01_ValueOrder.j0 : Nat → Int → Int → Int → Bool → Int → Bool → Bool → Option (Bool)
  | 0, _, _, _, _, _, _, _ => none
  | k + 1, x0, x1, x5, x6, x7, x8, x49 => if x49 = true then (some false) else (if x6 = true then (if x8 = true then ((value_Int.f (wrap64 (x0 + x1))).bind fun bt203 => (if ((decide (x5 < x7)) == (decide (x0 < x1))) = true then (if bt203.2 = true then (if bt203.1 = (wrap64 ((wrap64 (x5 + x7)) - 1)) then (if (wrap64 (x0 + x1)) ≥ (-1073741824) then (some (bt203.2 == (decide ((wrap64 (x0 + x1)) < 1073741824)))) else (some (bt203.2 == false))) else (some false)) else (if (wrap64 (x0 + x1)) ≥ (-1073741824) then (some (bt203.2 == (decide ((wrap64 (x0 + x1)) < 1073741824)))) else (some (bt203.2 == false)))) else (some false))) else (some true)) else (some true))
def anamnesislaw01_ValueOrder.f (k : Nat) (a0 : Int) (a1 : Int) : Option (Bool) := (anamnesislaw01_fixed.f).bind fun t194 => ((value_Int.f a0).bind fun bt195 => ((value_Int.f a1).bind fun bt197 => ((value_Ref.f a0).bind fun bt199 => ((value_Ref.f a1).bind fun bt201 => (if bt199.2 = true then (if bt201.2 = true then (anamnesislaw01_ValueOrder.j0 k a0 a1 bt195.1 bt195.2 bt197.1 bt197.2 (!(decide (bt199.1 < bt201.1)) == (decide (a0 < a1)))) else (anamnesislaw01_ValueOrder.j0 k a0 a1 bt195.1 bt195.2 bt197.1 bt197.2 false)) else (anamnesislaw01_ValueOrder.j0 k a0 a1 bt195.1 bt195.2 bt197.1 bt197.2 false))))))
theorem anamnesislaw01_ValueOrder.mono_l : ∀ k, (∀ y0 y1 y2 y3 y4 y5 y6, LeO (anamnesislaw01_ValueOrder.j0 k y0 y1 y2 y3 y4 y5 y6) (anamnesislaw01_ValueOrder.j0 (k + 1) y0 y1 y2 y3 y4 y5 y6))
  | 0 => fun _ _ _ _ _ _ _ r h => by simp [anamnesislaw01_ValueOrder.j0] at h
  | k + 1 => by
    have ih0 := anamnesislaw01_ValueOrder.mono_l k
    · intro y0 y1 y2 y3 y4 y5 y6
      unfold anamnesislaw01_ValueOrder.j0
      repeat' first
      | (with_reducible exact ih0 _ _ _ _ _ _ _)
      | (with_reducible exact LeO.refl _)
      | (with_reducible exact LeO.none _)
      | (with_reducible refine LeO.ite ?_ ?_)
      | (with_reducible refine LeO.bind ?_ (fun _ => ?_))
      | exact ih0 _ _ _ _ _ _ _
      | exact LeO.none _
      | refine LeO.ite ?_ ?_
      | refine LeO.bind ?_ (fun _ => ?_)
theorem anamnesislaw01_ValueOrder.mono : ∀ a0 a1 k, LeO (anamnesislaw01_ValueOrder.f k a0 a1) (anamnesislaw01_ValueOrder.f (k + 1) a0 a1) := by
  intro a0 a1 k
  have ih0 := anamnesislaw01_ValueOrder.mono_l k
  unfold anamnesislaw01_ValueOrder.f
  repeat' first
      | (with_reducible exact ih0 _ _ _ _ _ _ _)
      | (with_reducible exact LeO.refl _)
      | (with_reducible exact LeO.none _)
      | (with_reducible refine LeO.ite ?_ ?_)
      | (with_reducible refine LeO.bind ?_ (fun _ => ?_))
      | exact ih0 _ _ _ _ _ _ _
      | exact LeO.none _
      | refine LeO.ite ?_ ?_
      | refine LeO.bind ?_ (fun _ => ?_)
set_option maxHeartbeats 8000000 in
set_option maxRecDepth 100000 in
theorem anamnesislaw01_ValueOrder.calls (k : Nat) (a0 : Int) (a1 : Int) (r : Bool) (w : World) (h : anamnesislaw01_ValueOrder.f k a0 a1 = some r) (hr : r = true) (htab : pow10Is w) :
    Calls Tryd.prog 6 #[.int .i64 a0, .int .i64 a1] w fun e w' => e = .returned (.bool r) ∧ Below w.heap.size w w' := by
  have hr_ := Aside0.mk hr
  clear hr
  have htab_ := Aside0.mk htab
  clear htab
  have HB := Aside0.mk (Below.refl w.heap.size w)
  have H : ((anamnesislaw01_fixed.f).bind fun t194 => ((value_Int.f a0).bind fun bt195 => ((value_Int.f a1).bind fun bt197 => ((value_Ref.f a0).bind fun bt199 => ((value_Ref.f a1).bind fun bt201 => (if bt199.2 = true then (if bt201.2 = true then (anamnesislaw01_ValueOrder.j0 k a0 a1 bt195.1 bt195.2 bt197.1 bt197.2 (!(decide (bt199.1 < bt201.1)) == (decide (a0 < a1)))) else (anamnesislaw01_ValueOrder.j0 k a0 a1 bt195.1 bt195.2 bt197.1 bt197.2 false)) else (anamnesislaw01_ValueOrder.j0 k a0 a1 bt195.1 bt195.2 bt197.1 bt197.2 false))))))) = some r := h
  clear h
  replace H := Option.bind_eq_some_iff.mp H
  obtain ⟨t194, A30, H⟩ := H
  replace H : ((value_Int.f a0).bind fun bt195 => ((value_Int.f a1).bind fun bt197 => ((value_Ref.f a0).bind fun bt199 => ((value_Ref.f a1).bind fun bt201 => (if bt199.2 = true then (if bt201.2 = true then (anamnesislaw01_ValueOrder.j0 k a0 a1 bt195.1 bt195.2 bt197.1 bt197.2 (!(decide (bt199.1 < bt201.1)) == (decide (a0 < a1)))) else (anamnesislaw01_ValueOrder.j0 k a0 a1 bt195.1 bt195.2 bt197.1 bt197.2 false)) else (anamnesislaw01_ValueOrder.j0 k a0 a1 bt195.1 bt195.2 bt197.1 bt197.2 false)))))) = some r := H
  have A3 := Aside0.mk A30
  clear A30
  replace H := Option.bind_eq_some_iff.mp H
  obtain ⟨⟨t195, t196⟩, A40, H⟩ := H
  replace H : ((value_Int.f a1).bind fun bt197 => ((value_Ref.f a0).bind fun bt199 => ((value_Ref.f a1).bind fun bt201 => (if bt199.2 = true then (if bt201.2 = true then (anamnesislaw01_ValueOrder.j0 k a0 a1 t195 t196 bt197.1 bt197.2 (!(decide (bt199.1 < bt201.1)) == (decide (a0 < a1)))) else (anamnesislaw01_ValueOrder.j0 k a0 a1 t195 t196 bt197.1 bt197.2 false)) else (anamnesislaw01_ValueOrder.j0 k a0 a1 t195 t196 bt197.1 bt197.2 false))))) = some r := H
  have A4 := Aside0.mk A40
  clear A40
  replace H := Option.bind_eq_some_iff.mp H
  obtain ⟨⟨t197, t198⟩, A50, H⟩ := H
  replace H : ((value_Ref.f a0).bind fun bt199 => ((value_Ref.f a1).bind fun bt201 => (if bt199.2 = true then (if bt201.2 = true then (anamnesislaw01_ValueOrder.j0 k a0 a1 t195 t196 t197 t198 (!(decide (bt199.1 < bt201.1)) == (decide (a0 < a1)))) else (anamnesislaw01_ValueOrder.j0 k a0 a1 t195 t196 t197 t198 false)) else (anamnesislaw01_ValueOrder.j0 k a0 a1 t195 t196 t197 t198 false)))) = some r := H
  have A5 := Aside0.mk A50
  clear A50
  replace H := Option.bind_eq_some_iff.mp H
  obtain ⟨⟨t199, t200⟩, A60, H⟩ := H
  replace H : ((value_Ref.f a1).bind fun bt201 => (if t200 = true then (if bt201.2 = true then (anamnesislaw01_ValueOrder.j0 k a0 a1 t195 t196 t197 t198 (!(decide (t199 < bt201.1)) == (decide (a0 < a1)))) else (anamnesislaw01_ValueOrder.j0 k a0 a1 t195 t196 t197 t198 false)) else (anamnesislaw01_ValueOrder.j0 k a0 a1 t195 t196 t197 t198 false))) = some r := H
  have A6 := Aside0.mk A60
  clear A60
  replace H := Option.bind_eq_some_iff.mp H
  obtain ⟨⟨t201, t202⟩, A70, H⟩ := H
  replace H : (if t200 = true then (if t202 = true then (anamnesislaw01_ValueOrder.j0 k a0 a1 t195 t196 t197 t198 (!(decide (t199 < t201)) == (decide (a0 < a1)))) else (anamnesislaw01_ValueOrder.j0 k a0 a1 t195 t196 t197 t198 false)) else (anamnesislaw01_ValueOrder.j0 k a0 a1 t195 t196 t197 t198 false)) = some r := H
  have A7 := Aside0.mk A70
  clear A70
  have HC8 := Aside0.mk H
  clear H
  go_enter Tryd.func6, Tryd.ntmps6
  go_upto_region 7 with (first | ((with_reducible refine gate_callee (f := 20) rfl ?_); refine goesL_ (some 15) rfl rfl Tryd.func20 (by kernel_rfl) rfl #[] rfl (by (try simp only [List.map_toArray, List.map_cons, List.map_nil]); first | done | rfl | (simp only [List.length_drop, List.length_take]; rfl)) ?_; (with_reducible refine (anamnesislaw01_fixed.calls  t194 _ A3.out (tab_on htab_.out (by repeat (first | (with_reducible first | exact HB.out | apply below_alloc | apply pw_below_drewN | apply below_drew1) | exact HB.out)))).mono ?_); rintro e w9 ⟨rfl, hb⟩; refine ⟨_, rfl, ?_⟩; have n0_ := Aside0.mk (below_step (by repeat (first | (with_reducible first | exact HB.out | apply below_alloc | apply pw_below_drewN | apply below_drew1) | exact HB.out)) hb); clear HB; have HB := n0_; clear n0_; (try clear hb); (try clear hb2); (try clear hk); (try clear hi)) | ((with_reducible refine gate_callee (f := 8) rfl ?_); refine goesL_ (some 19) rfl rfl Tryd.func8 (by kernel_rfl) rfl #[.int .i64 a0] rfl (by (try simp only [List.map_toArray, List.map_cons, List.map_nil]); first | done | rfl | (simp only [List.length_drop, List.length_take]; rfl)) ?_; (with_reducible refine (value_Int.calls a0 t195 t196 _ A4.out).mono ?_); rintro e w' ⟨rfl, ⟨nd, rfl⟩⟩; refine ⟨_, rfl, ?_⟩) | ((with_reducible refine gate_callee (f := 8) rfl ?_); refine goesL_ (some 24) rfl rfl Tryd.func8 (by kernel_rfl) rfl #[.int .i64 a1] rfl (by (try simp only [List.map_toArray, List.map_cons, List.map_nil]); first | done | rfl | (simp only [List.length_drop, List.length_take]; rfl)) ?_; (with_reducible refine (value_Int.calls a1 t197 t198 _ A5.out).mono ?_); rintro e w' ⟨rfl, ⟨nd, rfl⟩⟩; refine ⟨_, rfl, ?_⟩) | ((with_reducible refine gate_callee (f := 10) rfl ?_); refine goesL_ (some 29) rfl rfl Tryd.func10 (by kernel_rfl) rfl #[.int .i64 a0] rfl (by (try simp only [List.map_toArray, List.map_cons, List.map_nil]); first | done | rfl | (simp only [List.length_drop, List.length_take]; rfl)) ?_; (with_reducible refine (value_Ref.calls a0 t199 t200 _ A6.out).mono ?_); rintro e w' ⟨rfl, ⟨nd, rfl⟩⟩; refine ⟨_, rfl, ?_⟩) | ((with_reducible refine gate_callee (f := 10) rfl ?_); refine goesL_ (some 34) rfl rfl Tryd.func10 (by kernel_rfl) rfl #[.int .i64 a1] rfl (by (try simp only [List.map_toArray, List.map_cons, List.map_nil]); first | done | rfl | (simp only [List.length_drop, List.length_take]; rfl)) ?_; (with_reducible refine (value_Ref.calls a1 t201 t202 _ A7.out).mono ?_); rintro e w' ⟨rfl, ⟨nd, rfl⟩⟩; refine ⟨_, rfl, ?_⟩))
  (try simp only [Act.put, List.setIfInBounds_toArray, List.set_cons_zero, List.set_cons_succ])
  go_cut [49] (fun v49 wc => ∃ (kq : Nat) (x49_7 : Bool), v49 = .bool x49_7 ∧ Aside0 (anamnesislaw01_ValueOrder.j0 kq a0 a1 t195 t196 t197 t198 x49_7 = some r) ∧ Aside0 (kq ≤ k) ∧ Aside0 (Below w.heap.size w wc))
  case first =>
    have H := HC8.out
    clear HC8
    by_cases c10 : t200 = true
    · subst c10
      have H1 : (if t202 = true then (anamnesislaw01_ValueOrder.j0 k a0 a1 t195 t196 t197 t198 (!(decide (t199 < t201)) == (decide (a0 < a1)))) else (anamnesislaw01_ValueOrder.j0 k a0 a1 t195 t196 t197 t198 false)) = some r := by rw [if_pos rfl] at H; exact H
      clear H
      have H := H1
      clear H1
      by_cases c11 : t202 = true
      · subst c11
        have H1 : (anamnesislaw01_ValueOrder.j0 k a0 a1 t195 t196 t197 t198 (!(decide (t199 < t201)) == (decide (a0 < a1)))) = some r := by rw [if_pos rfl] at H; exact H
        clear H
        have H := H1
        clear H1
        have H' := Aside0.mk H
        clear H
        go_wp2
        go_meet
        case rel => exact ⟨_, ((!(decide (t199 < t201)) == (decide (a0 < a1)))), (by first | rfl | (simp; done) | (simp [*]; done)), H', ⟨by first | omega | exact Nat.le_refl _⟩, ⟨by repeat (first | (with_reducible first | exact HB.out | apply below_alloc | apply pw_below_drewN | apply below_drew1) | exact HB.out)⟩⟩
      · replace c11 := Bool.eq_false_iff.mpr c11
        subst c11
        have H1 : (anamnesislaw01_ValueOrder.j0 k a0 a1 t195 t196 t197 t198 false) = some r := by rw [if_neg (show ¬ (false = true) by decide)] at H; exact H
        clear H
        have H := H1
        clear H1
        have H' := Aside0.mk H
        clear H
        go_wp2
        go_meet
        case rel => exact ⟨_, (false), (by first | rfl | (simp; done) | (simp [*]; done)), H', ⟨by first | omega | exact Nat.le_refl _⟩, ⟨by repeat (first | (with_reducible first | exact HB.out | apply below_alloc | apply pw_below_drewN | apply below_drew1) | exact HB.out)⟩⟩
    · replace c10 := Bool.eq_false_iff.mpr c10
      subst c10
      have H1 : (anamnesislaw01_ValueOrder.j0 k a0 a1 t195 t196 t197 t198 false) = some r := by rw [if_neg (show ¬ (false = true) by decide)] at H; exact H
      clear H
      have H := H1
      clear H1
      have H' := Aside0.mk H
      clear H
      go_wp2
      go_meet
      case rel => exact ⟨_, (false), (by first | rfl | (simp; done) | (simp [*]; done)), H', ⟨by first | omega | exact Nat.le_refl _⟩, ⟨by repeat (first | (with_reducible first | exact HB.out | apply below_alloc | apply pw_below_drewN | apply below_drew1) | exact HB.out)⟩⟩
  case rest =>
    clear HC8
    try clear c1
    try clear c2
    try clear p2
    try clear c6
    try clear c8
    try clear c10
    try clear c11
    obtain ⟨kq, x49_7, rfl, HA, HJ7, HB⟩ := hcut
    cases kq with
    | zero => exact absurd HA.out (by simp [anamnesislaw01_ValueOrder.j0])
    | succ kj7 =>
      have H := HA.out
      clear HA
      simp only [anamnesislaw01_ValueOrder.j0] at H
      by_cases c12 : x49_7 = true
      · subst c12
        have H1 : (some false) = some r := by rw [if_pos rfl] at H; exact H
        clear H
        have H := H1
        clear H1
        obtain rfl := Option.some.inj H
        exact absurd hr_.out (by decide)
      · replace c12 := Bool.eq_false_iff.mpr c12
        subst c12
        have H1 : (if t196 = true then (if t198 = true then ((value_Int.f (wrap64 (a0 + a1))).bind fun bt203 => (if ((decide (t195 < t197)) == (decide (a0 < a1))) = true then (if bt203.2 = true then (if bt203.1 = (wrap64 ((wrap64 (t195 + t197)) - 1)) then (if (wrap64 (a0 + a1)) ≥ (-1073741824) then (some (bt203.2 == (decide ((wrap64 (a0 + a1)) < 1073741824)))) else (some (bt203.2 == false))) else (some false)) else (if (wrap64 (a0 + a1)) ≥ (-1073741824) then (some (bt203.2 == (decide ((wrap64 (a0 + a1)) < 1073741824)))) else (some (bt203.2 == false)))) else (some false))) else (some true)) else (some true)) = some r := by rw [if_neg (show ¬ (false = true) by decide)] at H; exact H
        clear H
        have H := H1
        clear H1
        by_cases c13 : t196 = true
        · subst c13
          have H1 : (if t198 = true then ((value_Int.f (wrap64 (a0 + a1))).bind fun bt203 => (if ((decide (t195 < t197)) == (decide (a0 < a1))) = true then (if bt203.2 = true then (if bt203.1 = (wrap64 ((wrap64 (t195 + t197)) - 1)) then (if (wrap64 (a0 + a1)) ≥ (-1073741824) then (some (bt203.2 == (decide ((wrap64 (a0 + a1)) < 1073741824)))) else (some (bt203.2 == false))) else (some false)) else (if (wrap64 (a0 + a1)) ≥ (-1073741824) then (some (bt203.2 == (decide ((wrap64 (a0 + a1)) < 1073741824)))) else (some (bt203.2 == false)))) else (some false))) else (some true)) = some r := by rw [if_pos rfl] at H; exact H
          clear H
          have H := H1
          clear H1
          by_cases c14 : t198 = true
          · subst c14
            have H1 : ((value_Int.f (wrap64 (a0 + a1))).bind fun bt203 => (if ((decide (t195 < t197)) == (decide (a0 < a1))) = true then (if bt203.2 = true then (if bt203.1 = (wrap64 ((wrap64 (t195 + t197)) - 1)) then (if (wrap64 (a0 + a1)) ≥ (-1073741824) then (some (bt203.2 == (decide ((wrap64 (a0 + a1)) < 1073741824)))) else (some (bt203.2 == false))) else (some false)) else (if (wrap64 (a0 + a1)) ≥ (-1073741824) then (some (bt203.2 == (decide ((wrap64 (a0 + a1)) < 1073741824)))) else (some (bt203.2 == false)))) else (some false))) = some r := by rw [if_pos rfl] at H; exact H
            clear H
            have H := H1
            clear H1
            replace H := Option.bind_eq_some_iff.mp H
            obtain ⟨⟨t203, t204⟩, A150, H⟩ := H
            replace H : (if ((decide (t195 < t197)) == (decide (a0 < a1))) = true then (if t204 = true then (if t203 = (wrap64 ((wrap64 (t195 + t197)) - 1)) then (if (wrap64 (a0 + a1)) ≥ (-1073741824) then (some (t204 == (decide ((wrap64 (a0 + a1)) < 1073741824)))) else (some (t204 == false))) else (some false)) else (if (wrap64 (a0 + a1)) ≥ (-1073741824) then (some (t204 == (decide ((wrap64 (a0 + a1)) < 1073741824)))) else (some (t204 == false)))) else (some false)) = some r := H
            have A15 := Aside0.mk A150
            clear A150
            by_cases c16 : ((decide (t195 < t197)) == (decide (a0 < a1))) = true
            · rw [if_pos c16] at H
              have c16b0 : ((decide (t195 < t197)) == (decide (a0 < a1))) = true := c16
              (try (have c16b1 : decide ((decide (t195 < t197)) = (decide (a0 < a1))) = true := by simpa using c16))
              (try (have c16b2 : ((decide (t195 < t197)) == (decide (a0 < a1))) = true := by simpa using c16))
              clear c16
              by_cases c17 : t204 = true
              · subst c17
                have H1 : (if t203 = (wrap64 ((wrap64 (t195 + t197)) - 1)) then (if (wrap64 (a0 + a1)) ≥ (-1073741824) then (some (true == (decide ((wrap64 (a0 + a1)) < 1073741824)))) else (some (true == false))) else (some false)) = some r := by rw [if_pos rfl] at H; exact H
                clear H
                have H := H1
                clear H1
                by_cases c18 : t203 = (wrap64 ((wrap64 (t195 + t197)) - 1))
                · rw [if_pos c18] at H
                  have c18b0 : (t203 == (wrap64 ((wrap64 (t195 + t197)) - 1))) = true := beq_iff_eq.mpr c18
                  have c18b1 : (t203 != (wrap64 ((wrap64 (t195 + t197)) - 1))) = false := bne_eq_false_iff_eq.mpr c18
                  clear c18
                  by_cases c19 : (wrap64 (a0 + a1)) ≥ (-1073741824)
                  · rw [if_pos c19] at H
                    have c19b0 : decide ((-1073741824) ≤ (wrap64 (a0 + a1))) = true := decide_eq_true c19
                    clear c19
                    obtain rfl := Option.some.inj H
                    go_wp2_with (first | ((with_reducible refine gate_callee (f := 8) rfl ?_); refine goesL_ (some 60) rfl rfl Tryd.func8 (by kernel_rfl) rfl #[.int .i64 (wrap64 (a0 + a1))] rfl (by (try simp only [List.map_toArray, List.map_cons, List.map_nil]); first | done | rfl | (simp only [List.length_drop, List.length_take]; rfl)) ?_; (with_reducible refine (value_Int.calls (wrap64 (a0 + a1)) t203 true _ A15.out).mono ?_); rintro e w' ⟨rfl, ⟨nd, rfl⟩⟩; refine ⟨_, rfl, ?_⟩))
                    go_ret
                    exact ⟨by first | rfl | (simp [errW_none, errW_some] <;> rfl) | (simp [*, errW_none, errW_some] <;> rfl) | (simp [wrap64, errW_none, errW_some]; done) | (simp [wrap64, errW_none, errW_some]; exact eq_of_beq hr_.out), by repeat (first | (with_reducible first | exact HB.out | apply below_alloc | apply pw_below_drewN | apply below_drew1) | exact HB.out)⟩
                  · rw [if_neg c19] at H
                    have c19b0 : decide ((-1073741824) ≤ (wrap64 (a0 + a1))) = false := decide_eq_false c19
                    clear c19
                    obtain rfl := Option.some.inj H
                    go_wp2_with (first | ((with_reducible refine gate_callee (f := 8) rfl ?_); refine goesL_ (some 60) rfl rfl Tryd.func8 (by kernel_rfl) rfl #[.int .i64 (wrap64 (a0 + a1))] rfl (by (try simp only [List.map_toArray, List.map_cons, List.map_nil]); first | done | rfl | (simp only [List.length_drop, List.length_take]; rfl)) ?_; (with_reducible refine (value_Int.calls (wrap64 (a0 + a1)) t203 true _ A15.out).mono ?_); rintro e w' ⟨rfl, ⟨nd, rfl⟩⟩; refine ⟨_, rfl, ?_⟩))
                    go_ret
                    exact ⟨by first | rfl | (simp [errW_none, errW_some] <;> rfl) | (simp [*, errW_none, errW_some] <;> rfl) | (simp [wrap64, errW_none, errW_some]; done) | (simp [wrap64, errW_none, errW_some]; exact eq_of_beq hr_.out), by repeat (first | (with_reducible first | exact HB.out | apply below_alloc | apply pw_below_drewN | apply below_drew1) | exact HB.out)⟩
                · rw [if_neg c18] at H
                  have c18b0 : (t203 == (wrap64 ((wrap64 (t195 + t197)) - 1))) = false := beq_eq_false_iff_ne.mpr c18
                  have c18b1 : (t203 != (wrap64 ((wrap64 (t195 + t197)) - 1))) = true := bne_iff_ne.mpr c18
                  obtain rfl := Option.some.inj H
                  exact absurd hr_.out (by decide)
              · replace c17 := Bool.eq_false_iff.mpr c17
                subst c17
                have H1 : (if (wrap64 (a0 + a1)) ≥ (-1073741824) then (some (false == (decide ((wrap64 (a0 + a1)) < 1073741824)))) else (some (false == false))) = some r := by rw [if_neg (show ¬ (false = true) by decide)] at H; exact H
                clear H
                have H := H1
                clear H1
                by_cases c20 : (wrap64 (a0 + a1)) ≥ (-1073741824)
                · rw [if_pos c20] at H
                  have c20b0 : decide ((-1073741824) ≤ (wrap64 (a0 + a1))) = true := decide_eq_true c20
                  clear c20
                  obtain rfl := Option.some.inj H
                  go_wp2_with (first | ((with_reducible refine gate_callee (f := 8) rfl ?_); refine goesL_ (some 60) rfl rfl Tryd.func8 (by kernel_rfl) rfl #[.int .i64 (wrap64 (a0 + a1))] rfl (by (try simp only [List.map_toArray, List.map_cons, List.map_nil]); first | done | rfl | (simp only [List.length_drop, List.length_take]; rfl)) ?_; (with_reducible refine (value_Int.calls (wrap64 (a0 + a1)) t203 false _ A15.out).mono ?_); rintro e w' ⟨rfl, ⟨nd, rfl⟩⟩; refine ⟨_, rfl, ?_⟩))
                  go_ret
                  exact ⟨by first | rfl | (simp [errW_none, errW_some] <;> rfl) | (simp [*, errW_none, errW_some] <;> rfl) | (simp [wrap64, errW_none, errW_some]; done) | (simp [wrap64, errW_none, errW_some]; exact eq_of_beq hr_.out), by repeat (first | (with_reducible first | exact HB.out | apply below_alloc | apply pw_below_drewN | apply below_drew1) | exact HB.out)⟩
                · rw [if_neg c20] at H
                  have c20b0 : decide ((-1073741824) ≤ (wrap64 (a0 + a1))) = false := decide_eq_false c20
                  clear c20
                  obtain rfl := Option.some.inj H
                  go_wp2_with (first | ((with_reducible refine gate_callee (f := 8) rfl ?_); refine goesL_ (some 60) rfl rfl Tryd.func8 (by kernel_rfl) rfl #[.int .i64 (wrap64 (a0 + a1))] rfl (by (try simp only [List.map_toArray, List.map_cons, List.map_nil]); first | done | rfl | (simp only [List.length_drop, List.length_take]; rfl)) ?_; (with_reducible refine (value_Int.calls (wrap64 (a0 + a1)) t203 false _ A15.out).mono ?_); rintro e w' ⟨rfl, ⟨nd, rfl⟩⟩; refine ⟨_, rfl, ?_⟩))
                  go_ret
                  exact ⟨by first | rfl | (simp [errW_none, errW_some] <;> rfl) | (simp [*, errW_none, errW_some] <;> rfl) | (simp [wrap64, errW_none, errW_some]; done) | (simp [wrap64, errW_none, errW_some]; exact eq_of_beq hr_.out), by repeat (first | (with_reducible first | exact HB.out | apply below_alloc | apply pw_below_drewN | apply below_drew1) | exact HB.out)⟩
            · rw [if_neg c16] at H
              have c16b0 : ((decide (t195 < t197)) == (decide (a0 < a1))) = false := by simpa using c16
              (try (have c16b1 : decide ((decide (t195 < t197)) = (decide (a0 < a1))) = false := by simpa using c16))
              (try (have c16b2 : ((decide (t195 < t197)) == (decide (a0 < a1))) = false := by simpa using c16))
              (try (have c16b3 : ¬ ((decide (t195 < t197)) = (decide (a0 < a1))) := by simpa using c16))
              clear c16
              obtain rfl := Option.some.inj H
              exact absurd hr_.out (by decide)
          · replace c14 := Bool.eq_false_iff.mpr c14
            subst c14
            have H1 : (some true) = some r := by rw [if_neg (show ¬ (false = true) by decide)] at H; exact H
            clear H
            have H := H1
            clear H1
            obtain rfl := Option.some.inj H
            go_wp2
            go_ret
            exact ⟨by first | rfl | (simp [errW_none, errW_some] <;> rfl) | (simp [*, errW_none, errW_some] <;> rfl) | (simp [wrap64, errW_none, errW_some]; done) | (simp [wrap64, errW_none, errW_some]; exact eq_of_beq hr_.out), by repeat (first | (with_reducible first | exact HB.out | apply below_alloc | apply pw_below_drewN | apply below_drew1) | exact HB.out)⟩
        · replace c13 := Bool.eq_false_iff.mpr c13
          subst c13
          have H1 : (some true) = some r := by rw [if_neg (show ¬ (false = true) by decide)] at H; exact H
          clear H
          have H := H1
          clear H1
          obtain rfl := Option.some.inj H
          go_wp2
          go_ret
          exact ⟨by first | rfl | (simp [errW_none, errW_some] <;> rfl) | (simp [*, errW_none, errW_some] <;> rfl) | (simp [wrap64, errW_none, errW_some]; done) | (simp [wrap64, errW_none, errW_some]; exact eq_of_beq hr_.out), by repeat (first | (with_reducible first | exact HB.out | apply below_alloc | apply pw_below_drewN | apply below_drew1) | exact HB.out)⟩

/-- THE ONE PURE STATEMENT of anamnesislaw01_ValueOrder: yours. -/
def anamnesislaw01_ValueOrder.Pure : Prop := ∀ (a0 : Int) (a1 : Int), (Lit.int .i64 a0).wf = true → (Lit.int .i64 a1).wf = true → ∃ k, anamnesislaw01_ValueOrder.f k a0 a1 = some true
theorem anamnesislaw01_ValueOrder.walk (P : anamnesislaw01_ValueOrder.Pure) (a0 : Int) (a1 : Int) (w : World) (w0 : (Lit.int .i64 a0).wf = true) (w1 : (Lit.int .i64 a1).wf = true) (htab : pow10Is w) :
    Calls Tryd.prog 6 #[.int .i64 a0, .int .i64 a1] w fun e w' => e = .returned (.bool true) ∧ Below w.heap.size w w' := by
  obtain ⟨k, h⟩ := P a0 a1 w0 w1
  refine (anamnesislaw01_ValueOrder.calls k a0 a1 true w h rfl htab).mono ?_
  rintro e w' ⟨rfl, hd⟩
  exact ⟨rfl, hd⟩

/-! ### anamnesislaw01_ValueEven: function 7 -/
def anamnesislaw01_ValueEven.f (a0 : Int) : Option (Bool) := (anamnesislaw01_fixed.f).bind fun t205 => ((value_N.f a0).bind fun bt206 => ((value_At.f a0).bind fun bt208 => ((value_May.f a0).bind fun t210 => (if bt206.2 = true then (if (!t210 == true) = true then (some false) else (if bt208.2 = true then (some false) else (if (wrap64 ((wrap64 (2 * bt206.1)) + 1)) = a0 then (some (bt208.1 == 0)) else (some false)))) else (if (!t210 == bt208.2) = true then (some false) else (if bt208.2 = true then (if (wrap64 (2 * bt208.1)) = a0 then (if bt208.1 < 0 then (some false) else (if bt206.1 = 0 then (some true) else (some false))) else (some false)) else (if bt206.1 = 0 then (some (bt208.1 == 0)) else (some false))))))))
set_option maxHeartbeats 8000000 in
set_option maxRecDepth 100000 in
theorem anamnesislaw01_ValueEven.calls (a0 : Int) (r : Bool) (w : World) (h : anamnesislaw01_ValueEven.f a0 = some r) (hr : r = true) (htab : pow10Is w) :
    Calls Tryd.prog 7 #[.int .i64 a0] w fun e w' => e = .returned (.bool r) ∧ Below w.heap.size w w' := by
  have hr_ := Aside0.mk hr
  clear hr
  have htab_ := Aside0.mk htab
  clear htab
  have HB := Aside0.mk (Below.refl w.heap.size w)
  have H : ((anamnesislaw01_fixed.f).bind fun t205 => ((value_N.f a0).bind fun bt206 => ((value_At.f a0).bind fun bt208 => ((value_May.f a0).bind fun t210 => (if bt206.2 = true then (if (!t210 == true) = true then (some false) else (if bt208.2 = true then (some false) else (if (wrap64 ((wrap64 (2 * bt206.1)) + 1)) = a0 then (some (bt208.1 == 0)) else (some false)))) else (if (!t210 == bt208.2) = true then (some false) else (if bt208.2 = true then (if (wrap64 (2 * bt208.1)) = a0 then (if bt208.1 < 0 then (some false) else (if bt206.1 = 0 then (some true) else (some false))) else (some false)) else (if bt206.1 = 0 then (some (bt208.1 == 0)) else (some false))))))))) = some r := h
  clear h
  replace H := Option.bind_eq_some_iff.mp H
  obtain ⟨t205, A20, H⟩ := H
  replace H : ((value_N.f a0).bind fun bt206 => ((value_At.f a0).bind fun bt208 => ((value_May.f a0).bind fun t210 => (if bt206.2 = true then (if (!t210 == true) = true then (some false) else (if bt208.2 = true then (some false) else (if (wrap64 ((wrap64 (2 * bt206.1)) + 1)) = a0 then (some (bt208.1 == 0)) else (some false)))) else (if (!t210 == bt208.2) = true then (some false) else (if bt208.2 = true then (if (wrap64 (2 * bt208.1)) = a0 then (if bt208.1 < 0 then (some false) else (if bt206.1 = 0 then (some true) else (some false))) else (some false)) else (if bt206.1 = 0 then (some (bt208.1 == 0)) else (some false)))))))) = some r := H
  have A2 := Aside0.mk A20
  clear A20
  replace H := Option.bind_eq_some_iff.mp H
  obtain ⟨⟨t206, t207⟩, A30, H⟩ := H
  replace H : ((value_At.f a0).bind fun bt208 => ((value_May.f a0).bind fun t210 => (if t207 = true then (if (!t210 == true) = true then (some false) else (if bt208.2 = true then (some false) else (if (wrap64 ((wrap64 (2 * t206)) + 1)) = a0 then (some (bt208.1 == 0)) else (some false)))) else (if (!t210 == bt208.2) = true then (some false) else (if bt208.2 = true then (if (wrap64 (2 * bt208.1)) = a0 then (if bt208.1 < 0 then (some false) else (if t206 = 0 then (some true) else (some false))) else (some false)) else (if t206 = 0 then (some (bt208.1 == 0)) else (some false))))))) = some r := H
  have A3 := Aside0.mk A30
  clear A30
  replace H := Option.bind_eq_some_iff.mp H
  obtain ⟨⟨t208, t209⟩, A40, H⟩ := H
  replace H : ((value_May.f a0).bind fun t210 => (if t207 = true then (if (!t210 == true) = true then (some false) else (if t209 = true then (some false) else (if (wrap64 ((wrap64 (2 * t206)) + 1)) = a0 then (some (t208 == 0)) else (some false)))) else (if (!t210 == t209) = true then (some false) else (if t209 = true then (if (wrap64 (2 * t208)) = a0 then (if t208 < 0 then (some false) else (if t206 = 0 then (some true) else (some false))) else (some false)) else (if t206 = 0 then (some (t208 == 0)) else (some false)))))) = some r := H
  have A4 := Aside0.mk A40
  clear A40
  replace H := Option.bind_eq_some_iff.mp H
  obtain ⟨t210, A50, H⟩ := H
  replace H : (if t207 = true then (if (!t210 == true) = true then (some false) else (if t209 = true then (some false) else (if (wrap64 ((wrap64 (2 * t206)) + 1)) = a0 then (some (t208 == 0)) else (some false)))) else (if (!t210 == t209) = true then (some false) else (if t209 = true then (if (wrap64 (2 * t208)) = a0 then (if t208 < 0 then (some false) else (if t206 = 0 then (some true) else (some false))) else (some false)) else (if t206 = 0 then (some (t208 == 0)) else (some false))))) = some r := H
  have A5 := Aside0.mk A50
  clear A50
  by_cases c6 : t207 = true
  · subst c6
    have H1 : (if (!t210 == true) = true then (some false) else (if t209 = true then (some false) else (if (wrap64 ((wrap64 (2 * t206)) + 1)) = a0 then (some (t208 == 0)) else (some false)))) = some r := by rw [if_pos rfl] at H; exact H
    clear H
    have H := H1
    clear H1
    by_cases c7 : (!t210 == true) = true
    · rw [if_pos c7] at H
      have c7b0 : (!t210 == true) = true := c7
      (try (have c7b1 : (t210 != true) = true := by simpa using c7))
      (try (have c7b2 : decide (t210 = true) = false := by simpa using c7))
      (try (have c7b3 : (t210 == true) = false := by simpa using c7))
      (try (have c7b4 : ¬ (t210 = true) := by simpa using c7))
      clear c7
      obtain rfl := Option.some.inj H
      exact absurd hr_.out (by decide)
    · rw [if_neg c7] at H
      have c7b0 : (!t210 == true) = false := by simpa using c7
      (try (have c7b1 : (t210 != true) = false := by simpa using c7))
      (try (have c7b2 : decide (t210 = true) = true := by simpa using c7))
      (try (have c7b3 : (t210 == true) = true := by simpa using c7))
      clear c7
      by_cases c8 : t209 = true
      · subst c8
        have H1 : (some false) = some r := by rw [if_pos rfl] at H; exact H
        clear H
        have H := H1
        clear H1
        obtain rfl := Option.some.inj H
        exact absurd hr_.out (by decide)
      · replace c8 := Bool.eq_false_iff.mpr c8
        subst c8
        have H1 : (if (wrap64 ((wrap64 (2 * t206)) + 1)) = a0 then (some (t208 == 0)) else (some false)) = some r := by rw [if_neg (show ¬ (false = true) by decide)] at H; exact H
        clear H
        have H := H1
        clear H1
        by_cases c9 : (wrap64 ((wrap64 (2 * t206)) + 1)) = a0
        · rw [if_pos c9] at H
          have c9b0 : ((wrap64 ((wrap64 (2 * t206)) + 1)) == a0) = true := beq_iff_eq.mpr c9
          have c9b1 : ((wrap64 ((wrap64 (2 * t206)) + 1)) != a0) = false := bne_eq_false_iff_eq.mpr c9
          clear c9
          obtain rfl := Option.some.inj H
          go_enter Tryd.func7, Tryd.ntmps7
          go_wp2_with (first | ((with_reducible refine gate_callee (f := 20) rfl ?_); refine goesL_ (some 7) rfl rfl Tryd.func20 (by kernel_rfl) rfl #[] rfl (by (try simp only [List.map_toArray, List.map_cons, List.map_nil]); first | done | rfl | (simp only [List.length_drop, List.length_take]; rfl)) ?_; (with_reducible refine (anamnesislaw01_fixed.calls  t205 _ A2.out (tab_on htab_.out (by repeat (first | (with_reducible first | exact HB.out | apply below_alloc | apply pw_below_drewN | apply below_drew1) | exact HB.out)))).mono ?_); rintro e w10 ⟨rfl, hb⟩; refine ⟨_, rfl, ?_⟩; have n0_ := Aside0.mk (below_step (by repeat (first | (with_reducible first | exact HB.out | apply below_alloc | apply pw_below_drewN | apply below_drew1) | exact HB.out)) hb); clear HB; have HB := n0_; clear n0_; (try clear hb); (try clear hb2); (try clear hk); (try clear hi)) | ((with_reducible refine gate_callee (f := 16) rfl ?_); refine goesL_ (some 11) rfl rfl Tryd.func16 (by kernel_rfl) rfl #[.int .i64 a0] rfl (by (try simp only [List.map_toArray, List.map_cons, List.map_nil]); first | done | rfl | (simp only [List.length_drop, List.length_take]; rfl)) ?_; (with_reducible refine (value_N.calls a0 t206 true _ A3.out).mono ?_); rintro e w' ⟨rfl, ⟨nd, rfl⟩⟩; refine ⟨_, rfl, ?_⟩) | ((with_reducible refine gate_callee (f := 18) rfl ?_); refine goesL_ (some 16) rfl rfl Tryd.func18 (by kernel_rfl) rfl #[.int .i64 a0] rfl (by (try simp only [List.map_toArray, List.map_cons, List.map_nil]); first | done | rfl | (simp only [List.length_drop, List.length_take]; rfl)) ?_; (with_reducible refine (value_At.calls a0 t208 false _ A4.out).mono ?_); rintro e w' ⟨rfl, ⟨nd, rfl⟩⟩; refine ⟨_, rfl, ?_⟩) | ((with_reducible refine gate_callee (f := 12) rfl ?_); refine goesL_ (some 20) rfl rfl Tryd.func12 (by kernel_rfl) rfl #[.int .i64 a0] rfl (by (try simp only [List.map_toArray, List.map_cons, List.map_nil]); first | done | rfl | (simp only [List.length_drop, List.length_take]; rfl)) ?_; (with_reducible refine (value_May.calls a0 t210 _ A5.out).mono ?_); rintro e w' ⟨rfl, ⟨nd, rfl⟩⟩; refine ⟨_, rfl, ?_⟩))
          go_ret
          exact ⟨by first | rfl | (simp [errW_none, errW_some] <;> rfl) | (simp [*, errW_none, errW_some] <;> rfl) | (simp [wrap64, errW_none, errW_some]; done) | (simp [wrap64, errW_none, errW_some]; exact eq_of_beq hr_.out), by repeat (first | (with_reducible first | exact HB.out | apply below_alloc | apply pw_below_drewN | apply below_drew1) | exact HB.out)⟩
        · rw [if_neg c9] at H
          have c9b0 : ((wrap64 ((wrap64 (2 * t206)) + 1)) == a0) = false := beq_eq_false_iff_ne.mpr c9
          have c9b1 : ((wrap64 ((wrap64 (2 * t206)) + 1)) != a0) = true := bne_iff_ne.mpr c9
          obtain rfl := Option.some.inj H
          exact absurd hr_.out (by decide)
  · replace c6 := Bool.eq_false_iff.mpr c6
    subst c6
    have H1 : (if (!t210 == t209) = true then (some false) else (if t209 = true then (if (wrap64 (2 * t208)) = a0 then (if t208 < 0 then (some false) else (if t206 = 0 then (some true) else (some false))) else (some false)) else (if t206 = 0 then (some (t208 == 0)) else (some false)))) = some r := by rw [if_neg (show ¬ (false = true) by decide)] at H; exact H
    clear H
    have H := H1
    clear H1
    by_cases c11 : (!t210 == t209) = true
    · rw [if_pos c11] at H
      have c11b0 : (!t210 == t209) = true := c11
      (try (have c11b1 : (t210 != t209) = true := by simpa using c11))
      (try (have c11b2 : decide (t210 = t209) = false := by simpa using c11))
      (try (have c11b3 : (t210 == t209) = false := by simpa using c11))
      (try (have c11b4 : ¬ (t210 = t209) := by simpa using c11))
      clear c11
      obtain rfl := Option.some.inj H
      exact absurd hr_.out (by decide)
    · rw [if_neg c11] at H
      have c11b0 : (!t210 == t209) = false := by simpa using c11
      (try (have c11b1 : (t210 != t209) = false := by simpa using c11))
      (try (have c11b2 : decide (t210 = t209) = true := by simpa using c11))
      (try (have c11b3 : (t210 == t209) = true := by simpa using c11))
      clear c11
      by_cases c12 : t209 = true
      · subst c12
        have H1 : (if (wrap64 (2 * t208)) = a0 then (if t208 < 0 then (some false) else (if t206 = 0 then (some true) else (some false))) else (some false)) = some r := by rw [if_pos rfl] at H; exact H
        clear H
        have H := H1
        clear H1
        by_cases c13 : (wrap64 (2 * t208)) = a0
        · rw [if_pos c13] at H
          have c13b0 : ((wrap64 (2 * t208)) == a0) = true := beq_iff_eq.mpr c13
          have c13b1 : ((wrap64 (2 * t208)) != a0) = false := bne_eq_false_iff_eq.mpr c13
          clear c13
          by_cases c14 : t208 < 0
          · rw [if_pos c14] at H
            have c14b0 : decide (t208 < 0) = true := decide_eq_true c14
            clear c14
            obtain rfl := Option.some.inj H
            exact absurd hr_.out (by decide)
          · rw [if_neg c14] at H
            have c14b0 : decide (t208 < 0) = false := decide_eq_false c14
            clear c14
            by_cases c15 : t206 = 0
            · rw [if_pos c15] at H
              have c15b0 : (t206 == 0) = true := beq_iff_eq.mpr c15
              have c15b1 : (t206 != 0) = false := bne_eq_false_iff_eq.mpr c15
              clear c15
              obtain rfl := Option.some.inj H
              go_enter Tryd.func7, Tryd.ntmps7
              go_wp2_with (first | ((with_reducible refine gate_callee (f := 20) rfl ?_); refine goesL_ (some 7) rfl rfl Tryd.func20 (by kernel_rfl) rfl #[] rfl (by (try simp only [List.map_toArray, List.map_cons, List.map_nil]); first | done | rfl | (simp only [List.length_drop, List.length_take]; rfl)) ?_; (with_reducible refine (anamnesislaw01_fixed.calls  t205 _ A2.out (tab_on htab_.out (by repeat (first | (with_reducible first | exact HB.out | apply below_alloc | apply pw_below_drewN | apply below_drew1) | exact HB.out)))).mono ?_); rintro e w16 ⟨rfl, hb⟩; refine ⟨_, rfl, ?_⟩; have n0_ := Aside0.mk (below_step (by repeat (first | (with_reducible first | exact HB.out | apply below_alloc | apply pw_below_drewN | apply below_drew1) | exact HB.out)) hb); clear HB; have HB := n0_; clear n0_; (try clear hb); (try clear hb2); (try clear hk); (try clear hi)) | ((with_reducible refine gate_callee (f := 16) rfl ?_); refine goesL_ (some 11) rfl rfl Tryd.func16 (by kernel_rfl) rfl #[.int .i64 a0] rfl (by (try simp only [List.map_toArray, List.map_cons, List.map_nil]); first | done | rfl | (simp only [List.length_drop, List.length_take]; rfl)) ?_; (with_reducible refine (value_N.calls a0 t206 false _ A3.out).mono ?_); rintro e w' ⟨rfl, ⟨nd, rfl⟩⟩; refine ⟨_, rfl, ?_⟩) | ((with_reducible refine gate_callee (f := 18) rfl ?_); refine goesL_ (some 16) rfl rfl Tryd.func18 (by kernel_rfl) rfl #[.int .i64 a0] rfl (by (try simp only [List.map_toArray, List.map_cons, List.map_nil]); first | done | rfl | (simp only [List.length_drop, List.length_take]; rfl)) ?_; (with_reducible refine (value_At.calls a0 t208 true _ A4.out).mono ?_); rintro e w' ⟨rfl, ⟨nd, rfl⟩⟩; refine ⟨_, rfl, ?_⟩) | ((with_reducible refine gate_callee (f := 12) rfl ?_); refine goesL_ (some 20) rfl rfl Tryd.func12 (by kernel_rfl) rfl #[.int .i64 a0] rfl (by (try simp only [List.map_toArray, List.map_cons, List.map_nil]); first | done | rfl | (simp only [List.length_drop, List.length_take]; rfl)) ?_; (with_reducible refine (value_May.calls a0 t210 _ A5.out).mono ?_); rintro e w' ⟨rfl, ⟨nd, rfl⟩⟩; refine ⟨_, rfl, ?_⟩))
              go_ret
              exact ⟨by first | rfl | (simp [errW_none, errW_some] <;> rfl) | (simp [*, errW_none, errW_some] <;> rfl) | (simp [wrap64, errW_none, errW_some]; done) | (simp [wrap64, errW_none, errW_some]; exact eq_of_beq hr_.out), by repeat (first | (with_reducible first | exact HB.out | apply below_alloc | apply pw_below_drewN | apply below_drew1) | exact HB.out)⟩
            · rw [if_neg c15] at H
              have c15b0 : (t206 == 0) = false := beq_eq_false_iff_ne.mpr c15
              have c15b1 : (t206 != 0) = true := bne_iff_ne.mpr c15
              obtain rfl := Option.some.inj H
              exact absurd hr_.out (by decide)
        · rw [if_neg c13] at H
          have c13b0 : ((wrap64 (2 * t208)) == a0) = false := beq_eq_false_iff_ne.mpr c13
          have c13b1 : ((wrap64 (2 * t208)) != a0) = true := bne_iff_ne.mpr c13
          obtain rfl := Option.some.inj H
          exact absurd hr_.out (by decide)
      · replace c12 := Bool.eq_false_iff.mpr c12
        subst c12
        have H1 : (if t206 = 0 then (some (t208 == 0)) else (some false)) = some r := by rw [if_neg (show ¬ (false = true) by decide)] at H; exact H
        clear H
        have H := H1
        clear H1
        by_cases c17 : t206 = 0
        · rw [if_pos c17] at H
          have c17b0 : (t206 == 0) = true := beq_iff_eq.mpr c17
          have c17b1 : (t206 != 0) = false := bne_eq_false_iff_eq.mpr c17
          clear c17
          obtain rfl := Option.some.inj H
          go_enter Tryd.func7, Tryd.ntmps7
          go_wp2_with (first | ((with_reducible refine gate_callee (f := 20) rfl ?_); refine goesL_ (some 7) rfl rfl Tryd.func20 (by kernel_rfl) rfl #[] rfl (by (try simp only [List.map_toArray, List.map_cons, List.map_nil]); first | done | rfl | (simp only [List.length_drop, List.length_take]; rfl)) ?_; (with_reducible refine (anamnesislaw01_fixed.calls  t205 _ A2.out (tab_on htab_.out (by repeat (first | (with_reducible first | exact HB.out | apply below_alloc | apply pw_below_drewN | apply below_drew1) | exact HB.out)))).mono ?_); rintro e w18 ⟨rfl, hb⟩; refine ⟨_, rfl, ?_⟩; have n0_ := Aside0.mk (below_step (by repeat (first | (with_reducible first | exact HB.out | apply below_alloc | apply pw_below_drewN | apply below_drew1) | exact HB.out)) hb); clear HB; have HB := n0_; clear n0_; (try clear hb); (try clear hb2); (try clear hk); (try clear hi)) | ((with_reducible refine gate_callee (f := 16) rfl ?_); refine goesL_ (some 11) rfl rfl Tryd.func16 (by kernel_rfl) rfl #[.int .i64 a0] rfl (by (try simp only [List.map_toArray, List.map_cons, List.map_nil]); first | done | rfl | (simp only [List.length_drop, List.length_take]; rfl)) ?_; (with_reducible refine (value_N.calls a0 t206 false _ A3.out).mono ?_); rintro e w' ⟨rfl, ⟨nd, rfl⟩⟩; refine ⟨_, rfl, ?_⟩) | ((with_reducible refine gate_callee (f := 18) rfl ?_); refine goesL_ (some 16) rfl rfl Tryd.func18 (by kernel_rfl) rfl #[.int .i64 a0] rfl (by (try simp only [List.map_toArray, List.map_cons, List.map_nil]); first | done | rfl | (simp only [List.length_drop, List.length_take]; rfl)) ?_; (with_reducible refine (value_At.calls a0 t208 false _ A4.out).mono ?_); rintro e w' ⟨rfl, ⟨nd, rfl⟩⟩; refine ⟨_, rfl, ?_⟩) | ((with_reducible refine gate_callee (f := 12) rfl ?_); refine goesL_ (some 20) rfl rfl Tryd.func12 (by kernel_rfl) rfl #[.int .i64 a0] rfl (by (try simp only [List.map_toArray, List.map_cons, List.map_nil]); first | done | rfl | (simp only [List.length_drop, List.length_take]; rfl)) ?_; (with_reducible refine (value_May.calls a0 t210 _ A5.out).mono ?_); rintro e w' ⟨rfl, ⟨nd, rfl⟩⟩; refine ⟨_, rfl, ?_⟩))
          go_ret
          exact ⟨by first | rfl | (simp [errW_none, errW_some] <;> rfl) | (simp [*, errW_none, errW_some] <;> rfl) | (simp [wrap64, errW_none, errW_some]; done) | (simp [wrap64, errW_none, errW_some]; exact eq_of_beq hr_.out), by repeat (first | (with_reducible first | exact HB.out | apply below_alloc | apply pw_below_drewN | apply below_drew1) | exact HB.out)⟩
        · rw [if_neg c17] at H
          have c17b0 : (t206 == 0) = false := beq_eq_false_iff_ne.mpr c17
          have c17b1 : (t206 != 0) = true := bne_iff_ne.mpr c17
          obtain rfl := Option.some.inj H
          exact absurd hr_.out (by decide)

/-- THE ONE PURE STATEMENT of anamnesislaw01_ValueEven: yours. -/
def anamnesislaw01_ValueEven.Pure : Prop := ∀ (a0 : Int), (Lit.int .i64 a0).wf = true → anamnesislaw01_ValueEven.f a0 = some true
theorem anamnesislaw01_ValueEven.walk (P : anamnesislaw01_ValueEven.Pure) (a0 : Int) (w : World) (w0 : (Lit.int .i64 a0).wf = true) (htab : pow10Is w) :
    Calls Tryd.prog 7 #[.int .i64 a0] w fun e w' => e = .returned (.bool true) ∧ Below w.heap.size w w' := by
  have h := P a0 w0
  refine (anamnesislaw01_ValueEven.calls a0 true w h rfl htab).mono ?_
  rintro e w' ⟨rfl, hd⟩
  exact ⟨rfl, hd⟩

end Go.Proofs.YtafbiccgbgcooaaDoor.PVal
