-- laid by a program of this session (gprint.py)
import Derived.Test.YtafbiccgbgcooaaDoorPValx0
import Derived.Test.YtafbiccgbgcooaaDoorPValx1
import Derived.Test.YtafbiccgbgcooaaDoorPValx2
namespace Go.Proofs.YtafbiccgbgcooaaDoor.PVal
open Go.RowKit Go.Proofs.YtafbiccgbgcooaaDoorW.PrintWords Go.Proofs.YtafbiccgbgcooaaDoorW.PrintLast Go.Proofs.YtafbiccgbgcooaaDoorW.PrintMore
attribute [local go_sem] max2_int min2_int max_two min_two max_three min_three max_four min_four   -- for this text's walks alone
set_option linter.unusedVariables false
set_option linter.unusedSimpArgs false

/-! ### anamnesislaw01_ValueBack: function 4 -/
mutual
def anamnesislaw01_ValueBack.j0 : Nat → Int → Int → Int → Bool → Int → Bool → Bool → Option (Bool)
  | 0, _, _, _, _, _, _, _ => none
  | k + 1, x0, x1, x5, x6, x7, x8, x46 => if x46 = true then (some false) else (if x6 = true then ((value_N.f x5).bind fun bt178 => ((value_At.f x5).bind fun bt180 => (if bt178.2 = true then (if bt178.1 = x0 then (if bt180.2 = true then (some false) else ((value_May.f x5).bind fun t182 => (if t182 = true then (anamnesislaw01_ValueBack.j1 k x1 x5 x6 x7 x8) else (some false)))) else (some false)) else (some false)))) else (anamnesislaw01_ValueBack.j1 k x1 x5 x6 x7 x8))
def anamnesislaw01_ValueBack.j1 : Nat → Int → Int → Bool → Int → Bool → Option (Bool)
  | 0, _, _, _, _, _ => none
  | k + 1, x1, x5, x6, x7, x8 => if x8 = true then ((value_At.f x7).bind fun bt183 => ((value_N.f x7).bind fun bt185 => (if bt183.2 = true then (if bt183.1 = x1 then (if bt185.2 = true then (some false) else ((value_May.f x7).bind fun t187 => (if t187 = true then (if x6 = true then (some (x5 != x7)) else (some true)) else (some false)))) else (some false)) else (some false)))) else (if x6 = true then (some true) else (some true))
end
def anamnesislaw01_ValueBack.f (k : Nat) (a0 : Int) (a1 : Int) : Option (Bool) := (anamnesislaw01_fixed.f).bind fun t173 => ((value_Int.f a0).bind fun bt174 => ((value_Ref.f a1).bind fun bt176 => (if a0 ≥ (-1073741824) then (if (!bt174.2 == (decide (a0 < 1073741824))) = true then (anamnesislaw01_ValueBack.j0 k a0 a1 bt174.1 bt174.2 bt176.1 bt176.2 true) else (if a1 ≥ 0 then (anamnesislaw01_ValueBack.j0 k a0 a1 bt174.1 bt174.2 bt176.1 bt176.2 (!bt176.2 == (decide (a1 < 1048576)))) else (anamnesislaw01_ValueBack.j0 k a0 a1 bt174.1 bt174.2 bt176.1 bt176.2 (!bt176.2 == false)))) else (if (!bt174.2 == false) = true then (anamnesislaw01_ValueBack.j0 k a0 a1 bt174.1 bt174.2 bt176.1 bt176.2 true) else (if a1 ≥ 0 then (anamnesislaw01_ValueBack.j0 k a0 a1 bt174.1 bt174.2 bt176.1 bt176.2 (!bt176.2 == (decide (a1 < 1048576)))) else (anamnesislaw01_ValueBack.j0 k a0 a1 bt174.1 bt174.2 bt176.1 bt176.2 (!bt176.2 == false)))))))
theorem anamnesislaw01_ValueBack.mono_l : ∀ k, (∀ y0 y1 y2 y3 y4 y5 y6, LeO (anamnesislaw01_ValueBack.j0 k y0 y1 y2 y3 y4 y5 y6) (anamnesislaw01_ValueBack.j0 (k + 1) y0 y1 y2 y3 y4 y5 y6)) ∧ (∀ y0 y1 y2 y3 y4, LeO (anamnesislaw01_ValueBack.j1 k y0 y1 y2 y3 y4) (anamnesislaw01_ValueBack.j1 (k + 1) y0 y1 y2 y3 y4))
  | 0 => ⟨fun _ _ _ _ _ _ _ r h => by simp [anamnesislaw01_ValueBack.j0] at h, fun _ _ _ _ _ r h => by simp [anamnesislaw01_ValueBack.j1] at h⟩
  | k + 1 => by
    obtain ⟨ih0, ih1⟩ := anamnesislaw01_ValueBack.mono_l k
    refine ⟨?_, ?_⟩
    · intro y0 y1 y2 y3 y4 y5 y6
      unfold anamnesislaw01_ValueBack.j0
      repeat' first
      | (with_reducible exact ih0 _ _ _ _ _ _ _)
      | (with_reducible exact ih1 _ _ _ _ _)
      | (with_reducible exact LeO.refl _)
      | (with_reducible exact LeO.none _)
      | (with_reducible refine LeO.ite ?_ ?_)
      | (with_reducible refine LeO.bind ?_ (fun _ => ?_))
      | exact ih0 _ _ _ _ _ _ _
      | exact ih1 _ _ _ _ _
      | exact LeO.none _
      | refine LeO.ite ?_ ?_
      | refine LeO.bind ?_ (fun _ => ?_)
    · intro y0 y1 y2 y3 y4
      unfold anamnesislaw01_ValueBack.j1
      repeat' first
      | (with_reducible exact ih0 _ _ _ _ _ _ _)
      | (with_reducible exact ih1 _ _ _ _ _)
      | (with_reducible exact LeO.refl _)
      | (with_reducible exact LeO.none _)
      | (with_reducible refine LeO.ite ?_ ?_)
      | (with_reducible refine LeO.bind ?_ (fun _ => ?_))
      | exact ih0 _ _ _ _ _ _ _
      | exact ih1 _ _ _ _ _
      | exact LeO.none _
      | refine LeO.ite ?_ ?_
      | refine LeO.bind ?_ (fun _ => ?_)
theorem anamnesislaw01_ValueBack.mono : ∀ a0 a1 k, LeO (anamnesislaw01_ValueBack.f k a0 a1) (anamnesislaw01_ValueBack.f (k + 1) a0 a1) := by
  intro a0 a1 k
  obtain ⟨ih0, ih1⟩ := anamnesislaw01_ValueBack.mono_l k
  unfold anamnesislaw01_ValueBack.f
  repeat' first
      | (with_reducible exact ih0 _ _ _ _ _ _ _)
      | (with_reducible exact ih1 _ _ _ _ _)
      | (with_reducible exact LeO.refl _)
      | (with_reducible exact LeO.none _)
      | (with_reducible refine LeO.ite ?_ ?_)
      | (with_reducible refine LeO.bind ?_ (fun _ => ?_))
      | exact ih0 _ _ _ _ _ _ _
      | exact ih1 _ _ _ _ _
      | exact LeO.none _
      | refine LeO.ite ?_ ?_
      | refine LeO.bind ?_ (fun _ => ?_)
set_option maxHeartbeats 8000000 in
set_option maxRecDepth 100000 in
theorem anamnesislaw01_ValueBack.calls (k : Nat) (a0 : Int) (a1 : Int) (r : Bool) (w : World) (h : anamnesislaw01_ValueBack.f k a0 a1 = some r) (hr : r = true) (htab : pow10Is w) :
    Calls Tryd.prog 4 #[.int .i64 a0, .int .i64 a1] w fun e w' => e = .returned (.bool r) ∧ Below w.heap.size w w' := by
  have hr_ := Aside0.mk hr
  clear hr
  have htab_ := Aside0.mk htab
  clear htab
  have HB := Aside0.mk (Below.refl w.heap.size w)
  have H : ((anamnesislaw01_fixed.f).bind fun t173 => ((value_Int.f a0).bind fun bt174 => ((value_Ref.f a1).bind fun bt176 => (if a0 ≥ (-1073741824) then (if (!bt174.2 == (decide (a0 < 1073741824))) = true then (anamnesislaw01_ValueBack.j0 k a0 a1 bt174.1 bt174.2 bt176.1 bt176.2 true) else (if a1 ≥ 0 then (anamnesislaw01_ValueBack.j0 k a0 a1 bt174.1 bt174.2 bt176.1 bt176.2 (!bt176.2 == (decide (a1 < 1048576)))) else (anamnesislaw01_ValueBack.j0 k a0 a1 bt174.1 bt174.2 bt176.1 bt176.2 (!bt176.2 == false)))) else (if (!bt174.2 == false) = true then (anamnesislaw01_ValueBack.j0 k a0 a1 bt174.1 bt174.2 bt176.1 bt176.2 true) else (if a1 ≥ 0 then (anamnesislaw01_ValueBack.j0 k a0 a1 bt174.1 bt174.2 bt176.1 bt176.2 (!bt176.2 == (decide (a1 < 1048576)))) else (anamnesislaw01_ValueBack.j0 k a0 a1 bt174.1 bt174.2 bt176.1 bt176.2 (!bt176.2 == false)))))))) = some r := h
  clear h
  replace H := Option.bind_eq_some_iff.mp H
  obtain ⟨t173, A30, H⟩ := H
  replace H : ((value_Int.f a0).bind fun bt174 => ((value_Ref.f a1).bind fun bt176 => (if a0 ≥ (-1073741824) then (if (!bt174.2 == (decide (a0 < 1073741824))) = true then (anamnesislaw01_ValueBack.j0 k a0 a1 bt174.1 bt174.2 bt176.1 bt176.2 true) else (if a1 ≥ 0 then (anamnesislaw01_ValueBack.j0 k a0 a1 bt174.1 bt174.2 bt176.1 bt176.2 (!bt176.2 == (decide (a1 < 1048576)))) else (anamnesislaw01_ValueBack.j0 k a0 a1 bt174.1 bt174.2 bt176.1 bt176.2 (!bt176.2 == false)))) else (if (!bt174.2 == false) = true then (anamnesislaw01_ValueBack.j0 k a0 a1 bt174.1 bt174.2 bt176.1 bt176.2 true) else (if a1 ≥ 0 then (anamnesislaw01_ValueBack.j0 k a0 a1 bt174.1 bt174.2 bt176.1 bt176.2 (!bt176.2 == (decide (a1 < 1048576)))) else (anamnesislaw01_ValueBack.j0 k a0 a1 bt174.1 bt174.2 bt176.1 bt176.2 (!bt176.2 == false))))))) = some r := H
  have A3 := Aside0.mk A30
  clear A30
  replace H := Option.bind_eq_some_iff.mp H
  obtain ⟨⟨t174, t175⟩, A40, H⟩ := H
  replace H : ((value_Ref.f a1).bind fun bt176 => (if a0 ≥ (-1073741824) then (if (!t175 == (decide (a0 < 1073741824))) = true then (anamnesislaw01_ValueBack.j0 k a0 a1 t174 t175 bt176.1 bt176.2 true) else (if a1 ≥ 0 then (anamnesislaw01_ValueBack.j0 k a0 a1 t174 t175 bt176.1 bt176.2 (!bt176.2 == (decide (a1 < 1048576)))) else (anamnesislaw01_ValueBack.j0 k a0 a1 t174 t175 bt176.1 bt176.2 (!bt176.2 == false)))) else (if (!t175 == false) = true then (anamnesislaw01_ValueBack.j0 k a0 a1 t174 t175 bt176.1 bt176.2 true) else (if a1 ≥ 0 then (anamnesislaw01_ValueBack.j0 k a0 a1 t174 t175 bt176.1 bt176.2 (!bt176.2 == (decide (a1 < 1048576)))) else (anamnesislaw01_ValueBack.j0 k a0 a1 t174 t175 bt176.1 bt176.2 (!bt176.2 == false)))))) = some r := H
  have A4 := Aside0.mk A40
  clear A40
  replace H := Option.bind_eq_some_iff.mp H
  obtain ⟨⟨t176, t177⟩, A50, H⟩ := H
  replace H : (if a0 ≥ (-1073741824) then (if (!t175 == (decide (a0 < 1073741824))) = true then (anamnesislaw01_ValueBack.j0 k a0 a1 t174 t175 t176 t177 true) else (if a1 ≥ 0 then (anamnesislaw01_ValueBack.j0 k a0 a1 t174 t175 t176 t177 (!t177 == (decide (a1 < 1048576)))) else (anamnesislaw01_ValueBack.j0 k a0 a1 t174 t175 t176 t177 (!t177 == false)))) else (if (!t175 == false) = true then (anamnesislaw01_ValueBack.j0 k a0 a1 t174 t175 t176 t177 true) else (if a1 ≥ 0 then (anamnesislaw01_ValueBack.j0 k a0 a1 t174 t175 t176 t177 (!t177 == (decide (a1 < 1048576)))) else (anamnesislaw01_ValueBack.j0 k a0 a1 t174 t175 t176 t177 (!t177 == false))))) = some r := H
  have A5 := Aside0.mk A50
  clear A50
  have HC6 := Aside0.mk H
  clear H
  go_enter Tryd.func4, Tryd.ntmps4
  go_upto_region 5 with (first | ((with_reducible refine gate_callee (f := 20) rfl ?_); refine goesL_ (some 17) rfl rfl Tryd.func20 (by kernel_rfl) rfl #[] rfl (by (try simp only [List.map_toArray, List.map_cons, List.map_nil]); first | done | rfl | (simp only [List.length_drop, List.length_take]; rfl)) ?_; (with_reducible refine (anamnesislaw01_fixed.calls  t173 _ A3.out (tab_on htab_.out (by repeat (first | (with_reducible first | exact HB.out | apply below_alloc | apply pw_below_drewN | apply below_drew1) | exact HB.out)))).mono ?_); rintro e w7 ⟨rfl, hb⟩; refine ⟨_, rfl, ?_⟩; have n0_ := Aside0.mk (below_step (by repeat (first | (with_reducible first | exact HB.out | apply below_alloc | apply pw_below_drewN | apply below_drew1) | exact HB.out)) hb); clear HB; have HB := n0_; clear n0_; (try clear hb); (try clear hb2); (try clear hk); (try clear hi)) | ((with_reducible refine gate_callee (f := 8) rfl ?_); refine goesL_ (some 21) rfl rfl Tryd.func8 (by kernel_rfl) rfl #[.int .i64 a0] rfl (by (try simp only [List.map_toArray, List.map_cons, List.map_nil]); first | done | rfl | (simp only [List.length_drop, List.length_take]; rfl)) ?_; (with_reducible refine (value_Int.calls a0 t174 t175 _ A4.out).mono ?_); rintro e w' ⟨rfl, ⟨nd, rfl⟩⟩; refine ⟨_, rfl, ?_⟩) | ((with_reducible refine gate_callee (f := 10) rfl ?_); refine goesL_ (some 26) rfl rfl Tryd.func10 (by kernel_rfl) rfl #[.int .i64 a1] rfl (by (try simp only [List.map_toArray, List.map_cons, List.map_nil]); first | done | rfl | (simp only [List.length_drop, List.length_take]; rfl)) ?_; (with_reducible refine (value_Ref.calls a1 t176 t177 _ A5.out).mono ?_); rintro e w' ⟨rfl, ⟨nd, rfl⟩⟩; refine ⟨_, rfl, ?_⟩))
  (try simp only [Act.put, List.setIfInBounds_toArray, List.set_cons_zero, List.set_cons_succ])
  go_cut [46] (fun v46 wc => ∃ (kq : Nat) (x46_5 : Bool), v46 = .bool x46_5 ∧ Aside0 (anamnesislaw01_ValueBack.j0 kq a0 a1 t174 t175 t176 t177 x46_5 = some r) ∧ Aside0 (kq ≤ k) ∧ Aside0 (Below w.heap.size w wc))
  case first =>
    have H := HC6.out
    clear HC6
    by_cases c8 : a0 ≥ (-1073741824)
    · rw [if_pos c8] at H
      have c8b0 : decide ((-1073741824) ≤ a0) = true := decide_eq_true c8
      clear c8
      (first | rw [c8b0] | (simp only [i64_w, i32_w]; rw [c8b0]) | skip)
      by_cases c9 : (!t175 == (decide (a0 < 1073741824))) = true
      · rw [if_pos c9] at H
        have c9b0 : (!t175 == (decide (a0 < 1073741824))) = true := c9
        (try (have c9b1 : (t175 != (decide (a0 < 1073741824))) = true := by simpa using c9))
        (try (have c9b2 : decide (t175 = (decide (a0 < 1073741824))) = false := by simpa using c9))
        (try (have c9b3 : (t175 == (decide (a0 < 1073741824))) = false := by simpa using c9))
        (try (have c9b4 : ¬ (t175 = (decide (a0 < 1073741824))) := by simpa using c9))
        clear c9
        have H' := Aside0.mk H
        clear H
        go_wp2
        go_meet
        case rel => exact ⟨_, (true), (by first | rfl | (simp; done) | (simp [*]; done)), H', ⟨by first | omega | exact Nat.le_refl _⟩, ⟨by repeat (first | (with_reducible first | exact HB.out | apply below_alloc | apply pw_below_drewN | apply below_drew1) | exact HB.out)⟩⟩
      · rw [if_neg c9] at H
        have c9b0 : (!t175 == (decide (a0 < 1073741824))) = false := by simpa using c9
        (try (have c9b1 : (t175 != (decide (a0 < 1073741824))) = false := by simpa using c9))
        (try (have c9b2 : decide (t175 = (decide (a0 < 1073741824))) = true := by simpa using c9))
        (try (have c9b3 : (t175 == (decide (a0 < 1073741824))) = true := by simpa using c9))
        clear c9
        by_cases c10 : a1 ≥ 0
        · rw [if_pos c10] at H
          have c10b0 : decide (0 ≤ a1) = true := decide_eq_true c10
          clear c10
          have H' := Aside0.mk H
          clear H
          go_wp2
          go_meet
          case rel => exact ⟨_, ((!t177 == (decide (a1 < 1048576)))), (by first | rfl | (simp; done) | (simp [*]; done)), H', ⟨by first | omega | exact Nat.le_refl _⟩, ⟨by repeat (first | (with_reducible first | exact HB.out | apply below_alloc | apply pw_below_drewN | apply below_drew1) | exact HB.out)⟩⟩
        · rw [if_neg c10] at H
          have c10b0 : decide (0 ≤ a1) = false := decide_eq_false c10
          clear c10
          have H' := Aside0.mk H
          clear H
          go_wp2
          go_meet
          case rel => exact ⟨_, ((!t177 == false)), (by first | rfl | (simp; done) | (simp [*]; done)), H', ⟨by first | omega | exact Nat.le_refl _⟩, ⟨by repeat (first | (with_reducible first | exact HB.out | apply below_alloc | apply pw_below_drewN | apply below_drew1) | exact HB.out)⟩⟩
    · rw [if_neg c8] at H
      have c8b0 : decide ((-1073741824) ≤ a0) = false := decide_eq_false c8
      clear c8
      (first | rw [c8b0] | (simp only [i64_w, i32_w]; rw [c8b0]) | skip)
      by_cases c11 : (!t175 == false) = true
      · rw [if_pos c11] at H
        have c11b0 : (!t175 == false) = true := c11
        (try (have c11b1 : (t175 != false) = true := by simpa using c11))
        (try (have c11b2 : decide (t175 = false) = false := by simpa using c11))
        (try (have c11b3 : (t175 == false) = false := by simpa using c11))
        (try (have c11b4 : ¬ (t175 = false) := by simpa using c11))
        clear c11
        have H' := Aside0.mk H
        clear H
        go_wp2
        go_meet
        case rel => exact ⟨_, (true), (by first | rfl | (simp; done) | (simp [*]; done)), H', ⟨by first | omega | exact Nat.le_refl _⟩, ⟨by repeat (first | (with_reducible first | exact HB.out | apply below_alloc | apply pw_below_drewN | apply below_drew1) | exact HB.out)⟩⟩
      · rw [if_neg c11] at H
        have c11b0 : (!t175 == false) = false := by simpa using c11
        (try (have c11b1 : (t175 != false) = false := by simpa using c11))
        (try (have c11b2 : decide (t175 = false) = true := by simpa using c11))
        (try (have c11b3 : (t175 == false) = true := by simpa using c11))
        clear c11
        by_cases c12 : a1 ≥ 0
        · rw [if_pos c12] at H
          have c12b0 : decide (0 ≤ a1) = true := decide_eq_true c12
          clear c12
          have H' := Aside0.mk H
          clear H
          go_wp2
          go_meet
          case rel => exact ⟨_, ((!t177 == (decide (a1 < 1048576)))), (by first | rfl | (simp; done) | (simp [*]; done)), H', ⟨by first | omega | exact Nat.le_refl _⟩, ⟨by repeat (first | (with_reducible first | exact HB.out | apply below_alloc | apply pw_below_drewN | apply below_drew1) | exact HB.out)⟩⟩
        · rw [if_neg c12] at H
          have c12b0 : decide (0 ≤ a1) = false := decide_eq_false c12
          clear c12
          have H' := Aside0.mk H
          clear H
          go_wp2
          go_meet
          case rel => exact ⟨_, ((!t177 == false)), (by first | rfl | (simp; done) | (simp [*]; done)), H', ⟨by first | omega | exact Nat.le_refl _⟩, ⟨by repeat (first | (with_reducible first | exact HB.out | apply below_alloc | apply pw_below_drewN | apply below_drew1) | exact HB.out)⟩⟩
  case rest =>
    clear HC6
    try clear c1
    try clear c2
    try clear p2
    try clear c4
    try clear c8
    try clear c8b0
    try clear c9
    try clear c9b0
    try clear c9b1
    try clear c9b2
    try clear c10
    try clear c10b0
    try clear c11
    try clear c11b0
    try clear c11b1
    try clear c11b2
    try clear c12
    try clear c12b0
    obtain ⟨kq, x46_5, rfl, HA, HJ5, HB⟩ := hcut
    cases kq with
    | zero => exact absurd HA.out (by simp [anamnesislaw01_ValueBack.j0])
    | succ kj5 =>
      have H := HA.out
      clear HA
      simp only [anamnesislaw01_ValueBack.j0] at H
      by_cases c13 : x46_5 = true
      · subst c13
        have H1 : (some false) = some r := by rw [if_pos rfl] at H; exact H
        clear H
        have H := H1
        clear H1
        obtain rfl := Option.some.inj H
        exact absurd hr_.out (by decide)
      · replace c13 := Bool.eq_false_iff.mpr c13
        subst c13
        have H1 : (if t175 = true then ((value_N.f t174).bind fun bt178 => ((value_At.f t174).bind fun bt180 => (if bt178.2 = true then (if bt178.1 = a0 then (if bt180.2 = true then (some false) else ((value_May.f t174).bind fun t182 => (if t182 = true then (anamnesislaw01_ValueBack.j1 kj5 a1 t174 t175 t176 t177) else (some false)))) else (some false)) else (some false)))) else (anamnesislaw01_ValueBack.j1 kj5 a1 t174 t175 t176 t177)) = some r := by rw [if_neg (show ¬ (false = true) by decide)] at H; exact H
        clear H
        have H := H1
        clear H1
        have HC14 := Aside0.mk H
        clear H
        go_upto_if 47 with (fail)
        go_cut [] (fun wc => ∃ (kq : Nat), Aside0 (anamnesislaw01_ValueBack.j1 kq a1 t174 t175 t176 t177 = some r) ∧ Aside0 (kq ≤ kj5) ∧ Aside0 (Below w.heap.size w wc))
        case first =>
          have H := HC14.out
          clear HC14
          by_cases c15 : t175 = true
          · subst c15
            have H1 : ((value_N.f t174).bind fun bt178 => ((value_At.f t174).bind fun bt180 => (if bt178.2 = true then (if bt178.1 = a0 then (if bt180.2 = true then (some false) else ((value_May.f t174).bind fun t182 => (if t182 = true then (anamnesislaw01_ValueBack.j1 kj5 a1 t174 true t176 t177) else (some false)))) else (some false)) else (some false)))) = some r := by rw [if_pos rfl] at H; exact H
            clear H
            have H := H1
            clear H1
            replace H := Option.bind_eq_some_iff.mp H
            obtain ⟨⟨t178, t179⟩, A160, H⟩ := H
            replace H : ((value_At.f t174).bind fun bt180 => (if t179 = true then (if t178 = a0 then (if bt180.2 = true then (some false) else ((value_May.f t174).bind fun t182 => (if t182 = true then (anamnesislaw01_ValueBack.j1 kj5 a1 t174 true t176 t177) else (some false)))) else (some false)) else (some false))) = some r := H
            have A16 := Aside0.mk A160
            clear A160
            replace H := Option.bind_eq_some_iff.mp H
            obtain ⟨⟨t180, t181⟩, A170, H⟩ := H
            replace H : (if t179 = true then (if t178 = a0 then (if t181 = true then (some false) else ((value_May.f t174).bind fun t182 => (if t182 = true then (anamnesislaw01_ValueBack.j1 kj5 a1 t174 true t176 t177) else (some false)))) else (some false)) else (some false)) = some r := H
            have A17 := Aside0.mk A170
            clear A170
            by_cases c18 : t179 = true
            · subst c18
              have H1 : (if t178 = a0 then (if t181 = true then (some false) else ((value_May.f t174).bind fun t182 => (if t182 = true then (anamnesislaw01_ValueBack.j1 kj5 a1 t174 true t176 t177) else (some false)))) else (some false)) = some r := by rw [if_pos rfl] at H; exact H
              clear H
              have H := H1
              clear H1
              by_cases c19 : t178 = a0
              · rw [if_pos c19] at H
                have c19b0 : (t178 == a0) = true := beq_iff_eq.mpr c19
                have c19b1 : (t178 != a0) = false := bne_eq_false_iff_eq.mpr c19
                clear c19
                (first | rw [c19b0] | (simp only [i64_w, i32_w]; rw [c19b0]) | skip)
                by_cases c20 : t181 = true
                · subst c20
                  have H1 : (some false) = some r := by rw [if_pos rfl] at H; exact H
                  clear H
                  have H := H1
                  clear H1
                  obtain rfl := Option.some.inj H
                  exact absurd hr_.out (by decide)
                · replace c20 := Bool.eq_false_iff.mpr c20
                  subst c20
                  have H1 : ((value_May.f t174).bind fun t182 => (if t182 = true then (anamnesislaw01_ValueBack.j1 kj5 a1 t174 true t176 t177) else (some false))) = some r := by rw [if_neg (show ¬ (false = true) by decide)] at H; exact H
                  clear H
                  have H := H1
                  clear H1
                  replace H := Option.bind_eq_some_iff.mp H
                  obtain ⟨t182, A210, H⟩ := H
                  replace H : (if t182 = true then (anamnesislaw01_ValueBack.j1 kj5 a1 t174 true t176 t177) else (some false)) = some r := H
                  have A21 := Aside0.mk A210
                  clear A210
                  by_cases c22 : t182 = true
                  · subst c22
                    have H1 : (anamnesislaw01_ValueBack.j1 kj5 a1 t174 true t176 t177) = some r := by rw [if_pos rfl] at H; exact H
                    clear H
                    have H := H1
                    clear H1
                    have H' := Aside0.mk H
                    clear H
                    go_wp2_with (first | ((with_reducible refine gate_callee (f := 16) rfl ?_); refine goesL_ (some 50) rfl rfl Tryd.func16 (by kernel_rfl) rfl #[.int .i64 t174] rfl (by (try simp only [List.map_toArray, List.map_cons, List.map_nil]); first | done | rfl | (simp only [List.length_drop, List.length_take]; rfl)) ?_; (with_reducible refine (value_N.calls t174 t178 true _ A16.out).mono ?_); rintro e w' ⟨rfl, ⟨nd, rfl⟩⟩; refine ⟨_, rfl, ?_⟩) | ((with_reducible refine gate_callee (f := 18) rfl ?_); refine goesL_ (some 55) rfl rfl Tryd.func18 (by kernel_rfl) rfl #[.int .i64 t174] rfl (by (try simp only [List.map_toArray, List.map_cons, List.map_nil]); first | done | rfl | (simp only [List.length_drop, List.length_take]; rfl)) ?_; (with_reducible refine (value_At.calls t174 t180 false _ A17.out).mono ?_); rintro e w' ⟨rfl, ⟨nd, rfl⟩⟩; refine ⟨_, rfl, ?_⟩) | (go_at_call 12; (with_reducible refine (value_May.calls t174 true _ A21.out).mono ?_); rintro e w' ⟨rfl, ⟨nd, rfl⟩⟩))
                    go_meet
                    case rel => exact ⟨_, H', ⟨by have := HJ5.out; first | omega | exact Nat.le_refl _⟩, ⟨by repeat (first | (with_reducible first | exact HB.out | apply below_alloc | apply pw_below_drewN | apply below_drew1) | exact HB.out)⟩⟩
                  · replace c22 := Bool.eq_false_iff.mpr c22
                    subst c22
                    have H1 : (some false) = some r := by rw [if_neg (show ¬ (false = true) by decide)] at H; exact H
                    clear H
                    have H := H1
                    clear H1
                    obtain rfl := Option.some.inj H
                    exact absurd hr_.out (by decide)
              · rw [if_neg c19] at H
                have c19b0 : (t178 == a0) = false := beq_eq_false_iff_ne.mpr c19
                have c19b1 : (t178 != a0) = true := bne_iff_ne.mpr c19
                (first | rw [c19b0] | (simp only [i64_w, i32_w]; rw [c19b0]) | skip)
                obtain rfl := Option.some.inj H
                exact absurd hr_.out (by decide)
            · replace c18 := Bool.eq_false_iff.mpr c18
              subst c18
              have H1 : (some false) = some r := by rw [if_neg (show ¬ (false = true) by decide)] at H; exact H
              clear H
              have H := H1
              clear H1
              obtain rfl := Option.some.inj H
              exact absurd hr_.out (by decide)
          · replace c15 := Bool.eq_false_iff.mpr c15
            subst c15
            have H1 : (anamnesislaw01_ValueBack.j1 kj5 a1 t174 false t176 t177) = some r := by rw [if_neg (show ¬ (false = true) by decide)] at H; exact H
            clear H
            have H := H1
            clear H1
            have H' := Aside0.mk H
            clear H
            go_wp2
            go_meet
            case rel => exact ⟨_, H', ⟨by have := HJ5.out; first | omega | exact Nat.le_refl _⟩, ⟨by repeat (first | (with_reducible first | exact HB.out | apply below_alloc | apply pw_below_drewN | apply below_drew1) | exact HB.out)⟩⟩
        case rest =>
          clear HC14
          try clear c1
          try clear c2
          try clear p2
          try clear c4
          try clear c8
          try clear c8b0
          try clear c9
          try clear c9b0
          try clear c9b1
          try clear c9b2
          try clear c10
          try clear c10b0
          try clear c11
          try clear c11b0
          try clear c11b1
          try clear c11b2
          try clear c12
          try clear c12b0
          try clear c13
          try clear c15
          try clear c16
          try clear c18
          try clear c19
          try clear c19b0
          try clear c19b1
          try clear c20
          try clear c22
          try clear p2
          obtain ⟨kq, HA, HJ13, HB⟩ := hcut
          cases kq with
          | zero => exact absurd HA.out (by simp [anamnesislaw01_ValueBack.j1])
          | succ kj13 =>
            have H := HA.out
            clear HA
            simp only [anamnesislaw01_ValueBack.j1] at H
            by_cases c23 : t177 = true
            · subst c23
              have H1 : ((value_At.f t176).bind fun bt183 => ((value_N.f t176).bind fun bt185 => (if bt183.2 = true then (if bt183.1 = a1 then (if bt185.2 = true then (some false) else ((value_May.f t176).bind fun t187 => (if t187 = true then (if t175 = true then (some (t174 != t176)) else (some true)) else (some false)))) else (some false)) else (some false)))) = some r := by rw [if_pos rfl] at H; exact H
              clear H
              have H := H1
              clear H1
              replace H := Option.bind_eq_some_iff.mp H
              obtain ⟨⟨t183, t184⟩, A240, H⟩ := H
              replace H : ((value_N.f t176).bind fun bt185 => (if t184 = true then (if t183 = a1 then (if bt185.2 = true then (some false) else ((value_May.f t176).bind fun t187 => (if t187 = true then (if t175 = true then (some (t174 != t176)) else (some true)) else (some false)))) else (some false)) else (some false))) = some r := H
              have A24 := Aside0.mk A240
              clear A240
              replace H := Option.bind_eq_some_iff.mp H
              obtain ⟨⟨t185, t186⟩, A250, H⟩ := H
              replace H : (if t184 = true then (if t183 = a1 then (if t186 = true then (some false) else ((value_May.f t176).bind fun t187 => (if t187 = true then (if t175 = true then (some (t174 != t176)) else (some true)) else (some false)))) else (some false)) else (some false)) = some r := H
              have A25 := Aside0.mk A250
              clear A250
              by_cases c26 : t184 = true
              · subst c26
                have H1 : (if t183 = a1 then (if t186 = true then (some false) else ((value_May.f t176).bind fun t187 => (if t187 = true then (if t175 = true then (some (t174 != t176)) else (some true)) else (some false)))) else (some false)) = some r := by rw [if_pos rfl] at H; exact H
                clear H
                have H := H1
                clear H1
                by_cases c27 : t183 = a1
                · rw [if_pos c27] at H
                  have c27b0 : (t183 == a1) = true := beq_iff_eq.mpr c27
                  have c27b1 : (t183 != a1) = false := bne_eq_false_iff_eq.mpr c27
                  clear c27
                  by_cases c28 : t186 = true
                  · subst c28
                    have H1 : (some false) = some r := by rw [if_pos rfl] at H; exact H
                    clear H
                    have H := H1
                    clear H1
                    obtain rfl := Option.some.inj H
                    exact absurd hr_.out (by decide)
                  · replace c28 := Bool.eq_false_iff.mpr c28
                    subst c28
                    have H1 : ((value_May.f t176).bind fun t187 => (if t187 = true then (if t175 = true then (some (t174 != t176)) else (some true)) else (some false))) = some r := by rw [if_neg (show ¬ (false = true) by decide)] at H; exact H
                    clear H
                    have H := H1
                    clear H1
                    replace H := Option.bind_eq_some_iff.mp H
                    obtain ⟨t187, A290, H⟩ := H
                    replace H : (if t187 = true then (if t175 = true then (some (t174 != t176)) else (some true)) else (some false)) = some r := H
                    have A29 := Aside0.mk A290
                    clear A290
                    by_cases c30 : t187 = true
                    · subst c30
                      have H1 : (if t175 = true then (some (t174 != t176)) else (some true)) = some r := by rw [if_pos rfl] at H; exact H
                      clear H
                      have H := H1
                      clear H1
                      by_cases c31 : t175 = true
                      · subst c31
                        have H1 : (some (t174 != t176)) = some r := by rw [if_pos rfl] at H; exact H
                        clear H
                        have H := H1
                        clear H1
                        obtain rfl := Option.some.inj H
                        go_wp2_with (first | ((with_reducible refine gate_callee (f := 18) rfl ?_); refine goesL_ (some 76) rfl rfl Tryd.func18 (by kernel_rfl) rfl #[.int .i64 t176] rfl (by (try simp only [List.map_toArray, List.map_cons, List.map_nil]); first | done | rfl | (simp only [List.length_drop, List.length_take]; rfl)) ?_; (with_reducible refine (value_At.calls t176 t183 true _ A24.out).mono ?_); rintro e w' ⟨rfl, ⟨nd, rfl⟩⟩; refine ⟨_, rfl, ?_⟩) | ((with_reducible refine gate_callee (f := 16) rfl ?_); refine goesL_ (some 81) rfl rfl Tryd.func16 (by kernel_rfl) rfl #[.int .i64 t176] rfl (by (try simp only [List.map_toArray, List.map_cons, List.map_nil]); first | done | rfl | (simp only [List.length_drop, List.length_take]; rfl)) ?_; (with_reducible refine (value_N.calls t176 t185 false _ A25.out).mono ?_); rintro e w' ⟨rfl, ⟨nd, rfl⟩⟩; refine ⟨_, rfl, ?_⟩) | (go_at_call 12; (with_reducible refine (value_May.calls t176 true _ A29.out).mono ?_); rintro e w' ⟨rfl, ⟨nd, rfl⟩⟩))
                        go_ret
                        exact ⟨by first | rfl | (simp [errW_none, errW_some] <;> rfl) | (simp [*, errW_none, errW_some] <;> rfl) | (simp [wrap64, errW_none, errW_some]; done) | (simp [wrap64, errW_none, errW_some]; exact eq_of_beq hr_.out), by repeat (first | (with_reducible first | exact HB.out | apply below_alloc | apply pw_below_drewN | apply below_drew1) | exact HB.out)⟩
                      · replace c31 := Bool.eq_false_iff.mpr c31
                        subst c31
                        have H1 : (some true) = some r := by rw [if_neg (show ¬ (false = true) by decide)] at H; exact H
                        clear H
                        have H := H1
                        clear H1
                        obtain rfl := Option.some.inj H
                        go_wp2_with (first | ((with_reducible refine gate_callee (f := 18) rfl ?_); refine goesL_ (some 76) rfl rfl Tryd.func18 (by kernel_rfl) rfl #[.int .i64 t176] rfl (by (try simp only [List.map_toArray, List.map_cons, List.map_nil]); first | done | rfl | (simp only [List.length_drop, List.length_take]; rfl)) ?_; (with_reducible refine (value_At.calls t176 t183 true _ A24.out).mono ?_); rintro e w' ⟨rfl, ⟨nd, rfl⟩⟩; refine ⟨_, rfl, ?_⟩) | ((with_reducible refine gate_callee (f := 16) rfl ?_); refine goesL_ (some 81) rfl rfl Tryd.func16 (by kernel_rfl) rfl #[.int .i64 t176] rfl (by (try simp only [List.map_toArray, List.map_cons, List.map_nil]); first | done | rfl | (simp only [List.length_drop, List.length_take]; rfl)) ?_; (with_reducible refine (value_N.calls t176 t185 false _ A25.out).mono ?_); rintro e w' ⟨rfl, ⟨nd, rfl⟩⟩; refine ⟨_, rfl, ?_⟩) | (go_at_call 12; (with_reducible refine (value_May.calls t176 true _ A29.out).mono ?_); rintro e w' ⟨rfl, ⟨nd, rfl⟩⟩))
                        go_ret
                        exact ⟨by first | rfl | (simp [errW_none, errW_some] <;> rfl) | (simp [*, errW_none, errW_some] <;> rfl) | (simp [wrap64, errW_none, errW_some]; done) | (simp [wrap64, errW_none, errW_some]; exact eq_of_beq hr_.out), by repeat (first | (with_reducible first | exact HB.out | apply below_alloc | apply pw_below_drewN | apply below_drew1) | exact HB.out)⟩
                    · replace c30 := Bool.eq_false_iff.mpr c30
                      subst c30
                      have H1 : (some false) = some r := by rw [if_neg (show ¬ (false = true) by decide)] at H; exact H
                      clear H
                      have H := H1
                      clear H1
                      obtain rfl := Option.some.inj H
                      exact absurd hr_.out (by decide)
                · rw [if_neg c27] at H
                  have c27b0 : (t183 == a1) = false := beq_eq_false_iff_ne.mpr c27
                  have c27b1 : (t183 != a1) = true := bne_iff_ne.mpr c27
                  obtain rfl := Option.some.inj H
                  exact absurd hr_.out (by decide)
              · replace c26 := Bool.eq_false_iff.mpr c26
                subst c26
                have H1 : (some false) = some r := by rw [if_neg (show ¬ (false = true) by decide)] at H; exact H
                clear H
                have H := H1
                clear H1
                obtain rfl := Option.some.inj H
                exact absurd hr_.out (by decide)
            · replace c23 := Bool.eq_false_iff.mpr c23
              subst c23
              have H1 : (if t175 = true then (some true) else (some true)) = some r := by rw [if_neg (show ¬ (false = true) by decide)] at H; exact H
              clear H
              have H := H1
              clear H1
              by_cases c32 : t175 = true
              · subst c32
                have H1 : (some true) = some r := by rw [if_pos rfl] at H; exact H
                clear H
                have H := H1
                clear H1
                obtain rfl := Option.some.inj H
                go_wp2
                go_ret
                exact ⟨by first | rfl | (simp [errW_none, errW_some] <;> rfl) | (simp [*, errW_none, errW_some] <;> rfl) | (simp [wrap64, errW_none, errW_some]; done) | (simp [wrap64, errW_none, errW_some]; exact eq_of_beq hr_.out), by repeat (first | (with_reducible first | exact HB.out | apply below_alloc | apply pw_below_drewN | apply below_drew1) | exact HB.out)⟩
              · replace c32 := Bool.eq_false_iff.mpr c32
                subst c32
                have H1 : (some true) = some r := by rw [if_neg (show ¬ (false = true) by decide)] at H; exact H
                clear H
                have H := H1
                clear H1
                obtain rfl := Option.some.inj H
                go_wp2
                go_ret
                exact ⟨by first | rfl | (simp [errW_none, errW_some] <;> rfl) | (simp [*, errW_none, errW_some] <;> rfl) | (simp [wrap64, errW_none, errW_some]; done) | (simp [wrap64, errW_none, errW_some]; exact eq_of_beq hr_.out), by repeat (first | (with_reducible first | exact HB.out | apply below_alloc | apply pw_below_drewN | apply below_drew1) | exact HB.out)⟩

/-- THE ONE PURE STATEMENT of anamnesislaw01_ValueBack: yours. -/
def anamnesislaw01_ValueBack.Pure : Prop := ∀ (a0 : Int) (a1 : Int), (Lit.int .i64 a0).wf = true → (Lit.int .i64 a1).wf = true → ∃ k, anamnesislaw01_ValueBack.f k a0 a1 = some true
theorem anamnesislaw01_ValueBack.walk (P : anamnesislaw01_ValueBack.Pure) (a0 : Int) (a1 : Int) (w : World) (w0 : (Lit.int .i64 a0).wf = true) (w1 : (Lit.int .i64 a1).wf = true) (htab : pow10Is w) :
    Calls Tryd.prog 4 #[.int .i64 a0, .int .i64 a1] w fun e w' => e = .returned (.bool true) ∧ Below w.heap.size w w' := by
  obtain ⟨k, h⟩ := P a0 a1 w0 w1
  refine (anamnesislaw01_ValueBack.calls k a0 a1 true w h rfl htab).mono ?_
  rintro e w' ⟨rfl, hd⟩
  exact ⟨rfl, hd⟩

/-! ### anamnesislaw01_ValueTexts: function 5 -/
def anamnesislaw01_ValueTexts.f (a0 : Int) (a1 : Int) : Option (Bool) := (anamnesislaw01_fixed.f).bind fun t188 => ((value_Text.f a0).bind fun t189 => ((value_Text.f a1).bind fun t190 => ((value_May.f a0).bind fun t191 => (if t191 = true then (if t189.toList = ([] : List UInt8) then (some false) else ((value_May.f a1).bind fun t192 => (if t192 = true then (if t190.toList = ([] : List UInt8) then (some false) else (some ((t189.toList == t190.toList) == (a0 == a1)))) else (if (t190.toList = ([] : List UInt8)) then (if t190.toList = ([] : List UInt8) then (some true) else (some ((t189.toList == t190.toList) == (a0 == a1)))) else (some false))))) else (if (t189.toList = ([] : List UInt8)) then ((value_May.f a1).bind fun t193 => (if t193 = true then (if t190.toList = ([] : List UInt8) then (some false) else (if t189.toList = ([] : List UInt8) then (some true) else (some ((t189.toList == t190.toList) == (a0 == a1))))) else (if (t190.toList = ([] : List UInt8)) then (if t189.toList = ([] : List UInt8) then (some true) else (if t190.toList = ([] : List UInt8) then (some true) else (some ((t189.toList == t190.toList) == (a0 == a1))))) else (some false)))) else (some false))))))
set_option maxHeartbeats 8000000 in
set_option maxRecDepth 100000 in
theorem anamnesislaw01_ValueTexts.calls (a0 : Int) (a1 : Int) (r : Bool) (w : World) (h : anamnesislaw01_ValueTexts.f a0 a1 = some r) (hr : r = true) (htab : pow10Is w) :
    Calls Tryd.prog 5 #[.int .i64 a0, .int .i64 a1] w fun e w' => e = .returned (.bool r) ∧ Below w.heap.size w w' := by
  have hr_ := Aside0.mk hr
  clear hr
  have htab_ := Aside0.mk htab
  clear htab
  have HB := Aside0.mk (Below.refl w.heap.size w)
  have H : ((anamnesislaw01_fixed.f).bind fun t188 => ((value_Text.f a0).bind fun t189 => ((value_Text.f a1).bind fun t190 => ((value_May.f a0).bind fun t191 => (if t191 = true then (if t189.toList = ([] : List UInt8) then (some false) else ((value_May.f a1).bind fun t192 => (if t192 = true then (if t190.toList = ([] : List UInt8) then (some false) else (some ((t189.toList == t190.toList) == (a0 == a1)))) else (if (t190.toList = ([] : List UInt8)) then (if t190.toList = ([] : List UInt8) then (some true) else (some ((t189.toList == t190.toList) == (a0 == a1)))) else (some false))))) else (if (t189.toList = ([] : List UInt8)) then ((value_May.f a1).bind fun t193 => (if t193 = true then (if t190.toList = ([] : List UInt8) then (some false) else (if t189.toList = ([] : List UInt8) then (some true) else (some ((t189.toList == t190.toList) == (a0 == a1))))) else (if (t190.toList = ([] : List UInt8)) then (if t189.toList = ([] : List UInt8) then (some true) else (if t190.toList = ([] : List UInt8) then (some true) else (some ((t189.toList == t190.toList) == (a0 == a1))))) else (some false)))) else (some false))))))) = some r := h
  clear h
  replace H := Option.bind_eq_some_iff.mp H
  obtain ⟨t188, A30, H⟩ := H
  replace H : ((value_Text.f a0).bind fun t189 => ((value_Text.f a1).bind fun t190 => ((value_May.f a0).bind fun t191 => (if t191 = true then (if t189.toList = ([] : List UInt8) then (some false) else ((value_May.f a1).bind fun t192 => (if t192 = true then (if t190.toList = ([] : List UInt8) then (some false) else (some ((t189.toList == t190.toList) == (a0 == a1)))) else (if (t190.toList = ([] : List UInt8)) then (if t190.toList = ([] : List UInt8) then (some true) else (some ((t189.toList == t190.toList) == (a0 == a1)))) else (some false))))) else (if (t189.toList = ([] : List UInt8)) then ((value_May.f a1).bind fun t193 => (if t193 = true then (if t190.toList = ([] : List UInt8) then (some false) else (if t189.toList = ([] : List UInt8) then (some true) else (some ((t189.toList == t190.toList) == (a0 == a1))))) else (if (t190.toList = ([] : List UInt8)) then (if t189.toList = ([] : List UInt8) then (some true) else (if t190.toList = ([] : List UInt8) then (some true) else (some ((t189.toList == t190.toList) == (a0 == a1))))) else (some false)))) else (some false)))))) = some r := H
  have A3 := Aside0.mk A30
  clear A30
  replace H := Option.bind_eq_some_iff.mp H
  obtain ⟨t189, A40, H⟩ := H
  replace H : ((value_Text.f a1).bind fun t190 => ((value_May.f a0).bind fun t191 => (if t191 = true then (if t189.toList = ([] : List UInt8) then (some false) else ((value_May.f a1).bind fun t192 => (if t192 = true then (if t190.toList = ([] : List UInt8) then (some false) else (some ((t189.toList == t190.toList) == (a0 == a1)))) else (if (t190.toList = ([] : List UInt8)) then (if t190.toList = ([] : List UInt8) then (some true) else (some ((t189.toList == t190.toList) == (a0 == a1)))) else (some false))))) else (if (t189.toList = ([] : List UInt8)) then ((value_May.f a1).bind fun t193 => (if t193 = true then (if t190.toList = ([] : List UInt8) then (some false) else (if t189.toList = ([] : List UInt8) then (some true) else (some ((t189.toList == t190.toList) == (a0 == a1))))) else (if (t190.toList = ([] : List UInt8)) then (if t189.toList = ([] : List UInt8) then (some true) else (if t190.toList = ([] : List UInt8) then (some true) else (some ((t189.toList == t190.toList) == (a0 == a1))))) else (some false)))) else (some false))))) = some r := H
  have A4 := Aside0.mk A40
  clear A40
  replace H := Option.bind_eq_some_iff.mp H
  obtain ⟨t190, A50, H⟩ := H
  replace H : ((value_May.f a0).bind fun t191 => (if t191 = true then (if t189.toList = ([] : List UInt8) then (some false) else ((value_May.f a1).bind fun t192 => (if t192 = true then (if t190.toList = ([] : List UInt8) then (some false) else (some ((t189.toList == t190.toList) == (a0 == a1)))) else (if (t190.toList = ([] : List UInt8)) then (if t190.toList = ([] : List UInt8) then (some true) else (some ((t189.toList == t190.toList) == (a0 == a1)))) else (some false))))) else (if (t189.toList = ([] : List UInt8)) then ((value_May.f a1).bind fun t193 => (if t193 = true then (if t190.toList = ([] : List UInt8) then (some false) else (if t189.toList = ([] : List UInt8) then (some true) else (some ((t189.toList == t190.toList) == (a0 == a1))))) else (if (t190.toList = ([] : List UInt8)) then (if t189.toList = ([] : List UInt8) then (some true) else (if t190.toList = ([] : List UInt8) then (some true) else (some ((t189.toList == t190.toList) == (a0 == a1))))) else (some false)))) else (some false)))) = some r := H
  have A5 := Aside0.mk A50
  clear A50
  replace H := Option.bind_eq_some_iff.mp H
  obtain ⟨t191, A60, H⟩ := H
  replace H : (if t191 = true then (if t189.toList = ([] : List UInt8) then (some false) else ((value_May.f a1).bind fun t192 => (if t192 = true then (if t190.toList = ([] : List UInt8) then (some false) else (some ((t189.toList == t190.toList) == (a0 == a1)))) else (if (t190.toList = ([] : List UInt8)) then (if t190.toList = ([] : List UInt8) then (some true) else (some ((t189.toList == t190.toList) == (a0 == a1)))) else (some false))))) else (if (t189.toList = ([] : List UInt8)) then ((value_May.f a1).bind fun t193 => (if t193 = true then (if t190.toList = ([] : List UInt8) then (some false) else (if t189.toList = ([] : List UInt8) then (some true) else (some ((t189.toList == t190.toList) == (a0 == a1))))) else (if (t190.toList = ([] : List UInt8)) then (if t189.toList = ([] : List UInt8) then (some true) else (if t190.toList = ([] : List UInt8) then (some true) else (some ((t189.toList == t190.toList) == (a0 == a1))))) else (some false)))) else (some false))) = some r := H
  have A6 := Aside0.mk A60
  clear A60
  by_cases c7 : t191 = true
  · subst c7
    have H1 : (if t189.toList = ([] : List UInt8) then (some false) else ((value_May.f a1).bind fun t192 => (if t192 = true then (if t190.toList = ([] : List UInt8) then (some false) else (some ((t189.toList == t190.toList) == (a0 == a1)))) else (if (t190.toList = ([] : List UInt8)) then (if t190.toList = ([] : List UInt8) then (some true) else (some ((t189.toList == t190.toList) == (a0 == a1)))) else (some false))))) = some r := by rw [if_pos rfl] at H; exact H
    clear H
    have H := H1
    clear H1
    by_cases c8 : t189.toList = ([] : List UInt8)
    · rw [if_pos c8] at H
      have c8b0 : (t189.toList == ([] : List UInt8)) = true := beq_iff_eq.mpr c8
      try (have c8b0e := c8b0; simp only [show ∀ l_ : List UInt8, (l_ == ([] : List UInt8)) = l_.isEmpty from fun l_ => by cases l_ <;> rfl] at c8b0e)
      have c8b1 : (t189.toList != ([] : List UInt8)) = false := bne_eq_false_iff_eq.mpr c8
      clear c8
      obtain rfl := Option.some.inj H
      exact absurd hr_.out (by decide)
    · rw [if_neg c8] at H
      have c8b0 : (t189.toList == ([] : List UInt8)) = false := beq_eq_false_iff_ne.mpr c8
      try (have c8b0e := c8b0; simp only [show ∀ l_ : List UInt8, (l_ == ([] : List UInt8)) = l_.isEmpty from fun l_ => by cases l_ <;> rfl] at c8b0e)
      have c8b1 : (t189.toList != ([] : List UInt8)) = true := bne_iff_ne.mpr c8
      replace H := Option.bind_eq_some_iff.mp H
      obtain ⟨t192, A90, H⟩ := H
      replace H : (if t192 = true then (if t190.toList = ([] : List UInt8) then (some false) else (some ((t189.toList == t190.toList) == (a0 == a1)))) else (if (t190.toList = ([] : List UInt8)) then (if t190.toList = ([] : List UInt8) then (some true) else (some ((t189.toList == t190.toList) == (a0 == a1)))) else (some false))) = some r := H
      have A9 := Aside0.mk A90
      clear A90
      by_cases c10 : t192 = true
      · subst c10
        have H1 : (if t190.toList = ([] : List UInt8) then (some false) else (some ((t189.toList == t190.toList) == (a0 == a1)))) = some r := by rw [if_pos rfl] at H; exact H
        clear H
        have H := H1
        clear H1
        by_cases c11 : t190.toList = ([] : List UInt8)
        · rw [if_pos c11] at H
          have c11b0 : (t190.toList == ([] : List UInt8)) = true := beq_iff_eq.mpr c11
          try (have c11b0e := c11b0; simp only [show ∀ l_ : List UInt8, (l_ == ([] : List UInt8)) = l_.isEmpty from fun l_ => by cases l_ <;> rfl] at c11b0e)
          have c11b1 : (t190.toList != ([] : List UInt8)) = false := bne_eq_false_iff_eq.mpr c11
          clear c11
          obtain rfl := Option.some.inj H
          exact absurd hr_.out (by decide)
        · rw [if_neg c11] at H
          have c11b0 : (t190.toList == ([] : List UInt8)) = false := beq_eq_false_iff_ne.mpr c11
          try (have c11b0e := c11b0; simp only [show ∀ l_ : List UInt8, (l_ == ([] : List UInt8)) = l_.isEmpty from fun l_ => by cases l_ <;> rfl] at c11b0e)
          have c11b1 : (t190.toList != ([] : List UInt8)) = true := bne_iff_ne.mpr c11
          obtain rfl := Option.some.inj H
          go_enter Tryd.func5, Tryd.ntmps5
          go_wp2_with (first | ((with_reducible refine gate_callee (f := 20) rfl ?_); refine goesL_ (some 7) rfl rfl Tryd.func20 (by kernel_rfl) rfl #[] rfl (by (try simp only [List.map_toArray, List.map_cons, List.map_nil]); first | done | rfl | (simp only [List.length_drop, List.length_take]; rfl)) ?_; (with_reducible refine (anamnesislaw01_fixed.calls  t188 _ A3.out (tab_on htab_.out (by repeat (first | (with_reducible first | exact HB.out | apply below_alloc | apply pw_below_drewN | apply below_drew1) | exact HB.out)))).mono ?_); rintro e w12 ⟨rfl, hb⟩; refine ⟨_, rfl, ?_⟩; have n0_ := Aside0.mk (below_step (by repeat (first | (with_reducible first | exact HB.out | apply below_alloc | apply pw_below_drewN | apply below_drew1) | exact HB.out)) hb); clear HB; have HB := n0_; clear n0_; (try clear hb); (try clear hb2); (try clear hk); (try clear hi)) | ((with_reducible refine gate_callee (f := 14) rfl ?_); refine goesL_ (some 10) rfl rfl Tryd.func14 (by kernel_rfl) rfl #[.int .i64 a0] rfl (by (try simp only [List.map_toArray, List.map_cons, List.map_nil]); first | done | rfl | (simp only [List.length_drop, List.length_take]; rfl)) ?_; (with_reducible refine (value_Text.calls a0 t189 _ A4.out (tab_on htab_.out (by repeat (first | (with_reducible first | exact HB.out | apply below_alloc | apply pw_below_drewN | apply below_drew1) | exact HB.out)))).mono ?_); rintro e w13 ⟨rfl, hb⟩; refine ⟨_, rfl, ?_⟩; have n0_ := Aside0.mk (below_step (by repeat (first | (with_reducible first | exact HB.out | apply below_alloc | apply pw_below_drewN | apply below_drew1) | exact HB.out)) hb); clear HB; have HB := n0_; clear n0_; (try clear hb); (try clear hb2); (try clear hk); (try clear hi)) | ((with_reducible refine gate_callee (f := 14) rfl ?_); refine goesL_ (some 12) rfl rfl Tryd.func14 (by kernel_rfl) rfl #[.int .i64 a1] rfl (by (try simp only [List.map_toArray, List.map_cons, List.map_nil]); first | done | rfl | (simp only [List.length_drop, List.length_take]; rfl)) ?_; (with_reducible refine (value_Text.calls a1 t190 _ A5.out (tab_on htab_.out (by repeat (first | (with_reducible first | exact HB.out | apply below_alloc | apply pw_below_drewN | apply below_drew1) | exact HB.out)))).mono ?_); rintro e w14 ⟨rfl, hb⟩; refine ⟨_, rfl, ?_⟩; have n0_ := Aside0.mk (below_step (by repeat (first | (with_reducible first | exact HB.out | apply below_alloc | apply pw_below_drewN | apply below_drew1) | exact HB.out)) hb); clear HB; have HB := n0_; clear n0_; (try clear hb); (try clear hb2); (try clear hk); (try clear hi)) | ((with_reducible refine gate_callee (f := 12) rfl ?_); refine goesL_ (some 16) rfl rfl Tryd.func12 (by kernel_rfl) rfl #[.int .i64 a0] rfl (by (try simp only [List.map_toArray, List.map_cons, List.map_nil]); first | done | rfl | (simp only [List.length_drop, List.length_take]; rfl)) ?_; (with_reducible refine (value_May.calls a0 true _ A6.out).mono ?_); rintro e w' ⟨rfl, ⟨nd, rfl⟩⟩; refine ⟨_, rfl, ?_⟩) | (go_at_call 12; (with_reducible refine (value_May.calls a1 true _ A9.out).mono ?_); rintro e w' ⟨rfl, ⟨nd, rfl⟩⟩))
          go_ret
          exact ⟨by first | rfl | (simp [errW_none, errW_some] <;> rfl) | (simp [*, errW_none, errW_some] <;> rfl) | (simp [wrap64, errW_none, errW_some]; done) | (simp [wrap64, errW_none, errW_some]; exact eq_of_beq hr_.out), by repeat (first | (with_reducible first | exact HB.out | apply below_alloc | apply pw_below_drewN | apply below_drew1) | exact HB.out)⟩
      · replace c10 := Bool.eq_false_iff.mpr c10
        subst c10
        have H1 : (if (t190.toList = ([] : List UInt8)) then (if t190.toList = ([] : List UInt8) then (some true) else (some ((t189.toList == t190.toList) == (a0 == a1)))) else (some false)) = some r := by rw [if_neg (show ¬ (false = true) by decide)] at H; exact H
        clear H
        have H := H1
        clear H1
        by_cases c15 : (t190.toList = ([] : List UInt8))
        · rw [if_pos c15] at H
          have c15b0 : (t190.toList == ([] : List UInt8)) = true := beq_iff_eq.mpr c15
          try (have c15b0e := c15b0; simp only [show ∀ l_ : List UInt8, (l_ == ([] : List UInt8)) = l_.isEmpty from fun l_ => by cases l_ <;> rfl] at c15b0e)
          have c15b1 : (t190.toList != ([] : List UInt8)) = false := bne_eq_false_iff_eq.mpr c15
          clear c15
          by_cases c16 : t190.toList = ([] : List UInt8)
          · rw [if_pos c16] at H
            have c16b0 : (t190.toList == ([] : List UInt8)) = true := beq_iff_eq.mpr c16
            try (have c16b0e := c16b0; simp only [show ∀ l_ : List UInt8, (l_ == ([] : List UInt8)) = l_.isEmpty from fun l_ => by cases l_ <;> rfl] at c16b0e)
            have c16b1 : (t190.toList != ([] : List UInt8)) = false := bne_eq_false_iff_eq.mpr c16
            clear c16
            obtain rfl := Option.some.inj H
            go_enter Tryd.func5, Tryd.ntmps5
            go_wp2_with (first | ((with_reducible refine gate_callee (f := 20) rfl ?_); refine goesL_ (some 7) rfl rfl Tryd.func20 (by kernel_rfl) rfl #[] rfl (by (try simp only [List.map_toArray, List.map_cons, List.map_nil]); first | done | rfl | (simp only [List.length_drop, List.length_take]; rfl)) ?_; (with_reducible refine (anamnesislaw01_fixed.calls  t188 _ A3.out (tab_on htab_.out (by repeat (first | (with_reducible first | exact HB.out | apply below_alloc | apply pw_below_drewN | apply below_drew1) | exact HB.out)))).mono ?_); rintro e w17 ⟨rfl, hb⟩; refine ⟨_, rfl, ?_⟩; have n0_ := Aside0.mk (below_step (by repeat (first | (with_reducible first | exact HB.out | apply below_alloc | apply pw_below_drewN | apply below_drew1) | exact HB.out)) hb); clear HB; have HB := n0_; clear n0_; (try clear hb); (try clear hb2); (try clear hk); (try clear hi)) | ((with_reducible refine gate_callee (f := 14) rfl ?_); refine goesL_ (some 10) rfl rfl Tryd.func14 (by kernel_rfl) rfl #[.int .i64 a0] rfl (by (try simp only [List.map_toArray, List.map_cons, List.map_nil]); first | done | rfl | (simp only [List.length_drop, List.length_take]; rfl)) ?_; (with_reducible refine (value_Text.calls a0 t189 _ A4.out (tab_on htab_.out (by repeat (first | (with_reducible first | exact HB.out | apply below_alloc | apply pw_below_drewN | apply below_drew1) | exact HB.out)))).mono ?_); rintro e w18 ⟨rfl, hb⟩; refine ⟨_, rfl, ?_⟩; have n0_ := Aside0.mk (below_step (by repeat (first | (with_reducible first | exact HB.out | apply below_alloc | apply pw_below_drewN | apply below_drew1) | exact HB.out)) hb); clear HB; have HB := n0_; clear n0_; (try clear hb); (try clear hb2); (try clear hk); (try clear hi)) | ((with_reducible refine gate_callee (f := 14) rfl ?_); refine goesL_ (some 12) rfl rfl Tryd.func14 (by kernel_rfl) rfl #[.int .i64 a1] rfl (by (try simp only [List.map_toArray, List.map_cons, List.map_nil]); first | done | rfl | (simp only [List.length_drop, List.length_take]; rfl)) ?_; (with_reducible refine (value_Text.calls a1 t190 _ A5.out (tab_on htab_.out (by repeat (first | (with_reducible first | exact HB.out | apply below_alloc | apply pw_below_drewN | apply below_drew1) | exact HB.out)))).mono ?_); rintro e w19 ⟨rfl, hb⟩; refine ⟨_, rfl, ?_⟩; have n0_ := Aside0.mk (below_step (by repeat (first | (with_reducible first | exact HB.out | apply below_alloc | apply pw_below_drewN | apply below_drew1) | exact HB.out)) hb); clear HB; have HB := n0_; clear n0_; (try clear hb); (try clear hb2); (try clear hk); (try clear hi)) | ((with_reducible refine gate_callee (f := 12) rfl ?_); refine goesL_ (some 16) rfl rfl Tryd.func12 (by kernel_rfl) rfl #[.int .i64 a0] rfl (by (try simp only [List.map_toArray, List.map_cons, List.map_nil]); first | done | rfl | (simp only [List.length_drop, List.length_take]; rfl)) ?_; (with_reducible refine (value_May.calls a0 true _ A6.out).mono ?_); rintro e w' ⟨rfl, ⟨nd, rfl⟩⟩; refine ⟨_, rfl, ?_⟩) | (go_at_call 12; (with_reducible refine (value_May.calls a1 false _ A9.out).mono ?_); rintro e w' ⟨rfl, ⟨nd, rfl⟩⟩))
            go_ret
            exact ⟨by first | rfl | (simp [errW_none, errW_some] <;> rfl) | (simp [*, errW_none, errW_some] <;> rfl) | (simp [wrap64, errW_none, errW_some]; done) | (simp [wrap64, errW_none, errW_some]; exact eq_of_beq hr_.out), by repeat (first | (with_reducible first | exact HB.out | apply below_alloc | apply pw_below_drewN | apply below_drew1) | exact HB.out)⟩
          · rw [if_neg c16] at H
            have c16b0 : (t190.toList == ([] : List UInt8)) = false := beq_eq_false_iff_ne.mpr c16
            try (have c16b0e := c16b0; simp only [show ∀ l_ : List UInt8, (l_ == ([] : List UInt8)) = l_.isEmpty from fun l_ => by cases l_ <;> rfl] at c16b0e)
            have c16b1 : (t190.toList != ([] : List UInt8)) = true := bne_iff_ne.mpr c16
            obtain rfl := Option.some.inj H
            go_enter Tryd.func5, Tryd.ntmps5
            go_wp2_with (first | ((with_reducible refine gate_callee (f := 20) rfl ?_); refine goesL_ (some 7) rfl rfl Tryd.func20 (by kernel_rfl) rfl #[] rfl (by (try simp only [List.map_toArray, List.map_cons, List.map_nil]); first | done | rfl | (simp only [List.length_drop, List.length_take]; rfl)) ?_; (with_reducible refine (anamnesislaw01_fixed.calls  t188 _ A3.out (tab_on htab_.out (by repeat (first | (with_reducible first | exact HB.out | apply below_alloc | apply pw_below_drewN | apply below_drew1) | exact HB.out)))).mono ?_); rintro e w20 ⟨rfl, hb⟩; refine ⟨_, rfl, ?_⟩; have n0_ := Aside0.mk (below_step (by repeat (first | (with_reducible first | exact HB.out | apply below_alloc | apply pw_below_drewN | apply below_drew1) | exact HB.out)) hb); clear HB; have HB := n0_; clear n0_; (try clear hb); (try clear hb2); (try clear hk); (try clear hi)) | ((with_reducible refine gate_callee (f := 14) rfl ?_); refine goesL_ (some 10) rfl rfl Tryd.func14 (by kernel_rfl) rfl #[.int .i64 a0] rfl (by (try simp only [List.map_toArray, List.map_cons, List.map_nil]); first | done | rfl | (simp only [List.length_drop, List.length_take]; rfl)) ?_; (with_reducible refine (value_Text.calls a0 t189 _ A4.out (tab_on htab_.out (by repeat (first | (with_reducible first | exact HB.out | apply below_alloc | apply pw_below_drewN | apply below_drew1) | exact HB.out)))).mono ?_); rintro e w21 ⟨rfl, hb⟩; refine ⟨_, rfl, ?_⟩; have n0_ := Aside0.mk (below_step (by repeat (first | (with_reducible first | exact HB.out | apply below_alloc | apply pw_below_drewN | apply below_drew1) | exact HB.out)) hb); clear HB; have HB := n0_; clear n0_; (try clear hb); (try clear hb2); (try clear hk); (try clear hi)) | ((with_reducible refine gate_callee (f := 14) rfl ?_); refine goesL_ (some 12) rfl rfl Tryd.func14 (by kernel_rfl) rfl #[.int .i64 a1] rfl (by (try simp only [List.map_toArray, List.map_cons, List.map_nil]); first | done | rfl | (simp only [List.length_drop, List.length_take]; rfl)) ?_; (with_reducible refine (value_Text.calls a1 t190 _ A5.out (tab_on htab_.out (by repeat (first | (with_reducible first | exact HB.out | apply below_alloc | apply pw_below_drewN | apply below_drew1) | exact HB.out)))).mono ?_); rintro e w22 ⟨rfl, hb⟩; refine ⟨_, rfl, ?_⟩; have n0_ := Aside0.mk (below_step (by repeat (first | (with_reducible first | exact HB.out | apply below_alloc | apply pw_below_drewN | apply below_drew1) | exact HB.out)) hb); clear HB; have HB := n0_; clear n0_; (try clear hb); (try clear hb2); (try clear hk); (try clear hi)) | ((with_reducible refine gate_callee (f := 12) rfl ?_); refine goesL_ (some 16) rfl rfl Tryd.func12 (by kernel_rfl) rfl #[.int .i64 a0] rfl (by (try simp only [List.map_toArray, List.map_cons, List.map_nil]); first | done | rfl | (simp only [List.length_drop, List.length_take]; rfl)) ?_; (with_reducible refine (value_May.calls a0 true _ A6.out).mono ?_); rintro e w' ⟨rfl, ⟨nd, rfl⟩⟩; refine ⟨_, rfl, ?_⟩) | (go_at_call 12; (with_reducible refine (value_May.calls a1 false _ A9.out).mono ?_); rintro e w' ⟨rfl, ⟨nd, rfl⟩⟩))
            go_ret
            exact ⟨by first | rfl | (simp [errW_none, errW_some] <;> rfl) | (simp [*, errW_none, errW_some] <;> rfl) | (simp [wrap64, errW_none, errW_some]; done) | (simp [wrap64, errW_none, errW_some]; exact eq_of_beq hr_.out), by repeat (first | (with_reducible first | exact HB.out | apply below_alloc | apply pw_below_drewN | apply below_drew1) | exact HB.out)⟩
        · rw [if_neg c15] at H
          have c15b0 : (t190.toList == ([] : List UInt8)) = false := beq_eq_false_iff_ne.mpr c15
          try (have c15b0e := c15b0; simp only [show ∀ l_ : List UInt8, (l_ == ([] : List UInt8)) = l_.isEmpty from fun l_ => by cases l_ <;> rfl] at c15b0e)
          have c15b1 : (t190.toList != ([] : List UInt8)) = true := bne_iff_ne.mpr c15
          obtain rfl := Option.some.inj H
          exact absurd hr_.out (by decide)
  · replace c7 := Bool.eq_false_iff.mpr c7
    subst c7
    have H1 : (if (t189.toList = ([] : List UInt8)) then ((value_May.f a1).bind fun t193 => (if t193 = true then (if t190.toList = ([] : List UInt8) then (some false) else (if t189.toList = ([] : List UInt8) then (some true) else (some ((t189.toList == t190.toList) == (a0 == a1))))) else (if (t190.toList = ([] : List UInt8)) then (if t189.toList = ([] : List UInt8) then (some true) else (if t190.toList = ([] : List UInt8) then (some true) else (some ((t189.toList == t190.toList) == (a0 == a1))))) else (some false)))) else (some false)) = some r := by rw [if_neg (show ¬ (false = true) by decide)] at H; exact H
    clear H
    have H := H1
    clear H1
    by_cases c23 : (t189.toList = ([] : List UInt8))
    · rw [if_pos c23] at H
      have c23b0 : (t189.toList == ([] : List UInt8)) = true := beq_iff_eq.mpr c23
      try (have c23b0e := c23b0; simp only [show ∀ l_ : List UInt8, (l_ == ([] : List UInt8)) = l_.isEmpty from fun l_ => by cases l_ <;> rfl] at c23b0e)
      have c23b1 : (t189.toList != ([] : List UInt8)) = false := bne_eq_false_iff_eq.mpr c23
      clear c23
      replace H := Option.bind_eq_some_iff.mp H
      obtain ⟨t193, A240, H⟩ := H
      replace H : (if t193 = true then (if t190.toList = ([] : List UInt8) then (some false) else (if t189.toList = ([] : List UInt8) then (some true) else (some ((t189.toList == t190.toList) == (a0 == a1))))) else (if (t190.toList = ([] : List UInt8)) then (if t189.toList = ([] : List UInt8) then (some true) else (if t190.toList = ([] : List UInt8) then (some true) else (some ((t189.toList == t190.toList) == (a0 == a1))))) else (some false))) = some r := H
      have A24 := Aside0.mk A240
      clear A240
      by_cases c25 : t193 = true
      · subst c25
        have H1 : (if t190.toList = ([] : List UInt8) then (some false) else (if t189.toList = ([] : List UInt8) then (some true) else (some ((t189.toList == t190.toList) == (a0 == a1))))) = some r := by rw [if_pos rfl] at H; exact H
        clear H
        have H := H1
        clear H1
        by_cases c26 : t190.toList = ([] : List UInt8)
        · rw [if_pos c26] at H
          have c26b0 : (t190.toList == ([] : List UInt8)) = true := beq_iff_eq.mpr c26
          try (have c26b0e := c26b0; simp only [show ∀ l_ : List UInt8, (l_ == ([] : List UInt8)) = l_.isEmpty from fun l_ => by cases l_ <;> rfl] at c26b0e)
          have c26b1 : (t190.toList != ([] : List UInt8)) = false := bne_eq_false_iff_eq.mpr c26
          clear c26
          obtain rfl := Option.some.inj H
          exact absurd hr_.out (by decide)
        · rw [if_neg c26] at H
          have c26b0 : (t190.toList == ([] : List UInt8)) = false := beq_eq_false_iff_ne.mpr c26
          try (have c26b0e := c26b0; simp only [show ∀ l_ : List UInt8, (l_ == ([] : List UInt8)) = l_.isEmpty from fun l_ => by cases l_ <;> rfl] at c26b0e)
          have c26b1 : (t190.toList != ([] : List UInt8)) = true := bne_iff_ne.mpr c26
          by_cases c27 : t189.toList = ([] : List UInt8)
          · rw [if_pos c27] at H
            have c27b0 : (t189.toList == ([] : List UInt8)) = true := beq_iff_eq.mpr c27
            try (have c27b0e := c27b0; simp only [show ∀ l_ : List UInt8, (l_ == ([] : List UInt8)) = l_.isEmpty from fun l_ => by cases l_ <;> rfl] at c27b0e)
            have c27b1 : (t189.toList != ([] : List UInt8)) = false := bne_eq_false_iff_eq.mpr c27
            clear c27
            obtain rfl := Option.some.inj H
            go_enter Tryd.func5, Tryd.ntmps5
            go_wp2_with (first | ((with_reducible refine gate_callee (f := 20) rfl ?_); refine goesL_ (some 7) rfl rfl Tryd.func20 (by kernel_rfl) rfl #[] rfl (by (try simp only [List.map_toArray, List.map_cons, List.map_nil]); first | done | rfl | (simp only [List.length_drop, List.length_take]; rfl)) ?_; (with_reducible refine (anamnesislaw01_fixed.calls  t188 _ A3.out (tab_on htab_.out (by repeat (first | (with_reducible first | exact HB.out | apply below_alloc | apply pw_below_drewN | apply below_drew1) | exact HB.out)))).mono ?_); rintro e w28 ⟨rfl, hb⟩; refine ⟨_, rfl, ?_⟩; have n0_ := Aside0.mk (below_step (by repeat (first | (with_reducible first | exact HB.out | apply below_alloc | apply pw_below_drewN | apply below_drew1) | exact HB.out)) hb); clear HB; have HB := n0_; clear n0_; (try clear hb); (try clear hb2); (try clear hk); (try clear hi)) | ((with_reducible refine gate_callee (f := 14) rfl ?_); refine goesL_ (some 10) rfl rfl Tryd.func14 (by kernel_rfl) rfl #[.int .i64 a0] rfl (by (try simp only [List.map_toArray, List.map_cons, List.map_nil]); first | done | rfl | (simp only [List.length_drop, List.length_take]; rfl)) ?_; (with_reducible refine (value_Text.calls a0 t189 _ A4.out (tab_on htab_.out (by repeat (first | (with_reducible first | exact HB.out | apply below_alloc | apply pw_below_drewN | apply below_drew1) | exact HB.out)))).mono ?_); rintro e w29 ⟨rfl, hb⟩; refine ⟨_, rfl, ?_⟩; have n0_ := Aside0.mk (below_step (by repeat (first | (with_reducible first | exact HB.out | apply below_alloc | apply pw_below_drewN | apply below_drew1) | exact HB.out)) hb); clear HB; have HB := n0_; clear n0_; (try clear hb); (try clear hb2); (try clear hk); (try clear hi)) | ((with_reducible refine gate_callee (f := 14) rfl ?_); refine goesL_ (some 12) rfl rfl Tryd.func14 (by kernel_rfl) rfl #[.int .i64 a1] rfl (by (try simp only [List.map_toArray, List.map_cons, List.map_nil]); first | done | rfl | (simp only [List.length_drop, List.length_take]; rfl)) ?_; (with_reducible refine (value_Text.calls a1 t190 _ A5.out (tab_on htab_.out (by repeat (first | (with_reducible first | exact HB.out | apply below_alloc | apply pw_below_drewN | apply below_drew1) | exact HB.out)))).mono ?_); rintro e w30 ⟨rfl, hb⟩; refine ⟨_, rfl, ?_⟩; have n0_ := Aside0.mk (below_step (by repeat (first | (with_reducible first | exact HB.out | apply below_alloc | apply pw_below_drewN | apply below_drew1) | exact HB.out)) hb); clear HB; have HB := n0_; clear n0_; (try clear hb); (try clear hb2); (try clear hk); (try clear hi)) | ((with_reducible refine gate_callee (f := 12) rfl ?_); refine goesL_ (some 16) rfl rfl Tryd.func12 (by kernel_rfl) rfl #[.int .i64 a0] rfl (by (try simp only [List.map_toArray, List.map_cons, List.map_nil]); first | done | rfl | (simp only [List.length_drop, List.length_take]; rfl)) ?_; (with_reducible refine (value_May.calls a0 false _ A6.out).mono ?_); rintro e w' ⟨rfl, ⟨nd, rfl⟩⟩; refine ⟨_, rfl, ?_⟩) | (go_at_call 12; (with_reducible refine (value_May.calls a1 true _ A24.out).mono ?_); rintro e w' ⟨rfl, ⟨nd, rfl⟩⟩))
            go_ret
            exact ⟨by first | rfl | (simp [errW_none, errW_some] <;> rfl) | (simp [*, errW_none, errW_some] <;> rfl) | (simp [wrap64, errW_none, errW_some]; done) | (simp [wrap64, errW_none, errW_some]; exact eq_of_beq hr_.out), by repeat (first | (with_reducible first | exact HB.out | apply below_alloc | apply pw_below_drewN | apply below_drew1) | exact HB.out)⟩
          · rw [if_neg c27] at H
            have c27b0 : (t189.toList == ([] : List UInt8)) = false := beq_eq_false_iff_ne.mpr c27
            try (have c27b0e := c27b0; simp only [show ∀ l_ : List UInt8, (l_ == ([] : List UInt8)) = l_.isEmpty from fun l_ => by cases l_ <;> rfl] at c27b0e)
            have c27b1 : (t189.toList != ([] : List UInt8)) = true := bne_iff_ne.mpr c27
            obtain rfl := Option.some.inj H
            go_enter Tryd.func5, Tryd.ntmps5
            go_wp2_with (first | ((with_reducible refine gate_callee (f := 20) rfl ?_); refine goesL_ (some 7) rfl rfl Tryd.func20 (by kernel_rfl) rfl #[] rfl (by (try simp only [List.map_toArray, List.map_cons, List.map_nil]); first | done | rfl | (simp only [List.length_drop, List.length_take]; rfl)) ?_; (with_reducible refine (anamnesislaw01_fixed.calls  t188 _ A3.out (tab_on htab_.out (by repeat (first | (with_reducible first | exact HB.out | apply below_alloc | apply pw_below_drewN | apply below_drew1) | exact HB.out)))).mono ?_); rintro e w31 ⟨rfl, hb⟩; refine ⟨_, rfl, ?_⟩; have n0_ := Aside0.mk (below_step (by repeat (first | (with_reducible first | exact HB.out | apply below_alloc | apply pw_below_drewN | apply below_drew1) | exact HB.out)) hb); clear HB; have HB := n0_; clear n0_; (try clear hb); (try clear hb2); (try clear hk); (try clear hi)) | ((with_reducible refine gate_callee (f := 14) rfl ?_); refine goesL_ (some 10) rfl rfl Tryd.func14 (by kernel_rfl) rfl #[.int .i64 a0] rfl (by (try simp only [List.map_toArray, List.map_cons, List.map_nil]); first | done | rfl | (simp only [List.length_drop, List.length_take]; rfl)) ?_; (with_reducible refine (value_Text.calls a0 t189 _ A4.out (tab_on htab_.out (by repeat (first | (with_reducible first | exact HB.out | apply below_alloc | apply pw_below_drewN | apply below_drew1) | exact HB.out)))).mono ?_); rintro e w32 ⟨rfl, hb⟩; refine ⟨_, rfl, ?_⟩; have n0_ := Aside0.mk (below_step (by repeat (first | (with_reducible first | exact HB.out | apply below_alloc | apply pw_below_drewN | apply below_drew1) | exact HB.out)) hb); clear HB; have HB := n0_; clear n0_; (try clear hb); (try clear hb2); (try clear hk); (try clear hi)) | ((with_reducible refine gate_callee (f := 14) rfl ?_); refine goesL_ (some 12) rfl rfl Tryd.func14 (by kernel_rfl) rfl #[.int .i64 a1] rfl (by (try simp only [List.map_toArray, List.map_cons, List.map_nil]); first | done | rfl | (simp only [List.length_drop, List.length_take]; rfl)) ?_; (with_reducible refine (value_Text.calls a1 t190 _ A5.out (tab_on htab_.out (by repeat (first | (with_reducible first | exact HB.out | apply below_alloc | apply pw_below_drewN | apply below_drew1) | exact HB.out)))).mono ?_); rintro e w33 ⟨rfl, hb⟩; refine ⟨_, rfl, ?_⟩; have n0_ := Aside0.mk (below_step (by repeat (first | (with_reducible first | exact HB.out | apply below_alloc | apply pw_below_drewN | apply below_drew1) | exact HB.out)) hb); clear HB; have HB := n0_; clear n0_; (try clear hb); (try clear hb2); (try clear hk); (try clear hi)) | ((with_reducible refine gate_callee (f := 12) rfl ?_); refine goesL_ (some 16) rfl rfl Tryd.func12 (by kernel_rfl) rfl #[.int .i64 a0] rfl (by (try simp only [List.map_toArray, List.map_cons, List.map_nil]); first | done | rfl | (simp only [List.length_drop, List.length_take]; rfl)) ?_; (with_reducible refine (value_May.calls a0 false _ A6.out).mono ?_); rintro e w' ⟨rfl, ⟨nd, rfl⟩⟩; refine ⟨_, rfl, ?_⟩) | (go_at_call 12; (with_reducible refine (value_May.calls a1 true _ A24.out).mono ?_); rintro e w' ⟨rfl, ⟨nd, rfl⟩⟩))
            go_ret
            exact ⟨by first | rfl | (simp [errW_none, errW_some] <;> rfl) | (simp [*, errW_none, errW_some] <;> rfl) | (simp [wrap64, errW_none, errW_some]; done) | (simp [wrap64, errW_none, errW_some]; exact eq_of_beq hr_.out), by repeat (first | (with_reducible first | exact HB.out | apply below_alloc | apply pw_below_drewN | apply below_drew1) | exact HB.out)⟩
      · replace c25 := Bool.eq_false_iff.mpr c25
        subst c25
        have H1 : (if (t190.toList = ([] : List UInt8)) then (if t189.toList = ([] : List UInt8) then (some true) else (if t190.toList = ([] : List UInt8) then (some true) else (some ((t189.toList == t190.toList) == (a0 == a1))))) else (some false)) = some r := by rw [if_neg (show ¬ (false = true) by decide)] at H; exact H
        clear H
        have H := H1
        clear H1
        by_cases c34 : (t190.toList = ([] : List UInt8))
        · rw [if_pos c34] at H
          have c34b0 : (t190.toList == ([] : List UInt8)) = true := beq_iff_eq.mpr c34
          try (have c34b0e := c34b0; simp only [show ∀ l_ : List UInt8, (l_ == ([] : List UInt8)) = l_.isEmpty from fun l_ => by cases l_ <;> rfl] at c34b0e)
          have c34b1 : (t190.toList != ([] : List UInt8)) = false := bne_eq_false_iff_eq.mpr c34
          clear c34
          by_cases c35 : t189.toList = ([] : List UInt8)
          · rw [if_pos c35] at H
            have c35b0 : (t189.toList == ([] : List UInt8)) = true := beq_iff_eq.mpr c35
            try (have c35b0e := c35b0; simp only [show ∀ l_ : List UInt8, (l_ == ([] : List UInt8)) = l_.isEmpty from fun l_ => by cases l_ <;> rfl] at c35b0e)
            have c35b1 : (t189.toList != ([] : List UInt8)) = false := bne_eq_false_iff_eq.mpr c35
            clear c35
            obtain rfl := Option.some.inj H
            go_enter Tryd.func5, Tryd.ntmps5
            go_wp2_with (first | ((with_reducible refine gate_callee (f := 20) rfl ?_); refine goesL_ (some 7) rfl rfl Tryd.func20 (by kernel_rfl) rfl #[] rfl (by (try simp only [List.map_toArray, List.map_cons, List.map_nil]); first | done | rfl | (simp only [List.length_drop, List.length_take]; rfl)) ?_; (with_reducible refine (anamnesislaw01_fixed.calls  t188 _ A3.out (tab_on htab_.out (by repeat (first | (with_reducible first | exact HB.out | apply below_alloc | apply pw_below_drewN | apply below_drew1) | exact HB.out)))).mono ?_); rintro e w36 ⟨rfl, hb⟩; refine ⟨_, rfl, ?_⟩; have n0_ := Aside0.mk (below_step (by repeat (first | (with_reducible first | exact HB.out | apply below_alloc | apply pw_below_drewN | apply below_drew1) | exact HB.out)) hb); clear HB; have HB := n0_; clear n0_; (try clear hb); (try clear hb2); (try clear hk); (try clear hi)) | ((with_reducible refine gate_callee (f := 14) rfl ?_); refine goesL_ (some 10) rfl rfl Tryd.func14 (by kernel_rfl) rfl #[.int .i64 a0] rfl (by (try simp only [List.map_toArray, List.map_cons, List.map_nil]); first | done | rfl | (simp only [List.length_drop, List.length_take]; rfl)) ?_; (with_reducible refine (value_Text.calls a0 t189 _ A4.out (tab_on htab_.out (by repeat (first | (with_reducible first | exact HB.out | apply below_alloc | apply pw_below_drewN | apply below_drew1) | exact HB.out)))).mono ?_); rintro e w37 ⟨rfl, hb⟩; refine ⟨_, rfl, ?_⟩; have n0_ := Aside0.mk (below_step (by repeat (first | (with_reducible first | exact HB.out | apply below_alloc | apply pw_below_drewN | apply below_drew1) | exact HB.out)) hb); clear HB; have HB := n0_; clear n0_; (try clear hb); (try clear hb2); (try clear hk); (try clear hi)) | ((with_reducible refine gate_callee (f := 14) rfl ?_); refine goesL_ (some 12) rfl rfl Tryd.func14 (by kernel_rfl) rfl #[.int .i64 a1] rfl (by (try simp only [List.map_toArray, List.map_cons, List.map_nil]); first | done | rfl | (simp only [List.length_drop, List.length_take]; rfl)) ?_; (with_reducible refine (value_Text.calls a1 t190 _ A5.out (tab_on htab_.out (by repeat (first | (with_reducible first | exact HB.out | apply below_alloc | apply pw_below_drewN | apply below_drew1) | exact HB.out)))).mono ?_); rintro e w38 ⟨rfl, hb⟩; refine ⟨_, rfl, ?_⟩; have n0_ := Aside0.mk (below_step (by repeat (first | (with_reducible first | exact HB.out | apply below_alloc | apply pw_below_drewN | apply below_drew1) | exact HB.out)) hb); clear HB; have HB := n0_; clear n0_; (try clear hb); (try clear hb2); (try clear hk); (try clear hi)) | ((with_reducible refine gate_callee (f := 12) rfl ?_); refine goesL_ (some 16) rfl rfl Tryd.func12 (by kernel_rfl) rfl #[.int .i64 a0] rfl (by (try simp only [List.map_toArray, List.map_cons, List.map_nil]); first | done | rfl | (simp only [List.length_drop, List.length_take]; rfl)) ?_; (with_reducible refine (value_May.calls a0 false _ A6.out).mono ?_); rintro e w' ⟨rfl, ⟨nd, rfl⟩⟩; refine ⟨_, rfl, ?_⟩) | (go_at_call 12; (with_reducible refine (value_May.calls a1 false _ A24.out).mono ?_); rintro e w' ⟨rfl, ⟨nd, rfl⟩⟩))
            go_ret
            exact ⟨by first | rfl | (simp [errW_none, errW_some] <;> rfl) | (simp [*, errW_none, errW_some] <;> rfl) | (simp [wrap64, errW_none, errW_some]; done) | (simp [wrap64, errW_none, errW_some]; exact eq_of_beq hr_.out), by repeat (first | (with_reducible first | exact HB.out | apply below_alloc | apply pw_below_drewN | apply below_drew1) | exact HB.out)⟩
          · rw [if_neg c35] at H
            have c35b0 : (t189.toList == ([] : List UInt8)) = false := beq_eq_false_iff_ne.mpr c35
            try (have c35b0e := c35b0; simp only [show ∀ l_ : List UInt8, (l_ == ([] : List UInt8)) = l_.isEmpty from fun l_ => by cases l_ <;> rfl] at c35b0e)
            have c35b1 : (t189.toList != ([] : List UInt8)) = true := bne_iff_ne.mpr c35
            by_cases c39 : t190.toList = ([] : List UInt8)
            · rw [if_pos c39] at H
              have c39b0 : (t190.toList == ([] : List UInt8)) = true := beq_iff_eq.mpr c39
              try (have c39b0e := c39b0; simp only [show ∀ l_ : List UInt8, (l_ == ([] : List UInt8)) = l_.isEmpty from fun l_ => by cases l_ <;> rfl] at c39b0e)
              have c39b1 : (t190.toList != ([] : List UInt8)) = false := bne_eq_false_iff_eq.mpr c39
              clear c39
              obtain rfl := Option.some.inj H
              go_enter Tryd.func5, Tryd.ntmps5
              go_wp2_with (first | ((with_reducible refine gate_callee (f := 20) rfl ?_); refine goesL_ (some 7) rfl rfl Tryd.func20 (by kernel_rfl) rfl #[] rfl (by (try simp only [List.map_toArray, List.map_cons, List.map_nil]); first | done | rfl | (simp only [List.length_drop, List.length_take]; rfl)) ?_; (with_reducible refine (anamnesislaw01_fixed.calls  t188 _ A3.out (tab_on htab_.out (by repeat (first | (with_reducible first | exact HB.out | apply below_alloc | apply pw_below_drewN | apply below_drew1) | exact HB.out)))).mono ?_); rintro e w40 ⟨rfl, hb⟩; refine ⟨_, rfl, ?_⟩; have n0_ := Aside0.mk (below_step (by repeat (first | (with_reducible first | exact HB.out | apply below_alloc | apply pw_below_drewN | apply below_drew1) | exact HB.out)) hb); clear HB; have HB := n0_; clear n0_; (try clear hb); (try clear hb2); (try clear hk); (try clear hi)) | ((with_reducible refine gate_callee (f := 14) rfl ?_); refine goesL_ (some 10) rfl rfl Tryd.func14 (by kernel_rfl) rfl #[.int .i64 a0] rfl (by (try simp only [List.map_toArray, List.map_cons, List.map_nil]); first | done | rfl | (simp only [List.length_drop, List.length_take]; rfl)) ?_; (with_reducible refine (value_Text.calls a0 t189 _ A4.out (tab_on htab_.out (by repeat (first | (with_reducible first | exact HB.out | apply below_alloc | apply pw_below_drewN | apply below_drew1) | exact HB.out)))).mono ?_); rintro e w41 ⟨rfl, hb⟩; refine ⟨_, rfl, ?_⟩; have n0_ := Aside0.mk (below_step (by repeat (first | (with_reducible first | exact HB.out | apply below_alloc | apply pw_below_drewN | apply below_drew1) | exact HB.out)) hb); clear HB; have HB := n0_; clear n0_; (try clear hb); (try clear hb2); (try clear hk); (try clear hi)) | ((with_reducible refine gate_callee (f := 14) rfl ?_); refine goesL_ (some 12) rfl rfl Tryd.func14 (by kernel_rfl) rfl #[.int .i64 a1] rfl (by (try simp only [List.map_toArray, List.map_cons, List.map_nil]); first | done | rfl | (simp only [List.length_drop, List.length_take]; rfl)) ?_; (with_reducible refine (value_Text.calls a1 t190 _ A5.out (tab_on htab_.out (by repeat (first | (with_reducible first | exact HB.out | apply below_alloc | apply pw_below_drewN | apply below_drew1) | exact HB.out)))).mono ?_); rintro e w42 ⟨rfl, hb⟩; refine ⟨_, rfl, ?_⟩; have n0_ := Aside0.mk (below_step (by repeat (first | (with_reducible first | exact HB.out | apply below_alloc | apply pw_below_drewN | apply below_drew1) | exact HB.out)) hb); clear HB; have HB := n0_; clear n0_; (try clear hb); (try clear hb2); (try clear hk); (try clear hi)) | ((with_reducible refine gate_callee (f := 12) rfl ?_); refine goesL_ (some 16) rfl rfl Tryd.func12 (by kernel_rfl) rfl #[.int .i64 a0] rfl (by (try simp only [List.map_toArray, List.map_cons, List.map_nil]); first | done | rfl | (simp only [List.length_drop, List.length_take]; rfl)) ?_; (with_reducible refine (value_May.calls a0 false _ A6.out).mono ?_); rintro e w' ⟨rfl, ⟨nd, rfl⟩⟩; refine ⟨_, rfl, ?_⟩) | (go_at_call 12; (with_reducible refine (value_May.calls a1 false _ A24.out).mono ?_); rintro e w' ⟨rfl, ⟨nd, rfl⟩⟩))
              go_ret
              exact ⟨by first | rfl | (simp [errW_none, errW_some] <;> rfl) | (simp [*, errW_none, errW_some] <;> rfl) | (simp [wrap64, errW_none, errW_some]; done) | (simp [wrap64, errW_none, errW_some]; exact eq_of_beq hr_.out), by repeat (first | (with_reducible first | exact HB.out | apply below_alloc | apply pw_below_drewN | apply below_drew1) | exact HB.out)⟩
            · rw [if_neg c39] at H
              have c39b0 : (t190.toList == ([] : List UInt8)) = false := beq_eq_false_iff_ne.mpr c39
              try (have c39b0e := c39b0; simp only [show ∀ l_ : List UInt8, (l_ == ([] : List UInt8)) = l_.isEmpty from fun l_ => by cases l_ <;> rfl] at c39b0e)
              have c39b1 : (t190.toList != ([] : List UInt8)) = true := bne_iff_ne.mpr c39
              obtain rfl := Option.some.inj H
              go_enter Tryd.func5, Tryd.ntmps5
              go_wp2_with (first | ((with_reducible refine gate_callee (f := 20) rfl ?_); refine goesL_ (some 7) rfl rfl Tryd.func20 (by kernel_rfl) rfl #[] rfl (by (try simp only [List.map_toArray, List.map_cons, List.map_nil]); first | done | rfl | (simp only [List.length_drop, List.length_take]; rfl)) ?_; (with_reducible refine (anamnesislaw01_fixed.calls  t188 _ A3.out (tab_on htab_.out (by repeat (first | (with_reducible first | exact HB.out | apply below_alloc | apply pw_below_drewN | apply below_drew1) | exact HB.out)))).mono ?_); rintro e w43 ⟨rfl, hb⟩; refine ⟨_, rfl, ?_⟩; have n0_ := Aside0.mk (below_step (by repeat (first | (with_reducible first | exact HB.out | apply below_alloc | apply pw_below_drewN | apply below_drew1) | exact HB.out)) hb); clear HB; have HB := n0_; clear n0_; (try clear hb); (try clear hb2); (try clear hk); (try clear hi)) | ((with_reducible refine gate_callee (f := 14) rfl ?_); refine goesL_ (some 10) rfl rfl Tryd.func14 (by kernel_rfl) rfl #[.int .i64 a0] rfl (by (try simp only [List.map_toArray, List.map_cons, List.map_nil]); first | done | rfl | (simp only [List.length_drop, List.length_take]; rfl)) ?_; (with_reducible refine (value_Text.calls a0 t189 _ A4.out (tab_on htab_.out (by repeat (first | (with_reducible first | exact HB.out | apply below_alloc | apply pw_below_drewN | apply below_drew1) | exact HB.out)))).mono ?_); rintro e w44 ⟨rfl, hb⟩; refine ⟨_, rfl, ?_⟩; have n0_ := Aside0.mk (below_step (by repeat (first | (with_reducible first | exact HB.out | apply below_alloc | apply pw_below_drewN | apply below_drew1) | exact HB.out)) hb); clear HB; have HB := n0_; clear n0_; (try clear hb); (try clear hb2); (try clear hk); (try clear hi)) | ((with_reducible refine gate_callee (f := 14) rfl ?_); refine goesL_ (some 12) rfl rfl Tryd.func14 (by kernel_rfl) rfl #[.int .i64 a1] rfl (by (try simp only [List.map_toArray, List.map_cons, List.map_nil]); first | done | rfl | (simp only [List.length_drop, List.length_take]; rfl)) ?_; (with_reducible refine (value_Text.calls a1 t190 _ A5.out (tab_on htab_.out (by repeat (first | (with_reducible first | exact HB.out | apply below_alloc | apply pw_below_drewN | apply below_drew1) | exact HB.out)))).mono ?_); rintro e w45 ⟨rfl, hb⟩; refine ⟨_, rfl, ?_⟩; have n0_ := Aside0.mk (below_step (by repeat (first | (with_reducible first | exact HB.out | apply below_alloc | apply pw_below_drewN | apply below_drew1) | exact HB.out)) hb); clear HB; have HB := n0_; clear n0_; (try clear hb); (try clear hb2); (try clear hk); (try clear hi)) | ((with_reducible refine gate_callee (f := 12) rfl ?_); refine goesL_ (some 16) rfl rfl Tryd.func12 (by kernel_rfl) rfl #[.int .i64 a0] rfl (by (try simp only [List.map_toArray, List.map_cons, List.map_nil]); first | done | rfl | (simp only [List.length_drop, List.length_take]; rfl)) ?_; (with_reducible refine (value_May.calls a0 false _ A6.out).mono ?_); rintro e w' ⟨rfl, ⟨nd, rfl⟩⟩; refine ⟨_, rfl, ?_⟩) | (go_at_call 12; (with_reducible refine (value_May.calls a1 false _ A24.out).mono ?_); rintro e w' ⟨rfl, ⟨nd, rfl⟩⟩))
              go_ret
              exact ⟨by first | rfl | (simp [errW_none, errW_some] <;> rfl) | (simp [*, errW_none, errW_some] <;> rfl) | (simp [wrap64, errW_none, errW_some]; done) | (simp [wrap64, errW_none, errW_some]; exact eq_of_beq hr_.out), by repeat (first | (with_reducible first | exact HB.out | apply below_alloc | apply pw_below_drewN | apply below_drew1) | exact HB.out)⟩
        · rw [if_neg c34] at H
          have c34b0 : (t190.toList == ([] : List UInt8)) = false := beq_eq_false_iff_ne.mpr c34
          try (have c34b0e := c34b0; simp only [show ∀ l_ : List UInt8, (l_ == ([] : List UInt8)) = l_.isEmpty from fun l_ => by cases l_ <;> rfl] at c34b0e)
          have c34b1 : (t190.toList != ([] : List UInt8)) = true := bne_iff_ne.mpr c34
          obtain rfl := Option.some.inj H
          exact absurd hr_.out (by decide)
    · rw [if_neg c23] at H
      have c23b0 : (t189.toList == ([] : List UInt8)) = false := beq_eq_false_iff_ne.mpr c23
      try (have c23b0e := c23b0; simp only [show ∀ l_ : List UInt8, (l_ == ([] : List UInt8)) = l_.isEmpty from fun l_ => by cases l_ <;> rfl] at c23b0e)
      have c23b1 : (t189.toList != ([] : List UInt8)) = true := bne_iff_ne.mpr c23
      obtain rfl := Option.some.inj H
      exact absurd hr_.out (by decide)

/-- THE ONE PURE STATEMENT of anamnesislaw01_ValueTexts: yours. -/
def anamnesislaw01_ValueTexts.Pure : Prop := ∀ (a0 : Int) (a1 : Int), (Lit.int .i64 a0).wf = true → (Lit.int .i64 a1).wf = true → anamnesislaw01_ValueTexts.f a0 a1 = some true
theorem anamnesislaw01_ValueTexts.walk (P : anamnesislaw01_ValueTexts.Pure) (a0 : Int) (a1 : Int) (w : World) (w0 : (Lit.int .i64 a0).wf = true) (w1 : (Lit.int .i64 a1).wf = true) (htab : pow10Is w) :
    Calls Tryd.prog 5 #[.int .i64 a0, .int .i64 a1] w fun e w' => e = .returned (.bool true) ∧ Below w.heap.size w w' := by
  have h := P a0 a1 w0 w1
  refine (anamnesislaw01_ValueTexts.calls a0 a1 true w h rfl htab).mono ?_
  rintro e w' ⟨rfl, hd⟩
  exact ⟨rfl, hd⟩

end Go.Proofs.YtafbiccgbgcooaaDoor.PVal
