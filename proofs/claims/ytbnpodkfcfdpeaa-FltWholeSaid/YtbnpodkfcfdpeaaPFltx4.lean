-- laid by a program of this session (gprint.py)
import Derived.Test.YtbnpodkfcfdpeaaPFltx0
import Derived.Test.YtbnpodkfcfdpeaaPFltx1
import Derived.Test.YtbnpodkfcfdpeaaPFltx2
import Derived.Test.YtbnpodkfcfdpeaaPFltx3
namespace Go.Proofs.Ytbnpodkfcfdpeaa.PFlt
open Go.RowKit Go.Proofs.YtbnpodkfcfdpeaaW.PrintWords Go.Proofs.YtbnpodkfcfdpeaaW.PrintLast Go.Proofs.YtbnpodkfcfdpeaaW.PrintMore
attribute [local go_sem] max2_int min2_int max_two min_two max_three min_three max_four min_four   -- for this text's walks alone
set_option linter.unusedVariables false
set_option linter.unusedSimpArgs false

/-! ### anamnesisref02_sum: function 31 -/
mutual
def anamnesisref02_sum.j0 : Nat → Int → Int → Int → Int → Bool → Option (Int)
  | 0, _, _, _, _, _ => none
  | k + 1, x0, x1, x5, x6, x31 => if x31 = true then ((anamnesisref02_NaN.f).bind fun t153 => (some t153)) else (if x5 = 1 then (anamnesisref02_sum.j1 k x0 x1 x5 x6 true) else (if x6 = 2 then (anamnesisref02_sum.j1 k x0 x1 x5 x6 (x5 != 2)) else (anamnesisref02_sum.j1 k x0 x1 x5 x6 false)))
def anamnesisref02_sum.j1 : Nat → Int → Int → Int → Int → Bool → Option (Int)
  | 0, _, _, _, _, _ => none
  | k + 1, x0, x1, x5, x6, x42 => if x42 = true then (some x0) else (if x6 = 1 then (anamnesisref02_sum.j2 k x0 x1 x5 true) else (if x5 = 2 then (anamnesisref02_sum.j2 k x0 x1 x5 (x6 != 2)) else (anamnesisref02_sum.j2 k x0 x1 x5 false)))
def anamnesisref02_sum.j2 : Nat → Int → Int → Int → Bool → Option (Int)
  | 0, _, _, _, _ => none
  | k + 1, x0, x1, x5, x53 => if x53 = true then (some x1) else (if x5 = 2 then ((anamnesisref02_sign.f x0).bind fun t154 => (if t154 = true then ((anamnesisref02_sign.f x1).bind fun t155 => ((anamnesisref02_with.f t155 0).bind fun t156 => (some t156))) else ((anamnesisref02_with.f false 0).bind fun t157 => (some t157)))) else ((anamnesisref02_add.f k x0 x1).bind fun t158 => (some t158)))
end
def anamnesisref02_sum.f (k : Nat) (a0 : Int) (a1 : Int) : Option (Int) := (anamnesisref02_Kind.f a0).bind fun t149 => ((anamnesisref02_Kind.f a1).bind fun t150 => (if t149 = 0 then (anamnesisref02_sum.j0 k a0 a1 t149 t150 true) else (if t150 = 0 then (anamnesisref02_sum.j0 k a0 a1 t149 t150 true) else (if t149 = 1 then (if t150 = 1 then ((anamnesisref02_sign.f a0).bind fun t151 => ((anamnesisref02_sign.f a1).bind fun t152 => (anamnesisref02_sum.j0 k a0 a1 t149 t150 (!t151 == t152)))) else (anamnesisref02_sum.j0 k a0 a1 t149 t150 false)) else (anamnesisref02_sum.j0 k a0 a1 t149 t150 false)))))
theorem anamnesisref02_sum.mono_l : ∀ k, (∀ y0 y1 y2 y3 y4, LeO (anamnesisref02_sum.j0 k y0 y1 y2 y3 y4) (anamnesisref02_sum.j0 (k + 1) y0 y1 y2 y3 y4)) ∧ (∀ y0 y1 y2 y3 y4, LeO (anamnesisref02_sum.j1 k y0 y1 y2 y3 y4) (anamnesisref02_sum.j1 (k + 1) y0 y1 y2 y3 y4)) ∧ (∀ y0 y1 y2 y3, LeO (anamnesisref02_sum.j2 k y0 y1 y2 y3) (anamnesisref02_sum.j2 (k + 1) y0 y1 y2 y3))
  | 0 => ⟨fun _ _ _ _ _ r h => by simp [anamnesisref02_sum.j0] at h, fun _ _ _ _ _ r h => by simp [anamnesisref02_sum.j1] at h, fun _ _ _ _ r h => by simp [anamnesisref02_sum.j2] at h⟩
  | k + 1 => by
    obtain ⟨ih0, ih1, ih2⟩ := anamnesisref02_sum.mono_l k
    refine ⟨?_, ?_, ?_⟩
    · intro y0 y1 y2 y3 y4
      unfold anamnesisref02_sum.j0
      repeat' first
      | (with_reducible exact ih0 _ _ _ _ _)
      | (with_reducible exact ih1 _ _ _ _ _)
      | (with_reducible exact ih2 _ _ _ _)
      | (with_reducible exact anamnesisref02_add.mono _ _ _)
      | (with_reducible exact LeO.refl _)
      | (with_reducible exact LeO.none _)
      | (with_reducible refine LeO.ite ?_ ?_)
      | (with_reducible refine LeO.bind ?_ (fun _ => ?_))
      | exact ih0 _ _ _ _ _
      | exact ih1 _ _ _ _ _
      | exact ih2 _ _ _ _
      | exact anamnesisref02_add.mono _ _ _
      | exact LeO.none _
      | refine LeO.ite ?_ ?_
      | refine LeO.bind ?_ (fun _ => ?_)
    · intro y0 y1 y2 y3 y4
      unfold anamnesisref02_sum.j1
      repeat' first
      | (with_reducible exact ih0 _ _ _ _ _)
      | (with_reducible exact ih1 _ _ _ _ _)
      | (with_reducible exact ih2 _ _ _ _)
      | (with_reducible exact anamnesisref02_add.mono _ _ _)
      | (with_reducible exact LeO.refl _)
      | (with_reducible exact LeO.none _)
      | (with_reducible refine LeO.ite ?_ ?_)
      | (with_reducible refine LeO.bind ?_ (fun _ => ?_))
      | exact ih0 _ _ _ _ _
      | exact ih1 _ _ _ _ _
      | exact ih2 _ _ _ _
      | exact anamnesisref02_add.mono _ _ _
      | exact LeO.none _
      | refine LeO.ite ?_ ?_
      | refine LeO.bind ?_ (fun _ => ?_)
    · intro y0 y1 y2 y3
      unfold anamnesisref02_sum.j2
      repeat' first
      | (with_reducible exact ih0 _ _ _ _ _)
      | (with_reducible exact ih1 _ _ _ _ _)
      | (with_reducible exact ih2 _ _ _ _)
      | (with_reducible exact anamnesisref02_add.mono _ _ _)
      | (with_reducible exact LeO.refl _)
      | (with_reducible exact LeO.none _)
      | (with_reducible refine LeO.ite ?_ ?_)
      | (with_reducible refine LeO.bind ?_ (fun _ => ?_))
      | exact ih0 _ _ _ _ _
      | exact ih1 _ _ _ _ _
      | exact ih2 _ _ _ _
      | exact anamnesisref02_add.mono _ _ _
      | exact LeO.none _
      | refine LeO.ite ?_ ?_
      | refine LeO.bind ?_ (fun _ => ?_)
theorem anamnesisref02_sum.mono : ∀ a0 a1 k, LeO (anamnesisref02_sum.f k a0 a1) (anamnesisref02_sum.f (k + 1) a0 a1) := by
  intro a0 a1 k
  obtain ⟨ih0, ih1, ih2⟩ := anamnesisref02_sum.mono_l k
  unfold anamnesisref02_sum.f
  repeat' first
      | (with_reducible exact ih0 _ _ _ _ _)
      | (with_reducible exact ih1 _ _ _ _ _)
      | (with_reducible exact ih2 _ _ _ _)
      | (with_reducible exact anamnesisref02_add.mono _ _ _)
      | (with_reducible exact LeO.refl _)
      | (with_reducible exact LeO.none _)
      | (with_reducible refine LeO.ite ?_ ?_)
      | (with_reducible refine LeO.bind ?_ (fun _ => ?_))
      | exact ih0 _ _ _ _ _
      | exact ih1 _ _ _ _ _
      | exact ih2 _ _ _ _
      | exact anamnesisref02_add.mono _ _ _
      | exact LeO.none _
      | refine LeO.ite ?_ ?_
      | refine LeO.bind ?_ (fun _ => ?_)
set_option maxHeartbeats 8000000 in
set_option maxRecDepth 100000 in
theorem anamnesisref02_sum.calls (k : Nat) (a0 : Int) (a1 : Int) (r : Int) (w : World) (h : anamnesisref02_sum.f k a0 a1 = some r) :
    Calls Try.prog 31 #[.int .i64 a0, .int .i64 a1] w fun e w' => e = .returned (.int .i64 r) ∧ Below w.heap.size w w' := by
  have HB := Aside0.mk (Below.refl w.heap.size w)
  have H : ((anamnesisref02_Kind.f a0).bind fun t149 => ((anamnesisref02_Kind.f a1).bind fun t150 => (if t149 = 0 then (anamnesisref02_sum.j0 k a0 a1 t149 t150 true) else (if t150 = 0 then (anamnesisref02_sum.j0 k a0 a1 t149 t150 true) else (if t149 = 1 then (if t150 = 1 then ((anamnesisref02_sign.f a0).bind fun t151 => ((anamnesisref02_sign.f a1).bind fun t152 => (anamnesisref02_sum.j0 k a0 a1 t149 t150 (!t151 == t152)))) else (anamnesisref02_sum.j0 k a0 a1 t149 t150 false)) else (anamnesisref02_sum.j0 k a0 a1 t149 t150 false)))))) = some r := h
  clear h
  replace H := Option.bind_eq_some_iff.mp H
  obtain ⟨t149, A30, H⟩ := H
  replace H : ((anamnesisref02_Kind.f a1).bind fun t150 => (if t149 = 0 then (anamnesisref02_sum.j0 k a0 a1 t149 t150 true) else (if t150 = 0 then (anamnesisref02_sum.j0 k a0 a1 t149 t150 true) else (if t149 = 1 then (if t150 = 1 then ((anamnesisref02_sign.f a0).bind fun t151 => ((anamnesisref02_sign.f a1).bind fun t152 => (anamnesisref02_sum.j0 k a0 a1 t149 t150 (!t151 == t152)))) else (anamnesisref02_sum.j0 k a0 a1 t149 t150 false)) else (anamnesisref02_sum.j0 k a0 a1 t149 t150 false))))) = some r := H
  have A3 := Aside0.mk A30
  clear A30
  replace H := Option.bind_eq_some_iff.mp H
  obtain ⟨t150, A40, H⟩ := H
  replace H : (if t149 = 0 then (anamnesisref02_sum.j0 k a0 a1 t149 t150 true) else (if t150 = 0 then (anamnesisref02_sum.j0 k a0 a1 t149 t150 true) else (if t149 = 1 then (if t150 = 1 then ((anamnesisref02_sign.f a0).bind fun t151 => ((anamnesisref02_sign.f a1).bind fun t152 => (anamnesisref02_sum.j0 k a0 a1 t149 t150 (!t151 == t152)))) else (anamnesisref02_sum.j0 k a0 a1 t149 t150 false)) else (anamnesisref02_sum.j0 k a0 a1 t149 t150 false)))) = some r := H
  have A4 := Aside0.mk A40
  clear A40
  have HC5 := Aside0.mk H
  clear H
  go_enter Try.func31, Try.ntmps31
  go_upto_region 2 with (first | ((with_reducible refine gate_callee (f := 17) rfl ?_); refine goesL_ (some 8) rfl rfl Try.func17 (by kernel_rfl) rfl #[.int .i64 a0] rfl (by (try simp only [List.map_toArray, List.map_cons, List.map_nil]); first | done | rfl | (simp only [List.length_drop, List.length_take]; rfl)) ?_; (with_reducible refine (anamnesisref02_Kind.calls a0 t149 _ A3.out).mono ?_); rintro e w' ⟨rfl, ⟨nd, rfl⟩⟩; refine ⟨_, rfl, ?_⟩) | ((with_reducible refine gate_callee (f := 17) rfl ?_); refine goesL_ (some 10) rfl rfl Try.func17 (by kernel_rfl) rfl #[.int .i64 a1] rfl (by (try simp only [List.map_toArray, List.map_cons, List.map_nil]); first | done | rfl | (simp only [List.length_drop, List.length_take]; rfl)) ?_; (with_reducible refine (anamnesisref02_Kind.calls a1 t150 _ A4.out).mono ?_); rintro e w' ⟨rfl, ⟨nd, rfl⟩⟩; refine ⟨_, rfl, ?_⟩))
  (try simp only [Act.put, List.setIfInBounds_toArray, List.set_cons_zero, List.set_cons_succ])
  go_cut [31] (fun v31 wc => ∃ (kq : Nat) (x31_4 : Bool), v31 = .bool x31_4 ∧ Aside0 (anamnesisref02_sum.j0 kq a0 a1 t149 t150 x31_4 = some r) ∧ Aside0 (kq ≤ k) ∧ Aside0 (Below w.heap.size w wc))
  case first =>
    have H := HC5.out
    clear HC5
    by_cases c6 : t149 = 0
    · rw [if_pos c6] at H
      have c6b0 : (t149 == 0) = true := beq_iff_eq.mpr c6
      have c6b1 : (t149 != 0) = false := bne_eq_false_iff_eq.mpr c6
      clear c6
      (first | rw [c6b0] | (simp only [i64_w, i32_w]; rw [c6b0]) | skip)
      have H' := Aside0.mk H
      clear H
      go_wp2
      go_meet
      case rel => exact ⟨_, (true), (by first | rfl | (simp; done) | (simp [*]; done)), H', ⟨by first | omega | exact Nat.le_refl _⟩, ⟨by repeat (first | (with_reducible first | exact HB.out | apply below_alloc | apply pw_below_drewN | apply below_drew1) | exact HB.out)⟩⟩
    · rw [if_neg c6] at H
      have c6b0 : (t149 == 0) = false := beq_eq_false_iff_ne.mpr c6
      have c6b1 : (t149 != 0) = true := bne_iff_ne.mpr c6
      (first | rw [c6b0] | (simp only [i64_w, i32_w]; rw [c6b0]) | skip)
      by_cases c7 : t150 = 0
      · rw [if_pos c7] at H
        have c7b0 : (t150 == 0) = true := beq_iff_eq.mpr c7
        have c7b1 : (t150 != 0) = false := bne_eq_false_iff_eq.mpr c7
        clear c7
        have H' := Aside0.mk H
        clear H
        go_wp2
        go_meet
        case rel => exact ⟨_, (true), (by first | rfl | (simp; done) | (simp [*]; done)), H', ⟨by first | omega | exact Nat.le_refl _⟩, ⟨by repeat (first | (with_reducible first | exact HB.out | apply below_alloc | apply pw_below_drewN | apply below_drew1) | exact HB.out)⟩⟩
      · rw [if_neg c7] at H
        have c7b0 : (t150 == 0) = false := beq_eq_false_iff_ne.mpr c7
        have c7b1 : (t150 != 0) = true := bne_iff_ne.mpr c7
        by_cases c8 : t149 = 1
        · rw [if_pos c8] at H
          have c8b0 : (t149 == 1) = true := beq_iff_eq.mpr c8
          have c8b1 : (t149 != 1) = false := bne_eq_false_iff_eq.mpr c8
          clear c8
          by_cases c9 : t150 = 1
          · rw [if_pos c9] at H
            have c9b0 : (t150 == 1) = true := beq_iff_eq.mpr c9
            have c9b1 : (t150 != 1) = false := bne_eq_false_iff_eq.mpr c9
            clear c9
            replace H := Option.bind_eq_some_iff.mp H
            obtain ⟨t151, A100, H⟩ := H
            replace H : ((anamnesisref02_sign.f a1).bind fun t152 => (anamnesisref02_sum.j0 k a0 a1 t149 t150 (!t151 == t152))) = some r := H
            have A10 := Aside0.mk A100
            clear A100
            replace H := Option.bind_eq_some_iff.mp H
            obtain ⟨t152, A110, H⟩ := H
            replace H : (anamnesisref02_sum.j0 k a0 a1 t149 t150 (!t151 == t152)) = some r := H
            have A11 := Aside0.mk A110
            clear A110
            have H' := Aside0.mk H
            clear H
            go_wp2_with (first | (go_at_call 33; (with_reducible refine (anamnesisref02_sign.calls a0 t151 _ A10.out).mono ?_); rintro e w' ⟨rfl, ⟨nd, rfl⟩⟩) | (go_at_call 33; (with_reducible refine (anamnesisref02_sign.calls a1 t152 _ A11.out).mono ?_); rintro e w' ⟨rfl, ⟨nd, rfl⟩⟩))
            go_meet
            case rel => exact ⟨_, ((!t151 == t152)), (by first | rfl | (simp; done) | (simp [*]; done)), H', ⟨by first | omega | exact Nat.le_refl _⟩, ⟨by repeat (first | (with_reducible first | exact HB.out | apply below_alloc | apply pw_below_drewN | apply below_drew1) | exact HB.out)⟩⟩
          · rw [if_neg c9] at H
            have c9b0 : (t150 == 1) = false := beq_eq_false_iff_ne.mpr c9
            have c9b1 : (t150 != 1) = true := bne_iff_ne.mpr c9
            have H' := Aside0.mk H
            clear H
            go_wp2
            go_meet
            case rel => exact ⟨_, (false), (by first | rfl | (simp; done) | (simp [*]; done)), H', ⟨by first | omega | exact Nat.le_refl _⟩, ⟨by repeat (first | (with_reducible first | exact HB.out | apply below_alloc | apply pw_below_drewN | apply below_drew1) | exact HB.out)⟩⟩
        · rw [if_neg c8] at H
          have c8b0 : (t149 == 1) = false := beq_eq_false_iff_ne.mpr c8
          have c8b1 : (t149 != 1) = true := bne_iff_ne.mpr c8
          have H' := Aside0.mk H
          clear H
          go_wp2
          go_meet
          case rel => exact ⟨_, (false), (by first | rfl | (simp; done) | (simp [*]; done)), H', ⟨by first | omega | exact Nat.le_refl _⟩, ⟨by repeat (first | (with_reducible first | exact HB.out | apply below_alloc | apply pw_below_drewN | apply below_drew1) | exact HB.out)⟩⟩
  case rest =>
    clear HC5
    try clear c1
    try clear p2
    try clear c3
    try clear c6
    try clear c6b0
    try clear c6b1
    try clear c7
    try clear c7b0
    try clear c7b1
    try clear c8
    try clear c8b0
    try clear c8b1
    try clear c9
    try clear c9b0
    try clear c9b1
    obtain ⟨kq, x31_4, rfl, HA, HJ4, HB⟩ := hcut
    cases kq with
    | zero => exact absurd HA.out (by simp [anamnesisref02_sum.j0])
    | succ kj4 =>
      have H := HA.out
      clear HA
      simp only [anamnesisref02_sum.j0] at H
      by_cases c12 : x31_4 = true
      · subst c12
        have H1 : ((anamnesisref02_NaN.f).bind fun t153 => (some t153)) = some r := by rw [if_pos rfl] at H; exact H
        clear H
        have H := H1
        clear H1
        replace H := Option.bind_eq_some_iff.mp H
        obtain ⟨t153, A130, H⟩ := H
        replace H : (some t153) = some r := H
        have A13 := Aside0.mk A130
        clear A130
        obtain rfl := Option.some.inj H
        go_wp2_with (first | ((with_reducible refine gate_callee (f := 28) rfl ?_); refine goesL_ (some 32) rfl rfl Try.func28 (by kernel_rfl) rfl #[] rfl (by (try simp only [List.map_toArray, List.map_cons, List.map_nil]); first | done | rfl | (simp only [List.length_drop, List.length_take]; rfl)) ?_; (with_reducible refine (anamnesisref02_NaN.calls  t153 _ A13.out).mono ?_); rintro e w' ⟨rfl, ⟨nd, rfl⟩⟩; refine ⟨_, rfl, ?_⟩))
        go_ret
        exact ⟨by first | rfl | (simp [errW_none, errW_some] <;> rfl) | (simp [*, errW_none, errW_some] <;> rfl) | (simp [wrap64, errW_none, errW_some]; done), by repeat (first | (with_reducible first | exact HB.out | apply below_alloc | apply pw_below_drewN | apply below_drew1) | exact HB.out)⟩
      · replace c12 := Bool.eq_false_iff.mpr c12
        subst c12
        have H1 : (if t149 = 1 then (anamnesisref02_sum.j1 kj4 a0 a1 t149 t150 true) else (if t150 = 2 then (anamnesisref02_sum.j1 kj4 a0 a1 t149 t150 (t149 != 2)) else (anamnesisref02_sum.j1 kj4 a0 a1 t149 t150 false))) = some r := by rw [if_neg (show ¬ (false = true) by decide)] at H; exact H
        clear H
        have H := H1
        clear H1
        have HC14 := Aside0.mk H
        clear H
        go_upto_region 4 with (fail)
        go_cut [42] (fun v42 wc => ∃ (kq : Nat) (x42_13 : Bool), v42 = .bool x42_13 ∧ Aside0 (anamnesisref02_sum.j1 kq a0 a1 t149 t150 x42_13 = some r) ∧ Aside0 (kq ≤ kj4) ∧ Aside0 (Below w.heap.size w wc))
        case first =>
          have H := HC14.out
          clear HC14
          by_cases c15 : t149 = 1
          · rw [if_pos c15] at H
            have c15b0 : (t149 == 1) = true := beq_iff_eq.mpr c15
            have c15b1 : (t149 != 1) = false := bne_eq_false_iff_eq.mpr c15
            clear c15
            (first | rw [c15b0] | (simp only [i64_w, i32_w]; rw [c15b0]) | skip)
            have H' := Aside0.mk H
            clear H
            go_wp2
            go_meet
            case rel => exact ⟨_, (true), (by first | rfl | (simp; done) | (simp [*]; done)), H', ⟨by have := HJ4.out; first | omega | exact Nat.le_refl _⟩, ⟨by repeat (first | (with_reducible first | exact HB.out | apply below_alloc | apply pw_below_drewN | apply below_drew1) | exact HB.out)⟩⟩
          · rw [if_neg c15] at H
            have c15b0 : (t149 == 1) = false := beq_eq_false_iff_ne.mpr c15
            have c15b1 : (t149 != 1) = true := bne_iff_ne.mpr c15
            (first | rw [c15b0] | (simp only [i64_w, i32_w]; rw [c15b0]) | skip)
            by_cases c16 : t150 = 2
            · rw [if_pos c16] at H
              have c16b0 : (t150 == 2) = true := beq_iff_eq.mpr c16
              have c16b1 : (t150 != 2) = false := bne_eq_false_iff_eq.mpr c16
              clear c16
              have H' := Aside0.mk H
              clear H
              go_wp2
              go_meet
              case rel => exact ⟨_, ((t149 != 2)), (by first | rfl | (simp; done) | (simp [*]; done)), H', ⟨by have := HJ4.out; first | omega | exact Nat.le_refl _⟩, ⟨by repeat (first | (with_reducible first | exact HB.out | apply below_alloc | apply pw_below_drewN | apply below_drew1) | exact HB.out)⟩⟩
            · rw [if_neg c16] at H
              have c16b0 : (t150 == 2) = false := beq_eq_false_iff_ne.mpr c16
              have c16b1 : (t150 != 2) = true := bne_iff_ne.mpr c16
              have H' := Aside0.mk H
              clear H
              go_wp2
              go_meet
              case rel => exact ⟨_, (false), (by first | rfl | (simp; done) | (simp [*]; done)), H', ⟨by have := HJ4.out; first | omega | exact Nat.le_refl _⟩, ⟨by repeat (first | (with_reducible first | exact HB.out | apply below_alloc | apply pw_below_drewN | apply below_drew1) | exact HB.out)⟩⟩
        case rest =>
          clear HC14
          try clear c1
          try clear c2
          try clear p2
          try clear c3
          try clear c6
          try clear c6b0
          try clear c6b1
          try clear p6
          try clear c7
          try clear c7b0
          try clear c7b1
          try clear c8
          try clear c8b0
          try clear c8b1
          try clear c9
          try clear c9b0
          try clear c9b1
          try clear c12
          try clear c15
          try clear c15b0
          try clear c15b1
          try clear c16
          try clear c16b0
          try clear c16b1
          try clear p2
          obtain ⟨kq, x42_13, rfl, HA, HJ13, HB⟩ := hcut
          cases kq with
          | zero => exact absurd HA.out (by simp [anamnesisref02_sum.j1])
          | succ kj13 =>
            have H := HA.out
            clear HA
            simp only [anamnesisref02_sum.j1] at H
            by_cases c17 : x42_13 = true
            · subst c17
              have H1 : (some a0) = some r := by rw [if_pos rfl] at H; exact H
              clear H
              have H := H1
              clear H1
              obtain rfl := Option.some.inj H
              go_wp2
              go_ret
              exact ⟨by first | rfl | (simp [errW_none, errW_some] <;> rfl) | (simp [*, errW_none, errW_some] <;> rfl) | (simp [wrap64, errW_none, errW_some]; done), by repeat (first | (with_reducible first | exact HB.out | apply below_alloc | apply pw_below_drewN | apply below_drew1) | exact HB.out)⟩
            · replace c17 := Bool.eq_false_iff.mpr c17
              subst c17
              have H1 : (if t150 = 1 then (anamnesisref02_sum.j2 kj13 a0 a1 t149 true) else (if t149 = 2 then (anamnesisref02_sum.j2 kj13 a0 a1 t149 (t150 != 2)) else (anamnesisref02_sum.j2 kj13 a0 a1 t149 false))) = some r := by rw [if_neg (show ¬ (false = true) by decide)] at H; exact H
              clear H
              have H := H1
              clear H1
              have HC18 := Aside0.mk H
              clear H
              go_upto_region 6 with (fail)
              go_cut [53] (fun v53 wc => ∃ (kq : Nat) (x53_17 : Bool), v53 = .bool x53_17 ∧ Aside0 (anamnesisref02_sum.j2 kq a0 a1 t149 x53_17 = some r) ∧ Aside0 (kq ≤ kj13) ∧ Aside0 (Below w.heap.size w wc))
              case first =>
                have H := HC18.out
                clear HC18
                by_cases c19 : t150 = 1
                · rw [if_pos c19] at H
                  have c19b0 : (t150 == 1) = true := beq_iff_eq.mpr c19
                  have c19b1 : (t150 != 1) = false := bne_eq_false_iff_eq.mpr c19
                  clear c19
                  (first | rw [c19b0] | (simp only [i64_w, i32_w]; rw [c19b0]) | skip)
                  have H' := Aside0.mk H
                  clear H
                  go_wp2
                  go_meet
                  case rel => exact ⟨_, (true), (by first | rfl | (simp; done) | (simp [*]; done)), H', ⟨by have := HJ4.out; have := HJ13.out; first | omega | exact Nat.le_refl _⟩, ⟨by repeat (first | (with_reducible first | exact HB.out | apply below_alloc | apply pw_below_drewN | apply below_drew1) | exact HB.out)⟩⟩
                · rw [if_neg c19] at H
                  have c19b0 : (t150 == 1) = false := beq_eq_false_iff_ne.mpr c19
                  have c19b1 : (t150 != 1) = true := bne_iff_ne.mpr c19
                  (first | rw [c19b0] | (simp only [i64_w, i32_w]; rw [c19b0]) | skip)
                  by_cases c20 : t149 = 2
                  · rw [if_pos c20] at H
                    have c20b0 : (t149 == 2) = true := beq_iff_eq.mpr c20
                    have c20b1 : (t149 != 2) = false := bne_eq_false_iff_eq.mpr c20
                    clear c20
                    have H' := Aside0.mk H
                    clear H
                    go_wp2
                    go_meet
                    case rel => exact ⟨_, ((t150 != 2)), (by first | rfl | (simp; done) | (simp [*]; done)), H', ⟨by have := HJ4.out; have := HJ13.out; first | omega | exact Nat.le_refl _⟩, ⟨by repeat (first | (with_reducible first | exact HB.out | apply below_alloc | apply pw_below_drewN | apply below_drew1) | exact HB.out)⟩⟩
                  · rw [if_neg c20] at H
                    have c20b0 : (t149 == 2) = false := beq_eq_false_iff_ne.mpr c20
                    have c20b1 : (t149 != 2) = true := bne_iff_ne.mpr c20
                    have H' := Aside0.mk H
                    clear H
                    go_wp2
                    go_meet
                    case rel => exact ⟨_, (false), (by first | rfl | (simp; done) | (simp [*]; done)), H', ⟨by have := HJ4.out; have := HJ13.out; first | omega | exact Nat.le_refl _⟩, ⟨by repeat (first | (with_reducible first | exact HB.out | apply below_alloc | apply pw_below_drewN | apply below_drew1) | exact HB.out)⟩⟩
              case rest =>
                clear HC18
                try clear c1
                try clear c2
                try clear p2
                try clear c3
                try clear c6
                try clear c6b0
                try clear c6b1
                try clear p6
                try clear c7
                try clear c7b0
                try clear c7b1
                try clear c8
                try clear c8b0
                try clear c8b1
                try clear c9
                try clear c9b0
                try clear c9b1
                try clear c12
                try clear c15
                try clear c15b0
                try clear c15b1
                try clear c16
                try clear c16b0
                try clear c16b1
                try clear c17
                try clear c19
                try clear c19b0
                try clear c19b1
                try clear c20
                try clear c20b0
                try clear c20b1
                try clear p2
                try clear p6
                obtain ⟨kq, x53_17, rfl, HA, HJ17, HB⟩ := hcut
                cases kq with
                | zero => exact absurd HA.out (by simp [anamnesisref02_sum.j2])
                | succ kj17 =>
                  have H := HA.out
                  clear HA
                  simp only [anamnesisref02_sum.j2] at H
                  by_cases c21 : x53_17 = true
                  · subst c21
                    have H1 : (some a1) = some r := by rw [if_pos rfl] at H; exact H
                    clear H
                    have H := H1
                    clear H1
                    obtain rfl := Option.some.inj H
                    go_wp2
                    go_ret
                    exact ⟨by first | rfl | (simp [errW_none, errW_some] <;> rfl) | (simp [*, errW_none, errW_some] <;> rfl) | (simp [wrap64, errW_none, errW_some]; done), by repeat (first | (with_reducible first | exact HB.out | apply below_alloc | apply pw_below_drewN | apply below_drew1) | exact HB.out)⟩
                  · replace c21 := Bool.eq_false_iff.mpr c21
                    subst c21
                    have H1 : (if t149 = 2 then ((anamnesisref02_sign.f a0).bind fun t154 => (if t154 = true then ((anamnesisref02_sign.f a1).bind fun t155 => ((anamnesisref02_with.f t155 0).bind fun t156 => (some t156))) else ((anamnesisref02_with.f false 0).bind fun t157 => (some t157)))) else ((anamnesisref02_add.f kj17 a0 a1).bind fun t158 => (some t158))) = some r := by rw [if_neg (show ¬ (false = true) by decide)] at H; exact H
                    clear H
                    have H := H1
                    clear H1
                    by_cases c22 : t149 = 2
                    · rw [if_pos c22] at H
                      have c22b0 : (t149 == 2) = true := beq_iff_eq.mpr c22
                      have c22b1 : (t149 != 2) = false := bne_eq_false_iff_eq.mpr c22
                      clear c22
                      replace H := Option.bind_eq_some_iff.mp H
                      obtain ⟨t154, A230, H⟩ := H
                      replace H : (if t154 = true then ((anamnesisref02_sign.f a1).bind fun t155 => ((anamnesisref02_with.f t155 0).bind fun t156 => (some t156))) else ((anamnesisref02_with.f false 0).bind fun t157 => (some t157))) = some r := H
                      have A23 := Aside0.mk A230
                      clear A230
                      by_cases c24 : t154 = true
                      · subst c24
                        have H1 : ((anamnesisref02_sign.f a1).bind fun t155 => ((anamnesisref02_with.f t155 0).bind fun t156 => (some t156))) = some r := by rw [if_pos rfl] at H; exact H
                        clear H
                        have H := H1
                        clear H1
                        replace H := Option.bind_eq_some_iff.mp H
                        obtain ⟨t155, A250, H⟩ := H
                        replace H : ((anamnesisref02_with.f t155 0).bind fun t156 => (some t156)) = some r := H
                        have A25 := Aside0.mk A250
                        clear A250
                        replace H := Option.bind_eq_some_iff.mp H
                        obtain ⟨t156, A260, H⟩ := H
                        replace H : (some t156) = some r := H
                        have A26 := Aside0.mk A260
                        clear A260
                        obtain rfl := Option.some.inj H
                        go_wp2_with (first | ((with_reducible refine gate_callee (f := 33) rfl ?_); refine goesL_ (some 58) rfl rfl Try.func33 (by kernel_rfl) rfl #[.int .i64 a0] rfl (by (try simp only [List.map_toArray, List.map_cons, List.map_nil]); first | done | rfl | (simp only [List.length_drop, List.length_take]; rfl)) ?_; (with_reducible refine (anamnesisref02_sign.calls a0 true _ A23.out).mono ?_); rintro e w' ⟨rfl, ⟨nd, rfl⟩⟩; refine ⟨_, rfl, ?_⟩) | (go_at_call 33; (with_reducible refine (anamnesisref02_sign.calls a1 t155 _ A25.out).mono ?_); rintro e w' ⟨rfl, ⟨nd, rfl⟩⟩) | ((with_reducible refine gate_callee (f := 32) rfl ?_); refine goesL_ (some 63) rfl rfl Try.func32 (by kernel_rfl) rfl #[.bool t155, .int .i64 0] rfl (by (try simp only [List.map_toArray, List.map_cons, List.map_nil]); first | done | rfl | (simp only [List.length_drop, List.length_take]; rfl)) ?_; (with_reducible refine (anamnesisref02_with.calls t155 0 t156 _ A26.out).mono ?_); rintro e w' ⟨rfl, ⟨nd, rfl⟩⟩; refine ⟨_, rfl, ?_⟩))
                        go_ret
                        exact ⟨by first | rfl | (simp [errW_none, errW_some] <;> rfl) | (simp [*, errW_none, errW_some] <;> rfl) | (simp [wrap64, errW_none, errW_some]; done), by repeat (first | (with_reducible first | exact HB.out | apply below_alloc | apply pw_below_drewN | apply below_drew1) | exact HB.out)⟩
                      · replace c24 := Bool.eq_false_iff.mpr c24
                        subst c24
                        have H1 : ((anamnesisref02_with.f false 0).bind fun t157 => (some t157)) = some r := by rw [if_neg (show ¬ (false = true) by decide)] at H; exact H
                        clear H
                        have H := H1
                        clear H1
                        replace H := Option.bind_eq_some_iff.mp H
                        obtain ⟨t157, A270, H⟩ := H
                        replace H : (some t157) = some r := H
                        have A27 := Aside0.mk A270
                        clear A270
                        obtain rfl := Option.some.inj H
                        go_wp2_with (first | ((with_reducible refine gate_callee (f := 33) rfl ?_); refine goesL_ (some 58) rfl rfl Try.func33 (by kernel_rfl) rfl #[.int .i64 a0] rfl (by (try simp only [List.map_toArray, List.map_cons, List.map_nil]); first | done | rfl | (simp only [List.length_drop, List.length_take]; rfl)) ?_; (with_reducible refine (anamnesisref02_sign.calls a0 false _ A23.out).mono ?_); rintro e w' ⟨rfl, ⟨nd, rfl⟩⟩; refine ⟨_, rfl, ?_⟩) | ((with_reducible refine gate_callee (f := 32) rfl ?_); refine goesL_ (some 63) rfl rfl Try.func32 (by kernel_rfl) rfl #[.bool false, .int .i64 0] rfl (by (try simp only [List.map_toArray, List.map_cons, List.map_nil]); first | done | rfl | (simp only [List.length_drop, List.length_take]; rfl)) ?_; (with_reducible refine (anamnesisref02_with.calls false 0 t157 _ A27.out).mono ?_); rintro e w' ⟨rfl, ⟨nd, rfl⟩⟩; refine ⟨_, rfl, ?_⟩))
                        go_ret
                        exact ⟨by first | rfl | (simp [errW_none, errW_some] <;> rfl) | (simp [*, errW_none, errW_some] <;> rfl) | (simp [wrap64, errW_none, errW_some]; done), by repeat (first | (with_reducible first | exact HB.out | apply below_alloc | apply pw_below_drewN | apply below_drew1) | exact HB.out)⟩
                    · rw [if_neg c22] at H
                      have c22b0 : (t149 == 2) = false := beq_eq_false_iff_ne.mpr c22
                      have c22b1 : (t149 != 2) = true := bne_iff_ne.mpr c22
                      replace H := Option.bind_eq_some_iff.mp H
                      obtain ⟨t158, A280, H⟩ := H
                      replace H : (some t158) = some r := H
                      have A28 := Aside0.mk A280
                      clear A280
                      obtain rfl := Option.some.inj H
                      go_wp2_with (first | ((with_reducible refine gate_callee (f := 45) rfl ?_); refine goesL_ (some 66) rfl rfl Try.func45 (by kernel_rfl) rfl #[.int .i64 a0, .int .i64 a1] rfl (by (try simp only [List.map_toArray, List.map_cons, List.map_nil]); first | done | rfl | (simp only [List.length_drop, List.length_take]; rfl)) ?_; (with_reducible refine (anamnesisref02_add.calls kj17 a0 a1 t158 _ A28.out).mono ?_); rintro e w29 ⟨rfl, hb⟩; refine ⟨_, rfl, ?_⟩; have n0_ := Aside0.mk (below_step (by repeat (first | (with_reducible first | exact HB.out | apply below_alloc | apply pw_below_drewN | apply below_drew1) | exact HB.out)) hb); clear HB; have HB := n0_; clear n0_; (try clear hb); (try clear hb2); (try clear hk); (try clear hi)))
                      go_ret
                      exact ⟨by first | rfl | (simp [errW_none, errW_some] <;> rfl) | (simp [*, errW_none, errW_some] <;> rfl) | (simp [wrap64, errW_none, errW_some]; done), by repeat (first | (with_reducible first | exact HB.out | apply below_alloc | apply pw_below_drewN | apply below_drew1) | exact HB.out)⟩

end Go.Proofs.Ytbnpodkfcfdpeaa.PFlt
