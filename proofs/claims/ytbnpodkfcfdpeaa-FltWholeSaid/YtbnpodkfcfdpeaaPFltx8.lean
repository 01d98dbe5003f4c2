-- laid by a program of this session (gprint.py)
import Derived.Test.YtbnpodkfcfdpeaaPFltx0
import Derived.Test.YtbnpodkfcfdpeaaPFltx1
import Derived.Test.YtbnpodkfcfdpeaaPFltx2
namespace Go.Proofs.Ytbnpodkfcfdpeaa.PFlt
open Go.RowKit Go.Proofs.YtbnpodkfcfdpeaaW.PrintWords Go.Proofs.YtbnpodkfcfdpeaaW.PrintLast Go.Proofs.YtbnpodkfcfdpeaaW.PrintMore
attribute [local go_sem] max2_int min2_int max_two min_two max_three min_three max_four min_four   -- for this text's walks alone
set_option linter.unusedVariables false
set_option linter.unusedSimpArgs false

/-! ### anamnesislaw02_FltAlgebra: function 6 -/
mutual
def anamnesislaw02_FltAlgebra.l0 : Nat → Int → Int → Int → Int → Int → Int → Option (Bool)
  | 0, _, _, _, _, _, _ => none
  | k + 1, x0, x1, x5, x6, x7, x8 => if x8 < 4 then ((flt_Op.f x8 x0 x1).bind fun t246 => ((flt_Canon.f t246).bind fun t247 => (if t247 = t246 then (if x8 = 1 then (anamnesislaw02_FltAlgebra.j1 k x0 x1 x5 x6 x7 x8 t246 false) else (if x8 = 3 then (anamnesislaw02_FltAlgebra.j1 k x0 x1 x5 x6 x7 x8 t246 false) else ((flt_Op.f x8 x1 x0).bind fun t248 => (anamnesislaw02_FltAlgebra.j1 k x0 x1 x5 x6 x7 x8 t246 (t248 != t246))))) else (anamnesislaw02_FltAlgebra.j1 k x0 x1 x5 x6 x7 x8 t246 true)))) else ((anamnesisref02_Kind.f x1).bind fun t243 => (if t243 = 0 then (some true) else ((flt_Op.f 1 x0 x1).bind fun t244 => ((flt_Op.f 0 x0 x7).bind fun t245 => (some (t244 == t245))))))
def anamnesislaw02_FltAlgebra.j1 : Nat → Int → Int → Int → Int → Int → Int → Int → Bool → Option (Bool)
  | 0, _, _, _, _, _, _, _, _ => none
  | k + 1, x0, x1, x5, x6, x7, x8, x9, x45 => if x45 = true then (some false) else (if x8 > 1 then ((anamnesisref02_Kind.f x9).bind fun t249 => (if t249 > 0 then ((flt_Op.f x8 x6 x1).bind fun t250 => (if t250 = (Go.bits .xor .i64 x9 x5) then ((flt_Op.f x8 x0 x7).bind fun t251 => (if t251 = (Go.bits .xor .i64 x9 x5) then ((flt_Op.f x8 x6 x7).bind fun t252 => (anamnesislaw02_FltAlgebra.j2 k x0 x1 x5 x6 x7 x8 x9 (t252 != x9))) else (anamnesislaw02_FltAlgebra.j2 k x0 x1 x5 x6 x7 x8 x9 true))) else (anamnesislaw02_FltAlgebra.j2 k x0 x1 x5 x6 x7 x8 x9 true))) else (anamnesislaw02_FltAlgebra.j2 k x0 x1 x5 x6 x7 x8 x9 false))) else (anamnesislaw02_FltAlgebra.j2 k x0 x1 x5 x6 x7 x8 x9 false))
def anamnesislaw02_FltAlgebra.j2 : Nat → Int → Int → Int → Int → Int → Int → Int → Bool → Option (Bool)
  | 0, _, _, _, _, _, _, _, _ => none
  | k + 1, x0, x1, x5, x6, x7, x8, x9, x80 => if x80 = true then (some false) else (if x8 < 2 then ((anamnesisref02_Kind.f x9).bind fun t253 => (if t253 > 0 then (if t253 = 2 then (anamnesislaw02_FltAlgebra.l0 k x0 x1 x5 x6 x7 (wrap64 (x8 + 1))) else ((flt_Op.f x8 x6 x7).bind fun t254 => (if t254 = (Go.bits .xor .i64 x9 x5) then (anamnesislaw02_FltAlgebra.l0 k x0 x1 x5 x6 x7 (wrap64 (x8 + 1))) else (some false)))) else (anamnesislaw02_FltAlgebra.l0 k x0 x1 x5 x6 x7 (wrap64 (x8 + 1))))) else (anamnesislaw02_FltAlgebra.l0 k x0 x1 x5 x6 x7 (wrap64 (x8 + 1))))
end
def anamnesislaw02_FltAlgebra.f (k : Nat) (a0 : Int) (a1 : Int) : Option (Bool) := (anamnesislaw02_fixed.f).bind fun t242 => (anamnesislaw02_FltAlgebra.l0 k a0 a1 (-9223372036854775808) (Go.bits .xor .i64 a0 (-9223372036854775808)) (Go.bits .xor .i64 a1 (-9223372036854775808)) 0)
theorem anamnesislaw02_FltAlgebra.mono_l : ∀ k, (∀ y0 y1 y2 y3 y4 y5, LeO (anamnesislaw02_FltAlgebra.l0 k y0 y1 y2 y3 y4 y5) (anamnesislaw02_FltAlgebra.l0 (k + 1) y0 y1 y2 y3 y4 y5)) ∧ (∀ y0 y1 y2 y3 y4 y5 y6 y7, LeO (anamnesislaw02_FltAlgebra.j1 k y0 y1 y2 y3 y4 y5 y6 y7) (anamnesislaw02_FltAlgebra.j1 (k + 1) y0 y1 y2 y3 y4 y5 y6 y7)) ∧ (∀ y0 y1 y2 y3 y4 y5 y6 y7, LeO (anamnesislaw02_FltAlgebra.j2 k y0 y1 y2 y3 y4 y5 y6 y7) (anamnesislaw02_FltAlgebra.j2 (k + 1) y0 y1 y2 y3 y4 y5 y6 y7))
  | 0 => ⟨fun _ _ _ _ _ _ r h => by simp [anamnesislaw02_FltAlgebra.l0] at h, fun _ _ _ _ _ _ _ _ r h => by simp [anamnesislaw02_FltAlgebra.j1] at h, fun _ _ _ _ _ _ _ _ r h => by simp [anamnesislaw02_FltAlgebra.j2] at h⟩
  | k + 1 => by
    obtain ⟨ih0, ih1, ih2⟩ := anamnesislaw02_FltAlgebra.mono_l k
    refine ⟨?_, ?_, ?_⟩
    · intro y0 y1 y2 y3 y4 y5
      unfold anamnesislaw02_FltAlgebra.l0
      repeat' first
      | (with_reducible exact ih0 _ _ _ _ _ _)
      | (with_reducible exact ih1 _ _ _ _ _ _ _ _)
      | (with_reducible exact ih2 _ _ _ _ _ _ _ _)
      | (with_reducible exact LeO.refl _)
      | (with_reducible exact LeO.none _)
      | (with_reducible refine LeO.ite ?_ ?_)
      | (with_reducible refine LeO.bind ?_ (fun _ => ?_))
      | exact ih0 _ _ _ _ _ _
      | exact ih1 _ _ _ _ _ _ _ _
      | exact ih2 _ _ _ _ _ _ _ _
      | exact LeO.none _
      | refine LeO.ite ?_ ?_
      | refine LeO.bind ?_ (fun _ => ?_)
    · intro y0 y1 y2 y3 y4 y5 y6 y7
      unfold anamnesislaw02_FltAlgebra.j1
      repeat' first
      | (with_reducible exact ih0 _ _ _ _ _ _)
      | (with_reducible exact ih1 _ _ _ _ _ _ _ _)
      | (with_reducible exact ih2 _ _ _ _ _ _ _ _)
      | (with_reducible exact LeO.refl _)
      | (with_reducible exact LeO.none _)
      | (with_reducible refine LeO.ite ?_ ?_)
      | (with_reducible refine LeO.bind ?_ (fun _ => ?_))
      | exact ih0 _ _ _ _ _ _
      | exact ih1 _ _ _ _ _ _ _ _
      | exact ih2 _ _ _ _ _ _ _ _
      | exact LeO.none _
      | refine LeO.ite ?_ ?_
      | refine LeO.bind ?_ (fun _ => ?_)
    · intro y0 y1 y2 y3 y4 y5 y6 y7
      unfold anamnesislaw02_FltAlgebra.j2
      repeat' first
      | (with_reducible exact ih0 _ _ _ _ _ _)
      | (with_reducible exact ih1 _ _ _ _ _ _ _ _)
      | (with_reducible exact ih2 _ _ _ _ _ _ _ _)
      | (with_reducible exact LeO.refl _)
      | (with_reducible exact LeO.none _)
      | (with_reducible refine LeO.ite ?_ ?_)
      | (with_reducible refine LeO.bind ?_ (fun _ => ?_))
      | exact ih0 _ _ _ _ _ _
      | exact ih1 _ _ _ _ _ _ _ _
      | exact ih2 _ _ _ _ _ _ _ _
      | exact LeO.none _
      | refine LeO.ite ?_ ?_
      | refine LeO.bind ?_ (fun _ => ?_)
theorem anamnesislaw02_FltAlgebra.mono : ∀ a0 a1 k, LeO (anamnesislaw02_FltAlgebra.f k a0 a1) (anamnesislaw02_FltAlgebra.f (k + 1) a0 a1) := by
  intro a0 a1 k
  obtain ⟨ih0, ih1, ih2⟩ := anamnesislaw02_FltAlgebra.mono_l k
  unfold anamnesislaw02_FltAlgebra.f
  repeat' first
      | (with_reducible exact ih0 _ _ _ _ _ _)
      | (with_reducible exact ih1 _ _ _ _ _ _ _ _)
      | (with_reducible exact ih2 _ _ _ _ _ _ _ _)
      | (with_reducible exact LeO.refl _)
      | (with_reducible exact LeO.none _)
      | (with_reducible refine LeO.ite ?_ ?_)
      | (with_reducible refine LeO.bind ?_ (fun _ => ?_))
      | exact ih0 _ _ _ _ _ _
      | exact ih1 _ _ _ _ _ _ _ _
      | exact ih2 _ _ _ _ _ _ _ _
      | exact LeO.none _
      | refine LeO.ite ?_ ?_
      | refine LeO.bind ?_ (fun _ => ?_)
set_option maxHeartbeats 8000000 in
set_option maxRecDepth 100000 in
theorem anamnesislaw02_FltAlgebra.calls (k : Nat) (a0 : Int) (a1 : Int) (r : Bool) (w : World) (h : anamnesislaw02_FltAlgebra.f k a0 a1 = some r) (hr : r = true) :
    Calls Try.prog 6 #[.int .i64 a0, .int .i64 a1] w fun e w' => e = .returned (.bool r) ∧ Below w.heap.size w w' := by
  have hr_ := Aside0.mk hr
  clear hr
  have HB := Aside0.mk (Below.refl w.heap.size w)
  have H : ((anamnesislaw02_fixed.f).bind fun t242 => (anamnesislaw02_FltAlgebra.l0 k a0 a1 (-9223372036854775808) (Go.bits .xor .i64 a0 (-9223372036854775808)) (Go.bits .xor .i64 a1 (-9223372036854775808)) 0)) = some r := h
  clear h
  replace H := Option.bind_eq_some_iff.mp H
  obtain ⟨t242, A30, H⟩ := H
  replace H : (anamnesislaw02_FltAlgebra.l0 k a0 a1 (-9223372036854775808) (Go.bits .xor .i64 a0 (-9223372036854775808)) (Go.bits .xor .i64 a1 (-9223372036854775808)) 0) = some r := H
  have A3 := Aside0.mk A30
  clear A30
  have H' := Aside0.mk H
  clear H
  go_enter Try.func6, Try.ntmps6
  go_wp2_with (first | ((with_reducible refine gate_callee (f := 11) rfl ?_); refine goesL_ (some 10) rfl rfl Try.func11 (by kernel_rfl) rfl #[] rfl (by (try simp only [List.map_toArray, List.map_cons, List.map_nil]); first | done | rfl | (simp only [List.length_drop, List.length_take]; rfl)) ?_; (with_reducible refine (anamnesislaw02_fixed.calls  t242 _ A3.out).mono ?_); rintro e w4 ⟨rfl, hb⟩; refine ⟨_, rfl, ?_⟩; have n0_ := Aside0.mk (below_step (by repeat (first | (with_reducible first | exact HB.out | apply below_alloc | apply pw_below_drewN | apply below_drew1) | exact HB.out)) hb); clear HB; have HB := n0_; clear n0_; (try clear hb); (try clear hb2); (try clear hk); (try clear hi)))
  go_loopg [8] k (fun kq v8 w' => ∃ (x8_1 : Int), v8 = .int .i64 x8_1 ∧ Aside0 (anamnesislaw02_FltAlgebra.l0 kq a0 a1 (-9223372036854775808) (Go.bits .xor .i64 a0 (-9223372036854775808)) (Go.bits .xor .i64 a1 (-9223372036854775808)) x8_1 = some r) ∧ Aside0 (kq ≤ k) ∧ Aside0 (Below w.heap.size w w'))
  case atStart => exact ⟨(0), (by first | rfl | (simp; done) | (simp [*]; done)), H', ⟨Nat.le_refl _⟩, ⟨by repeat (first | (with_reducible first | exact HB.out | apply below_alloc | apply pw_below_drewN | apply below_drew1) | exact HB.out)⟩⟩
  case round =>
    clear H'
    try clear c1
    try clear p2
    obtain ⟨x8_1, rfl, HA, HK1, HB⟩ := hrel
    cases gk with
    | zero => exact absurd HA.out (by simp [anamnesislaw02_FltAlgebra.l0])
    | succ k1 =>
      have H := HA.out
      clear HA
      simp only [anamnesislaw02_FltAlgebra.l0] at H
      by_cases c5 : x8_1 < 4
      · rw [if_pos c5] at H
        have c5b0 : decide (x8_1 < 4) = true := decide_eq_true c5
        clear c5
        replace H := Option.bind_eq_some_iff.mp H
        obtain ⟨t246, A60, H⟩ := H
        replace H : ((flt_Canon.f t246).bind fun t247 => (if t247 = t246 then (if x8_1 = 1 then (anamnesislaw02_FltAlgebra.j1 k1 a0 a1 (-9223372036854775808) (Go.bits .xor .i64 a0 (-9223372036854775808)) (Go.bits .xor .i64 a1 (-9223372036854775808)) x8_1 t246 false) else (if x8_1 = 3 then (anamnesislaw02_FltAlgebra.j1 k1 a0 a1 (-9223372036854775808) (Go.bits .xor .i64 a0 (-9223372036854775808)) (Go.bits .xor .i64 a1 (-9223372036854775808)) x8_1 t246 false) else ((flt_Op.f x8_1 a1 a0).bind fun t248 => (anamnesislaw02_FltAlgebra.j1 k1 a0 a1 (-9223372036854775808) (Go.bits .xor .i64 a0 (-9223372036854775808)) (Go.bits .xor .i64 a1 (-9223372036854775808)) x8_1 t246 (t248 != t246))))) else (anamnesislaw02_FltAlgebra.j1 k1 a0 a1 (-9223372036854775808) (Go.bits .xor .i64 a0 (-9223372036854775808)) (Go.bits .xor .i64 a1 (-9223372036854775808)) x8_1 t246 true))) = some r := H
        have A6 := Aside0.mk A60
        clear A60
        have HC7 := Aside0.mk H
        clear H
        go_upto_region 9 with (first | ((with_reducible refine gate_callee (f := 12) rfl ?_); refine goesL_ (some 25) rfl rfl Try.func12 (by kernel_rfl) rfl #[.int .i64 x8_1, .int .i64 a0, .int .i64 a1] rfl (by (try simp only [List.map_toArray, List.map_cons, List.map_nil]); first | done | rfl | (simp only [List.length_drop, List.length_take]; rfl)) ?_; (with_reducible refine (flt_Op.calls x8_1 a0 a1 t246 _ A6.out).mono ?_); rintro e w' ⟨rfl, ⟨nd, rfl⟩⟩; refine ⟨_, rfl, ?_⟩))
        (try simp only [Act.put, List.setIfInBounds_toArray, List.set_cons_zero, List.set_cons_succ])
        go_cut [45] (fun v45 wc => ∃ (kq : Nat) (x45_6 : Bool), v45 = .bool x45_6 ∧ Aside0 (anamnesislaw02_FltAlgebra.j1 kq a0 a1 (-9223372036854775808) (Go.bits .xor .i64 a0 (-9223372036854775808)) (Go.bits .xor .i64 a1 (-9223372036854775808)) x8_1 t246 x45_6 = some r) ∧ Aside0 (kq ≤ k1) ∧ Aside0 (Below w.heap.size w wc))
        case first =>
          have H := HC7.out
          clear HC7
          replace H := Option.bind_eq_some_iff.mp H
          obtain ⟨t247, A80, H⟩ := H
          replace H : (if t247 = t246 then (if x8_1 = 1 then (anamnesislaw02_FltAlgebra.j1 k1 a0 a1 (-9223372036854775808) (Go.bits .xor .i64 a0 (-9223372036854775808)) (Go.bits .xor .i64 a1 (-9223372036854775808)) x8_1 t246 false) else (if x8_1 = 3 then (anamnesislaw02_FltAlgebra.j1 k1 a0 a1 (-9223372036854775808) (Go.bits .xor .i64 a0 (-9223372036854775808)) (Go.bits .xor .i64 a1 (-9223372036854775808)) x8_1 t246 false) else ((flt_Op.f x8_1 a1 a0).bind fun t248 => (anamnesislaw02_FltAlgebra.j1 k1 a0 a1 (-9223372036854775808) (Go.bits .xor .i64 a0 (-9223372036854775808)) (Go.bits .xor .i64 a1 (-9223372036854775808)) x8_1 t246 (t248 != t246))))) else (anamnesislaw02_FltAlgebra.j1 k1 a0 a1 (-9223372036854775808) (Go.bits .xor .i64 a0 (-9223372036854775808)) (Go.bits .xor .i64 a1 (-9223372036854775808)) x8_1 t246 true)) = some r := H
          have A8 := Aside0.mk A80
          clear A80
          by_cases c9 : t247 = t246
          · rw [if_pos c9] at H
            have c9b0 : (t247 == t246) = true := beq_iff_eq.mpr c9
            have c9b1 : (t247 != t246) = false := bne_eq_false_iff_eq.mpr c9
            clear c9
            (first | rw [c9b0] | (simp only [i64_w, i32_w]; rw [c9b0]) | skip)
            by_cases c10 : x8_1 = 1
            · rw [if_pos c10] at H
              have c10b0 : (x8_1 == 1) = true := beq_iff_eq.mpr c10
              have c10b1 : (x8_1 != 1) = false := bne_eq_false_iff_eq.mpr c10
              clear c10
              have H' := Aside0.mk H
              clear H
              go_wp2_with (first | ((with_reducible refine gate_callee (f := 18) rfl ?_); refine goesL_ (some 27) rfl rfl Try.func18 (by kernel_rfl) rfl #[.int .i64 t246] rfl (by (try simp only [List.map_toArray, List.map_cons, List.map_nil]); first | done | rfl | (simp only [List.length_drop, List.length_take]; rfl)) ?_; (with_reducible refine (flt_Canon.calls t246 t247 _ A8.out).mono ?_); rintro e w' ⟨rfl, ⟨nd, rfl⟩⟩; refine ⟨_, rfl, ?_⟩))
              go_meet
              case rel => exact ⟨_, (false), (by first | rfl | (simp; done) | (simp [*]; done)), H', ⟨by have := HK1.out; first | omega | exact Nat.le_refl _⟩, ⟨by repeat (first | (with_reducible first | exact HB.out | apply below_alloc | apply pw_below_drewN | apply below_drew1) | exact HB.out)⟩⟩
            · rw [if_neg c10] at H
              have c10b0 : (x8_1 == 1) = false := beq_eq_false_iff_ne.mpr c10
              have c10b1 : (x8_1 != 1) = true := bne_iff_ne.mpr c10
              by_cases c11 : x8_1 = 3
              · rw [if_pos c11] at H
                have c11b0 : (x8_1 == 3) = true := beq_iff_eq.mpr c11
                have c11b1 : (x8_1 != 3) = false := bne_eq_false_iff_eq.mpr c11
                clear c11
                have H' := Aside0.mk H
                clear H
                go_wp2_with (first | ((with_reducible refine gate_callee (f := 18) rfl ?_); refine goesL_ (some 27) rfl rfl Try.func18 (by kernel_rfl) rfl #[.int .i64 t246] rfl (by (try simp only [List.map_toArray, List.map_cons, List.map_nil]); first | done | rfl | (simp only [List.length_drop, List.length_take]; rfl)) ?_; (with_reducible refine (flt_Canon.calls t246 t247 _ A8.out).mono ?_); rintro e w' ⟨rfl, ⟨nd, rfl⟩⟩; refine ⟨_, rfl, ?_⟩))
                go_meet
                case rel => exact ⟨_, (false), (by first | rfl | (simp; done) | (simp [*]; done)), H', ⟨by have := HK1.out; first | omega | exact Nat.le_refl _⟩, ⟨by repeat (first | (with_reducible first | exact HB.out | apply below_alloc | apply pw_below_drewN | apply below_drew1) | exact HB.out)⟩⟩
              · rw [if_neg c11] at H
                have c11b0 : (x8_1 == 3) = false := beq_eq_false_iff_ne.mpr c11
                have c11b1 : (x8_1 != 3) = true := bne_iff_ne.mpr c11
                replace H := Option.bind_eq_some_iff.mp H
                obtain ⟨t248, A120, H⟩ := H
                replace H : (anamnesislaw02_FltAlgebra.j1 k1 a0 a1 (-9223372036854775808) (Go.bits .xor .i64 a0 (-9223372036854775808)) (Go.bits .xor .i64 a1 (-9223372036854775808)) x8_1 t246 (t248 != t246)) = some r := H
                have A12 := Aside0.mk A120
                clear A120
                have H' := Aside0.mk H
                clear H
                go_wp2_with (first | ((with_reducible refine gate_callee (f := 18) rfl ?_); refine goesL_ (some 27) rfl rfl Try.func18 (by kernel_rfl) rfl #[.int .i64 t246] rfl (by (try simp only [List.map_toArray, List.map_cons, List.map_nil]); first | done | rfl | (simp only [List.length_drop, List.length_take]; rfl)) ?_; (with_reducible refine (flt_Canon.calls t246 t247 _ A8.out).mono ?_); rintro e w' ⟨rfl, ⟨nd, rfl⟩⟩; refine ⟨_, rfl, ?_⟩) | (go_at_call 12; (with_reducible refine (flt_Op.calls x8_1 a1 a0 t248 _ A12.out).mono ?_); rintro e w' ⟨rfl, ⟨nd, rfl⟩⟩))
                go_meet
                case rel => exact ⟨_, ((t248 != t246)), (by first | rfl | (simp; done) | (simp [*]; done)), H', ⟨by have := HK1.out; first | omega | exact Nat.le_refl _⟩, ⟨by repeat (first | (with_reducible first | exact HB.out | apply below_alloc | apply pw_below_drewN | apply below_drew1) | exact HB.out)⟩⟩
          · rw [if_neg c9] at H
            have c9b0 : (t247 == t246) = false := beq_eq_false_iff_ne.mpr c9
            have c9b1 : (t247 != t246) = true := bne_iff_ne.mpr c9
            (first | rw [c9b0] | (simp only [i64_w, i32_w]; rw [c9b0]) | skip)
            have H' := Aside0.mk H
            clear H
            go_wp2_with (first | ((with_reducible refine gate_callee (f := 18) rfl ?_); refine goesL_ (some 27) rfl rfl Try.func18 (by kernel_rfl) rfl #[.int .i64 t246] rfl (by (try simp only [List.map_toArray, List.map_cons, List.map_nil]); first | done | rfl | (simp only [List.length_drop, List.length_take]; rfl)) ?_; (with_reducible refine (flt_Canon.calls t246 t247 _ A8.out).mono ?_); rintro e w' ⟨rfl, ⟨nd, rfl⟩⟩; refine ⟨_, rfl, ?_⟩))
            go_meet
            case rel => exact ⟨_, (true), (by first | rfl | (simp; done) | (simp [*]; done)), H', ⟨by have := HK1.out; first | omega | exact Nat.le_refl _⟩, ⟨by repeat (first | (with_reducible first | exact HB.out | apply below_alloc | apply pw_below_drewN | apply below_drew1) | exact HB.out)⟩⟩
        case rest =>
          clear HC7
          try clear c1
          try clear p2
          try clear c5
          try clear c5b0
          try clear c6
          try clear c9
          try clear c9b0
          try clear c9b1
          try clear c10
          try clear c10b0
          try clear c10b1
          try clear c11
          try clear c11b0
          try clear c11b1
          try clear c12
          try clear p2
          obtain ⟨kq, x45_6, rfl, HA, HJ6, HB⟩ := hcut
          cases kq with
          | zero => exact absurd HA.out (by simp [anamnesislaw02_FltAlgebra.j1])
          | succ kj6 =>
            have H := HA.out
            clear HA
            simp only [anamnesislaw02_FltAlgebra.j1] at H
            by_cases c13 : x45_6 = true
            · subst c13
              have H1 : (some false) = some r := by rw [if_pos rfl] at H; exact H
              clear H
              have H := H1
              clear H1
              obtain rfl := Option.some.inj H
              exact absurd hr_.out (by decide)
            · replace c13 := Bool.eq_false_iff.mpr c13
              subst c13
              have H1 : (if x8_1 > 1 then ((anamnesisref02_Kind.f t246).bind fun t249 => (if t249 > 0 then ((flt_Op.f x8_1 (Go.bits .xor .i64 a0 (-9223372036854775808)) a1).bind fun t250 => (if t250 = (Go.bits .xor .i64 t246 (-9223372036854775808)) then ((flt_Op.f x8_1 a0 (Go.bits .xor .i64 a1 (-9223372036854775808))).bind fun t251 => (if t251 = (Go.bits .xor .i64 t246 (-9223372036854775808)) then ((flt_Op.f x8_1 (Go.bits .xor .i64 a0 (-9223372036854775808)) (Go.bits .xor .i64 a1 (-9223372036854775808))).bind fun t252 => (anamnesislaw02_FltAlgebra.j2 kj6 a0 a1 (-9223372036854775808) (Go.bits .xor .i64 a0 (-9223372036854775808)) (Go.bits .xor .i64 a1 (-9223372036854775808)) x8_1 t246 (t252 != t246))) else (anamnesislaw02_FltAlgebra.j2 kj6 a0 a1 (-9223372036854775808) (Go.bits .xor .i64 a0 (-9223372036854775808)) (Go.bits .xor .i64 a1 (-9223372036854775808)) x8_1 t246 true))) else (anamnesislaw02_FltAlgebra.j2 kj6 a0 a1 (-9223372036854775808) (Go.bits .xor .i64 a0 (-9223372036854775808)) (Go.bits .xor .i64 a1 (-9223372036854775808)) x8_1 t246 true))) else (anamnesislaw02_FltAlgebra.j2 kj6 a0 a1 (-9223372036854775808) (Go.bits .xor .i64 a0 (-9223372036854775808)) (Go.bits .xor .i64 a1 (-9223372036854775808)) x8_1 t246 false))) else (anamnesislaw02_FltAlgebra.j2 kj6 a0 a1 (-9223372036854775808) (Go.bits .xor .i64 a0 (-9223372036854775808)) (Go.bits .xor .i64 a1 (-9223372036854775808)) x8_1 t246 false)) = some r := by rw [if_neg (show ¬ (false = true) by decide)] at H; exact H
              clear H
              have H := H1
              clear H1
              have HC14 := Aside0.mk H
              clear H
              go_upto_region 11 with (fail)
              go_cut [80] (fun v80 wc => ∃ (kq : Nat) (x80_13 : Bool), v80 = .bool x80_13 ∧ Aside0 (anamnesislaw02_FltAlgebra.j2 kq a0 a1 (-9223372036854775808) (Go.bits .xor .i64 a0 (-9223372036854775808)) (Go.bits .xor .i64 a1 (-9223372036854775808)) x8_1 t246 x80_13 = some r) ∧ Aside0 (kq ≤ kj6) ∧ Aside0 (Below w.heap.size w wc))
              case first =>
                have H := HC14.out
                clear HC14
                by_cases c15 : x8_1 > 1
                · rw [if_pos c15] at H
                  have c15b0 : decide (1 < x8_1) = true := decide_eq_true c15
                  clear c15
                  (first | rw [c15b0] | (simp only [i64_w, i32_w]; rw [c15b0]) | skip)
                  replace H := Option.bind_eq_some_iff.mp H
                  obtain ⟨t249, A160, H⟩ := H
                  replace H : (if t249 > 0 then ((flt_Op.f x8_1 (Go.bits .xor .i64 a0 (-9223372036854775808)) a1).bind fun t250 => (if t250 = (Go.bits .xor .i64 t246 (-9223372036854775808)) then ((flt_Op.f x8_1 a0 (Go.bits .xor .i64 a1 (-9223372036854775808))).bind fun t251 => (if t251 = (Go.bits .xor .i64 t246 (-9223372036854775808)) then ((flt_Op.f x8_1 (Go.bits .xor .i64 a0 (-9223372036854775808)) (Go.bits .xor .i64 a1 (-9223372036854775808))).bind fun t252 => (anamnesislaw02_FltAlgebra.j2 kj6 a0 a1 (-9223372036854775808) (Go.bits .xor .i64 a0 (-9223372036854775808)) (Go.bits .xor .i64 a1 (-9223372036854775808)) x8_1 t246 (t252 != t246))) else (anamnesislaw02_FltAlgebra.j2 kj6 a0 a1 (-9223372036854775808) (Go.bits .xor .i64 a0 (-9223372036854775808)) (Go.bits .xor .i64 a1 (-9223372036854775808)) x8_1 t246 true))) else (anamnesislaw02_FltAlgebra.j2 kj6 a0 a1 (-9223372036854775808) (Go.bits .xor .i64 a0 (-9223372036854775808)) (Go.bits .xor .i64 a1 (-9223372036854775808)) x8_1 t246 true))) else (anamnesislaw02_FltAlgebra.j2 kj6 a0 a1 (-9223372036854775808) (Go.bits .xor .i64 a0 (-9223372036854775808)) (Go.bits .xor .i64 a1 (-9223372036854775808)) x8_1 t246 false)) = some r := H
                  have A16 := Aside0.mk A160
                  clear A160
                  by_cases c17 : t249 > 0
                  · rw [if_pos c17] at H
                    have c17b0 : decide (0 < t249) = true := decide_eq_true c17
                    clear c17
                    replace H := Option.bind_eq_some_iff.mp H
                    obtain ⟨t250, A180, H⟩ := H
                    replace H : (if t250 = (Go.bits .xor .i64 t246 (-9223372036854775808)) then ((flt_Op.f x8_1 a0 (Go.bits .xor .i64 a1 (-9223372036854775808))).bind fun t251 => (if t251 = (Go.bits .xor .i64 t246 (-9223372036854775808)) then ((flt_Op.f x8_1 (Go.bits .xor .i64 a0 (-9223372036854775808)) (Go.bits .xor .i64 a1 (-9223372036854775808))).bind fun t252 => (anamnesislaw02_FltAlgebra.j2 kj6 a0 a1 (-9223372036854775808) (Go.bits .xor .i64 a0 (-9223372036854775808)) (Go.bits .xor .i64 a1 (-9223372036854775808)) x8_1 t246 (t252 != t246))) else (anamnesislaw02_FltAlgebra.j2 kj6 a0 a1 (-9223372036854775808) (Go.bits .xor .i64 a0 (-9223372036854775808)) (Go.bits .xor .i64 a1 (-9223372036854775808)) x8_1 t246 true))) else (anamnesislaw02_FltAlgebra.j2 kj6 a0 a1 (-9223372036854775808) (Go.bits .xor .i64 a0 (-9223372036854775808)) (Go.bits .xor .i64 a1 (-9223372036854775808)) x8_1 t246 true)) = some r := H
                    have A18 := Aside0.mk A180
                    clear A180
                    by_cases c19 : t250 = (Go.bits .xor .i64 t246 (-9223372036854775808))
                    · rw [if_pos c19] at H
                      have c19b0 : (t250 == (Go.bits .xor .i64 t246 (-9223372036854775808))) = true := beq_iff_eq.mpr c19
                      have c19b1 : (t250 != (Go.bits .xor .i64 t246 (-9223372036854775808))) = false := bne_eq_false_iff_eq.mpr c19
                      clear c19
                      replace H := Option.bind_eq_some_iff.mp H
                      obtain ⟨t251, A200, H⟩ := H
                      replace H : (if t251 = (Go.bits .xor .i64 t246 (-9223372036854775808)) then ((flt_Op.f x8_1 (Go.bits .xor .i64 a0 (-9223372036854775808)) (Go.bits .xor .i64 a1 (-9223372036854775808))).bind fun t252 => (anamnesislaw02_FltAlgebra.j2 kj6 a0 a1 (-9223372036854775808) (Go.bits .xor .i64 a0 (-9223372036854775808)) (Go.bits .xor .i64 a1 (-9223372036854775808)) x8_1 t246 (t252 != t246))) else (anamnesislaw02_FltAlgebra.j2 kj6 a0 a1 (-9223372036854775808) (Go.bits .xor .i64 a0 (-9223372036854775808)) (Go.bits .xor .i64 a1 (-9223372036854775808)) x8_1 t246 true)) = some r := H
                      have A20 := Aside0.mk A200
                      clear A200
                      by_cases c21 : t251 = (Go.bits .xor .i64 t246 (-9223372036854775808))
                      · rw [if_pos c21] at H
                        have c21b0 : (t251 == (Go.bits .xor .i64 t246 (-9223372036854775808))) = true := beq_iff_eq.mpr c21
                        have c21b1 : (t251 != (Go.bits .xor .i64 t246 (-9223372036854775808))) = false := bne_eq_false_iff_eq.mpr c21
                        clear c21
                        replace H := Option.bind_eq_some_iff.mp H
                        obtain ⟨t252, A220, H⟩ := H
                        replace H : (anamnesislaw02_FltAlgebra.j2 kj6 a0 a1 (-9223372036854775808) (Go.bits .xor .i64 a0 (-9223372036854775808)) (Go.bits .xor .i64 a1 (-9223372036854775808)) x8_1 t246 (t252 != t246)) = some r := H
                        have A22 := Aside0.mk A220
                        clear A220
                        have H' := Aside0.mk H
                        clear H
                        go_wp2_with (first | (go_at_call 17; (with_reducible refine (anamnesisref02_Kind.calls t246 t249 _ A16.out).mono ?_); rintro e w' ⟨rfl, ⟨nd, rfl⟩⟩) | (go_at_call 12; (with_reducible refine (flt_Op.calls x8_1 (Go.bits .xor .i64 a0 (-9223372036854775808)) a1 t250 _ A18.out).mono ?_); rintro e w' ⟨rfl, ⟨nd, rfl⟩⟩) | (go_at_call 12; (with_reducible refine (flt_Op.calls x8_1 a0 (Go.bits .xor .i64 a1 (-9223372036854775808)) t251 _ A20.out).mono ?_); rintro e w' ⟨rfl, ⟨nd, rfl⟩⟩) | (go_at_call 12; (with_reducible refine (flt_Op.calls x8_1 (Go.bits .xor .i64 a0 (-9223372036854775808)) (Go.bits .xor .i64 a1 (-9223372036854775808)) t252 _ A22.out).mono ?_); rintro e w' ⟨rfl, ⟨nd, rfl⟩⟩))
                        go_meet
                        case rel => exact ⟨_, ((t252 != t246)), (by first | rfl | (simp; done) | (simp [*]; done)), H', ⟨by have := HK1.out; have := HJ6.out; first | omega | exact Nat.le_refl _⟩, ⟨by repeat (first | (with_reducible first | exact HB.out | apply below_alloc | apply pw_below_drewN | apply below_drew1) | exact HB.out)⟩⟩
                      · rw [if_neg c21] at H
                        have c21b0 : (t251 == (Go.bits .xor .i64 t246 (-9223372036854775808))) = false := beq_eq_false_iff_ne.mpr c21
                        have c21b1 : (t251 != (Go.bits .xor .i64 t246 (-9223372036854775808))) = true := bne_iff_ne.mpr c21
                        have H' := Aside0.mk H
                        clear H
                        go_wp2_with (first | (go_at_call 17; (with_reducible refine (anamnesisref02_Kind.calls t246 t249 _ A16.out).mono ?_); rintro e w' ⟨rfl, ⟨nd, rfl⟩⟩) | (go_at_call 12; (with_reducible refine (flt_Op.calls x8_1 (Go.bits .xor .i64 a0 (-9223372036854775808)) a1 t250 _ A18.out).mono ?_); rintro e w' ⟨rfl, ⟨nd, rfl⟩⟩) | (go_at_call 12; (with_reducible refine (flt_Op.calls x8_1 a0 (Go.bits .xor .i64 a1 (-9223372036854775808)) t251 _ A20.out).mono ?_); rintro e w' ⟨rfl, ⟨nd, rfl⟩⟩))
                        go_meet
                        case rel => exact ⟨_, (true), (by first | rfl | (simp; done) | (simp [*]; done)), H', ⟨by have := HK1.out; have := HJ6.out; first | omega | exact Nat.le_refl _⟩, ⟨by repeat (first | (with_reducible first | exact HB.out | apply below_alloc | apply pw_below_drewN | apply below_drew1) | exact HB.out)⟩⟩
                    · rw [if_neg c19] at H
                      have c19b0 : (t250 == (Go.bits .xor .i64 t246 (-9223372036854775808))) = false := beq_eq_false_iff_ne.mpr c19
                      have c19b1 : (t250 != (Go.bits .xor .i64 t246 (-9223372036854775808))) = true := bne_iff_ne.mpr c19
                      have H' := Aside0.mk H
                      clear H
                      go_wp2_with (first | (go_at_call 17; (with_reducible refine (anamnesisref02_Kind.calls t246 t249 _ A16.out).mono ?_); rintro e w' ⟨rfl, ⟨nd, rfl⟩⟩) | (go_at_call 12; (with_reducible refine (flt_Op.calls x8_1 (Go.bits .xor .i64 a0 (-9223372036854775808)) a1 t250 _ A18.out).mono ?_); rintro e w' ⟨rfl, ⟨nd, rfl⟩⟩))
                      go_meet
                      case rel => exact ⟨_, (true), (by first | rfl | (simp; done) | (simp [*]; done)), H', ⟨by have := HK1.out; have := HJ6.out; first | omega | exact Nat.le_refl _⟩, ⟨by repeat (first | (with_reducible first | exact HB.out | apply below_alloc | apply pw_below_drewN | apply below_drew1) | exact HB.out)⟩⟩
                  · rw [if_neg c17] at H
                    have c17b0 : decide (0 < t249) = false := decide_eq_false c17
                    clear c17
                    have H' := Aside0.mk H
                    clear H
                    go_wp2_with (first | (go_at_call 17; (with_reducible refine (anamnesisref02_Kind.calls t246 t249 _ A16.out).mono ?_); rintro e w' ⟨rfl, ⟨nd, rfl⟩⟩))
                    go_meet
                    case rel => exact ⟨_, (false), (by first | rfl | (simp; done) | (simp [*]; done)), H', ⟨by have := HK1.out; have := HJ6.out; first | omega | exact Nat.le_refl _⟩, ⟨by repeat (first | (with_reducible first | exact HB.out | apply below_alloc | apply pw_below_drewN | apply below_drew1) | exact HB.out)⟩⟩
                · rw [if_neg c15] at H
                  have c15b0 : decide (1 < x8_1) = false := decide_eq_false c15
                  clear c15
                  (first | rw [c15b0] | (simp only [i64_w, i32_w]; rw [c15b0]) | skip)
                  have H' := Aside0.mk H
                  clear H
                  go_wp2
                  go_meet
                  case rel => exact ⟨_, (false), (by first | rfl | (simp; done) | (simp [*]; done)), H', ⟨by have := HK1.out; have := HJ6.out; first | omega | exact Nat.le_refl _⟩, ⟨by repeat (first | (with_reducible first | exact HB.out | apply below_alloc | apply pw_below_drewN | apply below_drew1) | exact HB.out)⟩⟩
              case rest =>
                clear HC14
                try clear c1
                try clear c2
                try clear p2
                try clear c5
                try clear c5b0
                try clear c6
                try clear c9
                try clear c9b0
                try clear c9b1
                try clear c10
                try clear c10b0
                try clear c10b1
                try clear c11
                try clear c11b0
                try clear c11b1
                try clear c12
                try clear c13
                try clear c15
                try clear c15b0
                try clear c17
                try clear c17b0
                try clear c18
                try clear c19
                try clear c19b0
                try clear c19b1
                try clear c21
                try clear c21b0
                try clear c21b1
                try clear p2
                obtain ⟨kq, x80_13, rfl, HA, HJ13, HB⟩ := hcut
                cases kq with
                | zero => exact absurd HA.out (by simp [anamnesislaw02_FltAlgebra.j2])
                | succ kj13 =>
                  have H := HA.out
                  clear HA
                  simp only [anamnesislaw02_FltAlgebra.j2] at H
                  by_cases c23 : x80_13 = true
                  · subst c23
                    have H1 : (some false) = some r := by rw [if_pos rfl] at H; exact H
                    clear H
                    have H := H1
                    clear H1
                    obtain rfl := Option.some.inj H
                    exact absurd hr_.out (by decide)
                  · replace c23 := Bool.eq_false_iff.mpr c23
                    subst c23
                    have H1 : (if x8_1 < 2 then ((anamnesisref02_Kind.f t246).bind fun t253 => (if t253 > 0 then (if t253 = 2 then (anamnesislaw02_FltAlgebra.l0 kj13 a0 a1 (-9223372036854775808) (Go.bits .xor .i64 a0 (-9223372036854775808)) (Go.bits .xor .i64 a1 (-9223372036854775808)) (wrap64 (x8_1 + 1))) else ((flt_Op.f x8_1 (Go.bits .xor .i64 a0 (-9223372036854775808)) (Go.bits .xor .i64 a1 (-9223372036854775808))).bind fun t254 => (if t254 = (Go.bits .xor .i64 t246 (-9223372036854775808)) then (anamnesislaw02_FltAlgebra.l0 kj13 a0 a1 (-9223372036854775808) (Go.bits .xor .i64 a0 (-9223372036854775808)) (Go.bits .xor .i64 a1 (-9223372036854775808)) (wrap64 (x8_1 + 1))) else (some false)))) else (anamnesislaw02_FltAlgebra.l0 kj13 a0 a1 (-9223372036854775808) (Go.bits .xor .i64 a0 (-9223372036854775808)) (Go.bits .xor .i64 a1 (-9223372036854775808)) (wrap64 (x8_1 + 1))))) else (anamnesislaw02_FltAlgebra.l0 kj13 a0 a1 (-9223372036854775808) (Go.bits .xor .i64 a0 (-9223372036854775808)) (Go.bits .xor .i64 a1 (-9223372036854775808)) (wrap64 (x8_1 + 1)))) = some r := by rw [if_neg (show ¬ (false = true) by decide)] at H; exact H
                    clear H
                    have H := H1
                    clear H1
                    by_cases c24 : x8_1 < 2
                    · rw [if_pos c24] at H
                      have c24b0 : decide (x8_1 < 2) = true := decide_eq_true c24
                      clear c24
                      replace H := Option.bind_eq_some_iff.mp H
                      obtain ⟨t253, A250, H⟩ := H
                      replace H : (if t253 > 0 then (if t253 = 2 then (anamnesislaw02_FltAlgebra.l0 kj13 a0 a1 (-9223372036854775808) (Go.bits .xor .i64 a0 (-9223372036854775808)) (Go.bits .xor .i64 a1 (-9223372036854775808)) (wrap64 (x8_1 + 1))) else ((flt_Op.f x8_1 (Go.bits .xor .i64 a0 (-9223372036854775808)) (Go.bits .xor .i64 a1 (-9223372036854775808))).bind fun t254 => (if t254 = (Go.bits .xor .i64 t246 (-9223372036854775808)) then (anamnesislaw02_FltAlgebra.l0 kj13 a0 a1 (-9223372036854775808) (Go.bits .xor .i64 a0 (-9223372036854775808)) (Go.bits .xor .i64 a1 (-9223372036854775808)) (wrap64 (x8_1 + 1))) else (some false)))) else (anamnesislaw02_FltAlgebra.l0 kj13 a0 a1 (-9223372036854775808) (Go.bits .xor .i64 a0 (-9223372036854775808)) (Go.bits .xor .i64 a1 (-9223372036854775808)) (wrap64 (x8_1 + 1)))) = some r := H
                      have A25 := Aside0.mk A250
                      clear A250
                      by_cases c26 : t253 > 0
                      · rw [if_pos c26] at H
                        have c26b0 : decide (0 < t253) = true := decide_eq_true c26
                        clear c26
                        by_cases c27 : t253 = 2
                        · rw [if_pos c27] at H
                          have c27b0 : (t253 == 2) = true := beq_iff_eq.mpr c27
                          have c27b1 : (t253 != 2) = false := bne_eq_false_iff_eq.mpr c27
                          clear c27
                          have H' := Aside0.mk H
                          clear H
                          go_wp2_with (first | (go_at_call 17; (with_reducible refine (anamnesisref02_Kind.calls t246 t253 _ A25.out).mono ?_); rintro e w' ⟨rfl, ⟨nd, rfl⟩⟩))
                          go_roundg kj13
                          case measure => have := HK1.out; have := HJ6.out; have := HJ13.out; omega
                          case rel => exact ⟨(wrap64 (x8_1 + 1)), (by first | rfl | (simp; done) | (simp [*]; done)), H', ⟨by have := HK1.out; have := HJ6.out; have := HJ13.out; omega⟩, ⟨by repeat (first | (with_reducible first | exact HB.out | apply below_alloc | apply pw_below_drewN | apply below_drew1) | exact HB.out)⟩⟩
                        · rw [if_neg c27] at H
                          have c27b0 : (t253 == 2) = false := beq_eq_false_iff_ne.mpr c27
                          have c27b1 : (t253 != 2) = true := bne_iff_ne.mpr c27
                          replace H := Option.bind_eq_some_iff.mp H
                          obtain ⟨t254, A280, H⟩ := H
                          replace H : (if t254 = (Go.bits .xor .i64 t246 (-9223372036854775808)) then (anamnesislaw02_FltAlgebra.l0 kj13 a0 a1 (-9223372036854775808) (Go.bits .xor .i64 a0 (-9223372036854775808)) (Go.bits .xor .i64 a1 (-9223372036854775808)) (wrap64 (x8_1 + 1))) else (some false)) = some r := H
                          have A28 := Aside0.mk A280
                          clear A280
                          by_cases c29 : t254 = (Go.bits .xor .i64 t246 (-9223372036854775808))
                          · rw [if_pos c29] at H
                            have c29b0 : (t254 == (Go.bits .xor .i64 t246 (-9223372036854775808))) = true := beq_iff_eq.mpr c29
                            have c29b1 : (t254 != (Go.bits .xor .i64 t246 (-9223372036854775808))) = false := bne_eq_false_iff_eq.mpr c29
                            clear c29
                            have H' := Aside0.mk H
                            clear H
                            go_wp2_with (first | (go_at_call 17; (with_reducible refine (anamnesisref02_Kind.calls t246 t253 _ A25.out).mono ?_); rintro e w' ⟨rfl, ⟨nd, rfl⟩⟩) | (go_at_call 12; (with_reducible refine (flt_Op.calls x8_1 (Go.bits .xor .i64 a0 (-9223372036854775808)) (Go.bits .xor .i64 a1 (-9223372036854775808)) t254 _ A28.out).mono ?_); rintro e w' ⟨rfl, ⟨nd, rfl⟩⟩))
                            go_roundg kj13
                            case measure => have := HK1.out; have := HJ6.out; have := HJ13.out; omega
                            case rel => exact ⟨(wrap64 (x8_1 + 1)), (by first | rfl | (simp; done) | (simp [*]; done)), H', ⟨by have := HK1.out; have := HJ6.out; have := HJ13.out; omega⟩, ⟨by repeat (first | (with_reducible first | exact HB.out | apply below_alloc | apply pw_below_drewN | apply below_drew1) | exact HB.out)⟩⟩
                          · rw [if_neg c29] at H
                            have c29b0 : (t254 == (Go.bits .xor .i64 t246 (-9223372036854775808))) = false := beq_eq_false_iff_ne.mpr c29
                            have c29b1 : (t254 != (Go.bits .xor .i64 t246 (-9223372036854775808))) = true := bne_iff_ne.mpr c29
                            obtain rfl := Option.some.inj H
                            exact absurd hr_.out (by decide)
                      · rw [if_neg c26] at H
                        have c26b0 : decide (0 < t253) = false := decide_eq_false c26
                        clear c26
                        have H' := Aside0.mk H
                        clear H
                        go_wp2_with (first | (go_at_call 17; (with_reducible refine (anamnesisref02_Kind.calls t246 t253 _ A25.out).mono ?_); rintro e w' ⟨rfl, ⟨nd, rfl⟩⟩))
                        go_roundg kj13
                        case measure => have := HK1.out; have := HJ6.out; have := HJ13.out; omega
                        case rel => exact ⟨(wrap64 (x8_1 + 1)), (by first | rfl | (simp; done) | (simp [*]; done)), H', ⟨by have := HK1.out; have := HJ6.out; have := HJ13.out; omega⟩, ⟨by repeat (first | (with_reducible first | exact HB.out | apply below_alloc | apply pw_below_drewN | apply below_drew1) | exact HB.out)⟩⟩
                    · rw [if_neg c24] at H
                      have c24b0 : decide (x8_1 < 2) = false := decide_eq_false c24
                      clear c24
                      have H' := Aside0.mk H
                      clear H
                      go_wp2
                      go_roundg kj13
                      case measure => have := HK1.out; have := HJ6.out; have := HJ13.out; omega
                      case rel => exact ⟨(wrap64 (x8_1 + 1)), (by first | rfl | (simp; done) | (simp [*]; done)), H', ⟨by have := HK1.out; have := HJ6.out; have := HJ13.out; omega⟩, ⟨by repeat (first | (with_reducible first | exact HB.out | apply below_alloc | apply pw_below_drewN | apply below_drew1) | exact HB.out)⟩⟩
      · rw [if_neg c5] at H
        have c5b0 : decide (x8_1 < 4) = false := decide_eq_false c5
        clear c5
        replace H := Option.bind_eq_some_iff.mp H
        obtain ⟨t243, A300, H⟩ := H
        replace H : (if t243 = 0 then (some true) else ((flt_Op.f 1 a0 a1).bind fun t244 => ((flt_Op.f 0 a0 (Go.bits .xor .i64 a1 (-9223372036854775808))).bind fun t245 => (some (t244 == t245))))) = some r := H
        have A30 := Aside0.mk A300
        clear A300
        by_cases c31 : t243 = 0
        · rw [if_pos c31] at H
          have c31b0 : (t243 == 0) = true := beq_iff_eq.mpr c31
          have c31b1 : (t243 != 0) = false := bne_eq_false_iff_eq.mpr c31
          clear c31
          obtain rfl := Option.some.inj H
          go_wp2_with (first | ((with_reducible refine gate_callee (f := 17) rfl ?_); refine goesL_ (some 104) rfl rfl Try.func17 (by kernel_rfl) rfl #[.int .i64 a1] rfl (by (try simp only [List.map_toArray, List.map_cons, List.map_nil]); first | done | rfl | (simp only [List.length_drop, List.length_take]; rfl)) ?_; (with_reducible refine (anamnesisref02_Kind.calls a1 t243 _ A30.out).mono ?_); rintro e w' ⟨rfl, ⟨nd, rfl⟩⟩; refine ⟨_, rfl, ?_⟩))
          go_ret
          exact ⟨by first | rfl | (simp [errW_none, errW_some] <;> rfl) | (simp [*, errW_none, errW_some] <;> rfl) | (simp [wrap64, errW_none, errW_some]; done), by repeat (first | (with_reducible first | exact HB.out | apply below_alloc | apply pw_below_drewN | apply below_drew1) | exact HB.out)⟩
        · rw [if_neg c31] at H
          have c31b0 : (t243 == 0) = false := beq_eq_false_iff_ne.mpr c31
          have c31b1 : (t243 != 0) = true := bne_iff_ne.mpr c31
          replace H := Option.bind_eq_some_iff.mp H
          obtain ⟨t244, A320, H⟩ := H
          replace H : ((flt_Op.f 0 a0 (Go.bits .xor .i64 a1 (-9223372036854775808))).bind fun t245 => (some (t244 == t245))) = some r := H
          have A32 := Aside0.mk A320
          clear A320
          replace H := Option.bind_eq_some_iff.mp H
          obtain ⟨t245, A330, H⟩ := H
          replace H : (some (t244 == t245)) = some r := H
          have A33 := Aside0.mk A330
          clear A330
          obtain rfl := Option.some.inj H
          go_wp2_with (first | ((with_reducible refine gate_callee (f := 17) rfl ?_); refine goesL_ (some 104) rfl rfl Try.func17 (by kernel_rfl) rfl #[.int .i64 a1] rfl (by (try simp only [List.map_toArray, List.map_cons, List.map_nil]); first | done | rfl | (simp only [List.length_drop, List.length_take]; rfl)) ?_; (with_reducible refine (anamnesisref02_Kind.calls a1 t243 _ A30.out).mono ?_); rintro e w' ⟨rfl, ⟨nd, rfl⟩⟩; refine ⟨_, rfl, ?_⟩) | (go_at_call 12; (with_reducible refine (flt_Op.calls 1 a0 a1 t244 _ A32.out).mono ?_); rintro e w' ⟨rfl, ⟨nd, rfl⟩⟩) | (go_at_call 12; (with_reducible refine (flt_Op.calls 0 a0 (Go.bits .xor .i64 a1 (-9223372036854775808)) t245 _ A33.out).mono ?_); rintro e w' ⟨rfl, ⟨nd, rfl⟩⟩))
          go_ret
          exact ⟨by first | rfl | (simp [errW_none, errW_some] <;> rfl) | (simp [*, errW_none, errW_some] <;> rfl) | (simp [wrap64, errW_none, errW_some]; done), by repeat (first | (with_reducible first | exact HB.out | apply below_alloc | apply pw_below_drewN | apply below_drew1) | exact HB.out)⟩

/-- THE ONE PURE STATEMENT of anamnesislaw02_FltAlgebra: yours. -/
def anamnesislaw02_FltAlgebra.Pure : Prop := ∀ (a0 : Int) (a1 : Int), (Lit.int .i64 a0).wf = true → (Lit.int .i64 a1).wf = true → ∃ k, anamnesislaw02_FltAlgebra.f k a0 a1 = some true
theorem anamnesislaw02_FltAlgebra.walk (P : anamnesislaw02_FltAlgebra.Pure) (a0 : Int) (a1 : Int) (w : World) (w0 : (Lit.int .i64 a0).wf = true) (w1 : (Lit.int .i64 a1).wf = true) :
    Calls Try.prog 6 #[.int .i64 a0, .int .i64 a1] w fun e w' => e = .returned (.bool true) ∧ Below w.heap.size w w' := by
  obtain ⟨k, h⟩ := P a0 a1 w0 w1
  refine (anamnesislaw02_FltAlgebra.calls k a0 a1 true w h rfl).mono ?_
  rintro e w' ⟨rfl, hd⟩
  exact ⟨rfl, hd⟩

end Go.Proofs.Ytbnpodkfcfdpeaa.PFlt
