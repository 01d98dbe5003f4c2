-- laid by a program of this session (gprint.py)
import Derived.Test.YtbnpodkfcfdpeaaPFltx0
import Derived.Test.YtbnpodkfcfdpeaaPFltx1
import Derived.Test.YtbnpodkfcfdpeaaPFltx2
namespace Go.Proofs.Ytbnpodkfcfdpeaa.PFlt
open Go.RowKit Go.Proofs.YtbnpodkfcfdpeaaW.PrintWords Go.Proofs.YtbnpodkfcfdpeaaW.PrintLast Go.Proofs.YtbnpodkfcfdpeaaW.PrintMore
attribute [local go_sem] max2_int min2_int max_two min_two max_three min_three max_four min_four   -- for this text's walks alone
set_option linter.unusedVariables false
set_option linter.unusedSimpArgs false

/-! ### anamnesislaw02_FltWhole: function 8 -/
mutual
def anamnesislaw02_FltWhole.j0 : Nat → Int → Int → Bool → Option (Bool)
  | 0, _, _, _ => none
  | k + 1, x0, x1, x28 => if x28 = true then ((anamnesislaw02_fixed.f).bind fun t283 => (some true)) else ((flt_Of.f x0).bind fun t284 => ((flt_Of.f x1).bind fun t285 => ((flt_Trunc.f t284).bind fun bt286 => (if bt286.2 = true then (if bt286.1 = x0 then ((flt_Op.f 0 t284 t285).bind fun t288 => ((flt_Of.f (wrap64 (x0 + x1))).bind fun t289 => (if t288 = t289 then ((flt_Op.f 1 t284 t285).bind fun t290 => ((flt_Of.f (wrap64 (x0 - x1))).bind fun t291 => (if t290 = t291 then ((flt_Less.f t284 t285).bind fun t292 => (if (!t292 == (decide (x0 < x1))) = true then (anamnesislaw02_FltWhole.j1 k x0 x1 t284 t285 true) else ((flt_Equal.f t284 t285).bind fun t293 => (anamnesislaw02_FltWhole.j1 k x0 x1 t284 t285 (!t293 == (x0 == x1)))))) else (anamnesislaw02_FltWhole.j1 k x0 x1 t284 t285 true)))) else (anamnesislaw02_FltWhole.j1 k x0 x1 t284 t285 true)))) else (anamnesislaw02_FltWhole.j1 k x0 x1 t284 t285 true)) else (anamnesislaw02_FltWhole.j1 k x0 x1 t284 t285 true)))))
def anamnesislaw02_FltWhole.j1 : Nat → Int → Int → Int → Int → Bool → Option (Bool)
  | 0, _, _, _, _, _ => none
  | k + 1, x0, x1, x5, x6, x83 => if x83 = true then (some false) else (if x0 = 0 then (anamnesislaw02_FltWhole.j2 k x0 x1 x5 x6 false) else (if x1 = 0 then (anamnesislaw02_FltWhole.j2 k x0 x1 x5 x6 false) else ((flt_Op.f 2 x5 x6).bind fun t294 => ((flt_Of.f (wrap64 (x0 * x1))).bind fun t295 => (anamnesislaw02_FltWhole.j2 k x0 x1 x5 x6 (t294 != t295))))))
def anamnesislaw02_FltWhole.j2 : Nat → Int → Int → Int → Int → Bool → Option (Bool)
  | 0, _, _, _, _, _ => none
  | k + 1, x0, x1, x5, x6, x99 => if x99 = true then (some false) else (if x1 = 0 then (some true) else ((flt_Op.f 3 x5 x6).bind fun t296 => ((flt_Trunc.f t296).bind fun bt297 => (if bt297.2 = true then (some (bt297.1 == (wrap64 (Int.tdiv x0 x1)))) else (some false)))))
end
def anamnesislaw02_FltWhole.f (k : Nat) (a0 : Int) (a1 : Int) : Option (Bool) := (anamnesislaw02_fixed.f).bind fun t282 => (if a0 < (-67108864) then (anamnesislaw02_FltWhole.j0 k a0 a1 true) else (if a0 > 67108864 then (anamnesislaw02_FltWhole.j0 k a0 a1 true) else (if a1 < (-67108864) then (anamnesislaw02_FltWhole.j0 k a0 a1 true) else (anamnesislaw02_FltWhole.j0 k a0 a1 (decide (a1 > 67108864))))))
theorem anamnesislaw02_FltWhole.mono_l : ∀ k, (∀ y0 y1 y2, LeO (anamnesislaw02_FltWhole.j0 k y0 y1 y2) (anamnesislaw02_FltWhole.j0 (k + 1) y0 y1 y2)) ∧ (∀ y0 y1 y2 y3 y4, LeO (anamnesislaw02_FltWhole.j1 k y0 y1 y2 y3 y4) (anamnesislaw02_FltWhole.j1 (k + 1) y0 y1 y2 y3 y4)) ∧ (∀ y0 y1 y2 y3 y4, LeO (anamnesislaw02_FltWhole.j2 k y0 y1 y2 y3 y4) (anamnesislaw02_FltWhole.j2 (k + 1) y0 y1 y2 y3 y4))
  | 0 => ⟨fun _ _ _ r h => by simp [anamnesislaw02_FltWhole.j0] at h, fun _ _ _ _ _ r h => by simp [anamnesislaw02_FltWhole.j1] at h, fun _ _ _ _ _ r h => by simp [anamnesislaw02_FltWhole.j2] at h⟩
  | k + 1 => by
    obtain ⟨ih0, ih1, ih2⟩ := anamnesislaw02_FltWhole.mono_l k
    refine ⟨?_, ?_, ?_⟩
    · intro y0 y1 y2
      unfold anamnesislaw02_FltWhole.j0
      repeat' first
      | (with_reducible exact ih0 _ _ _)
      | (with_reducible exact ih1 _ _ _ _ _)
      | (with_reducible exact ih2 _ _ _ _ _)
      | (with_reducible exact LeO.refl _)
      | (with_reducible exact LeO.none _)
      | (with_reducible refine LeO.ite ?_ ?_)
      | (with_reducible refine LeO.bind ?_ (fun _ => ?_))
      | exact ih0 _ _ _
      | exact ih1 _ _ _ _ _
      | exact ih2 _ _ _ _ _
      | exact LeO.none _
      | refine LeO.ite ?_ ?_
      | refine LeO.bind ?_ (fun _ => ?_)
    · intro y0 y1 y2 y3 y4
      unfold anamnesislaw02_FltWhole.j1
      repeat' first
      | (with_reducible exact ih0 _ _ _)
      | (with_reducible exact ih1 _ _ _ _ _)
      | (with_reducible exact ih2 _ _ _ _ _)
      | (with_reducible exact LeO.refl _)
      | (with_reducible exact LeO.none _)
      | (with_reducible refine LeO.ite ?_ ?_)
      | (with_reducible refine LeO.bind ?_ (fun _ => ?_))
      | exact ih0 _ _ _
      | exact ih1 _ _ _ _ _
      | exact ih2 _ _ _ _ _
      | exact LeO.none _
      | refine LeO.ite ?_ ?_
      | refine LeO.bind ?_ (fun _ => ?_)
    · intro y0 y1 y2 y3 y4
      unfold anamnesislaw02_FltWhole.j2
      repeat' first
      | (with_reducible exact ih0 _ _ _)
      | (with_reducible exact ih1 _ _ _ _ _)
      | (with_reducible exact ih2 _ _ _ _ _)
      | (with_reducible exact LeO.refl _)
      | (with_reducible exact LeO.none _)
      | (with_reducible refine LeO.ite ?_ ?_)
      | (with_reducible refine LeO.bind ?_ (fun _ => ?_))
      | exact ih0 _ _ _
      | exact ih1 _ _ _ _ _
      | exact ih2 _ _ _ _ _
      | exact LeO.none _
      | refine LeO.ite ?_ ?_
      | refine LeO.bind ?_ (fun _ => ?_)
theorem anamnesislaw02_FltWhole.mono : ∀ a0 a1 k, LeO (anamnesislaw02_FltWhole.f k a0 a1) (anamnesislaw02_FltWhole.f (k + 1) a0 a1) := by
  intro a0 a1 k
  obtain ⟨ih0, ih1, ih2⟩ := anamnesislaw02_FltWhole.mono_l k
  unfold anamnesislaw02_FltWhole.f
  repeat' first
      | (with_reducible exact ih0 _ _ _)
      | (with_reducible exact ih1 _ _ _ _ _)
      | (with_reducible exact ih2 _ _ _ _ _)
      | (with_reducible exact LeO.refl _)
      | (with_reducible exact LeO.none _)
      | (with_reducible refine LeO.ite ?_ ?_)
      | (with_reducible refine LeO.bind ?_ (fun _ => ?_))
      | exact ih0 _ _ _
      | exact ih1 _ _ _ _ _
      | exact ih2 _ _ _ _ _
      | exact LeO.none _
      | refine LeO.ite ?_ ?_
      | refine LeO.bind ?_ (fun _ => ?_)
set_option maxHeartbeats 8000000 in
set_option maxRecDepth 100000 in
theorem anamnesislaw02_FltWhole.calls (k : Nat) (a0 : Int) (a1 : Int) (r : Bool) (w : World) (h : anamnesislaw02_FltWhole.f k a0 a1 = some r) (hr : r = true) :
    Calls Try.prog 8 #[.int .i64 a0, .int .i64 a1] w fun e w' => e = .returned (.bool r) ∧ Below w.heap.size w w' := by
  have hr_ := Aside0.mk hr
  clear hr
  have HB := Aside0.mk (Below.refl w.heap.size w)
  have H : ((anamnesislaw02_fixed.f).bind fun t282 => (if a0 < (-67108864) then (anamnesislaw02_FltWhole.j0 k a0 a1 true) else (if a0 > 67108864 then (anamnesislaw02_FltWhole.j0 k a0 a1 true) else (if a1 < (-67108864) then (anamnesislaw02_FltWhole.j0 k a0 a1 true) else (anamnesislaw02_FltWhole.j0 k a0 a1 (decide (a1 > 67108864))))))) = some r := h
  clear h
  have HC3 := Aside0.mk H
  clear H
  go_enter Try.func8, Try.ntmps8
  go_upto_region 1 with (fail)
  go_cut [28] (fun v28 wc => ∃ (kq : Nat) (x28_2 : Bool), v28 = .bool x28_2 ∧ Aside0 (anamnesislaw02_FltWhole.j0 kq a0 a1 x28_2 = some r) ∧ Aside0 (kq ≤ k) ∧ Aside0 (Below w.heap.size w wc))
  case first =>
    have H := HC3.out
    clear HC3
    replace H := Option.bind_eq_some_iff.mp H
    obtain ⟨t282, A40, H⟩ := H
    replace H : (if a0 < (-67108864) then (anamnesislaw02_FltWhole.j0 k a0 a1 true) else (if a0 > 67108864 then (anamnesislaw02_FltWhole.j0 k a0 a1 true) else (if a1 < (-67108864) then (anamnesislaw02_FltWhole.j0 k a0 a1 true) else (anamnesislaw02_FltWhole.j0 k a0 a1 (decide (a1 > 67108864)))))) = some r := H
    have A4 := Aside0.mk A40
    clear A40
    by_cases c5 : a0 < (-67108864)
    · rw [if_pos c5] at H
      have c5b0 : decide (a0 < (-67108864)) = true := decide_eq_true c5
      clear c5
      (first | rw [c5b0] | (simp only [i64_w, i32_w]; rw [c5b0]) | skip)
      have H' := Aside0.mk H
      clear H
      go_wp2_with (first | ((with_reducible refine gate_callee (f := 11) rfl ?_); refine goesL_ (some 11) rfl rfl Try.func11 (by kernel_rfl) rfl #[] rfl (by (try simp only [List.map_toArray, List.map_cons, List.map_nil]); first | done | rfl | (simp only [List.length_drop, List.length_take]; rfl)) ?_; (with_reducible refine (anamnesislaw02_fixed.calls  t282 _ A4.out).mono ?_); rintro e w6 ⟨rfl, hb⟩; refine ⟨_, rfl, ?_⟩; have n0_ := Aside0.mk (below_step (by repeat (first | (with_reducible first | exact HB.out | apply below_alloc | apply pw_below_drewN | apply below_drew1) | exact HB.out)) hb); clear HB; have HB := n0_; clear n0_; (try clear hb); (try clear hb2); (try clear hk); (try clear hi)))
      go_meet
      case rel => exact ⟨_, (true), (by first | rfl | (simp; done) | (simp [*]; done)), H', ⟨by first | omega | exact Nat.le_refl _⟩, ⟨by repeat (first | (with_reducible first | exact HB.out | apply below_alloc | apply pw_below_drewN | apply below_drew1) | exact HB.out)⟩⟩
    · rw [if_neg c5] at H
      have c5b0 : decide (a0 < (-67108864)) = false := decide_eq_false c5
      clear c5
      (first | rw [c5b0] | (simp only [i64_w, i32_w]; rw [c5b0]) | skip)
      by_cases c7 : a0 > 67108864
      · rw [if_pos c7] at H
        have c7b0 : decide (67108864 < a0) = true := decide_eq_true c7
        clear c7
        have H' := Aside0.mk H
        clear H
        go_wp2_with (first | ((with_reducible refine gate_callee (f := 11) rfl ?_); refine goesL_ (some 11) rfl rfl Try.func11 (by kernel_rfl) rfl #[] rfl (by (try simp only [List.map_toArray, List.map_cons, List.map_nil]); first | done | rfl | (simp only [List.length_drop, List.length_take]; rfl)) ?_; (with_reducible refine (anamnesislaw02_fixed.calls  t282 _ A4.out).mono ?_); rintro e w8 ⟨rfl, hb⟩; refine ⟨_, rfl, ?_⟩; have n0_ := Aside0.mk (below_step (by repeat (first | (with_reducible first | exact HB.out | apply below_alloc | apply pw_below_drewN | apply below_drew1) | exact HB.out)) hb); clear HB; have HB := n0_; clear n0_; (try clear hb); (try clear hb2); (try clear hk); (try clear hi)))
        go_meet
        case rel => exact ⟨_, (true), (by first | rfl | (simp; done) | (simp [*]; done)), H', ⟨by first | omega | exact Nat.le_refl _⟩, ⟨by repeat (first | (with_reducible first | exact HB.out | apply below_alloc | apply pw_below_drewN | apply below_drew1) | exact HB.out)⟩⟩
      · rw [if_neg c7] at H
        have c7b0 : decide (67108864 < a0) = false := decide_eq_false c7
        clear c7
        by_cases c9 : a1 < (-67108864)
        · rw [if_pos c9] at H
          have c9b0 : decide (a1 < (-67108864)) = true := decide_eq_true c9
          clear c9
          have H' := Aside0.mk H
          clear H
          go_wp2_with (first | ((with_reducible refine gate_callee (f := 11) rfl ?_); refine goesL_ (some 11) rfl rfl Try.func11 (by kernel_rfl) rfl #[] rfl (by (try simp only [List.map_toArray, List.map_cons, List.map_nil]); first | done | rfl | (simp only [List.length_drop, List.length_take]; rfl)) ?_; (with_reducible refine (anamnesislaw02_fixed.calls  t282 _ A4.out).mono ?_); rintro e w10 ⟨rfl, hb⟩; refine ⟨_, rfl, ?_⟩; have n0_ := Aside0.mk (below_step (by repeat (first | (with_reducible first | exact HB.out | apply below_alloc | apply pw_below_drewN | apply below_drew1) | exact HB.out)) hb); clear HB; have HB := n0_; clear n0_; (try clear hb); (try clear hb2); (try clear hk); (try clear hi)))
          go_meet
          case rel => exact ⟨_, (true), (by first | rfl | (simp; done) | (simp [*]; done)), H', ⟨by first | omega | exact Nat.le_refl _⟩, ⟨by repeat (first | (with_reducible first | exact HB.out | apply below_alloc | apply pw_below_drewN | apply below_drew1) | exact HB.out)⟩⟩
        · rw [if_neg c9] at H
          have c9b0 : decide (a1 < (-67108864)) = false := decide_eq_false c9
          clear c9
          have H' := Aside0.mk H
          clear H
          go_wp2_with (first | ((with_reducible refine gate_callee (f := 11) rfl ?_); refine goesL_ (some 11) rfl rfl Try.func11 (by kernel_rfl) rfl #[] rfl (by (try simp only [List.map_toArray, List.map_cons, List.map_nil]); first | done | rfl | (simp only [List.length_drop, List.length_take]; rfl)) ?_; (with_reducible refine (anamnesislaw02_fixed.calls  t282 _ A4.out).mono ?_); rintro e w11 ⟨rfl, hb⟩; refine ⟨_, rfl, ?_⟩; have n0_ := Aside0.mk (below_step (by repeat (first | (with_reducible first | exact HB.out | apply below_alloc | apply pw_below_drewN | apply below_drew1) | exact HB.out)) hb); clear HB; have HB := n0_; clear n0_; (try clear hb); (try clear hb2); (try clear hk); (try clear hi)))
          go_meet
          case rel => exact ⟨_, (decide (a1 > 67108864)), (by first | rfl | (simp; done) | (simp [*]; done)), H', ⟨by first | omega | exact Nat.le_refl _⟩, ⟨by repeat (first | (with_reducible first | exact HB.out | apply below_alloc | apply pw_below_drewN | apply below_drew1) | exact HB.out)⟩⟩
  case rest =>
    clear HC3
    try clear c1
    try clear p2
    try clear c5
    try clear c5b0
    try clear c7
    try clear c7b0
    try clear c8
    try clear c9
    try clear c9b0
    try clear c11
    obtain ⟨kq, x28_2, rfl, HA, HJ2, HB⟩ := hcut
    cases kq with
    | zero => exact absurd HA.out (by simp [anamnesislaw02_FltWhole.j0])
    | succ kj2 =>
      have H := HA.out
      clear HA
      simp only [anamnesislaw02_FltWhole.j0] at H
      by_cases c12 : x28_2 = true
      · subst c12
        have H1 : ((anamnesislaw02_fixed.f).bind fun t283 => (some true)) = some r := by rw [if_pos rfl] at H; exact H
        clear H
        have H := H1
        clear H1
        replace H := Option.bind_eq_some_iff.mp H
        obtain ⟨t283, A130, H⟩ := H
        replace H : (some true) = some r := H
        have A13 := Aside0.mk A130
        clear A130
        obtain rfl := Option.some.inj H
        go_wp2_with (first | ((with_reducible refine gate_callee (f := 11) rfl ?_); refine goesL_ (some 29) rfl rfl Try.func11 (by kernel_rfl) rfl #[] rfl (by (try simp only [List.map_toArray, List.map_cons, List.map_nil]); first | done | rfl | (simp only [List.length_drop, List.length_take]; rfl)) ?_; (with_reducible refine (anamnesislaw02_fixed.calls  t283 _ A13.out).mono ?_); rintro e w14 ⟨rfl, hb⟩; refine ⟨_, rfl, ?_⟩; have n0_ := Aside0.mk (below_step (by repeat (first | (with_reducible first | exact HB.out | apply below_alloc | apply pw_below_drewN | apply below_drew1) | exact HB.out)) hb); clear HB; have HB := n0_; clear n0_; (try clear hb); (try clear hb2); (try clear hk); (try clear hi)))
        go_ret
        exact ⟨by first | rfl | (simp [errW_none, errW_some] <;> rfl) | (simp [*, errW_none, errW_some] <;> rfl) | (simp [wrap64, errW_none, errW_some]; done), by repeat (first | (with_reducible first | exact HB.out | apply below_alloc | apply pw_below_drewN | apply below_drew1) | exact HB.out)⟩
      · replace c12 := Bool.eq_false_iff.mpr c12
        subst c12
        have H1 : ((flt_Of.f a0).bind fun t284 => ((flt_Of.f a1).bind fun t285 => ((flt_Trunc.f t284).bind fun bt286 => (if bt286.2 = true then (if bt286.1 = a0 then ((flt_Op.f 0 t284 t285).bind fun t288 => ((flt_Of.f (wrap64 (a0 + a1))).bind fun t289 => (if t288 = t289 then ((flt_Op.f 1 t284 t285).bind fun t290 => ((flt_Of.f (wrap64 (a0 - a1))).bind fun t291 => (if t290 = t291 then ((flt_Less.f t284 t285).bind fun t292 => (if (!t292 == (decide (a0 < a1))) = true then (anamnesislaw02_FltWhole.j1 kj2 a0 a1 t284 t285 true) else ((flt_Equal.f t284 t285).bind fun t293 => (anamnesislaw02_FltWhole.j1 kj2 a0 a1 t284 t285 (!t293 == (a0 == a1)))))) else (anamnesislaw02_FltWhole.j1 kj2 a0 a1 t284 t285 true)))) else (anamnesislaw02_FltWhole.j1 kj2 a0 a1 t284 t285 true)))) else (anamnesislaw02_FltWhole.j1 kj2 a0 a1 t284 t285 true)) else (anamnesislaw02_FltWhole.j1 kj2 a0 a1 t284 t285 true))))) = some r := by rw [if_neg (show ¬ (false = true) by decide)] at H; exact H
        clear H
        have H := H1
        clear H1
        replace H := Option.bind_eq_some_iff.mp H
        obtain ⟨t284, A150, H⟩ := H
        replace H : ((flt_Of.f a1).bind fun t285 => ((flt_Trunc.f t284).bind fun bt286 => (if bt286.2 = true then (if bt286.1 = a0 then ((flt_Op.f 0 t284 t285).bind fun t288 => ((flt_Of.f (wrap64 (a0 + a1))).bind fun t289 => (if t288 = t289 then ((flt_Op.f 1 t284 t285).bind fun t290 => ((flt_Of.f (wrap64 (a0 - a1))).bind fun t291 => (if t290 = t291 then ((flt_Less.f t284 t285).bind fun t292 => (if (!t292 == (decide (a0 < a1))) = true then (anamnesislaw02_FltWhole.j1 kj2 a0 a1 t284 t285 true) else ((flt_Equal.f t284 t285).bind fun t293 => (anamnesislaw02_FltWhole.j1 kj2 a0 a1 t284 t285 (!t293 == (a0 == a1)))))) else (anamnesislaw02_FltWhole.j1 kj2 a0 a1 t284 t285 true)))) else (anamnesislaw02_FltWhole.j1 kj2 a0 a1 t284 t285 true)))) else (anamnesislaw02_FltWhole.j1 kj2 a0 a1 t284 t285 true)) else (anamnesislaw02_FltWhole.j1 kj2 a0 a1 t284 t285 true)))) = some r := H
        have A15 := Aside0.mk A150
        clear A150
        replace H := Option.bind_eq_some_iff.mp H
        obtain ⟨t285, A160, H⟩ := H
        replace H : ((flt_Trunc.f t284).bind fun bt286 => (if bt286.2 = true then (if bt286.1 = a0 then ((flt_Op.f 0 t284 t285).bind fun t288 => ((flt_Of.f (wrap64 (a0 + a1))).bind fun t289 => (if t288 = t289 then ((flt_Op.f 1 t284 t285).bind fun t290 => ((flt_Of.f (wrap64 (a0 - a1))).bind fun t291 => (if t290 = t291 then ((flt_Less.f t284 t285).bind fun t292 => (if (!t292 == (decide (a0 < a1))) = true then (anamnesislaw02_FltWhole.j1 kj2 a0 a1 t284 t285 true) else ((flt_Equal.f t284 t285).bind fun t293 => (anamnesislaw02_FltWhole.j1 kj2 a0 a1 t284 t285 (!t293 == (a0 == a1)))))) else (anamnesislaw02_FltWhole.j1 kj2 a0 a1 t284 t285 true)))) else (anamnesislaw02_FltWhole.j1 kj2 a0 a1 t284 t285 true)))) else (anamnesislaw02_FltWhole.j1 kj2 a0 a1 t284 t285 true)) else (anamnesislaw02_FltWhole.j1 kj2 a0 a1 t284 t285 true))) = some r := H
        have A16 := Aside0.mk A160
        clear A160
        replace H := Option.bind_eq_some_iff.mp H
        obtain ⟨⟨t286, t287⟩, A170, H⟩ := H
        replace H : (if t287 = true then (if t286 = a0 then ((flt_Op.f 0 t284 t285).bind fun t288 => ((flt_Of.f (wrap64 (a0 + a1))).bind fun t289 => (if t288 = t289 then ((flt_Op.f 1 t284 t285).bind fun t290 => ((flt_Of.f (wrap64 (a0 - a1))).bind fun t291 => (if t290 = t291 then ((flt_Less.f t284 t285).bind fun t292 => (if (!t292 == (decide (a0 < a1))) = true then (anamnesislaw02_FltWhole.j1 kj2 a0 a1 t284 t285 true) else ((flt_Equal.f t284 t285).bind fun t293 => (anamnesislaw02_FltWhole.j1 kj2 a0 a1 t284 t285 (!t293 == (a0 == a1)))))) else (anamnesislaw02_FltWhole.j1 kj2 a0 a1 t284 t285 true)))) else (anamnesislaw02_FltWhole.j1 kj2 a0 a1 t284 t285 true)))) else (anamnesislaw02_FltWhole.j1 kj2 a0 a1 t284 t285 true)) else (anamnesislaw02_FltWhole.j1 kj2 a0 a1 t284 t285 true)) = some r := H
        have A17 := Aside0.mk A170
        clear A170
        have HC18 := Aside0.mk H
        clear H
        go_upto_region 5 with (first | ((with_reducible refine gate_callee (f := 22) rfl ?_); refine goesL_ (some 31) rfl rfl Try.func22 (by kernel_rfl) rfl #[.int .i64 a0] rfl (by (try simp only [List.map_toArray, List.map_cons, List.map_nil]); first | done | rfl | (simp only [List.length_drop, List.length_take]; rfl)) ?_; (with_reducible refine (flt_Of.calls a0 t284 _ A15.out).mono ?_); rintro e w' ⟨rfl, ⟨nd, rfl⟩⟩; refine ⟨_, rfl, ?_⟩) | ((with_reducible refine gate_callee (f := 22) rfl ?_); refine goesL_ (some 33) rfl rfl Try.func22 (by kernel_rfl) rfl #[.int .i64 a1] rfl (by (try simp only [List.map_toArray, List.map_cons, List.map_nil]); first | done | rfl | (simp only [List.length_drop, List.length_take]; rfl)) ?_; (with_reducible refine (flt_Of.calls a1 t285 _ A16.out).mono ?_); rintro e w' ⟨rfl, ⟨nd, rfl⟩⟩; refine ⟨_, rfl, ?_⟩) | ((with_reducible refine gate_callee (f := 14) rfl ?_); refine goesL_ (some 36) rfl rfl Try.func14 (by kernel_rfl) rfl #[.int .i64 t284] rfl (by (try simp only [List.map_toArray, List.map_cons, List.map_nil]); first | done | rfl | (simp only [List.length_drop, List.length_take]; rfl)) ?_; (with_reducible refine (flt_Trunc.calls t284 t286 t287 _ A17.out).mono ?_); rintro e w' ⟨rfl, ⟨nd, rfl⟩⟩; refine ⟨_, rfl, ?_⟩))
        (try simp only [Act.put, List.setIfInBounds_toArray, List.set_cons_zero, List.set_cons_succ])
        go_cut [83] (fun v83 wc => ∃ (kq : Nat) (x83_17 : Bool), v83 = .bool x83_17 ∧ Aside0 (anamnesislaw02_FltWhole.j1 kq a0 a1 t284 t285 x83_17 = some r) ∧ Aside0 (kq ≤ kj2) ∧ Aside0 (Below w.heap.size w wc))
        case first =>
          have H := HC18.out
          clear HC18
          by_cases c19 : t287 = true
          · subst c19
            have H1 : (if t286 = a0 then ((flt_Op.f 0 t284 t285).bind fun t288 => ((flt_Of.f (wrap64 (a0 + a1))).bind fun t289 => (if t288 = t289 then ((flt_Op.f 1 t284 t285).bind fun t290 => ((flt_Of.f (wrap64 (a0 - a1))).bind fun t291 => (if t290 = t291 then ((flt_Less.f t284 t285).bind fun t292 => (if (!t292 == (decide (a0 < a1))) = true then (anamnesislaw02_FltWhole.j1 kj2 a0 a1 t284 t285 true) else ((flt_Equal.f t284 t285).bind fun t293 => (anamnesislaw02_FltWhole.j1 kj2 a0 a1 t284 t285 (!t293 == (a0 == a1)))))) else (anamnesislaw02_FltWhole.j1 kj2 a0 a1 t284 t285 true)))) else (anamnesislaw02_FltWhole.j1 kj2 a0 a1 t284 t285 true)))) else (anamnesislaw02_FltWhole.j1 kj2 a0 a1 t284 t285 true)) = some r := by rw [if_pos rfl] at H; exact H
            clear H
            have H := H1
            clear H1
            by_cases c20 : t286 = a0
            · rw [if_pos c20] at H
              have c20b0 : (t286 == a0) = true := beq_iff_eq.mpr c20
              have c20b1 : (t286 != a0) = false := bne_eq_false_iff_eq.mpr c20
              clear c20
              (first | rw [c20b0] | (simp only [i64_w, i32_w]; rw [c20b0]) | skip)
              replace H := Option.bind_eq_some_iff.mp H
              obtain ⟨t288, A210, H⟩ := H
              replace H : ((flt_Of.f (wrap64 (a0 + a1))).bind fun t289 => (if t288 = t289 then ((flt_Op.f 1 t284 t285).bind fun t290 => ((flt_Of.f (wrap64 (a0 - a1))).bind fun t291 => (if t290 = t291 then ((flt_Less.f t284 t285).bind fun t292 => (if (!t292 == (decide (a0 < a1))) = true then (anamnesislaw02_FltWhole.j1 kj2 a0 a1 t284 t285 true) else ((flt_Equal.f t284 t285).bind fun t293 => (anamnesislaw02_FltWhole.j1 kj2 a0 a1 t284 t285 (!t293 == (a0 == a1)))))) else (anamnesislaw02_FltWhole.j1 kj2 a0 a1 t284 t285 true)))) else (anamnesislaw02_FltWhole.j1 kj2 a0 a1 t284 t285 true))) = some r := H
              have A21 := Aside0.mk A210
              clear A210
              replace H := Option.bind_eq_some_iff.mp H
              obtain ⟨t289, A220, H⟩ := H
              replace H : (if t288 = t289 then ((flt_Op.f 1 t284 t285).bind fun t290 => ((flt_Of.f (wrap64 (a0 - a1))).bind fun t291 => (if t290 = t291 then ((flt_Less.f t284 t285).bind fun t292 => (if (!t292 == (decide (a0 < a1))) = true then (anamnesislaw02_FltWhole.j1 kj2 a0 a1 t284 t285 true) else ((flt_Equal.f t284 t285).bind fun t293 => (anamnesislaw02_FltWhole.j1 kj2 a0 a1 t284 t285 (!t293 == (a0 == a1)))))) else (anamnesislaw02_FltWhole.j1 kj2 a0 a1 t284 t285 true)))) else (anamnesislaw02_FltWhole.j1 kj2 a0 a1 t284 t285 true)) = some r := H
              have A22 := Aside0.mk A220
              clear A220
              by_cases c23 : t288 = t289
              · rw [if_pos c23] at H
                have c23b0 : (t288 == t289) = true := beq_iff_eq.mpr c23
                have c23b1 : (t288 != t289) = false := bne_eq_false_iff_eq.mpr c23
                clear c23
                replace H := Option.bind_eq_some_iff.mp H
                obtain ⟨t290, A240, H⟩ := H
                replace H : ((flt_Of.f (wrap64 (a0 - a1))).bind fun t291 => (if t290 = t291 then ((flt_Less.f t284 t285).bind fun t292 => (if (!t292 == (decide (a0 < a1))) = true then (anamnesislaw02_FltWhole.j1 kj2 a0 a1 t284 t285 true) else ((flt_Equal.f t284 t285).bind fun t293 => (anamnesislaw02_FltWhole.j1 kj2 a0 a1 t284 t285 (!t293 == (a0 == a1)))))) else (anamnesislaw02_FltWhole.j1 kj2 a0 a1 t284 t285 true))) = some r := H
                have A24 := Aside0.mk A240
                clear A240
                replace H := Option.bind_eq_some_iff.mp H
                obtain ⟨t291, A250, H⟩ := H
                replace H : (if t290 = t291 then ((flt_Less.f t284 t285).bind fun t292 => (if (!t292 == (decide (a0 < a1))) = true then (anamnesislaw02_FltWhole.j1 kj2 a0 a1 t284 t285 true) else ((flt_Equal.f t284 t285).bind fun t293 => (anamnesislaw02_FltWhole.j1 kj2 a0 a1 t284 t285 (!t293 == (a0 == a1)))))) else (anamnesislaw02_FltWhole.j1 kj2 a0 a1 t284 t285 true)) = some r := H
                have A25 := Aside0.mk A250
                clear A250
                by_cases c26 : t290 = t291
                · rw [if_pos c26] at H
                  have c26b0 : (t290 == t291) = true := beq_iff_eq.mpr c26
                  have c26b1 : (t290 != t291) = false := bne_eq_false_iff_eq.mpr c26
                  clear c26
                  replace H := Option.bind_eq_some_iff.mp H
                  obtain ⟨t292, A270, H⟩ := H
                  replace H : (if (!t292 == (decide (a0 < a1))) = true then (anamnesislaw02_FltWhole.j1 kj2 a0 a1 t284 t285 true) else ((flt_Equal.f t284 t285).bind fun t293 => (anamnesislaw02_FltWhole.j1 kj2 a0 a1 t284 t285 (!t293 == (a0 == a1))))) = some r := H
                  have A27 := Aside0.mk A270
                  clear A270
                  by_cases c28 : (!t292 == (decide (a0 < a1))) = true
                  · rw [if_pos c28] at H
                    have c28b0 : (!t292 == (decide (a0 < a1))) = true := c28
                    (try (have c28b1 : (t292 != (decide (a0 < a1))) = true := by simpa using c28))
                    (try (have c28b2 : decide (t292 = (decide (a0 < a1))) = false := by simpa using c28))
                    (try (have c28b3 : (t292 == (decide (a0 < a1))) = false := by simpa using c28))
                    (try (have c28b4 : ¬ (t292 = (decide (a0 < a1))) := by simpa using c28))
                    clear c28
                    have H' := Aside0.mk H
                    clear H
                    go_wp2_with (first | (go_at_call 12; (with_reducible refine (flt_Op.calls 0 t284 t285 t288 _ A21.out).mono ?_); rintro e w' ⟨rfl, ⟨nd, rfl⟩⟩) | (go_at_call 22; (with_reducible refine (flt_Of.calls (wrap64 (a0 + a1)) t289 _ A22.out).mono ?_); rintro e w' ⟨rfl, ⟨nd, rfl⟩⟩) | (go_at_call 12; (with_reducible refine (flt_Op.calls 1 t284 t285 t290 _ A24.out).mono ?_); rintro e w' ⟨rfl, ⟨nd, rfl⟩⟩) | (go_at_call 22; (with_reducible refine (flt_Of.calls (wrap64 (a0 - a1)) t291 _ A25.out).mono ?_); rintro e w' ⟨rfl, ⟨nd, rfl⟩⟩) | (go_at_call 24; (with_reducible refine (flt_Less.calls t284 t285 t292 _ A27.out).mono ?_); rintro e w' ⟨rfl, ⟨nd, rfl⟩⟩))
                    go_meet
                    case rel => exact ⟨_, (true), (by first | rfl | (simp; done) | (simp [*]; done)), H', ⟨by have := HJ2.out; first | omega | exact Nat.le_refl _⟩, ⟨by repeat (first | (with_reducible first | exact HB.out | apply below_alloc | apply pw_below_drewN | apply below_drew1) | exact HB.out)⟩⟩
                  · rw [if_neg c28] at H
                    have c28b0 : (!t292 == (decide (a0 < a1))) = false := by simpa using c28
                    (try (have c28b1 : (t292 != (decide (a0 < a1))) = false := by simpa using c28))
                    (try (have c28b2 : decide (t292 = (decide (a0 < a1))) = true := by simpa using c28))
                    (try (have c28b3 : (t292 == (decide (a0 < a1))) = true := by simpa using c28))
                    clear c28
                    replace H := Option.bind_eq_some_iff.mp H
                    obtain ⟨t293, A290, H⟩ := H
                    replace H : (anamnesislaw02_FltWhole.j1 kj2 a0 a1 t284 t285 (!t293 == (a0 == a1))) = some r := H
                    have A29 := Aside0.mk A290
                    clear A290
                    have H' := Aside0.mk H
                    clear H
                    go_wp2_with (first | (go_at_call 12; (with_reducible refine (flt_Op.calls 0 t284 t285 t288 _ A21.out).mono ?_); rintro e w' ⟨rfl, ⟨nd, rfl⟩⟩) | (go_at_call 22; (with_reducible refine (flt_Of.calls (wrap64 (a0 + a1)) t289 _ A22.out).mono ?_); rintro e w' ⟨rfl, ⟨nd, rfl⟩⟩) | (go_at_call 12; (with_reducible refine (flt_Op.calls 1 t284 t285 t290 _ A24.out).mono ?_); rintro e w' ⟨rfl, ⟨nd, rfl⟩⟩) | (go_at_call 22; (with_reducible refine (flt_Of.calls (wrap64 (a0 - a1)) t291 _ A25.out).mono ?_); rintro e w' ⟨rfl, ⟨nd, rfl⟩⟩) | (go_at_call 24; (with_reducible refine (flt_Less.calls t284 t285 t292 _ A27.out).mono ?_); rintro e w' ⟨rfl, ⟨nd, rfl⟩⟩) | (go_at_call 26; (with_reducible refine (flt_Equal.calls t284 t285 t293 _ A29.out).mono ?_); rintro e w' ⟨rfl, ⟨nd, rfl⟩⟩))
                    go_meet
                    case rel => exact ⟨_, ((!t293 == (a0 == a1))), (by first | rfl | (simp; done) | (simp [*]; done)), H', ⟨by have := HJ2.out; first | omega | exact Nat.le_refl _⟩, ⟨by repeat (first | (with_reducible first | exact HB.out | apply below_alloc | apply pw_below_drewN | apply below_drew1) | exact HB.out)⟩⟩
                · rw [if_neg c26] at H
                  have c26b0 : (t290 == t291) = false := beq_eq_false_iff_ne.mpr c26
                  have c26b1 : (t290 != t291) = true := bne_iff_ne.mpr c26
                  have H' := Aside0.mk H
                  clear H
                  go_wp2_with (first | (go_at_call 12; (with_reducible refine (flt_Op.calls 0 t284 t285 t288 _ A21.out).mono ?_); rintro e w' ⟨rfl, ⟨nd, rfl⟩⟩) | (go_at_call 22; (with_reducible refine (flt_Of.calls (wrap64 (a0 + a1)) t289 _ A22.out).mono ?_); rintro e w' ⟨rfl, ⟨nd, rfl⟩⟩) | (go_at_call 12; (with_reducible refine (flt_Op.calls 1 t284 t285 t290 _ A24.out).mono ?_); rintro e w' ⟨rfl, ⟨nd, rfl⟩⟩) | (go_at_call 22; (with_reducible refine (flt_Of.calls (wrap64 (a0 - a1)) t291 _ A25.out).mono ?_); rintro e w' ⟨rfl, ⟨nd, rfl⟩⟩))
                  go_meet
                  case rel => exact ⟨_, (true), (by first | rfl | (simp; done) | (simp [*]; done)), H', ⟨by have := HJ2.out; first | omega | exact Nat.le_refl _⟩, ⟨by repeat (first | (with_reducible first | exact HB.out | apply below_alloc | apply pw_below_drewN | apply below_drew1) | exact HB.out)⟩⟩
              · rw [if_neg c23] at H
                have c23b0 : (t288 == t289) = false := beq_eq_false_iff_ne.mpr c23
                have c23b1 : (t288 != t289) = true := bne_iff_ne.mpr c23
                have H' := Aside0.mk H
                clear H
                go_wp2_with (first | (go_at_call 12; (with_reducible refine (flt_Op.calls 0 t284 t285 t288 _ A21.out).mono ?_); rintro e w' ⟨rfl, ⟨nd, rfl⟩⟩) | (go_at_call 22; (with_reducible refine (flt_Of.calls (wrap64 (a0 + a1)) t289 _ A22.out).mono ?_); rintro e w' ⟨rfl, ⟨nd, rfl⟩⟩))
                go_meet
                case rel => exact ⟨_, (true), (by first | rfl | (simp; done) | (simp [*]; done)), H', ⟨by have := HJ2.out; first | omega | exact Nat.le_refl _⟩, ⟨by repeat (first | (with_reducible first | exact HB.out | apply below_alloc | apply pw_below_drewN | apply below_drew1) | exact HB.out)⟩⟩
            · rw [if_neg c20] at H
              have c20b0 : (t286 == a0) = false := beq_eq_false_iff_ne.mpr c20
              have c20b1 : (t286 != a0) = true := bne_iff_ne.mpr c20
              (first | rw [c20b0] | (simp only [i64_w, i32_w]; rw [c20b0]) | skip)
              have H' := Aside0.mk H
              clear H
              go_wp2
              go_meet
              case rel => exact ⟨_, (true), (by first | rfl | (simp; done) | (simp [*]; done)), H', ⟨by have := HJ2.out; first | omega | exact Nat.le_refl _⟩, ⟨by repeat (first | (with_reducible first | exact HB.out | apply below_alloc | apply pw_below_drewN | apply below_drew1) | exact HB.out)⟩⟩
          · replace c19 := Bool.eq_false_iff.mpr c19
            subst c19
            have H1 : (anamnesislaw02_FltWhole.j1 kj2 a0 a1 t284 t285 true) = some r := by rw [if_neg (show ¬ (false = true) by decide)] at H; exact H
            clear H
            have H := H1
            clear H1
            have H' := Aside0.mk H
            clear H
            go_wp2
            go_meet
            case rel => exact ⟨_, (true), (by first | rfl | (simp; done) | (simp [*]; done)), H', ⟨by have := HJ2.out; first | omega | exact Nat.le_refl _⟩, ⟨by repeat (first | (with_reducible first | exact HB.out | apply below_alloc | apply pw_below_drewN | apply below_drew1) | exact HB.out)⟩⟩
        case rest =>
          clear HC18
          try clear c1
          try clear c2
          try clear p2
          try clear c5
          try clear c5b0
          try clear p6
          try clear c7
          try clear c7b0
          try clear c8
          try clear c9
          try clear c9b0
          try clear c11
          try clear c12
          try clear c14
          try clear c19
          try clear c20
          try clear c20b0
          try clear c20b1
          try clear c22
          try clear c23
          try clear c23b0
          try clear c23b1
          try clear c26
          try clear c26b0
          try clear c26b1
          try clear c28
          try clear c28b0
          try clear c28b1
          try clear c28b2
          try clear p2
          obtain ⟨kq, x83_17, rfl, HA, HJ17, HB⟩ := hcut
          cases kq with
          | zero => exact absurd HA.out (by simp [anamnesislaw02_FltWhole.j1])
          | succ kj17 =>
            have H := HA.out
            clear HA
            simp only [anamnesislaw02_FltWhole.j1] at H
            by_cases c30 : x83_17 = true
            · subst c30
              have H1 : (some false) = some r := by rw [if_pos rfl] at H; exact H
              clear H
              have H := H1
              clear H1
              obtain rfl := Option.some.inj H
              exact absurd hr_.out (by decide)
            · replace c30 := Bool.eq_false_iff.mpr c30
              subst c30
              have H1 : (if a0 = 0 then (anamnesislaw02_FltWhole.j2 kj17 a0 a1 t284 t285 false) else (if a1 = 0 then (anamnesislaw02_FltWhole.j2 kj17 a0 a1 t284 t285 false) else ((flt_Op.f 2 t284 t285).bind fun t294 => ((flt_Of.f (wrap64 (a0 * a1))).bind fun t295 => (anamnesislaw02_FltWhole.j2 kj17 a0 a1 t284 t285 (t294 != t295)))))) = some r := by rw [if_neg (show ¬ (false = true) by decide)] at H; exact H
              clear H
              have H := H1
              clear H1
              have HC31 := Aside0.mk H
              clear H
              go_upto_region 7 with (fail)
              go_cut [99] (fun v99 wc => ∃ (kq : Nat) (x99_30 : Bool), v99 = .bool x99_30 ∧ Aside0 (anamnesislaw02_FltWhole.j2 kq a0 a1 t284 t285 x99_30 = some r) ∧ Aside0 (kq ≤ kj17) ∧ Aside0 (Below w.heap.size w wc))
              case first =>
                have H := HC31.out
                clear HC31
                by_cases c32 : a0 = 0
                · rw [if_pos c32] at H
                  have c32b0 : (a0 == 0) = true := beq_iff_eq.mpr c32
                  have c32b1 : (a0 != 0) = false := bne_eq_false_iff_eq.mpr c32
                  clear c32
                  (first | rw [c32b0] | (simp only [i64_w, i32_w]; rw [c32b0]) | skip)
                  have H' := Aside0.mk H
                  clear H
                  go_wp2
                  go_meet
                  case rel => exact ⟨_, (false), (by first | rfl | (simp; done) | (simp [*]; done)), H', ⟨by have := HJ2.out; have := HJ17.out; first | omega | exact Nat.le_refl _⟩, ⟨by repeat (first | (with_reducible first | exact HB.out | apply below_alloc | apply pw_below_drewN | apply below_drew1) | exact HB.out)⟩⟩
                · rw [if_neg c32] at H
                  have c32b0 : (a0 == 0) = false := beq_eq_false_iff_ne.mpr c32
                  have c32b1 : (a0 != 0) = true := bne_iff_ne.mpr c32
                  (first | rw [c32b0] | (simp only [i64_w, i32_w]; rw [c32b0]) | skip)
                  by_cases c33 : a1 = 0
                  · rw [if_pos c33] at H
                    have c33b0 : (a1 == 0) = true := beq_iff_eq.mpr c33
                    have c33b1 : (a1 != 0) = false := bne_eq_false_iff_eq.mpr c33
                    clear c33
                    have H' := Aside0.mk H
                    clear H
                    go_wp2
                    go_meet
                    case rel => exact ⟨_, (false), (by first | rfl | (simp; done) | (simp [*]; done)), H', ⟨by have := HJ2.out; have := HJ17.out; first | omega | exact Nat.le_refl _⟩, ⟨by repeat (first | (with_reducible first | exact HB.out | apply below_alloc | apply pw_below_drewN | apply below_drew1) | exact HB.out)⟩⟩
                  · rw [if_neg c33] at H
                    have c33b0 : (a1 == 0) = false := beq_eq_false_iff_ne.mpr c33
                    have c33b1 : (a1 != 0) = true := bne_iff_ne.mpr c33
                    replace H := Option.bind_eq_some_iff.mp H
                    obtain ⟨t294, A340, H⟩ := H
                    replace H : ((flt_Of.f (wrap64 (a0 * a1))).bind fun t295 => (anamnesislaw02_FltWhole.j2 kj17 a0 a1 t284 t285 (t294 != t295))) = some r := H
                    have A34 := Aside0.mk A340
                    clear A340
                    replace H := Option.bind_eq_some_iff.mp H
                    obtain ⟨t295, A350, H⟩ := H
                    replace H : (anamnesislaw02_FltWhole.j2 kj17 a0 a1 t284 t285 (t294 != t295)) = some r := H
                    have A35 := Aside0.mk A350
                    clear A350
                    have H' := Aside0.mk H
                    clear H
                    go_wp2_with (first | (go_at_call 12; (with_reducible refine (flt_Op.calls 2 t284 t285 t294 _ A34.out).mono ?_); rintro e w' ⟨rfl, ⟨nd, rfl⟩⟩) | (go_at_call 22; (with_reducible refine (flt_Of.calls (wrap64 (a0 * a1)) t295 _ A35.out).mono ?_); rintro e w' ⟨rfl, ⟨nd, rfl⟩⟩))
                    go_meet
                    case rel => exact ⟨_, ((t294 != t295)), (by first | rfl | (simp; done) | (simp [*]; done)), H', ⟨by have := HJ2.out; have := HJ17.out; first | omega | exact Nat.le_refl _⟩, ⟨by repeat (first | (with_reducible first | exact HB.out | apply below_alloc | apply pw_below_drewN | apply below_drew1) | exact HB.out)⟩⟩
              case rest =>
                clear HC31
                try clear c1
                try clear c2
                try clear p2
                try clear c3
                try clear c5
                try clear c5b0
                try clear p6
                try clear c7
                try clear c7b0
                try clear c8
                try clear c9
                try clear c9b0
                try clear c11
                try clear c12
                try clear c14
                try clear c19
                try clear c20
                try clear c20b0
                try clear c20b1
                try clear c22
                try clear c23
                try clear c23b0
                try clear c23b1
                try clear c26
                try clear c26b0
                try clear c26b1
                try clear c28
                try clear c28b0
                try clear c28b1
                try clear c28b2
                try clear c30
                try clear c32
                try clear c32b0
                try clear c32b1
                try clear c33
                try clear c33b0
                try clear c33b1
                try clear p2
                try clear p6
                obtain ⟨kq, x99_30, rfl, HA, HJ30, HB⟩ := hcut
                cases kq with
                | zero => exact absurd HA.out (by simp [anamnesislaw02_FltWhole.j2])
                | succ kj30 =>
                  have H := HA.out
                  clear HA
                  simp only [anamnesislaw02_FltWhole.j2] at H
                  by_cases c36 : x99_30 = true
                  · subst c36
                    have H1 : (some false) = some r := by rw [if_pos rfl] at H; exact H
                    clear H
                    have H := H1
                    clear H1
                    obtain rfl := Option.some.inj H
                    exact absurd hr_.out (by decide)
                  · replace c36 := Bool.eq_false_iff.mpr c36
                    subst c36
                    have H1 : (if a1 = 0 then (some true) else ((flt_Op.f 3 t284 t285).bind fun t296 => ((flt_Trunc.f t296).bind fun bt297 => (if bt297.2 = true then (some (bt297.1 == (wrap64 (Int.tdiv a0 a1)))) else (some false))))) = some r := by rw [if_neg (show ¬ (false = true) by decide)] at H; exact H
                    clear H
                    have H := H1
                    clear H1
                    by_cases c37 : a1 = 0
                    · rw [if_pos c37] at H
                      have c37b0 : (a1 == 0) = true := beq_iff_eq.mpr c37
                      have c37b1 : (a1 != 0) = false := bne_eq_false_iff_eq.mpr c37
                      clear c37
                      obtain rfl := Option.some.inj H
                      go_wp2
                      go_ret
                      exact ⟨by first | rfl | (simp [errW_none, errW_some] <;> rfl) | (simp [*, errW_none, errW_some] <;> rfl) | (simp [wrap64, errW_none, errW_some]; done), by repeat (first | (with_reducible first | exact HB.out | apply below_alloc | apply pw_below_drewN | apply below_drew1) | exact HB.out)⟩
                    · rw [if_neg c37] at H
                      have c37b0 : (a1 == 0) = false := beq_eq_false_iff_ne.mpr c37
                      have c37b1 : (a1 != 0) = true := bne_iff_ne.mpr c37
                      replace H := Option.bind_eq_some_iff.mp H
                      obtain ⟨t296, A380, H⟩ := H
                      replace H : ((flt_Trunc.f t296).bind fun bt297 => (if bt297.2 = true then (some (bt297.1 == (wrap64 (Int.tdiv a0 a1)))) else (some false))) = some r := H
                      have A38 := Aside0.mk A380
                      clear A380
                      replace H := Option.bind_eq_some_iff.mp H
                      obtain ⟨⟨t297, t298⟩, A390, H⟩ := H
                      replace H : (if t298 = true then (some (t297 == (wrap64 (Int.tdiv a0 a1)))) else (some false)) = some r := H
                      have A39 := Aside0.mk A390
                      clear A390
                      by_cases c40 : t298 = true
                      · subst c40
                        have H1 : (some (t297 == (wrap64 (Int.tdiv a0 a1)))) = some r := by rw [if_pos rfl] at H; exact H
                        clear H
                        have H := H1
                        clear H1
                        obtain rfl := Option.some.inj H
                        go_wp2_with (first | ((with_reducible refine gate_callee (f := 12) rfl ?_); refine goesL_ (some 105) rfl rfl Try.func12 (by kernel_rfl) rfl #[.int .i64 3, .int .i64 t284, .int .i64 t285] rfl (by (try simp only [List.map_toArray, List.map_cons, List.map_nil]); first | done | rfl | (simp only [List.length_drop, List.length_take]; rfl)) ?_; (with_reducible refine (flt_Op.calls 3 t284 t285 t296 _ A38.out).mono ?_); rintro e w' ⟨rfl, ⟨nd, rfl⟩⟩; refine ⟨_, rfl, ?_⟩) | ((with_reducible refine gate_callee (f := 14) rfl ?_); refine goesL_ (some 106) rfl rfl Try.func14 (by kernel_rfl) rfl #[.int .i64 t296] rfl (by (try simp only [List.map_toArray, List.map_cons, List.map_nil]); first | done | rfl | (simp only [List.length_drop, List.length_take]; rfl)) ?_; (with_reducible refine (flt_Trunc.calls t296 t297 true _ A39.out).mono ?_); rintro e w' ⟨rfl, ⟨nd, rfl⟩⟩; refine ⟨_, rfl, ?_⟩))
                        go_ret
                        exact ⟨by first | rfl | (simp [errW_none, errW_some] <;> rfl) | (simp [*, errW_none, errW_some] <;> rfl) | (simp [wrap64, errW_none, errW_some]; done), by repeat (first | (with_reducible first | exact HB.out | apply below_alloc | apply pw_below_drewN | apply below_drew1) | exact HB.out)⟩
                      · replace c40 := Bool.eq_false_iff.mpr c40
                        subst c40
                        have H1 : (some false) = some r := by rw [if_neg (show ¬ (false = true) by decide)] at H; exact H
                        clear H
                        have H := H1
                        clear H1
                        obtain rfl := Option.some.inj H
                        exact absurd hr_.out (by decide)

/-- THE ONE PURE STATEMENT of anamnesislaw02_FltWhole: yours. -/
def anamnesislaw02_FltWhole.Pure : Prop := ∀ (a0 : Int) (a1 : Int), (Lit.int .i64 a0).wf = true → (Lit.int .i64 a1).wf = true → ∃ k, anamnesislaw02_FltWhole.f k a0 a1 = some true
theorem anamnesislaw02_FltWhole.walk (P : anamnesislaw02_FltWhole.Pure) (a0 : Int) (a1 : Int) (w : World) (w0 : (Lit.int .i64 a0).wf = true) (w1 : (Lit.int .i64 a1).wf = true) :
    Calls Try.prog 8 #[.int .i64 a0, .int .i64 a1] w fun e w' => e = .returned (.bool true) ∧ Below w.heap.size w w' := by
  obtain ⟨k, h⟩ := P a0 a1 w0 w1
  refine (anamnesislaw02_FltWhole.calls k a0 a1 true w h rfl).mono ?_
  rintro e w' ⟨rfl, hd⟩
  exact ⟨rfl, hd⟩

/-! ### anamnesislaw02_FltTwice: function 9 -/
def anamnesislaw02_FltTwice.f (a0 : Int) : Option (Bool) := (anamnesislaw02_fixed.f).bind fun t299 => ((flt_Of.f 2).bind fun t300 => ((flt_Op.f 2 a0 t300).bind fun t301 => ((flt_Op.f 0 a0 a0).bind fun t302 => (if t301 = t302 then ((anamnesisref02_Kind.f t301).bind fun t303 => (if t303 < 2 then (some true) else ((flt_Op.f 3 t301 t300).bind fun t304 => (some (t304 == a0))))) else (some false)))))
set_option maxHeartbeats 8000000 in
set_option maxRecDepth 100000 in
theorem anamnesislaw02_FltTwice.calls (a0 : Int) (r : Bool) (w : World) (h : anamnesislaw02_FltTwice.f a0 = some r) (hr : r = true) :
    Calls Try.prog 9 #[.int .i64 a0] w fun e w' => e = .returned (.bool r) ∧ Below w.heap.size w w' := by
  have hr_ := Aside0.mk hr
  clear hr
  have HB := Aside0.mk (Below.refl w.heap.size w)
  have H : ((anamnesislaw02_fixed.f).bind fun t299 => ((flt_Of.f 2).bind fun t300 => ((flt_Op.f 2 a0 t300).bind fun t301 => ((flt_Op.f 0 a0 a0).bind fun t302 => (if t301 = t302 then ((anamnesisref02_Kind.f t301).bind fun t303 => (if t303 < 2 then (some true) else ((flt_Op.f 3 t301 t300).bind fun t304 => (some (t304 == a0))))) else (some false)))))) = some r := h
  clear h
  replace H := Option.bind_eq_some_iff.mp H
  obtain ⟨t299, A20, H⟩ := H
  replace H : ((flt_Of.f 2).bind fun t300 => ((flt_Op.f 2 a0 t300).bind fun t301 => ((flt_Op.f 0 a0 a0).bind fun t302 => (if t301 = t302 then ((anamnesisref02_Kind.f t301).bind fun t303 => (if t303 < 2 then (some true) else ((flt_Op.f 3 t301 t300).bind fun t304 => (some (t304 == a0))))) else (some false))))) = some r := H
  have A2 := Aside0.mk A20
  clear A20
  replace H := Option.bind_eq_some_iff.mp H
  obtain ⟨t300, A30, H⟩ := H
  replace H : ((flt_Op.f 2 a0 t300).bind fun t301 => ((flt_Op.f 0 a0 a0).bind fun t302 => (if t301 = t302 then ((anamnesisref02_Kind.f t301).bind fun t303 => (if t303 < 2 then (some true) else ((flt_Op.f 3 t301 t300).bind fun t304 => (some (t304 == a0))))) else (some false)))) = some r := H
  have A3 := Aside0.mk A30
  clear A30
  replace H := Option.bind_eq_some_iff.mp H
  obtain ⟨t301, A40, H⟩ := H
  replace H : ((flt_Op.f 0 a0 a0).bind fun t302 => (if t301 = t302 then ((anamnesisref02_Kind.f t301).bind fun t303 => (if t303 < 2 then (some true) else ((flt_Op.f 3 t301 t300).bind fun t304 => (some (t304 == a0))))) else (some false))) = some r := H
  have A4 := Aside0.mk A40
  clear A40
  replace H := Option.bind_eq_some_iff.mp H
  obtain ⟨t302, A50, H⟩ := H
  replace H : (if t301 = t302 then ((anamnesisref02_Kind.f t301).bind fun t303 => (if t303 < 2 then (some true) else ((flt_Op.f 3 t301 t300).bind fun t304 => (some (t304 == a0))))) else (some false)) = some r := H
  have A5 := Aside0.mk A50
  clear A50
  by_cases c6 : t301 = t302
  · rw [if_pos c6] at H
    have c6b0 : (t301 == t302) = true := beq_iff_eq.mpr c6
    have c6b1 : (t301 != t302) = false := bne_eq_false_iff_eq.mpr c6
    clear c6
    replace H := Option.bind_eq_some_iff.mp H
    obtain ⟨t303, A70, H⟩ := H
    replace H : (if t303 < 2 then (some true) else ((flt_Op.f 3 t301 t300).bind fun t304 => (some (t304 == a0)))) = some r := H
    have A7 := Aside0.mk A70
    clear A70
    by_cases c8 : t303 < 2
    · rw [if_pos c8] at H
      have c8b0 : decide (t303 < 2) = true := decide_eq_true c8
      clear c8
      obtain rfl := Option.some.inj H
      go_enter Try.func9, Try.ntmps9
      go_wp2_with (first | ((with_reducible refine gate_callee (f := 11) rfl ?_); refine goesL_ (some 5) rfl rfl Try.func11 (by kernel_rfl) rfl #[] rfl (by (try simp only [List.map_toArray, List.map_cons, List.map_nil]); first | done | rfl | (simp only [List.length_drop, List.length_take]; rfl)) ?_; (with_reducible refine (anamnesislaw02_fixed.calls  t299 _ A2.out).mono ?_); rintro e w9 ⟨rfl, hb⟩; refine ⟨_, rfl, ?_⟩; have n0_ := Aside0.mk (below_step (by repeat (first | (with_reducible first | exact HB.out | apply below_alloc | apply pw_below_drewN | apply below_drew1) | exact HB.out)) hb); clear HB; have HB := n0_; clear n0_; (try clear hb); (try clear hb2); (try clear hk); (try clear hi)) | ((with_reducible refine gate_callee (f := 22) rfl ?_); refine goesL_ (some 7) rfl rfl Try.func22 (by kernel_rfl) rfl #[.int .i64 2] rfl (by (try simp only [List.map_toArray, List.map_cons, List.map_nil]); first | done | rfl | (simp only [List.length_drop, List.length_take]; rfl)) ?_; (with_reducible refine (flt_Of.calls 2 t300 _ A3.out).mono ?_); rintro e w' ⟨rfl, ⟨nd, rfl⟩⟩; refine ⟨_, rfl, ?_⟩) | ((with_reducible refine gate_callee (f := 12) rfl ?_); refine goesL_ (some 10) rfl rfl Try.func12 (by kernel_rfl) rfl #[.int .i64 2, .int .i64 a0, .int .i64 t300] rfl (by (try simp only [List.map_toArray, List.map_cons, List.map_nil]); first | done | rfl | (simp only [List.length_drop, List.length_take]; rfl)) ?_; (with_reducible refine (flt_Op.calls 2 a0 t300 t301 _ A4.out).mono ?_); rintro e w' ⟨rfl, ⟨nd, rfl⟩⟩; refine ⟨_, rfl, ?_⟩) | ((with_reducible refine gate_callee (f := 12) rfl ?_); refine goesL_ (some 14) rfl rfl Try.func12 (by kernel_rfl) rfl #[.int .i64 0, .int .i64 a0, .int .i64 a0] rfl (by (try simp only [List.map_toArray, List.map_cons, List.map_nil]); first | done | rfl | (simp only [List.length_drop, List.length_take]; rfl)) ?_; (with_reducible refine (flt_Op.calls 0 a0 a0 t302 _ A5.out).mono ?_); rintro e w' ⟨rfl, ⟨nd, rfl⟩⟩; refine ⟨_, rfl, ?_⟩) | ((with_reducible refine gate_callee (f := 17) rfl ?_); refine goesL_ (some 17) rfl rfl Try.func17 (by kernel_rfl) rfl #[.int .i64 t301] rfl (by (try simp only [List.map_toArray, List.map_cons, List.map_nil]); first | done | rfl | (simp only [List.length_drop, List.length_take]; rfl)) ?_; (with_reducible refine (anamnesisref02_Kind.calls t301 t303 _ A7.out).mono ?_); rintro e w' ⟨rfl, ⟨nd, rfl⟩⟩; refine ⟨_, rfl, ?_⟩))
      go_ret
      exact ⟨by first | rfl | (simp [errW_none, errW_some] <;> rfl) | (simp [*, errW_none, errW_some] <;> rfl) | (simp [wrap64, errW_none, errW_some]; done), by repeat (first | (with_reducible first | exact HB.out | apply below_alloc | apply pw_below_drewN | apply below_drew1) | exact HB.out)⟩
    · rw [if_neg c8] at H
      have c8b0 : decide (t303 < 2) = false := decide_eq_false c8
      clear c8
      replace H := Option.bind_eq_some_iff.mp H
      obtain ⟨t304, A100, H⟩ := H
      replace H : (some (t304 == a0)) = some r := H
      have A10 := Aside0.mk A100
      clear A100
      obtain rfl := Option.some.inj H
      go_enter Try.func9, Try.ntmps9
      go_wp2_with (first | ((with_reducible refine gate_callee (f := 11) rfl ?_); refine goesL_ (some 5) rfl rfl Try.func11 (by kernel_rfl) rfl #[] rfl (by (try simp only [List.map_toArray, List.map_cons, List.map_nil]); first | done | rfl | (simp only [List.length_drop, List.length_take]; rfl)) ?_; (with_reducible refine (anamnesislaw02_fixed.calls  t299 _ A2.out).mono ?_); rintro e w11 ⟨rfl, hb⟩; refine ⟨_, rfl, ?_⟩; have n0_ := Aside0.mk (below_step (by repeat (first | (with_reducible first | exact HB.out | apply below_alloc | apply pw_below_drewN | apply below_drew1) | exact HB.out)) hb); clear HB; have HB := n0_; clear n0_; (try clear hb); (try clear hb2); (try clear hk); (try clear hi)) | ((with_reducible refine gate_callee (f := 22) rfl ?_); refine goesL_ (some 7) rfl rfl Try.func22 (by kernel_rfl) rfl #[.int .i64 2] rfl (by (try simp only [List.map_toArray, List.map_cons, List.map_nil]); first | done | rfl | (simp only [List.length_drop, List.length_take]; rfl)) ?_; (with_reducible refine (flt_Of.calls 2 t300 _ A3.out).mono ?_); rintro e w' ⟨rfl, ⟨nd, rfl⟩⟩; refine ⟨_, rfl, ?_⟩) | ((with_reducible refine gate_callee (f := 12) rfl ?_); refine goesL_ (some 10) rfl rfl Try.func12 (by kernel_rfl) rfl #[.int .i64 2, .int .i64 a0, .int .i64 t300] rfl (by (try simp only [List.map_toArray, List.map_cons, List.map_nil]); first | done | rfl | (simp only [List.length_drop, List.length_take]; rfl)) ?_; (with_reducible refine (flt_Op.calls 2 a0 t300 t301 _ A4.out).mono ?_); rintro e w' ⟨rfl, ⟨nd, rfl⟩⟩; refine ⟨_, rfl, ?_⟩) | ((with_reducible refine gate_callee (f := 12) rfl ?_); refine goesL_ (some 14) rfl rfl Try.func12 (by kernel_rfl) rfl #[.int .i64 0, .int .i64 a0, .int .i64 a0] rfl (by (try simp only [List.map_toArray, List.map_cons, List.map_nil]); first | done | rfl | (simp only [List.length_drop, List.length_take]; rfl)) ?_; (with_reducible refine (flt_Op.calls 0 a0 a0 t302 _ A5.out).mono ?_); rintro e w' ⟨rfl, ⟨nd, rfl⟩⟩; refine ⟨_, rfl, ?_⟩) | ((with_reducible refine gate_callee (f := 17) rfl ?_); refine goesL_ (some 17) rfl rfl Try.func17 (by kernel_rfl) rfl #[.int .i64 t301] rfl (by (try simp only [List.map_toArray, List.map_cons, List.map_nil]); first | done | rfl | (simp only [List.length_drop, List.length_take]; rfl)) ?_; (with_reducible refine (anamnesisref02_Kind.calls t301 t303 _ A7.out).mono ?_); rintro e w' ⟨rfl, ⟨nd, rfl⟩⟩; refine ⟨_, rfl, ?_⟩) | (go_at_call 12; (with_reducible refine (flt_Op.calls 3 t301 t300 t304 _ A10.out).mono ?_); rintro e w' ⟨rfl, ⟨nd, rfl⟩⟩))
      go_ret
      exact ⟨by first | rfl | (simp [errW_none, errW_some] <;> rfl) | (simp [*, errW_none, errW_some] <;> rfl) | (simp [wrap64, errW_none, errW_some]; done), by repeat (first | (with_reducible first | exact HB.out | apply below_alloc | apply pw_below_drewN | apply below_drew1) | exact HB.out)⟩
  · rw [if_neg c6] at H
    have c6b0 : (t301 == t302) = false := beq_eq_false_iff_ne.mpr c6
    have c6b1 : (t301 != t302) = true := bne_iff_ne.mpr c6
    obtain rfl := Option.some.inj H
    exact absurd hr_.out (by decide)

/-- THE ONE PURE STATEMENT of anamnesislaw02_FltTwice: yours. -/
def anamnesislaw02_FltTwice.Pure : Prop := ∀ (a0 : Int), (Lit.int .i64 a0).wf = true → anamnesislaw02_FltTwice.f a0 = some true
theorem anamnesislaw02_FltTwice.walk (P : anamnesislaw02_FltTwice.Pure) (a0 : Int) (w : World) (w0 : (Lit.int .i64 a0).wf = true) :
    Calls Try.prog 9 #[.int .i64 a0] w fun e w' => e = .returned (.bool true) ∧ Below w.heap.size w w' := by
  have h := P a0 w0
  refine (anamnesislaw02_FltTwice.calls a0 true w h rfl).mono ?_
  rintro e w' ⟨rfl, hd⟩
  exact ⟨rfl, hd⟩

end Go.Proofs.Ytbnpodkfcfdpeaa.PFlt
