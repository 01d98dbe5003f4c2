-- laid by a program of this session (gprint.py)
import Derived.Test.YtbnpodkfcfdpeaaPFltx0
import Derived.Test.YtbnpodkfcfdpeaaPFltx1
import Derived.Test.YtbnpodkfcfdpeaaPFltx2
namespace Go.Proofs.Ytbnpodkfcfdpeaa.PFlt
open Go.RowKit Go.Proofs.YtbnpodkfcfdpeaaW.PrintWords Go.Proofs.YtbnpodkfcfdpeaaW.PrintLast Go.Proofs.YtbnpodkfcfdpeaaW.PrintMore
attribute [local go_sem] max2_int min2_int max_two min_two max_three min_three max_four min_four   -- for this text's walks alone
set_option linter.unusedVariables false
set_option linter.unusedSimpArgs false

/-! ### anamnesislaw02_FltTurned: function 10 -/
mutual
def anamnesislaw02_FltTurned.j0 : Nat → Int → Int → Bool → Option (Bool)
  | 0, _, _, _ => none
  | k + 1, x0, x1, x28 => if x28 = true then (some false) else ((flt_Less.f x0 x1).bind fun t310 => (if t310 = true then (anamnesislaw02_FltTurned.j1 k x0 x1 1) else (anamnesislaw02_FltTurned.j1 k x0 x1 0)))
def anamnesislaw02_FltTurned.j1 : Nat → Int → Int → Int → Option (Bool)
  | 0, _, _, _ => none
  | k + 1, x0, x1, x6 => (flt_Less.f x1 x0).bind fun t311 => (if t311 = true then (anamnesislaw02_FltTurned.j2 k x0 x1 (wrap64 (x6 + 1))) else (anamnesislaw02_FltTurned.j2 k x0 x1 x6))
def anamnesislaw02_FltTurned.j2 : Nat → Int → Int → Int → Option (Bool)
  | 0, _, _, _ => none
  | k + 1, x0, x1, x6 => (flt_Equal.f x0 x1).bind fun t312 => (if t312 = true then (anamnesislaw02_FltTurned.j3 k x0 x1 (wrap64 (x6 + 1))) else (anamnesislaw02_FltTurned.j3 k x0 x1 x6))
def anamnesislaw02_FltTurned.j3 : Nat → Int → Int → Int → Option (Bool)
  | 0, _, _, _ => none
  | k + 1, x0, x1, x6 => (anamnesisref02_Kind.f x0).bind fun t313 => (if t313 = 0 then (some (x6 == 0)) else ((anamnesisref02_Kind.f x1).bind fun t314 => (if t314 = 0 then (some (x6 == 0)) else (some (x6 == 1)))))
end
def anamnesislaw02_FltTurned.f (k : Nat) (a0 : Int) (a1 : Int) : Option (Bool) := (anamnesislaw02_fixed.f).bind fun t305 => ((flt_Less.f a0 a1).bind fun t306 => ((flt_Less.f (Go.bits .xor .i64 a1 (-9223372036854775808)) (Go.bits .xor .i64 a0 (-9223372036854775808))).bind fun t307 => (if (!t306 == t307) = true then (anamnesislaw02_FltTurned.j0 k a0 a1 true) else ((flt_Equal.f a0 a1).bind fun t308 => ((flt_Equal.f a1 a0).bind fun t309 => (anamnesislaw02_FltTurned.j0 k a0 a1 (!t308 == t309)))))))
theorem anamnesislaw02_FltTurned.mono_l : ∀ k, (∀ y0 y1 y2, LeO (anamnesislaw02_FltTurned.j0 k y0 y1 y2) (anamnesislaw02_FltTurned.j0 (k + 1) y0 y1 y2)) ∧ (∀ y0 y1 y2, LeO (anamnesislaw02_FltTurned.j1 k y0 y1 y2) (anamnesislaw02_FltTurned.j1 (k + 1) y0 y1 y2)) ∧ (∀ y0 y1 y2, LeO (anamnesislaw02_FltTurned.j2 k y0 y1 y2) (anamnesislaw02_FltTurned.j2 (k + 1) y0 y1 y2)) ∧ (∀ y0 y1 y2, LeO (anamnesislaw02_FltTurned.j3 k y0 y1 y2) (anamnesislaw02_FltTurned.j3 (k + 1) y0 y1 y2))
  | 0 => ⟨fun _ _ _ r h => by simp [anamnesislaw02_FltTurned.j0] at h, fun _ _ _ r h => by simp [anamnesislaw02_FltTurned.j1] at h, fun _ _ _ r h => by simp [anamnesislaw02_FltTurned.j2] at h, fun _ _ _ r h => by simp [anamnesislaw02_FltTurned.j3] at h⟩
  | k + 1 => by
    obtain ⟨ih0, ih1, ih2, ih3⟩ := anamnesislaw02_FltTurned.mono_l k
    refine ⟨?_, ?_, ?_, ?_⟩
    · intro y0 y1 y2
      unfold anamnesislaw02_FltTurned.j0
      repeat' first
      | (with_reducible exact ih0 _ _ _)
      | (with_reducible exact ih1 _ _ _)
      | (with_reducible exact ih2 _ _ _)
      | (with_reducible exact ih3 _ _ _)
      | (with_reducible exact LeO.refl _)
      | (with_reducible exact LeO.none _)
      | (with_reducible refine LeO.ite ?_ ?_)
      | (with_reducible refine LeO.bind ?_ (fun _ => ?_))
      | exact ih0 _ _ _
      | exact ih1 _ _ _
      | exact ih2 _ _ _
      | exact ih3 _ _ _
      | exact LeO.none _
      | refine LeO.ite ?_ ?_
      | refine LeO.bind ?_ (fun _ => ?_)
    · intro y0 y1 y2
      unfold anamnesislaw02_FltTurned.j1
      repeat' first
      | (with_reducible exact ih0 _ _ _)
      | (with_reducible exact ih1 _ _ _)
      | (with_reducible exact ih2 _ _ _)
      | (with_reducible exact ih3 _ _ _)
      | (with_reducible exact LeO.refl _)
      | (with_reducible exact LeO.none _)
      | (with_reducible refine LeO.ite ?_ ?_)
      | (with_reducible refine LeO.bind ?_ (fun _ => ?_))
      | exact ih0 _ _ _
      | exact ih1 _ _ _
      | exact ih2 _ _ _
      | exact ih3 _ _ _
      | exact LeO.none _
      | refine LeO.ite ?_ ?_
      | refine LeO.bind ?_ (fun _ => ?_)
    · intro y0 y1 y2
      unfold anamnesislaw02_FltTurned.j2
      repeat' first
      | (with_reducible exact ih0 _ _ _)
      | (with_reducible exact ih1 _ _ _)
      | (with_reducible exact ih2 _ _ _)
      | (with_reducible exact ih3 _ _ _)
      | (with_reducible exact LeO.refl _)
      | (with_reducible exact LeO.none _)
      | (with_reducible refine LeO.ite ?_ ?_)
      | (with_reducible refine LeO.bind ?_ (fun _ => ?_))
      | exact ih0 _ _ _
      | exact ih1 _ _ _
      | exact ih2 _ _ _
      | exact ih3 _ _ _
      | exact LeO.none _
      | refine LeO.ite ?_ ?_
      | refine LeO.bind ?_ (fun _ => ?_)
    · intro y0 y1 y2
      unfold anamnesislaw02_FltTurned.j3
      repeat' first
      | (with_reducible exact ih0 _ _ _)
      | (with_reducible exact ih1 _ _ _)
      | (with_reducible exact ih2 _ _ _)
      | (with_reducible exact ih3 _ _ _)
      | (with_reducible exact LeO.refl _)
      | (with_reducible exact LeO.none _)
      | (with_reducible refine LeO.ite ?_ ?_)
      | (with_reducible refine LeO.bind ?_ (fun _ => ?_))
      | exact ih0 _ _ _
      | exact ih1 _ _ _
      | exact ih2 _ _ _
      | exact ih3 _ _ _
      | exact LeO.none _
      | refine LeO.ite ?_ ?_
      | refine LeO.bind ?_ (fun _ => ?_)
theorem anamnesislaw02_FltTurned.mono : ∀ a0 a1 k, LeO (anamnesislaw02_FltTurned.f k a0 a1) (anamnesislaw02_FltTurned.f (k + 1) a0 a1) := by
  intro a0 a1 k
  obtain ⟨ih0, ih1, ih2, ih3⟩ := anamnesislaw02_FltTurned.mono_l k
  unfold anamnesislaw02_FltTurned.f
  repeat' first
      | (with_reducible exact ih0 _ _ _)
      | (with_reducible exact ih1 _ _ _)
      | (with_reducible exact ih2 _ _ _)
      | (with_reducible exact ih3 _ _ _)
      | (with_reducible exact LeO.refl _)
      | (with_reducible exact LeO.none _)
      | (with_reducible refine LeO.ite ?_ ?_)
      | (with_reducible refine LeO.bind ?_ (fun _ => ?_))
      | exact ih0 _ _ _
      | exact ih1 _ _ _
      | exact ih2 _ _ _
      | exact ih3 _ _ _
      | exact LeO.none _
      | refine LeO.ite ?_ ?_
      | refine LeO.bind ?_ (fun _ => ?_)
set_option maxHeartbeats 8000000 in
set_option maxRecDepth 100000 in
theorem anamnesislaw02_FltTurned.calls (k : Nat) (a0 : Int) (a1 : Int) (r : Bool) (w : World) (h : anamnesislaw02_FltTurned.f k a0 a1 = some r) (hr : r = true) :
    Calls Try.prog 10 #[.int .i64 a0, .int .i64 a1] w fun e w' => e = .returned (.bool r) ∧ Below w.heap.size w w' := by
  have hr_ := Aside0.mk hr
  clear hr
  have HB := Aside0.mk (Below.refl w.heap.size w)
  have H : ((anamnesislaw02_fixed.f).bind fun t305 => ((flt_Less.f a0 a1).bind fun t306 => ((flt_Less.f (Go.bits .xor .i64 a1 (-9223372036854775808)) (Go.bits .xor .i64 a0 (-9223372036854775808))).bind fun t307 => (if (!t306 == t307) = true then (anamnesislaw02_FltTurned.j0 k a0 a1 true) else ((flt_Equal.f a0 a1).bind fun t308 => ((flt_Equal.f a1 a0).bind fun t309 => (anamnesislaw02_FltTurned.j0 k a0 a1 (!t308 == t309)))))))) = some r := h
  clear h
  replace H := Option.bind_eq_some_iff.mp H
  obtain ⟨t305, A30, H⟩ := H
  replace H : ((flt_Less.f a0 a1).bind fun t306 => ((flt_Less.f (Go.bits .xor .i64 a1 (-9223372036854775808)) (Go.bits .xor .i64 a0 (-9223372036854775808))).bind fun t307 => (if (!t306 == t307) = true then (anamnesislaw02_FltTurned.j0 k a0 a1 true) else ((flt_Equal.f a0 a1).bind fun t308 => ((flt_Equal.f a1 a0).bind fun t309 => (anamnesislaw02_FltTurned.j0 k a0 a1 (!t308 == t309))))))) = some r := H
  have A3 := Aside0.mk A30
  clear A30
  have HC4 := Aside0.mk H
  clear H
  go_enter Try.func10, Try.ntmps10
  go_upto_region 4 with (first | ((with_reducible refine gate_callee (f := 11) rfl ?_); refine goesL_ (some 7) rfl rfl Try.func11 (by kernel_rfl) rfl #[] rfl (by (try simp only [List.map_toArray, List.map_cons, List.map_nil]); first | done | rfl | (simp only [List.length_drop, List.length_take]; rfl)) ?_; (with_reducible refine (anamnesislaw02_fixed.calls  t305 _ A3.out).mono ?_); rintro e w5 ⟨rfl, hb⟩; refine ⟨_, rfl, ?_⟩; have n0_ := Aside0.mk (below_step (by repeat (first | (with_reducible first | exact HB.out | apply below_alloc | apply pw_below_drewN | apply below_drew1) | exact HB.out)) hb); clear HB; have HB := n0_; clear n0_; (try clear hb); (try clear hb2); (try clear hk); (try clear hi)))
  (try simp only [Act.put, List.setIfInBounds_toArray, List.set_cons_zero, List.set_cons_succ])
  go_cut [28] (fun v28 wc => ∃ (kq : Nat) (x28_3 : Bool), v28 = .bool x28_3 ∧ Aside0 (anamnesislaw02_FltTurned.j0 kq a0 a1 x28_3 = some r) ∧ Aside0 (kq ≤ k) ∧ Aside0 (Below w.heap.size w wc))
  case first =>
    have H := HC4.out
    clear HC4
    replace H := Option.bind_eq_some_iff.mp H
    obtain ⟨t306, A60, H⟩ := H
    replace H : ((flt_Less.f (Go.bits .xor .i64 a1 (-9223372036854775808)) (Go.bits .xor .i64 a0 (-9223372036854775808))).bind fun t307 => (if (!t306 == t307) = true then (anamnesislaw02_FltTurned.j0 k a0 a1 true) else ((flt_Equal.f a0 a1).bind fun t308 => ((flt_Equal.f a1 a0).bind fun t309 => (anamnesislaw02_FltTurned.j0 k a0 a1 (!t308 == t309)))))) = some r := H
    have A6 := Aside0.mk A60
    clear A60
    replace H := Option.bind_eq_some_iff.mp H
    obtain ⟨t307, A70, H⟩ := H
    replace H : (if (!t306 == t307) = true then (anamnesislaw02_FltTurned.j0 k a0 a1 true) else ((flt_Equal.f a0 a1).bind fun t308 => ((flt_Equal.f a1 a0).bind fun t309 => (anamnesislaw02_FltTurned.j0 k a0 a1 (!t308 == t309))))) = some r := H
    have A7 := Aside0.mk A70
    clear A70
    by_cases c8 : (!t306 == t307) = true
    · rw [if_pos c8] at H
      have c8b0 : (!t306 == t307) = true := c8
      (try (have c8b1 : (t306 != t307) = true := by simpa using c8))
      (try (have c8b2 : decide (t306 = t307) = false := by simpa using c8))
      (try (have c8b3 : (t306 == t307) = false := by simpa using c8))
      (try (have c8b4 : ¬ (t306 = t307) := by simpa using c8))
      clear c8
      (first | rw [c8b0] | (simp only [i64_w, i32_w]; rw [c8b0]) | skip)
      have H' := Aside0.mk H
      clear H
      go_wp2_with (first | ((with_reducible refine gate_callee (f := 24) rfl ?_); refine goesL_ (some 11) rfl rfl Try.func24 (by kernel_rfl) rfl #[.int .i64 a0, .int .i64 a1] rfl (by (try simp only [List.map_toArray, List.map_cons, List.map_nil]); first | done | rfl | (simp only [List.length_drop, List.length_take]; rfl)) ?_; (with_reducible refine (flt_Less.calls a0 a1 t306 _ A6.out).mono ?_); rintro e w' ⟨rfl, ⟨nd, rfl⟩⟩; refine ⟨_, rfl, ?_⟩) | ((with_reducible refine gate_callee (f := 24) rfl ?_); refine goesL_ (some 18) rfl rfl Try.func24 (by kernel_rfl) rfl #[.int .i64 (Go.bits .xor .i64 a1 (-9223372036854775808)), .int .i64 (Go.bits .xor .i64 a0 (-9223372036854775808))] rfl (by (try simp only [List.map_toArray, List.map_cons, List.map_nil]); first | done | rfl | (simp only [List.length_drop, List.length_take]; rfl)) ?_; (with_reducible refine (flt_Less.calls (Go.bits .xor .i64 a1 (-9223372036854775808)) (Go.bits .xor .i64 a0 (-9223372036854775808)) t307 _ A7.out).mono ?_); rintro e w' ⟨rfl, ⟨nd, rfl⟩⟩; refine ⟨_, rfl, ?_⟩))
      go_meet
      case rel => exact ⟨_, (true), (by first | rfl | (simp; done) | (simp [*]; done)), H', ⟨by first | omega | exact Nat.le_refl _⟩, ⟨by repeat (first | (with_reducible first | exact HB.out | apply below_alloc | apply pw_below_drewN | apply below_drew1) | exact HB.out)⟩⟩
    · rw [if_neg c8] at H
      have c8b0 : (!t306 == t307) = false := by simpa using c8
      (try (have c8b1 : (t306 != t307) = false := by simpa using c8))
      (try (have c8b2 : decide (t306 = t307) = true := by simpa using c8))
      (try (have c8b3 : (t306 == t307) = true := by simpa using c8))
      clear c8
      (first | rw [c8b0] | (simp only [i64_w, i32_w]; rw [c8b0]) | skip)
      replace H := Option.bind_eq_some_iff.mp H
      obtain ⟨t308, A90, H⟩ := H
      replace H : ((flt_Equal.f a1 a0).bind fun t309 => (anamnesislaw02_FltTurned.j0 k a0 a1 (!t308 == t309))) = some r := H
      have A9 := Aside0.mk A90
      clear A90
      replace H := Option.bind_eq_some_iff.mp H
      obtain ⟨t309, A100, H⟩ := H
      replace H : (anamnesislaw02_FltTurned.j0 k a0 a1 (!t308 == t309)) = some r := H
      have A10 := Aside0.mk A100
      clear A100
      have H' := Aside0.mk H
      clear H
      go_wp2_with (first | ((with_reducible refine gate_callee (f := 24) rfl ?_); refine goesL_ (some 11) rfl rfl Try.func24 (by kernel_rfl) rfl #[.int .i64 a0, .int .i64 a1] rfl (by (try simp only [List.map_toArray, List.map_cons, List.map_nil]); first | done | rfl | (simp only [List.length_drop, List.length_take]; rfl)) ?_; (with_reducible refine (flt_Less.calls a0 a1 t306 _ A6.out).mono ?_); rintro e w' ⟨rfl, ⟨nd, rfl⟩⟩; refine ⟨_, rfl, ?_⟩) | ((with_reducible refine gate_callee (f := 24) rfl ?_); refine goesL_ (some 18) rfl rfl Try.func24 (by kernel_rfl) rfl #[.int .i64 (Go.bits .xor .i64 a1 (-9223372036854775808)), .int .i64 (Go.bits .xor .i64 a0 (-9223372036854775808))] rfl (by (try simp only [List.map_toArray, List.map_cons, List.map_nil]); first | done | rfl | (simp only [List.length_drop, List.length_take]; rfl)) ?_; (with_reducible refine (flt_Less.calls (Go.bits .xor .i64 a1 (-9223372036854775808)) (Go.bits .xor .i64 a0 (-9223372036854775808)) t307 _ A7.out).mono ?_); rintro e w' ⟨rfl, ⟨nd, rfl⟩⟩; refine ⟨_, rfl, ?_⟩) | (go_at_call 26; (with_reducible refine (flt_Equal.calls a0 a1 t308 _ A9.out).mono ?_); rintro e w' ⟨rfl, ⟨nd, rfl⟩⟩) | (go_at_call 26; (with_reducible refine (flt_Equal.calls a1 a0 t309 _ A10.out).mono ?_); rintro e w' ⟨rfl, ⟨nd, rfl⟩⟩))
      go_meet
      case rel => exact ⟨_, ((!t308 == t309)), (by first | rfl | (simp; done) | (simp [*]; done)), H', ⟨by first | omega | exact Nat.le_refl _⟩, ⟨by repeat (first | (with_reducible first | exact HB.out | apply below_alloc | apply pw_below_drewN | apply below_drew1) | exact HB.out)⟩⟩
  case rest =>
    clear HC4
    try clear c1
    try clear c2
    try clear p2
    try clear c8
    try clear c8b0
    try clear c8b1
    try clear c8b2
    try clear c10
    obtain ⟨kq, x28_3, rfl, HA, HJ3, HB⟩ := hcut
    cases kq with
    | zero => exact absurd HA.out (by simp [anamnesislaw02_FltTurned.j0])
    | succ kj3 =>
      have H := HA.out
      clear HA
      simp only [anamnesislaw02_FltTurned.j0] at H
      by_cases c11 : x28_3 = true
      · subst c11
        have H1 : (some false) = some r := by rw [if_pos rfl] at H; exact H
        clear H
        have H := H1
        clear H1
        obtain rfl := Option.some.inj H
        exact absurd hr_.out (by decide)
      · replace c11 := Bool.eq_false_iff.mpr c11
        subst c11
        have H1 : ((flt_Less.f a0 a1).bind fun t310 => (if t310 = true then (anamnesislaw02_FltTurned.j1 kj3 a0 a1 1) else (anamnesislaw02_FltTurned.j1 kj3 a0 a1 0))) = some r := by rw [if_neg (show ¬ (false = true) by decide)] at H; exact H
        clear H
        have H := H1
        clear H1
        replace H := Option.bind_eq_some_iff.mp H
        obtain ⟨t310, A120, H⟩ := H
        replace H : (if t310 = true then (anamnesislaw02_FltTurned.j1 kj3 a0 a1 1) else (anamnesislaw02_FltTurned.j1 kj3 a0 a1 0)) = some r := H
        have A12 := Aside0.mk A120
        clear A120
        have HC13 := Aside0.mk H
        clear H
        go_upto_if 31 with (first | ((with_reducible refine gate_callee (f := 24) rfl ?_); refine goesL_ (some 31) rfl rfl Try.func24 (by kernel_rfl) rfl #[.int .i64 a0, .int .i64 a1] rfl (by (try simp only [List.map_toArray, List.map_cons, List.map_nil]); first | done | rfl | (simp only [List.length_drop, List.length_take]; rfl)) ?_; (with_reducible refine (flt_Less.calls a0 a1 t310 _ A12.out).mono ?_); rintro e w' ⟨rfl, ⟨nd, rfl⟩⟩; refine ⟨_, rfl, ?_⟩))
        (try simp only [Act.put, List.setIfInBounds_toArray, List.set_cons_zero, List.set_cons_succ])
        go_cut [6] (fun v6 wc => ∃ (kq : Nat) (x6_12 : Int), v6 = .int .i64 x6_12 ∧ Aside0 (anamnesislaw02_FltTurned.j1 kq a0 a1 x6_12 = some r) ∧ Aside0 (kq ≤ kj3) ∧ Aside0 (Below w.heap.size w wc))
        case first =>
          have H := HC13.out
          clear HC13
          by_cases c14 : t310 = true
          · subst c14
            have H1 : (anamnesislaw02_FltTurned.j1 kj3 a0 a1 1) = some r := by rw [if_pos rfl] at H; exact H
            clear H
            have H := H1
            clear H1
            have H' := Aside0.mk H
            clear H
            go_wp2
            go_meet
            case rel => exact ⟨_, (1), (by first | rfl | (simp; done) | (simp [*]; done)), H', ⟨by have := HJ3.out; first | omega | exact Nat.le_refl _⟩, ⟨by repeat (first | (with_reducible first | exact HB.out | apply below_alloc | apply pw_below_drewN | apply below_drew1) | exact HB.out)⟩⟩
          · replace c14 := Bool.eq_false_iff.mpr c14
            subst c14
            have H1 : (anamnesislaw02_FltTurned.j1 kj3 a0 a1 0) = some r := by rw [if_neg (show ¬ (false = true) by decide)] at H; exact H
            clear H
            have H := H1
            clear H1
            have H' := Aside0.mk H
            clear H
            go_wp2
            go_meet
            case rel => exact ⟨_, (0), (by first | rfl | (simp; done) | (simp [*]; done)), H', ⟨by have := HJ3.out; first | omega | exact Nat.le_refl _⟩, ⟨by repeat (first | (with_reducible first | exact HB.out | apply below_alloc | apply pw_below_drewN | apply below_drew1) | exact HB.out)⟩⟩
        case rest =>
          clear HC13
          try clear c1
          try clear c2
          try clear p2
          try clear c8
          try clear c8b0
          try clear c8b1
          try clear c8b2
          try clear c10
          try clear c11
          try clear c14
          try clear p2
          obtain ⟨kq, x6_12, rfl, HA, HJ12, HB⟩ := hcut
          cases kq with
          | zero => exact absurd HA.out (by simp [anamnesislaw02_FltTurned.j1])
          | succ kj12 =>
            have H := HA.out
            clear HA
            simp only [anamnesislaw02_FltTurned.j1] at H
            replace H := Option.bind_eq_some_iff.mp H
            obtain ⟨t311, A150, H⟩ := H
            replace H : (if t311 = true then (anamnesislaw02_FltTurned.j2 kj12 a0 a1 (wrap64 (x6_12 + 1))) else (anamnesislaw02_FltTurned.j2 kj12 a0 a1 x6_12)) = some r := H
            have A15 := Aside0.mk A150
            clear A150
            have HC16 := Aside0.mk H
            clear H
            go_upto_if 36 with (first | ((with_reducible refine gate_callee (f := 24) rfl ?_); refine goesL_ (some 36) rfl rfl Try.func24 (by kernel_rfl) rfl #[.int .i64 a1, .int .i64 a0] rfl (by (try simp only [List.map_toArray, List.map_cons, List.map_nil]); first | done | rfl | (simp only [List.length_drop, List.length_take]; rfl)) ?_; (with_reducible refine (flt_Less.calls a1 a0 t311 _ A15.out).mono ?_); rintro e w' ⟨rfl, ⟨nd, rfl⟩⟩; refine ⟨_, rfl, ?_⟩))
            (try simp only [Act.put, List.setIfInBounds_toArray, List.set_cons_zero, List.set_cons_succ])
            go_cut [6] (fun v6 wc => ∃ (kq : Nat) (x6_15 : Int), v6 = .int .i64 x6_15 ∧ Aside0 (anamnesislaw02_FltTurned.j2 kq a0 a1 x6_15 = some r) ∧ Aside0 (kq ≤ kj12) ∧ Aside0 (Below w.heap.size w wc))
            case first =>
              have H := HC16.out
              clear HC16
              by_cases c17 : t311 = true
              · subst c17
                have H1 : (anamnesislaw02_FltTurned.j2 kj12 a0 a1 (wrap64 (x6_12 + 1))) = some r := by rw [if_pos rfl] at H; exact H
                clear H
                have H := H1
                clear H1
                have H' := Aside0.mk H
                clear H
                go_wp2
                go_meet
                case rel => exact ⟨_, (wrap64 (x6_12 + 1)), (by first | rfl | (simp; done) | (simp [*]; done)), H', ⟨by have := HJ3.out; have := HJ12.out; first | omega | exact Nat.le_refl _⟩, ⟨by repeat (first | (with_reducible first | exact HB.out | apply below_alloc | apply pw_below_drewN | apply below_drew1) | exact HB.out)⟩⟩
              · replace c17 := Bool.eq_false_iff.mpr c17
                subst c17
                have H1 : (anamnesislaw02_FltTurned.j2 kj12 a0 a1 x6_12) = some r := by rw [if_neg (show ¬ (false = true) by decide)] at H; exact H
                clear H
                have H := H1
                clear H1
                have H' := Aside0.mk H
                clear H
                go_wp2
                go_meet
                case rel => exact ⟨_, (x6_12), (by first | rfl | (simp; done) | (simp [*]; done)), H', ⟨by have := HJ3.out; have := HJ12.out; first | omega | exact Nat.le_refl _⟩, ⟨by repeat (first | (with_reducible first | exact HB.out | apply below_alloc | apply pw_below_drewN | apply below_drew1) | exact HB.out)⟩⟩
            case rest =>
              clear HC16
              try clear c1
              try clear c2
              try clear p2
              try clear p6
              try clear c8
              try clear c8b0
              try clear c8b1
              try clear c8b2
              try clear c10
              try clear c11
              try clear c14
              try clear c17
              try clear p2
              obtain ⟨kq, x6_15, rfl, HA, HJ15, HB⟩ := hcut
              cases kq with
              | zero => exact absurd HA.out (by simp [anamnesislaw02_FltTurned.j2])
              | succ kj15 =>
                have H := HA.out
                clear HA
                simp only [anamnesislaw02_FltTurned.j2] at H
                replace H := Option.bind_eq_some_iff.mp H
                obtain ⟨t312, A180, H⟩ := H
                replace H : (if t312 = true then (anamnesislaw02_FltTurned.j3 kj15 a0 a1 (wrap64 (x6_15 + 1))) else (anamnesislaw02_FltTurned.j3 kj15 a0 a1 x6_15)) = some r := H
                have A18 := Aside0.mk A180
                clear A180
                have HC19 := Aside0.mk H
                clear H
                go_upto_if 41 with (first | ((with_reducible refine gate_callee (f := 26) rfl ?_); refine goesL_ (some 41) rfl rfl Try.func26 (by kernel_rfl) rfl #[.int .i64 a0, .int .i64 a1] rfl (by (try simp only [List.map_toArray, List.map_cons, List.map_nil]); first | done | rfl | (simp only [List.length_drop, List.length_take]; rfl)) ?_; (with_reducible refine (flt_Equal.calls a0 a1 t312 _ A18.out).mono ?_); rintro e w' ⟨rfl, ⟨nd, rfl⟩⟩; refine ⟨_, rfl, ?_⟩))
                (try simp only [Act.put, List.setIfInBounds_toArray, List.set_cons_zero, List.set_cons_succ])
                go_cut [6] (fun v6 wc => ∃ (kq : Nat) (x6_18 : Int), v6 = .int .i64 x6_18 ∧ Aside0 (anamnesislaw02_FltTurned.j3 kq a0 a1 x6_18 = some r) ∧ Aside0 (kq ≤ kj15) ∧ Aside0 (Below w.heap.size w wc))
                case first =>
                  have H := HC19.out
                  clear HC19
                  by_cases c20 : t312 = true
                  · subst c20
                    have H1 : (anamnesislaw02_FltTurned.j3 kj15 a0 a1 (wrap64 (x6_15 + 1))) = some r := by rw [if_pos rfl] at H; exact H
                    clear H
                    have H := H1
                    clear H1
                    have H' := Aside0.mk H
                    clear H
                    go_wp2
                    go_meet
                    case rel => exact ⟨_, (wrap64 (x6_15 + 1)), (by first | rfl | (simp; done) | (simp [*]; done)), H', ⟨by have := HJ3.out; have := HJ12.out; have := HJ15.out; first | omega | exact Nat.le_refl _⟩, ⟨by repeat (first | (with_reducible first | exact HB.out | apply below_alloc | apply pw_below_drewN | apply below_drew1) | exact HB.out)⟩⟩
                  · replace c20 := Bool.eq_false_iff.mpr c20
                    subst c20
                    have H1 : (anamnesislaw02_FltTurned.j3 kj15 a0 a1 x6_15) = some r := by rw [if_neg (show ¬ (false = true) by decide)] at H; exact H
                    clear H
                    have H := H1
                    clear H1
                    have H' := Aside0.mk H
                    clear H
                    go_wp2
                    go_meet
                    case rel => exact ⟨_, (x6_15), (by first | rfl | (simp; done) | (simp [*]; done)), H', ⟨by have := HJ3.out; have := HJ12.out; have := HJ15.out; first | omega | exact Nat.le_refl _⟩, ⟨by repeat (first | (with_reducible first | exact HB.out | apply below_alloc | apply pw_below_drewN | apply below_drew1) | exact HB.out)⟩⟩
                case rest =>
                  clear HC19
                  try clear c1
                  try clear c2
                  try clear p2
                  try clear p6
                  try clear c8
                  try clear c8b0
                  try clear c8b1
                  try clear c8b2
                  try clear c10
                  try clear c11
                  try clear c14
                  try clear c17
                  try clear c20
                  try clear p2
                  try clear p6
                  obtain ⟨kq, x6_18, rfl, HA, HJ18, HB⟩ := hcut
                  cases kq with
                  | zero => exact absurd HA.out (by simp [anamnesislaw02_FltTurned.j3])
                  | succ kj18 =>
                    have H := HA.out
                    clear HA
                    simp only [anamnesislaw02_FltTurned.j3] at H
                    replace H := Option.bind_eq_some_iff.mp H
                    obtain ⟨t313, A210, H⟩ := H
                    replace H : (if t313 = 0 then (some (x6_18 == 0)) else ((anamnesisref02_Kind.f a1).bind fun t314 => (if t314 = 0 then (some (x6_18 == 0)) else (some (x6_18 == 1))))) = some r := H
                    have A21 := Aside0.mk A210
                    clear A210
                    by_cases c22 : t313 = 0
                    · rw [if_pos c22] at H
                      have c22b0 : (t313 == 0) = true := beq_iff_eq.mpr c22
                      have c22b1 : (t313 != 0) = false := bne_eq_false_iff_eq.mpr c22
                      clear c22
                      obtain rfl := Option.some.inj H
                      go_wp2_with (first | ((with_reducible refine gate_callee (f := 17) rfl ?_); refine goesL_ (some 45) rfl rfl Try.func17 (by kernel_rfl) rfl #[.int .i64 a0] rfl (by (try simp only [List.map_toArray, List.map_cons, List.map_nil]); first | done | rfl | (simp only [List.length_drop, List.length_take]; rfl)) ?_; (with_reducible refine (anamnesisref02_Kind.calls a0 t313 _ A21.out).mono ?_); rintro e w' ⟨rfl, ⟨nd, rfl⟩⟩; refine ⟨_, rfl, ?_⟩))
                      go_ret
                      exact ⟨by first | rfl | (simp [errW_none, errW_some] <;> rfl) | (simp [*, errW_none, errW_some] <;> rfl) | (simp [wrap64, errW_none, errW_some]; done), by repeat (first | (with_reducible first | exact HB.out | apply below_alloc | apply pw_below_drewN | apply below_drew1) | exact HB.out)⟩
                    · rw [if_neg c22] at H
                      have c22b0 : (t313 == 0) = false := beq_eq_false_iff_ne.mpr c22
                      have c22b1 : (t313 != 0) = true := bne_iff_ne.mpr c22
                      replace H := Option.bind_eq_some_iff.mp H
                      obtain ⟨t314, A230, H⟩ := H
                      replace H : (if t314 = 0 then (some (x6_18 == 0)) else (some (x6_18 == 1))) = some r := H
                      have A23 := Aside0.mk A230
                      clear A230
                      by_cases c24 : t314 = 0
                      · rw [if_pos c24] at H
                        have c24b0 : (t314 == 0) = true := beq_iff_eq.mpr c24
                        have c24b1 : (t314 != 0) = false := bne_eq_false_iff_eq.mpr c24
                        clear c24
                        obtain rfl := Option.some.inj H
                        go_wp2_with (first | ((with_reducible refine gate_callee (f := 17) rfl ?_); refine goesL_ (some 45) rfl rfl Try.func17 (by kernel_rfl) rfl #[.int .i64 a0] rfl (by (try simp only [List.map_toArray, List.map_cons, List.map_nil]); first | done | rfl | (simp only [List.length_drop, List.length_take]; rfl)) ?_; (with_reducible refine (anamnesisref02_Kind.calls a0 t313 _ A21.out).mono ?_); rintro e w' ⟨rfl, ⟨nd, rfl⟩⟩; refine ⟨_, rfl, ?_⟩) | (go_at_call 17; (with_reducible refine (anamnesisref02_Kind.calls a1 t314 _ A23.out).mono ?_); rintro e w' ⟨rfl, ⟨nd, rfl⟩⟩))
                        go_ret
                        exact ⟨by first | rfl | (simp [errW_none, errW_some] <;> rfl) | (simp [*, errW_none, errW_some] <;> rfl) | (simp [wrap64, errW_none, errW_some]; done), by repeat (first | (with_reducible first | exact HB.out | apply below_alloc | apply pw_below_drewN | apply below_drew1) | exact HB.out)⟩
                      · rw [if_neg c24] at H
                        have c24b0 : (t314 == 0) = false := beq_eq_false_iff_ne.mpr c24
                        have c24b1 : (t314 != 0) = true := bne_iff_ne.mpr c24
                        obtain rfl := Option.some.inj H
                        go_wp2_with (first | ((with_reducible refine gate_callee (f := 17) rfl ?_); refine goesL_ (some 45) rfl rfl Try.func17 (by kernel_rfl) rfl #[.int .i64 a0] rfl (by (try simp only [List.map_toArray, List.map_cons, List.map_nil]); first | done | rfl | (simp only [List.length_drop, List.length_take]; rfl)) ?_; (with_reducible refine (anamnesisref02_Kind.calls a0 t313 _ A21.out).mono ?_); rintro e w' ⟨rfl, ⟨nd, rfl⟩⟩; refine ⟨_, rfl, ?_⟩) | (go_at_call 17; (with_reducible refine (anamnesisref02_Kind.calls a1 t314 _ A23.out).mono ?_); rintro e w' ⟨rfl, ⟨nd, rfl⟩⟩))
                        go_ret
                        exact ⟨by first | rfl | (simp [errW_none, errW_some] <;> rfl) | (simp [*, errW_none, errW_some] <;> rfl) | (simp [wrap64, errW_none, errW_some]; done), by repeat (first | (with_reducible first | exact HB.out | apply below_alloc | apply pw_below_drewN | apply below_drew1) | exact HB.out)⟩

/-- THE ONE PURE STATEMENT of anamnesislaw02_FltTurned: yours. -/
def anamnesislaw02_FltTurned.Pure : Prop := ∀ (a0 : Int) (a1 : Int), (Lit.int .i64 a0).wf = true → (Lit.int .i64 a1).wf = true → ∃ k, anamnesislaw02_FltTurned.f k a0 a1 = some true
theorem anamnesislaw02_FltTurned.walk (P : anamnesislaw02_FltTurned.Pure) (a0 : Int) (a1 : Int) (w : World) (w0 : (Lit.int .i64 a0).wf = true) (w1 : (Lit.int .i64 a1).wf = true) :
    Calls Try.prog 10 #[.int .i64 a0, .int .i64 a1] w fun e w' => e = .returned (.bool true) ∧ Below w.heap.size w w' := by
  obtain ⟨k, h⟩ := P a0 a1 w0 w1
  refine (anamnesislaw02_FltTurned.calls k a0 a1 true w h rfl).mono ?_
  rintro e w' ⟨rfl, hd⟩
  exact ⟨rfl, hd⟩

end Go.Proofs.Ytbnpodkfcfdpeaa.PFlt
