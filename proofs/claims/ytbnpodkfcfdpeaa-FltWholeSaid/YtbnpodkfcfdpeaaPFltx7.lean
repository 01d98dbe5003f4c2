-- laid by a program of this session (gprint.py)
import Derived.Test.YtbnpodkfcfdpeaaPFltx0
import Derived.Test.YtbnpodkfcfdpeaaPFltx1
import Derived.Test.YtbnpodkfcfdpeaaPFltx2
import Derived.Test.YtbnpodkfcfdpeaaPFltx3
namespace Go.Proofs.Ytbnpodkfcfdpeaa.PFlt
open Go.RowKit Go.Proofs.YtbnpodkfcfdpeaaW.PrintWords Go.Proofs.YtbnpodkfcfdpeaaW.PrintLast Go.Proofs.YtbnpodkfcfdpeaaW.PrintMore
attribute [local go_sem] max2_int min2_int max_two min_two max_three min_three max_four min_four   -- for this text's walks alone
set_option linter.unusedVariables false
set_option linter.unusedSimpArgs false

/-! ### anamnesisref02_Trunc: function 15 -/
def anamnesisref02_Trunc.j0 : Nat → Int → Int → Option (Int × Bool)
  | 0, _, _ => none
  | k + 1, x0, x4 => (anamnesisref02_sign.f x0).bind fun t204 => (if t204 = true then (if (wrap64 (-x4)) < (-1073741824) then (some (0, false)) else (if (wrap64 (-x4)) ≥ 1073741824 then (some (0, false)) else (some (wrap64 (-x4), true)))) else (if x4 < (-1073741824) then (some (0, false)) else (if x4 ≥ 1073741824 then (some (0, false)) else (some (x4, true)))))
def anamnesisref02_Trunc.f (k : Nat) (a0 : Int) : Option (Int × Bool) := (anamnesisref02_Kind.f a0).bind fun t200 => (if t200 < 2 then (some (0, false)) else ((anamnesisref02_Kind.f a0).bind fun t201 => (if t201 < 4 then (some (0, true)) else ((anamnesisref02_part.f k a0).bind fun bt202 => (if bt202.2 > 0 then (some (0, false)) else (if bt202.2 < (-62) then (anamnesisref02_Trunc.j0 k a0 0) else (if 0 ≤ (IntKind.u64.wrap (wrap64 (-bt202.2))) then (anamnesisref02_Trunc.j0 k a0 (shr .i64 bt202.1 (IntKind.u64.wrap (wrap64 (-bt202.2))))) else (none))))))))
theorem anamnesisref02_Trunc.mono_l : ∀ k, (∀ y0 y1, LeO (anamnesisref02_Trunc.j0 k y0 y1) (anamnesisref02_Trunc.j0 (k + 1) y0 y1))
  | 0 => fun _ _ r h => by simp [anamnesisref02_Trunc.j0] at h
  | k + 1 => by
    have ih0 := anamnesisref02_Trunc.mono_l k
    · intro y0 y1
      unfold anamnesisref02_Trunc.j0
      repeat' first
      | (with_reducible exact ih0 _ _)
      | (with_reducible exact anamnesisref02_part.mono _ _)
      | (with_reducible exact LeO.refl _)
      | (with_reducible exact LeO.none _)
      | (with_reducible refine LeO.ite ?_ ?_)
      | (with_reducible refine LeO.bind ?_ (fun _ => ?_))
      | exact ih0 _ _
      | exact anamnesisref02_part.mono _ _
      | exact LeO.none _
      | refine LeO.ite ?_ ?_
      | refine LeO.bind ?_ (fun _ => ?_)
theorem anamnesisref02_Trunc.mono : ∀ a0 k, LeO (anamnesisref02_Trunc.f k a0) (anamnesisref02_Trunc.f (k + 1) a0) := by
  intro a0 k
  have ih0 := anamnesisref02_Trunc.mono_l k
  unfold anamnesisref02_Trunc.f
  repeat' first
      | (with_reducible exact ih0 _ _)
      | (with_reducible exact anamnesisref02_part.mono _ _)
      | (with_reducible exact LeO.refl _)
      | (with_reducible exact LeO.none _)
      | (with_reducible refine LeO.ite ?_ ?_)
      | (with_reducible refine LeO.bind ?_ (fun _ => ?_))
      | exact ih0 _ _
      | exact anamnesisref02_part.mono _ _
      | exact LeO.none _
      | refine LeO.ite ?_ ?_
      | refine LeO.bind ?_ (fun _ => ?_)
set_option maxHeartbeats 8000000 in
set_option maxRecDepth 100000 in
theorem anamnesisref02_Trunc.calls (k : Nat) (a0 : Int) (r1 : Int) (r2 : Bool) (w : World) (h : anamnesisref02_Trunc.f k a0 = some (r1, r2)) :
    Calls Try.prog 15 #[.int .i64 a0] w fun e w' => e = .returned (.tuple #[.int .i64 r1, .bool r2]) ∧ Drawn0 w w' := by
  have H : ((anamnesisref02_Kind.f a0).bind fun t200 => (if t200 < 2 then (some (0, false)) else ((anamnesisref02_Kind.f a0).bind fun t201 => (if t201 < 4 then (some (0, true)) else ((anamnesisref02_part.f k a0).bind fun bt202 => (if bt202.2 > 0 then (some (0, false)) else (if bt202.2 < (-62) then (anamnesisref02_Trunc.j0 k a0 0) else (if 0 ≤ (IntKind.u64.wrap (wrap64 (-bt202.2))) then (anamnesisref02_Trunc.j0 k a0 (shr .i64 bt202.1 (IntKind.u64.wrap (wrap64 (-bt202.2))))) else (none))))))))) = some (r1, r2) := h
  clear h
  replace H := Option.bind_eq_some_iff.mp H
  obtain ⟨t200, A20, H⟩ := H
  replace H : (if t200 < 2 then (some (0, false)) else ((anamnesisref02_Kind.f a0).bind fun t201 => (if t201 < 4 then (some (0, true)) else ((anamnesisref02_part.f k a0).bind fun bt202 => (if bt202.2 > 0 then (some (0, false)) else (if bt202.2 < (-62) then (anamnesisref02_Trunc.j0 k a0 0) else (if 0 ≤ (IntKind.u64.wrap (wrap64 (-bt202.2))) then (anamnesisref02_Trunc.j0 k a0 (shr .i64 bt202.1 (IntKind.u64.wrap (wrap64 (-bt202.2))))) else (none)))))))) = some (r1, r2) := H
  have A2 := Aside0.mk A20
  clear A20
  by_cases c3 : t200 < 2
  · rw [if_pos c3] at H
    have c3b0 : decide (t200 < 2) = true := decide_eq_true c3
    clear c3
    simp only [Option.some.injEq, Prod.mk.injEq] at H
    obtain ⟨rfl, rfl⟩ := H
    go_enter Try.func15, Try.ntmps15
    go_wp2_with (first | ((with_reducible refine gate_callee (f := 17) rfl ?_); refine goesL_ (some 7) rfl rfl Try.func17 (by kernel_rfl) rfl #[.int .i64 a0] rfl (by (try simp only [List.map_toArray, List.map_cons, List.map_nil]); first | done | rfl | (simp only [List.length_drop, List.length_take]; rfl)) ?_; (with_reducible refine (anamnesisref02_Kind.calls a0 t200 _ A2.out).mono ?_); rintro e w' ⟨rfl, ⟨nd, rfl⟩⟩; refine ⟨_, rfl, ?_⟩))
    go_ret2
    exact ⟨by first | rfl | (simp; done) | (simp [*]; done), by repeat (first | exact Drawn0.refl _ | apply Drawn0.step)⟩
  · rw [if_neg c3] at H
    have c3b0 : decide (t200 < 2) = false := decide_eq_false c3
    clear c3
    replace H := Option.bind_eq_some_iff.mp H
    obtain ⟨t201, A40, H⟩ := H
    replace H : (if t201 < 4 then (some (0, true)) else ((anamnesisref02_part.f k a0).bind fun bt202 => (if bt202.2 > 0 then (some (0, false)) else (if bt202.2 < (-62) then (anamnesisref02_Trunc.j0 k a0 0) else (if 0 ≤ (IntKind.u64.wrap (wrap64 (-bt202.2))) then (anamnesisref02_Trunc.j0 k a0 (shr .i64 bt202.1 (IntKind.u64.wrap (wrap64 (-bt202.2))))) else (none)))))) = some (r1, r2) := H
    have A4 := Aside0.mk A40
    clear A40
    by_cases c5 : t201 < 4
    · rw [if_pos c5] at H
      have c5b0 : decide (t201 < 4) = true := decide_eq_true c5
      clear c5
      simp only [Option.some.injEq, Prod.mk.injEq] at H
      obtain ⟨rfl, rfl⟩ := H
      go_enter Try.func15, Try.ntmps15
      go_wp2_with (first | ((with_reducible refine gate_callee (f := 17) rfl ?_); refine goesL_ (some 7) rfl rfl Try.func17 (by kernel_rfl) rfl #[.int .i64 a0] rfl (by (try simp only [List.map_toArray, List.map_cons, List.map_nil]); first | done | rfl | (simp only [List.length_drop, List.length_take]; rfl)) ?_; (with_reducible refine (anamnesisref02_Kind.calls a0 t200 _ A2.out).mono ?_); rintro e w' ⟨rfl, ⟨nd, rfl⟩⟩; refine ⟨_, rfl, ?_⟩) | ((with_reducible refine gate_callee (f := 17) rfl ?_); refine goesL_ (some 10) rfl rfl Try.func17 (by kernel_rfl) rfl #[.int .i64 a0] rfl (by (try simp only [List.map_toArray, List.map_cons, List.map_nil]); first | done | rfl | (simp only [List.length_drop, List.length_take]; rfl)) ?_; (with_reducible refine (anamnesisref02_Kind.calls a0 t201 _ A4.out).mono ?_); rintro e w' ⟨rfl, ⟨nd, rfl⟩⟩; refine ⟨_, rfl, ?_⟩))
      go_ret2
      exact ⟨by first | rfl | (simp; done) | (simp [*]; done), by repeat (first | exact Drawn0.refl _ | apply Drawn0.step)⟩
    · rw [if_neg c5] at H
      have c5b0 : decide (t201 < 4) = false := decide_eq_false c5
      clear c5
      replace H := Option.bind_eq_some_iff.mp H
      obtain ⟨⟨t202, t203⟩, A60, H⟩ := H
      replace H : (if t203 > 0 then (some (0, false)) else (if t203 < (-62) then (anamnesisref02_Trunc.j0 k a0 0) else (if 0 ≤ (IntKind.u64.wrap (wrap64 (-t203))) then (anamnesisref02_Trunc.j0 k a0 (shr .i64 t202 (IntKind.u64.wrap (wrap64 (-t203))))) else (none)))) = some (r1, r2) := H
      have A6 := Aside0.mk A60
      clear A60
      by_cases c7 : t203 > 0
      · rw [if_pos c7] at H
        have c7b0 : decide (0 < t203) = true := decide_eq_true c7
        clear c7
        simp only [Option.some.injEq, Prod.mk.injEq] at H
        obtain ⟨rfl, rfl⟩ := H
        go_enter Try.func15, Try.ntmps15
        go_wp2_with (first | ((with_reducible refine gate_callee (f := 17) rfl ?_); refine goesL_ (some 7) rfl rfl Try.func17 (by kernel_rfl) rfl #[.int .i64 a0] rfl (by (try simp only [List.map_toArray, List.map_cons, List.map_nil]); first | done | rfl | (simp only [List.length_drop, List.length_take]; rfl)) ?_; (with_reducible refine (anamnesisref02_Kind.calls a0 t200 _ A2.out).mono ?_); rintro e w' ⟨rfl, ⟨nd, rfl⟩⟩; refine ⟨_, rfl, ?_⟩) | ((with_reducible refine gate_callee (f := 17) rfl ?_); refine goesL_ (some 10) rfl rfl Try.func17 (by kernel_rfl) rfl #[.int .i64 a0] rfl (by (try simp only [List.map_toArray, List.map_cons, List.map_nil]); first | done | rfl | (simp only [List.length_drop, List.length_take]; rfl)) ?_; (with_reducible refine (anamnesisref02_Kind.calls a0 t201 _ A4.out).mono ?_); rintro e w' ⟨rfl, ⟨nd, rfl⟩⟩; refine ⟨_, rfl, ?_⟩) | ((with_reducible refine gate_callee (f := 38) rfl ?_); refine goesL_ (some 14) rfl rfl Try.func38 (by kernel_rfl) rfl #[.int .i64 a0] rfl (by (try simp only [List.map_toArray, List.map_cons, List.map_nil]); first | done | rfl | (simp only [List.length_drop, List.length_take]; rfl)) ?_; (with_reducible refine (anamnesisref02_part.calls k a0 t202 t203 _ A6.out).mono ?_); rintro e w' ⟨rfl, ⟨nd, rfl⟩⟩; refine ⟨_, rfl, ?_⟩))
        go_ret2
        exact ⟨by first | rfl | (simp; done) | (simp [*]; done), by repeat (first | exact Drawn0.refl _ | apply Drawn0.step)⟩
      · rw [if_neg c7] at H
        have c7b0 : decide (0 < t203) = false := decide_eq_false c7
        clear c7
        have HC8 := Aside0.mk H
        clear H
        go_enter Try.func15, Try.ntmps15
        go_upto_if 20 with (first | ((with_reducible refine gate_callee (f := 17) rfl ?_); refine goesL_ (some 7) rfl rfl Try.func17 (by kernel_rfl) rfl #[.int .i64 a0] rfl (by (try simp only [List.map_toArray, List.map_cons, List.map_nil]); first | done | rfl | (simp only [List.length_drop, List.length_take]; rfl)) ?_; (with_reducible refine (anamnesisref02_Kind.calls a0 t200 _ A2.out).mono ?_); rintro e w' ⟨rfl, ⟨nd, rfl⟩⟩; refine ⟨_, rfl, ?_⟩) | ((with_reducible refine gate_callee (f := 17) rfl ?_); refine goesL_ (some 10) rfl rfl Try.func17 (by kernel_rfl) rfl #[.int .i64 a0] rfl (by (try simp only [List.map_toArray, List.map_cons, List.map_nil]); first | done | rfl | (simp only [List.length_drop, List.length_take]; rfl)) ?_; (with_reducible refine (anamnesisref02_Kind.calls a0 t201 _ A4.out).mono ?_); rintro e w' ⟨rfl, ⟨nd, rfl⟩⟩; refine ⟨_, rfl, ?_⟩) | ((with_reducible refine gate_callee (f := 38) rfl ?_); refine goesL_ (some 14) rfl rfl Try.func38 (by kernel_rfl) rfl #[.int .i64 a0] rfl (by (try simp only [List.map_toArray, List.map_cons, List.map_nil]); first | done | rfl | (simp only [List.length_drop, List.length_take]; rfl)) ?_; (with_reducible refine (anamnesisref02_part.calls k a0 t202 t203 _ A6.out).mono ?_); rintro e w' ⟨rfl, ⟨nd, rfl⟩⟩; refine ⟨_, rfl, ?_⟩))
        (try simp only [Act.put, List.setIfInBounds_toArray, List.set_cons_zero, List.set_cons_succ])
        go_cut [4] (fun v4 wc => ∃ (kq : Nat) (x4_7 : Int), v4 = .int .i64 x4_7 ∧ Aside0 (anamnesisref02_Trunc.j0 kq a0 x4_7 = some (r1, r2)) ∧ Aside0 (kq ≤ k) ∧ Drawn0 w wc)
        case first =>
          have H := HC8.out
          clear HC8
          by_cases c9 : t203 < (-62)
          · rw [if_pos c9] at H
            have c9b0 : decide (t203 < (-62)) = true := decide_eq_true c9
            clear c9
            (first | rw [c9b0] | (simp only [i64_w, i32_w]; rw [c9b0]) | skip)
            have H' := Aside0.mk H
            clear H
            go_wp2
            go_meet
            case rel => exact ⟨_, (0), (by first | rfl | (simp; done) | (simp [*]; done)), H', ⟨by first | omega | exact Nat.le_refl _⟩, by repeat (first | exact Drawn0.refl _ | apply Drawn0.step)⟩
          · rw [if_neg c9] at H
            have c9b0 : decide (t203 < (-62)) = false := decide_eq_false c9
            clear c9
            (first | rw [c9b0] | (simp only [i64_w, i32_w]; rw [c9b0]) | skip)
            obtain ⟨ji10, hji10⟩ : ∃ j_ : Int, (IntKind.u64.wrap (wrap64 (-t203))) = j_ := ⟨_, rfl⟩
            replace H : (if 0 ≤ (ji10) then (anamnesisref02_Trunc.j0 k a0 (shr .i64 t202 (ji10))) else (none)) = some (r1, r2) := by first | (rw [hji10] at H; exact H) | (simp only [hji10] at H ⊢; exact H)
            by_cases c11 : 0 ≤ (ji10)
            · rw [if_pos c11] at H
              have c11b0 := eq_true c11
              have c11b1 : decide (0 ≤ (ji10)) = true := decide_eq_true c11
              clear c11
              obtain ⟨ji12, hji12⟩ : ∃ j_ : Int, (shr .i64 t202 (ji10)) = j_ := ⟨_, rfl⟩
              replace H : (anamnesisref02_Trunc.j0 k a0 ji12) = some (r1, r2) := by first | (rw [hji12] at H; exact H) | (simp only [hji12] at H ⊢; exact H)
              have hji12_ : (t202 / 2 ^ min (ji10).toNat 64) = ji12 := hji12
              have hji12z : (ji10) ≤ 64 → (t202 / 2 ^ (ji10).toNat) = ji12 := shr_small hji12
              have H' := Aside0.mk H
              clear H
              go_wp2
              go_meet
              case rel => exact ⟨_, (ji12), (by first | rfl | (simp; done) | (simp only [← hji12] <;> (first | rfl | simp)) | (simp [*]; done)), H', ⟨by first | omega | exact Nat.le_refl _⟩, by repeat (first | exact Drawn0.refl _ | apply Drawn0.step)⟩
            · rw [if_neg c11] at H
              exact absurd H (by simp)
        case rest =>
          clear HC8
          try clear c1
          try clear p2
          try clear c3
          try clear c3b0
          try clear c5
          try clear c5b0
          try clear p6
          try clear c7
          try clear c7b0
          try clear c9
          try clear c9b0
          try clear c11
          try clear c11b0
          try clear c11b1
          obtain ⟨kq, x4_7, rfl, HA, HJ7, ⟨mc7, rfl⟩⟩ := hcut
          cases kq with
          | zero => exact absurd HA.out (by simp [anamnesisref02_Trunc.j0])
          | succ kj7 =>
            have H := HA.out
            clear HA
            simp only [anamnesisref02_Trunc.j0] at H
            replace H := Option.bind_eq_some_iff.mp H
            obtain ⟨t204, A130, H⟩ := H
            replace H : (if t204 = true then (if (wrap64 (-x4_7)) < (-1073741824) then (some (0, false)) else (if (wrap64 (-x4_7)) ≥ 1073741824 then (some (0, false)) else (some (wrap64 (-x4_7), true)))) else (if x4_7 < (-1073741824) then (some (0, false)) else (if x4_7 ≥ 1073741824 then (some (0, false)) else (some (x4_7, true))))) = some (r1, r2) := H
            have A13 := Aside0.mk A130
            clear A130
            by_cases c14 : t204 = true
            · subst c14
              have H1 : (if (wrap64 (-x4_7)) < (-1073741824) then (some (0, false)) else (if (wrap64 (-x4_7)) ≥ 1073741824 then (some (0, false)) else (some (wrap64 (-x4_7), true)))) = some (r1, r2) := by rw [if_pos rfl] at H; exact H
              clear H
              have H := H1
              clear H1
              by_cases c15 : (wrap64 (-x4_7)) < (-1073741824)
              · rw [if_pos c15] at H
                have c15b0 : decide ((wrap64 (-x4_7)) < (-1073741824)) = true := decide_eq_true c15
                clear c15
                simp only [Option.some.injEq, Prod.mk.injEq] at H
                obtain ⟨rfl, rfl⟩ := H
                go_wp2_with (first | ((with_reducible refine gate_callee (f := 33) rfl ?_); refine goesL_ (some 27) rfl rfl Try.func33 (by kernel_rfl) rfl #[.int .i64 a0] rfl (by (try simp only [List.map_toArray, List.map_cons, List.map_nil]); first | done | rfl | (simp only [List.length_drop, List.length_take]; rfl)) ?_; (with_reducible refine (anamnesisref02_sign.calls a0 true _ A13.out).mono ?_); rintro e w' ⟨rfl, ⟨nd, rfl⟩⟩; refine ⟨_, rfl, ?_⟩))
                go_ret2
                exact ⟨by first | rfl | (simp; done) | (simp [*]; done), by repeat (first | exact Drawn0.refl _ | apply Drawn0.step)⟩
              · rw [if_neg c15] at H
                have c15b0 : decide ((wrap64 (-x4_7)) < (-1073741824)) = false := decide_eq_false c15
                clear c15
                by_cases c16 : (wrap64 (-x4_7)) ≥ 1073741824
                · rw [if_pos c16] at H
                  have c16b0 : decide (1073741824 ≤ (wrap64 (-x4_7))) = true := decide_eq_true c16
                  clear c16
                  simp only [Option.some.injEq, Prod.mk.injEq] at H
                  obtain ⟨rfl, rfl⟩ := H
                  go_wp2_with (first | ((with_reducible refine gate_callee (f := 33) rfl ?_); refine goesL_ (some 27) rfl rfl Try.func33 (by kernel_rfl) rfl #[.int .i64 a0] rfl (by (try simp only [List.map_toArray, List.map_cons, List.map_nil]); first | done | rfl | (simp only [List.length_drop, List.length_take]; rfl)) ?_; (with_reducible refine (anamnesisref02_sign.calls a0 true _ A13.out).mono ?_); rintro e w' ⟨rfl, ⟨nd, rfl⟩⟩; refine ⟨_, rfl, ?_⟩))
                  go_ret2
                  exact ⟨by first | rfl | (simp; done) | (simp [*]; done), by repeat (first | exact Drawn0.refl _ | apply Drawn0.step)⟩
                · rw [if_neg c16] at H
                  have c16b0 : decide (1073741824 ≤ (wrap64 (-x4_7))) = false := decide_eq_false c16
                  clear c16
                  simp only [Option.some.injEq, Prod.mk.injEq] at H
                  obtain ⟨rfl, rfl⟩ := H
                  go_wp2_with (first | ((with_reducible refine gate_callee (f := 33) rfl ?_); refine goesL_ (some 27) rfl rfl Try.func33 (by kernel_rfl) rfl #[.int .i64 a0] rfl (by (try simp only [List.map_toArray, List.map_cons, List.map_nil]); first | done | rfl | (simp only [List.length_drop, List.length_take]; rfl)) ?_; (with_reducible refine (anamnesisref02_sign.calls a0 true _ A13.out).mono ?_); rintro e w' ⟨rfl, ⟨nd, rfl⟩⟩; refine ⟨_, rfl, ?_⟩))
                  go_ret2
                  exact ⟨by first | rfl | (simp; done) | (simp [*]; done), by repeat (first | exact Drawn0.refl _ | apply Drawn0.step)⟩
            · replace c14 := Bool.eq_false_iff.mpr c14
              subst c14
              have H1 : (if x4_7 < (-1073741824) then (some (0, false)) else (if x4_7 ≥ 1073741824 then (some (0, false)) else (some (x4_7, true)))) = some (r1, r2) := by rw [if_neg (show ¬ (false = true) by decide)] at H; exact H
              clear H
              have H := H1
              clear H1
              by_cases c17 : x4_7 < (-1073741824)
              · rw [if_pos c17] at H
                have c17b0 : decide (x4_7 < (-1073741824)) = true := decide_eq_true c17
                clear c17
                simp only [Option.some.injEq, Prod.mk.injEq] at H
                obtain ⟨rfl, rfl⟩ := H
                go_wp2_with (first | ((with_reducible refine gate_callee (f := 33) rfl ?_); refine goesL_ (some 27) rfl rfl Try.func33 (by kernel_rfl) rfl #[.int .i64 a0] rfl (by (try simp only [List.map_toArray, List.map_cons, List.map_nil]); first | done | rfl | (simp only [List.length_drop, List.length_take]; rfl)) ?_; (with_reducible refine (anamnesisref02_sign.calls a0 false _ A13.out).mono ?_); rintro e w' ⟨rfl, ⟨nd, rfl⟩⟩; refine ⟨_, rfl, ?_⟩))
                go_ret2
                exact ⟨by first | rfl | (simp; done) | (simp [*]; done), by repeat (first | exact Drawn0.refl _ | apply Drawn0.step)⟩
              · rw [if_neg c17] at H
                have c17b0 : decide (x4_7 < (-1073741824)) = false := decide_eq_false c17
                clear c17
                by_cases c18 : x4_7 ≥ 1073741824
                · rw [if_pos c18] at H
                  have c18b0 : decide (1073741824 ≤ x4_7) = true := decide_eq_true c18
                  clear c18
                  simp only [Option.some.injEq, Prod.mk.injEq] at H
                  obtain ⟨rfl, rfl⟩ := H
                  go_wp2_with (first | ((with_reducible refine gate_callee (f := 33) rfl ?_); refine goesL_ (some 27) rfl rfl Try.func33 (by kernel_rfl) rfl #[.int .i64 a0] rfl (by (try simp only [List.map_toArray, List.map_cons, List.map_nil]); first | done | rfl | (simp only [List.length_drop, List.length_take]; rfl)) ?_; (with_reducible refine (anamnesisref02_sign.calls a0 false _ A13.out).mono ?_); rintro e w' ⟨rfl, ⟨nd, rfl⟩⟩; refine ⟨_, rfl, ?_⟩))
                  go_ret2
                  exact ⟨by first | rfl | (simp; done) | (simp [*]; done), by repeat (first | exact Drawn0.refl _ | apply Drawn0.step)⟩
                · rw [if_neg c18] at H
                  have c18b0 : decide (1073741824 ≤ x4_7) = false := decide_eq_false c18
                  clear c18
                  simp only [Option.some.injEq, Prod.mk.injEq] at H
                  obtain ⟨rfl, rfl⟩ := H
                  go_wp2_with (first | ((with_reducible refine gate_callee (f := 33) rfl ?_); refine goesL_ (some 27) rfl rfl Try.func33 (by kernel_rfl) rfl #[.int .i64 a0] rfl (by (try simp only [List.map_toArray, List.map_cons, List.map_nil]); first | done | rfl | (simp only [List.length_drop, List.length_take]; rfl)) ?_; (with_reducible refine (anamnesisref02_sign.calls a0 false _ A13.out).mono ?_); rintro e w' ⟨rfl, ⟨nd, rfl⟩⟩; refine ⟨_, rfl, ?_⟩))
                  go_ret2
                  exact ⟨by first | rfl | (simp; done) | (simp [*]; done), by repeat (first | exact Drawn0.refl _ | apply Drawn0.step)⟩

/-! ### anamnesisref02_Canon: function 19 -/
def anamnesisref02_Canon.f (a0 : Int) : Option (Int) := (anamnesisref02_Kind.f a0).bind fun t205 => (if t205 = 0 then ((anamnesisref02_NaN.f).bind fun t206 => (some t206)) else (some a0))
set_option maxHeartbeats 8000000 in
set_option maxRecDepth 100000 in
theorem anamnesisref02_Canon.calls (a0 : Int) (r : Int) (w : World) (h : anamnesisref02_Canon.f a0 = some r) :
    Calls Try.prog 19 #[.int .i64 a0] w fun e w' => e = .returned (.int .i64 r) ∧ Drawn0 w w' := by
  have H : ((anamnesisref02_Kind.f a0).bind fun t205 => (if t205 = 0 then ((anamnesisref02_NaN.f).bind fun t206 => (some t206)) else (some a0))) = some r := h
  clear h
  replace H := Option.bind_eq_some_iff.mp H
  obtain ⟨t205, A20, H⟩ := H
  replace H : (if t205 = 0 then ((anamnesisref02_NaN.f).bind fun t206 => (some t206)) else (some a0)) = some r := H
  have A2 := Aside0.mk A20
  clear A20
  by_cases c3 : t205 = 0
  · rw [if_pos c3] at H
    have c3b0 : (t205 == 0) = true := beq_iff_eq.mpr c3
    have c3b1 : (t205 != 0) = false := bne_eq_false_iff_eq.mpr c3
    clear c3
    replace H := Option.bind_eq_some_iff.mp H
    obtain ⟨t206, A40, H⟩ := H
    replace H : (some t206) = some r := H
    have A4 := Aside0.mk A40
    clear A40
    obtain rfl := Option.some.inj H
    go_enter Try.func19, Try.ntmps19
    go_wp2_with (first | ((with_reducible refine gate_callee (f := 17) rfl ?_); refine goesL_ (some 4) rfl rfl Try.func17 (by kernel_rfl) rfl #[.int .i64 a0] rfl (by (try simp only [List.map_toArray, List.map_cons, List.map_nil]); first | done | rfl | (simp only [List.length_drop, List.length_take]; rfl)) ?_; (with_reducible refine (anamnesisref02_Kind.calls a0 t205 _ A2.out).mono ?_); rintro e w' ⟨rfl, ⟨nd, rfl⟩⟩; refine ⟨_, rfl, ?_⟩) | ((with_reducible refine gate_callee (f := 28) rfl ?_); refine goesL_ (some 6) rfl rfl Try.func28 (by kernel_rfl) rfl #[] rfl (by (try simp only [List.map_toArray, List.map_cons, List.map_nil]); first | done | rfl | (simp only [List.length_drop, List.length_take]; rfl)) ?_; (with_reducible refine (anamnesisref02_NaN.calls  t206 _ A4.out).mono ?_); rintro e w' ⟨rfl, ⟨nd, rfl⟩⟩; refine ⟨_, rfl, ?_⟩))
    go_ret
    exact ⟨by first | rfl | (simp; done) | (simp [*]; done), by repeat (first | exact Drawn0.refl _ | apply Drawn0.step)⟩
  · rw [if_neg c3] at H
    have c3b0 : (t205 == 0) = false := beq_eq_false_iff_ne.mpr c3
    have c3b1 : (t205 != 0) = true := bne_iff_ne.mpr c3
    obtain rfl := Option.some.inj H
    go_enter Try.func19, Try.ntmps19
    go_wp2_with (first | ((with_reducible refine gate_callee (f := 17) rfl ?_); refine goesL_ (some 4) rfl rfl Try.func17 (by kernel_rfl) rfl #[.int .i64 a0] rfl (by (try simp only [List.map_toArray, List.map_cons, List.map_nil]); first | done | rfl | (simp only [List.length_drop, List.length_take]; rfl)) ?_; (with_reducible refine (anamnesisref02_Kind.calls a0 t205 _ A2.out).mono ?_); rintro e w' ⟨rfl, ⟨nd, rfl⟩⟩; refine ⟨_, rfl, ?_⟩))
    go_ret
    exact ⟨by first | rfl | (simp; done) | (simp [*]; done), by repeat (first | exact Drawn0.refl _ | apply Drawn0.step)⟩

/-! ### anamnesisref02_Text: function 21 -/
def anamnesisref02_Text.l0 : Nat → Int → ByteArray → Int → Option (ByteArray)
  | 0, _, _, _ => none
  | k + 1, x0, x3, x4 => if x4 < 16 then (if 0 ≤ (Go.bits .and .i64 x0 15) then (if (Go.bits .and .i64 x0 15) < 16 then ((some (([bt (⟨#[48, 49, 50, 51, 52, 53, 54, 55, 56, 57, 97, 98, 99, 100, 101, 102]⟩ : ByteArray) (Go.bits .and .i64 x0 15)] : List Int) : List Int)).bind fun y207 => (if (strOfNums y207).size + x3.size ≤ 9223372036854775807 then (anamnesisref02_Text.l0 k (x0 / 16) ((strOfNums y207) ++ x3) (wrap64 (x4 + 1))) else (none))) else (none)) else (none)) else (some x3)
def anamnesisref02_Text.f (k : Nat) (a0 : Int) : Option (ByteArray) := anamnesisref02_Text.l0 k a0 (⟨#[]⟩ : ByteArray) 0
theorem anamnesisref02_Text.mono_l : ∀ k, (∀ y0 y1 y2, LeO (anamnesisref02_Text.l0 k y0 y1 y2) (anamnesisref02_Text.l0 (k + 1) y0 y1 y2))
  | 0 => fun _ _ _ r h => by simp [anamnesisref02_Text.l0] at h
  | k + 1 => by
    have ih0 := anamnesisref02_Text.mono_l k
    · intro y0 y1 y2
      unfold anamnesisref02_Text.l0
      repeat' first
      | (with_reducible exact ih0 _ _ _)
      | (with_reducible exact LeO.refl _)
      | (with_reducible exact LeO.none _)
      | (with_reducible refine LeO.ite ?_ ?_)
      | (with_reducible refine LeO.bind ?_ (fun _ => ?_))
      | exact ih0 _ _ _
      | exact LeO.none _
      | refine LeO.ite ?_ ?_
      | refine LeO.bind ?_ (fun _ => ?_)
theorem anamnesisref02_Text.mono : ∀ a0 k, LeO (anamnesisref02_Text.f k a0) (anamnesisref02_Text.f (k + 1) a0) := by
  intro a0 k
  have ih0 := anamnesisref02_Text.mono_l k
  unfold anamnesisref02_Text.f
  repeat' first
      | (with_reducible exact ih0 _ _ _)
      | (with_reducible exact LeO.refl _)
      | (with_reducible exact LeO.none _)
      | (with_reducible refine LeO.ite ?_ ?_)
      | (with_reducible refine LeO.bind ?_ (fun _ => ?_))
      | exact ih0 _ _ _
      | exact LeO.none _
      | refine LeO.ite ?_ ?_
      | refine LeO.bind ?_ (fun _ => ?_)
set_option maxHeartbeats 8000000 in
set_option maxRecDepth 100000 in
theorem anamnesisref02_Text.calls (k : Nat) (a0 : Int) (r : ByteArray) (w : World) (h : anamnesisref02_Text.f k a0 = some r) :
    Calls Try.prog 21 #[.int .i64 a0] w fun e w' => e = .returned (.string r) ∧ Below w.heap.size w w' := by
  have HB := Aside0.mk (Below.refl w.heap.size w)
  have H : (anamnesisref02_Text.l0 k a0 (⟨#[]⟩ : ByteArray) 0) = some r := h
  clear h
  have H' := Aside0.mk H
  clear H
  go_enter Try.func21, Try.ntmps21
  go_wp2
  go_loopg [0, 3, 4] k (fun kq v0 v3 v4 w' => ∃ (x0_1 : Int) (x3_1 : ByteArray) (x4_1 : Int), v0 = .int .i64 x0_1 ∧ v3 = .string x3_1 ∧ v4 = .int .i64 x4_1 ∧ Aside0 (anamnesisref02_Text.l0 kq x0_1 x3_1 x4_1 = some r) ∧ Aside0 (kq ≤ k) ∧ Aside0 (Below w.heap.size w w'))
  case atStart => exact ⟨(a0), ((⟨#[]⟩ : ByteArray)), (0), (by first | rfl | (simp; done) | (simp [*]; done)), (by first | rfl | (simp; done) | (simp [*]; done)), (by first | rfl | (simp; done) | (simp [*]; done)), H', ⟨Nat.le_refl _⟩, ⟨by repeat (first | (with_reducible first | exact HB.out | apply below_alloc | apply pw_below_drewN | apply below_drew1) | exact HB.out)⟩⟩
  case round =>
    clear H'
    obtain ⟨x0_1, x3_1, x4_1, rfl, rfl, rfl, HA, HK1, HB⟩ := hrel
    cases gk with
    | zero => exact absurd HA.out (by simp [anamnesisref02_Text.l0])
    | succ k1 =>
      have H := HA.out
      clear HA
      simp only [anamnesisref02_Text.l0] at H
      by_cases c2 : x4_1 < 16
      · rw [if_pos c2] at H
        have c2b0 : decide (x4_1 < 16) = true := decide_eq_true c2
        clear c2
        by_cases c3 : 0 ≤ (Go.bits .and .i64 x0_1 15)
        · rw [if_pos c3] at H
          have c3b0 : decide (0 ≤ (Go.bits .and .i64 x0_1 15)) = true := decide_eq_true c3
          clear c3
          by_cases c4 : (Go.bits .and .i64 x0_1 15) < 16
          · rw [if_pos c4] at H
            have c4b0 : decide ((Go.bits .and .i64 x0_1 15) < 16) = true := decide_eq_true c4
            clear c4
            obtain ⟨y207, hy207⟩ : ∃ y_ : List Int, y_ = (([bt (⟨#[48, 49, 50, 51, 52, 53, 54, 55, 56, 57, 97, 98, 99, 100, 101, 102]⟩ : ByteArray) (Go.bits .and .i64 x0_1 15)] : List Int)) := ⟨_, rfl⟩
            replace H : (if (strOfNums y207).size + x3_1.size ≤ 9223372036854775807 then (anamnesisref02_Text.l0 k1 (x0_1 / 16) ((strOfNums y207) ++ x3_1) (wrap64 (x4_1 + 1))) else (none)) = some r := by first | (rw [hy207]; with_reducible exact H) | (have H2_ := (Option.bind_some _ _).symm.trans H; rw [hy207]; with_reducible exact H2_) | (have H2_ := (Option.bind_some _ _).symm.trans H; with_reducible exact H2_) | with_reducible exact H | (rw [hy207]; exact H) | exact H
            have Ny207 := Aside0.mk hy207
            clear hy207
            by_cases c6 : (strOfNums y207).size + x3_1.size ≤ 9223372036854775807
            · rw [if_pos c6] at H
              have c6b0 := eq_true c6
              have c6b1 : decide ((strOfNums y207).size + x3_1.size ≤ 9223372036854775807) = true := decide_eq_true c6
              try have c6b2 : (9223372036854775807 < (strOfNums y207).size + x3_1.size) = False := eq_false (Nat.not_lt.2 c6)
              have H' := Aside0.mk H
              clear H
              have p5 : 0 ≤ ((Go.bits .and .i64 x0_1 15) : Int) := of_decide_eq_true (by first | (with_reducible assumption) | assumption)
              have q5 : (Go.bits .and .i64 x0_1 15) < (16 : Int) := of_decide_eq_true (by first | (with_reducible assumption) | assumption)
              have hx5 := bt_at (⟨#[48, 49, 50, 51, 52, 53, 54, 55, 56, 57, 97, 98, 99, 100, 101, 102]⟩ : ByteArray) (Go.bits .and .i64 x0_1 15)
              replace p5 := eq_true p5
              replace q5 := eq_true q5
              go_wp2_with (first | ((with_reducible refine gate_dst (N := 12) rfl ?_); refine Kd.R_lit (Kd.int .u8) _ 5 ?hg (N := 12) ?hd (xs := ([bt (⟨#[48, 49, 50, 51, 52, 53, 54, 55, 56, 57, 97, 98, 99, 100, 101, 102]⟩ : ByteArray) (Go.bits .and .i64 x0_1 15)] : List Int)) (inner := [.int .u8 (bt (⟨#[48, 49, 50, 51, 52, 53, 54, 55, 56, 57, 97, 98, 99, 100, 101, 102]⟩ : ByteArray) (Go.bits .and .i64 x0_1 15))]) (ok := fun _ => True) (okp := fun _ => True) ?hr ?hp (fun _ hk => hk) trivial (Below.refl _ _) (Nat.le_refl _) (by simp) ?_; (case hd => rfl); (case hg => rfl); (case hr => first | (go_simp; done) | (go_simp; rfl)); (case hp => exact (Reps.one (show Kd.M (Kd.int .u8) _ _ _ (bt (⟨#[48, 49, 50, 51, 52, 53, 54, 55, 56, 57, 97, 98, 99, 100, 101, 102]⟩ : ByteArray) (Go.bits .and .i64 x0_1 15)) [.int .u8 (bt (⟨#[48, 49, 50, 51, 52, 53, 54, 55, 56, 57, 97, 98, 99, 100, 101, 102]⟩ : ByteArray) (Go.bits .and .i64 x0_1 15))] from rfl) (Reps.none _ _))); intro v208 w7 ho8 hb hg_ hnew_; clear hg_ hnew_; (first | rw [← Ny207.out] at ho8 | (simp only [Int.reduceToNat] at ho8; rw [← Ny207.out] at ho8)); have n0_ := Aside0.mk (Kd.R_lower ho8 (below_size (by repeat (first | (with_reducible first | exact HB.out | apply below_alloc | apply pw_below_drewN | apply below_drew1) | exact HB.out)))); have n1_ := Aside0.mk (below_step (by repeat (first | (with_reducible first | exact HB.out | apply below_alloc | apply pw_below_drewN | apply below_drew1) | exact HB.out)) hb); clear HB; have HO209 := n0_; have HB := n1_; clear n0_ n1_; clear hb ho8; have hcv9 := own_string (P := Try.prog) Try.underlying42 Try.underlying5 Try.underlying9 (Kd.own_of_R HO209.out)))
              go_roundg k1
              case measure => have := HK1.out; omega
              case rel => exact ⟨(x0_1 / 16), ((strOfNums y207) ++ x3_1), (wrap64 (x4_1 + 1)), (by first | rfl | (simp; done) | (simp [*]; done)), (by first | rfl | (simp; done) | (simp [*]; done)), (by first | rfl | (simp; done) | (simp [*]; done)), H', ⟨by have := HK1.out; omega⟩, ⟨by repeat (first | (with_reducible first | exact HB.out | apply below_alloc | apply pw_below_drewN | apply below_drew1) | exact HB.out)⟩⟩
            · rw [if_neg c6] at H
              exact absurd H (by simp)
          · rw [if_neg c4] at H
            exact absurd H (by simp)
        · rw [if_neg c3] at H
          exact absurd H (by simp)
      · rw [if_neg c2] at H
        have c2b0 : decide (x4_1 < 16) = false := decide_eq_false c2
        clear c2
        obtain rfl := Option.some.inj H
        go_wp2
        go_ret
        exact ⟨by first | rfl | (simp [errW_none, errW_some] <;> rfl) | (simp [*, errW_none, errW_some] <;> rfl) | (simp [wrap64, errW_none, errW_some]; done), by repeat (first | (with_reducible first | exact HB.out | apply below_alloc | apply pw_below_drewN | apply below_drew1) | exact HB.out)⟩

/-! ### anamnesisref02_Of: function 23 -/
def anamnesisref02_Of.j0 : Nat → Int → Bool → Option (Int)
  | 0, _, _ => none
  | k + 1, x0, x8 => if x8 = true then ((anamnesisref02_NaN.f).bind fun t210 => (some t210)) else (if x0 = 0 then (some 0) else (if x0 < 0 then ((anamnesisref02_round.f k (wrap64 (-x0)) 0 false).bind fun t211 => ((anamnesisref02_with.f true t211).bind fun t212 => (some t212))) else ((anamnesisref02_round.f k x0 0 false).bind fun t213 => (some t213))))
def anamnesisref02_Of.f (k : Nat) (a0 : Int) : Option (Int) := if a0 < (-9007199254740992) then (anamnesisref02_Of.j0 k a0 true) else (anamnesisref02_Of.j0 k a0 (decide (a0 > 9007199254740992)))
theorem anamnesisref02_Of.mono_l : ∀ k, (∀ y0 y1, LeO (anamnesisref02_Of.j0 k y0 y1) (anamnesisref02_Of.j0 (k + 1) y0 y1))
  | 0 => fun _ _ r h => by simp [anamnesisref02_Of.j0] at h
  | k + 1 => by
    have ih0 := anamnesisref02_Of.mono_l k
    · intro y0 y1
      unfold anamnesisref02_Of.j0
      repeat' first
      | (with_reducible exact ih0 _ _)
      | (with_reducible exact anamnesisref02_round.mono _ _ _ _)
      | (with_reducible exact LeO.refl _)
      | (with_reducible exact LeO.none _)
      | (with_reducible refine LeO.ite ?_ ?_)
      | (with_reducible refine LeO.bind ?_ (fun _ => ?_))
      | exact ih0 _ _
      | exact anamnesisref02_round.mono _ _ _ _
      | exact LeO.none _
      | refine LeO.ite ?_ ?_
      | refine LeO.bind ?_ (fun _ => ?_)
theorem anamnesisref02_Of.mono : ∀ a0 k, LeO (anamnesisref02_Of.f k a0) (anamnesisref02_Of.f (k + 1) a0) := by
  intro a0 k
  have ih0 := anamnesisref02_Of.mono_l k
  unfold anamnesisref02_Of.f
  repeat' first
      | (with_reducible exact ih0 _ _)
      | (with_reducible exact anamnesisref02_round.mono _ _ _ _)
      | (with_reducible exact LeO.refl _)
      | (with_reducible exact LeO.none _)
      | (with_reducible refine LeO.ite ?_ ?_)
      | (with_reducible refine LeO.bind ?_ (fun _ => ?_))
      | exact ih0 _ _
      | exact anamnesisref02_round.mono _ _ _ _
      | exact LeO.none _
      | refine LeO.ite ?_ ?_
      | refine LeO.bind ?_ (fun _ => ?_)
set_option maxHeartbeats 8000000 in
set_option maxRecDepth 100000 in
theorem anamnesisref02_Of.calls (k : Nat) (a0 : Int) (r : Int) (w : World) (h : anamnesisref02_Of.f k a0 = some r) :
    Calls Try.prog 23 #[.int .i64 a0] w fun e w' => e = .returned (.int .i64 r) ∧ Below w.heap.size w w' := by
  have HB := Aside0.mk (Below.refl w.heap.size w)
  have H : (if a0 < (-9007199254740992) then (anamnesisref02_Of.j0 k a0 true) else (anamnesisref02_Of.j0 k a0 (decide (a0 > 9007199254740992)))) = some r := h
  clear h
  have HC2 := Aside0.mk H
  clear H
  go_enter Try.func23, Try.ntmps23
  go_upto_region 1 with (fail)
  go_cut [8] (fun v8 wc => ∃ (kq : Nat) (x8_1 : Bool), v8 = .bool x8_1 ∧ Aside0 (anamnesisref02_Of.j0 kq a0 x8_1 = some r) ∧ Aside0 (kq ≤ k) ∧ Aside0 (Below w.heap.size w wc))
  case first =>
    have H := HC2.out
    clear HC2
    by_cases c3 : a0 < (-9007199254740992)
    · rw [if_pos c3] at H
      have c3b0 : decide (a0 < (-9007199254740992)) = true := decide_eq_true c3
      clear c3
      (first | rw [c3b0] | (simp only [i64_w, i32_w]; rw [c3b0]) | skip)
      have H' := Aside0.mk H
      clear H
      go_wp2
      go_meet
      case rel => exact ⟨_, (true), (by first | rfl | (simp; done) | (simp [*]; done)), H', ⟨by first | omega | exact Nat.le_refl _⟩, ⟨by repeat (first | (with_reducible first | exact HB.out | apply below_alloc | apply pw_below_drewN | apply below_drew1) | exact HB.out)⟩⟩
    · rw [if_neg c3] at H
      have c3b0 : decide (a0 < (-9007199254740992)) = false := decide_eq_false c3
      clear c3
      (first | rw [c3b0] | (simp only [i64_w, i32_w]; rw [c3b0]) | skip)
      have H' := Aside0.mk H
      clear H
      go_wp2
      go_meet
      case rel => exact ⟨_, (decide (a0 > 9007199254740992)), (by first | rfl | (simp; done) | (simp [*]; done)), H', ⟨by first | omega | exact Nat.le_refl _⟩, ⟨by repeat (first | (with_reducible first | exact HB.out | apply below_alloc | apply pw_below_drewN | apply below_drew1) | exact HB.out)⟩⟩
  case rest =>
    clear HC2
    try clear c2
    try clear p2
    try clear c3
    try clear c3b0
    obtain ⟨kq, x8_1, rfl, HA, HJ1, HB⟩ := hcut
    cases kq with
    | zero => exact absurd HA.out (by simp [anamnesisref02_Of.j0])
    | succ kj1 =>
      have H := HA.out
      clear HA
      simp only [anamnesisref02_Of.j0] at H
      by_cases c4 : x8_1 = true
      · subst c4
        have H1 : ((anamnesisref02_NaN.f).bind fun t210 => (some t210)) = some r := by rw [if_pos rfl] at H; exact H
        clear H
        have H := H1
        clear H1
        replace H := Option.bind_eq_some_iff.mp H
        obtain ⟨t210, A50, H⟩ := H
        replace H : (some t210) = some r := H
        have A5 := Aside0.mk A50
        clear A50
        obtain rfl := Option.some.inj H
        go_wp2_with (first | ((with_reducible refine gate_callee (f := 28) rfl ?_); refine goesL_ (some 9) rfl rfl Try.func28 (by kernel_rfl) rfl #[] rfl (by (try simp only [List.map_toArray, List.map_cons, List.map_nil]); first | done | rfl | (simp only [List.length_drop, List.length_take]; rfl)) ?_; (with_reducible refine (anamnesisref02_NaN.calls  t210 _ A5.out).mono ?_); rintro e w' ⟨rfl, ⟨nd, rfl⟩⟩; refine ⟨_, rfl, ?_⟩))
        go_ret
        exact ⟨by first | rfl | (simp [errW_none, errW_some] <;> rfl) | (simp [*, errW_none, errW_some] <;> rfl) | (simp [wrap64, errW_none, errW_some]; done), by repeat (first | (with_reducible first | exact HB.out | apply below_alloc | apply pw_below_drewN | apply below_drew1) | exact HB.out)⟩
      · replace c4 := Bool.eq_false_iff.mpr c4
        subst c4
        have H1 : (if a0 = 0 then (some 0) else (if a0 < 0 then ((anamnesisref02_round.f kj1 (wrap64 (-a0)) 0 false).bind fun t211 => ((anamnesisref02_with.f true t211).bind fun t212 => (some t212))) else ((anamnesisref02_round.f kj1 a0 0 false).bind fun t213 => (some t213)))) = some r := by rw [if_neg (show ¬ (false = true) by decide)] at H; exact H
        clear H
        have H := H1
        clear H1
        by_cases c6 : a0 = 0
        · rw [if_pos c6] at H
          have c6b0 : (a0 == 0) = true := beq_iff_eq.mpr c6
          have c6b1 : (a0 != 0) = false := bne_eq_false_iff_eq.mpr c6
          clear c6
          obtain rfl := Option.some.inj H
          go_wp2
          go_ret
          exact ⟨by first | rfl | (simp [errW_none, errW_some] <;> rfl) | (simp [*, errW_none, errW_some] <;> rfl) | (simp [wrap64, errW_none, errW_some]; done), by repeat (first | (with_reducible first | exact HB.out | apply below_alloc | apply pw_below_drewN | apply below_drew1) | exact HB.out)⟩
        · rw [if_neg c6] at H
          have c6b0 : (a0 == 0) = false := beq_eq_false_iff_ne.mpr c6
          have c6b1 : (a0 != 0) = true := bne_iff_ne.mpr c6
          by_cases c7 : a0 < 0
          · rw [if_pos c7] at H
            have c7b0 : decide (a0 < 0) = true := decide_eq_true c7
            clear c7
            replace H := Option.bind_eq_some_iff.mp H
            obtain ⟨t211, A80, H⟩ := H
            replace H : ((anamnesisref02_with.f true t211).bind fun t212 => (some t212)) = some r := H
            have A8 := Aside0.mk A80
            clear A80
            replace H := Option.bind_eq_some_iff.mp H
            obtain ⟨t212, A90, H⟩ := H
            replace H : (some t212) = some r := H
            have A9 := Aside0.mk A90
            clear A90
            obtain rfl := Option.some.inj H
            go_wp2_with (first | ((with_reducible refine gate_callee (f := 41) rfl ?_); refine goesL_ (some 16) rfl rfl Try.func41 (by kernel_rfl) rfl #[.int .i64 (wrap64 (-a0)), .int .i64 0, .bool false] rfl (by (try simp only [List.map_toArray, List.map_cons, List.map_nil]); first | done | rfl | (simp only [List.length_drop, List.length_take]; rfl)) ?_; (with_reducible refine (anamnesisref02_round.calls kj1 (wrap64 (-a0)) 0 false t211 _ A8.out).mono ?_); rintro e w10 ⟨rfl, hb⟩; refine ⟨_, rfl, ?_⟩; have n0_ := Aside0.mk (below_step (by repeat (first | (with_reducible first | exact HB.out | apply below_alloc | apply pw_below_drewN | apply below_drew1) | exact HB.out)) hb); clear HB; have HB := n0_; clear n0_; (try clear hb); (try clear hb2); (try clear hk); (try clear hi)) | ((with_reducible refine gate_callee (f := 32) rfl ?_); refine goesL_ (some 17) rfl rfl Try.func32 (by kernel_rfl) rfl #[.bool true, .int .i64 t211] rfl (by (try simp only [List.map_toArray, List.map_cons, List.map_nil]); first | done | rfl | (simp only [List.length_drop, List.length_take]; rfl)) ?_; (with_reducible refine (anamnesisref02_with.calls true t211 t212 _ A9.out).mono ?_); rintro e w' ⟨rfl, ⟨nd, rfl⟩⟩; refine ⟨_, rfl, ?_⟩))
            go_ret
            exact ⟨by first | rfl | (simp [errW_none, errW_some] <;> rfl) | (simp [*, errW_none, errW_some] <;> rfl) | (simp [wrap64, errW_none, errW_some]; done), by repeat (first | (with_reducible first | exact HB.out | apply below_alloc | apply pw_below_drewN | apply below_drew1) | exact HB.out)⟩
          · rw [if_neg c7] at H
            have c7b0 : decide (a0 < 0) = false := decide_eq_false c7
            clear c7
            replace H := Option.bind_eq_some_iff.mp H
            obtain ⟨t213, A110, H⟩ := H
            replace H : (some t213) = some r := H
            have A11 := Aside0.mk A110
            clear A110
            obtain rfl := Option.some.inj H
            go_wp2_with (first | ((with_reducible refine gate_callee (f := 41) rfl ?_); refine goesL_ (some 19) rfl rfl Try.func41 (by kernel_rfl) rfl #[.int .i64 a0, .int .i64 0, .bool false] rfl (by (try simp only [List.map_toArray, List.map_cons, List.map_nil]); first | done | rfl | (simp only [List.length_drop, List.length_take]; rfl)) ?_; (with_reducible refine (anamnesisref02_round.calls kj1 a0 0 false t213 _ A11.out).mono ?_); rintro e w12 ⟨rfl, hb⟩; refine ⟨_, rfl, ?_⟩; have n0_ := Aside0.mk (below_step (by repeat (first | (with_reducible first | exact HB.out | apply below_alloc | apply pw_below_drewN | apply below_drew1) | exact HB.out)) hb); clear HB; have HB := n0_; clear n0_; (try clear hb); (try clear hb2); (try clear hk); (try clear hi)))
            go_ret
            exact ⟨by first | rfl | (simp [errW_none, errW_some] <;> rfl) | (simp [*, errW_none, errW_some] <;> rfl) | (simp [wrap64, errW_none, errW_some]; done), by repeat (first | (with_reducible first | exact HB.out | apply below_alloc | apply pw_below_drewN | apply below_drew1) | exact HB.out)⟩

/-! ### anamnesislaw02_FltKinds: function 4 -/
def anamnesislaw02_FltKinds.f (k : Nat) (a0 : Int) : Option (Bool) := (flt_Trunc.f a0).bind fun bt214 => ((anamnesisref02_Trunc.f k a0).bind fun bt216 => ((anamnesislaw02_fixed.f).bind fun t218 => ((flt_Kind.f a0).bind fun t219 => ((anamnesisref02_Kind.f a0).bind fun t220 => (if t219 = t220 then ((flt_Canon.f a0).bind fun t221 => ((anamnesisref02_Canon.f a0).bind fun t222 => (if t221 = t222 then ((flt_Text.f k a0).bind fun t223 => ((anamnesisref02_Text.f k a0).bind fun t224 => (if t223.toList = t224.toList then (if bt214.1 = bt216.1 then (if (bt214.2 == bt216.2) = true then ((flt_Of.f a0).bind fun t225 => ((anamnesisref02_Of.f k a0).bind fun t226 => (some (t225 == t226)))) else (some false)) else (some false)) else (some false)))) else (some false)))) else (some false))))))
theorem anamnesislaw02_FltKinds.mono : ∀ a0 k, LeO (anamnesislaw02_FltKinds.f k a0) (anamnesislaw02_FltKinds.f (k + 1) a0) := by
  intro a0 k
  unfold anamnesislaw02_FltKinds.f
  repeat' first
      | (with_reducible exact anamnesisref02_Of.mono _ _)
      | (with_reducible exact anamnesisref02_Text.mono _ _)
      | (with_reducible exact anamnesisref02_Trunc.mono _ _)
      | (with_reducible exact flt_Text.mono _ _)
      | (with_reducible exact LeO.refl _)
      | (with_reducible exact LeO.none _)
      | (with_reducible refine LeO.ite ?_ ?_)
      | (with_reducible refine LeO.bind ?_ (fun _ => ?_))
      | exact anamnesisref02_Of.mono _ _
      | exact anamnesisref02_Text.mono _ _
      | exact anamnesisref02_Trunc.mono _ _
      | exact flt_Text.mono _ _
      | exact LeO.none _
      | refine LeO.ite ?_ ?_
      | refine LeO.bind ?_ (fun _ => ?_)
set_option maxHeartbeats 8000000 in
set_option maxRecDepth 100000 in
theorem anamnesislaw02_FltKinds.calls (k : Nat) (a0 : Int) (r : Bool) (w : World) (h : anamnesislaw02_FltKinds.f k a0 = some r) (hr : r = true) :
    Calls Try.prog 4 #[.int .i64 a0] w fun e w' => e = .returned (.bool r) ∧ Below w.heap.size w w' := by
  have hr_ := Aside0.mk hr
  clear hr
  have HB := Aside0.mk (Below.refl w.heap.size w)
  have H : ((flt_Trunc.f a0).bind fun bt214 => ((anamnesisref02_Trunc.f k a0).bind fun bt216 => ((anamnesislaw02_fixed.f).bind fun t218 => ((flt_Kind.f a0).bind fun t219 => ((anamnesisref02_Kind.f a0).bind fun t220 => (if t219 = t220 then ((flt_Canon.f a0).bind fun t221 => ((anamnesisref02_Canon.f a0).bind fun t222 => (if t221 = t222 then ((flt_Text.f k a0).bind fun t223 => ((anamnesisref02_Text.f k a0).bind fun t224 => (if t223.toList = t224.toList then (if bt214.1 = bt216.1 then (if (bt214.2 == bt216.2) = true then ((flt_Of.f a0).bind fun t225 => ((anamnesisref02_Of.f k a0).bind fun t226 => (some (t225 == t226)))) else (some false)) else (some false)) else (some false)))) else (some false)))) else (some false))))))) = some r := h
  clear h
  replace H := Option.bind_eq_some_iff.mp H
  obtain ⟨⟨t214, t215⟩, A20, H⟩ := H
  replace H : ((anamnesisref02_Trunc.f k a0).bind fun bt216 => ((anamnesislaw02_fixed.f).bind fun t218 => ((flt_Kind.f a0).bind fun t219 => ((anamnesisref02_Kind.f a0).bind fun t220 => (if t219 = t220 then ((flt_Canon.f a0).bind fun t221 => ((anamnesisref02_Canon.f a0).bind fun t222 => (if t221 = t222 then ((flt_Text.f k a0).bind fun t223 => ((anamnesisref02_Text.f k a0).bind fun t224 => (if t223.toList = t224.toList then (if t214 = bt216.1 then (if (t215 == bt216.2) = true then ((flt_Of.f a0).bind fun t225 => ((anamnesisref02_Of.f k a0).bind fun t226 => (some (t225 == t226)))) else (some false)) else (some false)) else (some false)))) else (some false)))) else (some false)))))) = some r := H
  have A2 := Aside0.mk A20
  clear A20
  replace H := Option.bind_eq_some_iff.mp H
  obtain ⟨⟨t216, t217⟩, A30, H⟩ := H
  replace H : ((anamnesislaw02_fixed.f).bind fun t218 => ((flt_Kind.f a0).bind fun t219 => ((anamnesisref02_Kind.f a0).bind fun t220 => (if t219 = t220 then ((flt_Canon.f a0).bind fun t221 => ((anamnesisref02_Canon.f a0).bind fun t222 => (if t221 = t222 then ((flt_Text.f k a0).bind fun t223 => ((anamnesisref02_Text.f k a0).bind fun t224 => (if t223.toList = t224.toList then (if t214 = t216 then (if (t215 == t217) = true then ((flt_Of.f a0).bind fun t225 => ((anamnesisref02_Of.f k a0).bind fun t226 => (some (t225 == t226)))) else (some false)) else (some false)) else (some false)))) else (some false)))) else (some false))))) = some r := H
  have A3 := Aside0.mk A30
  clear A30
  replace H := Option.bind_eq_some_iff.mp H
  obtain ⟨t218, A40, H⟩ := H
  replace H : ((flt_Kind.f a0).bind fun t219 => ((anamnesisref02_Kind.f a0).bind fun t220 => (if t219 = t220 then ((flt_Canon.f a0).bind fun t221 => ((anamnesisref02_Canon.f a0).bind fun t222 => (if t221 = t222 then ((flt_Text.f k a0).bind fun t223 => ((anamnesisref02_Text.f k a0).bind fun t224 => (if t223.toList = t224.toList then (if t214 = t216 then (if (t215 == t217) = true then ((flt_Of.f a0).bind fun t225 => ((anamnesisref02_Of.f k a0).bind fun t226 => (some (t225 == t226)))) else (some false)) else (some false)) else (some false)))) else (some false)))) else (some false)))) = some r := H
  have A4 := Aside0.mk A40
  clear A40
  replace H := Option.bind_eq_some_iff.mp H
  obtain ⟨t219, A50, H⟩ := H
  replace H : ((anamnesisref02_Kind.f a0).bind fun t220 => (if t219 = t220 then ((flt_Canon.f a0).bind fun t221 => ((anamnesisref02_Canon.f a0).bind fun t222 => (if t221 = t222 then ((flt_Text.f k a0).bind fun t223 => ((anamnesisref02_Text.f k a0).bind fun t224 => (if t223.toList = t224.toList then (if t214 = t216 then (if (t215 == t217) = true then ((flt_Of.f a0).bind fun t225 => ((anamnesisref02_Of.f k a0).bind fun t226 => (some (t225 == t226)))) else (some false)) else (some false)) else (some false)))) else (some false)))) else (some false))) = some r := H
  have A5 := Aside0.mk A50
  clear A50
  replace H := Option.bind_eq_some_iff.mp H
  obtain ⟨t220, A60, H⟩ := H
  replace H : (if t219 = t220 then ((flt_Canon.f a0).bind fun t221 => ((anamnesisref02_Canon.f a0).bind fun t222 => (if t221 = t222 then ((flt_Text.f k a0).bind fun t223 => ((anamnesisref02_Text.f k a0).bind fun t224 => (if t223.toList = t224.toList then (if t214 = t216 then (if (t215 == t217) = true then ((flt_Of.f a0).bind fun t225 => ((anamnesisref02_Of.f k a0).bind fun t226 => (some (t225 == t226)))) else (some false)) else (some false)) else (some false)))) else (some false)))) else (some false)) = some r := H
  have A6 := Aside0.mk A60
  clear A60
  by_cases c7 : t219 = t220
  · rw [if_pos c7] at H
    have c7b0 : (t219 == t220) = true := beq_iff_eq.mpr c7
    have c7b1 : (t219 != t220) = false := bne_eq_false_iff_eq.mpr c7
    clear c7
    replace H := Option.bind_eq_some_iff.mp H
    obtain ⟨t221, A80, H⟩ := H
    replace H : ((anamnesisref02_Canon.f a0).bind fun t222 => (if t221 = t222 then ((flt_Text.f k a0).bind fun t223 => ((anamnesisref02_Text.f k a0).bind fun t224 => (if t223.toList = t224.toList then (if t214 = t216 then (if (t215 == t217) = true then ((flt_Of.f a0).bind fun t225 => ((anamnesisref02_Of.f k a0).bind fun t226 => (some (t225 == t226)))) else (some false)) else (some false)) else (some false)))) else (some false))) = some r := H
    have A8 := Aside0.mk A80
    clear A80
    replace H := Option.bind_eq_some_iff.mp H
    obtain ⟨t222, A90, H⟩ := H
    replace H : (if t221 = t222 then ((flt_Text.f k a0).bind fun t223 => ((anamnesisref02_Text.f k a0).bind fun t224 => (if t223.toList = t224.toList then (if t214 = t216 then (if (t215 == t217) = true then ((flt_Of.f a0).bind fun t225 => ((anamnesisref02_Of.f k a0).bind fun t226 => (some (t225 == t226)))) else (some false)) else (some false)) else (some false)))) else (some false)) = some r := H
    have A9 := Aside0.mk A90
    clear A90
    by_cases c10 : t221 = t222
    · rw [if_pos c10] at H
      have c10b0 : (t221 == t222) = true := beq_iff_eq.mpr c10
      have c10b1 : (t221 != t222) = false := bne_eq_false_iff_eq.mpr c10
      clear c10
      replace H := Option.bind_eq_some_iff.mp H
      obtain ⟨t223, A110, H⟩ := H
      replace H : ((anamnesisref02_Text.f k a0).bind fun t224 => (if t223.toList = t224.toList then (if t214 = t216 then (if (t215 == t217) = true then ((flt_Of.f a0).bind fun t225 => ((anamnesisref02_Of.f k a0).bind fun t226 => (some (t225 == t226)))) else (some false)) else (some false)) else (some false))) = some r := H
      have A11 := Aside0.mk A110
      clear A110
      replace H := Option.bind_eq_some_iff.mp H
      obtain ⟨t224, A120, H⟩ := H
      replace H : (if t223.toList = t224.toList then (if t214 = t216 then (if (t215 == t217) = true then ((flt_Of.f a0).bind fun t225 => ((anamnesisref02_Of.f k a0).bind fun t226 => (some (t225 == t226)))) else (some false)) else (some false)) else (some false)) = some r := H
      have A12 := Aside0.mk A120
      clear A120
      by_cases c13 : t223.toList = t224.toList
      · rw [if_pos c13] at H
        have c13b0 : (t223.toList == t224.toList) = true := beq_iff_eq.mpr c13
        have c13b1 : (t223.toList != t224.toList) = false := bne_eq_false_iff_eq.mpr c13
        clear c13
        by_cases c14 : t214 = t216
        · rw [if_pos c14] at H
          have c14b0 : (t214 == t216) = true := beq_iff_eq.mpr c14
          have c14b1 : (t214 != t216) = false := bne_eq_false_iff_eq.mpr c14
          clear c14
          by_cases c15 : (t215 == t217) = true
          · rw [if_pos c15] at H
            have c15b0 : (t215 == t217) = true := c15
            (try (have c15b1 : decide (t215 = t217) = true := by simpa using c15))
            (try (have c15b2 : (t215 == t217) = true := by simpa using c15))
            clear c15
            replace H := Option.bind_eq_some_iff.mp H
            obtain ⟨t225, A160, H⟩ := H
            replace H : ((anamnesisref02_Of.f k a0).bind fun t226 => (some (t225 == t226))) = some r := H
            have A16 := Aside0.mk A160
            clear A160
            replace H := Option.bind_eq_some_iff.mp H
            obtain ⟨t226, A170, H⟩ := H
            replace H : (some (t225 == t226)) = some r := H
            have A17 := Aside0.mk A170
            clear A170
            obtain rfl := Option.some.inj H
            go_enter Try.func4, Try.ntmps4
            go_wp2_with (first | ((with_reducible refine gate_callee (f := 14) rfl ?_); refine goesL_ (some 9) rfl rfl Try.func14 (by kernel_rfl) rfl #[.int .i64 a0] rfl (by (try simp only [List.map_toArray, List.map_cons, List.map_nil]); first | done | rfl | (simp only [List.length_drop, List.length_take]; rfl)) ?_; (with_reducible refine (flt_Trunc.calls a0 t214 t215 _ A2.out).mono ?_); rintro e w' ⟨rfl, ⟨nd, rfl⟩⟩; refine ⟨_, rfl, ?_⟩) | ((with_reducible refine gate_callee (f := 15) rfl ?_); refine goesL_ (some 14) rfl rfl Try.func15 (by kernel_rfl) rfl #[.int .i64 a0] rfl (by (try simp only [List.map_toArray, List.map_cons, List.map_nil]); first | done | rfl | (simp only [List.length_drop, List.length_take]; rfl)) ?_; (with_reducible refine (anamnesisref02_Trunc.calls k a0 t216 t217 _ A3.out).mono ?_); rintro e w' ⟨rfl, ⟨nd, rfl⟩⟩; refine ⟨_, rfl, ?_⟩) | ((with_reducible refine gate_callee (f := 11) rfl ?_); refine goesL_ (some 17) rfl rfl Try.func11 (by kernel_rfl) rfl #[] rfl (by (try simp only [List.map_toArray, List.map_cons, List.map_nil]); first | done | rfl | (simp only [List.length_drop, List.length_take]; rfl)) ?_; (with_reducible refine (anamnesislaw02_fixed.calls  t218 _ A4.out).mono ?_); rintro e w18 ⟨rfl, hb⟩; refine ⟨_, rfl, ?_⟩; have n0_ := Aside0.mk (below_step (by repeat (first | (with_reducible first | exact HB.out | apply below_alloc | apply pw_below_drewN | apply below_drew1) | exact HB.out)) hb); clear HB; have HB := n0_; clear n0_; (try clear hb); (try clear hb2); (try clear hk); (try clear hi)) | (go_at_call 16; (with_reducible refine (flt_Kind.calls a0 t219 _ A5.out).mono ?_); rintro e w' ⟨rfl, ⟨nd, rfl⟩⟩) | (go_at_call 17; (with_reducible refine (anamnesisref02_Kind.calls a0 t220 _ A6.out).mono ?_); rintro e w' ⟨rfl, ⟨nd, rfl⟩⟩) | (go_at_call 18; (with_reducible refine (flt_Canon.calls a0 t221 _ A8.out).mono ?_); rintro e w' ⟨rfl, ⟨nd, rfl⟩⟩) | (go_at_call 19; (with_reducible refine (anamnesisref02_Canon.calls a0 t222 _ A9.out).mono ?_); rintro e w' ⟨rfl, ⟨nd, rfl⟩⟩) | (go_at_call 20; (with_reducible refine (flt_Text.calls k a0 t223 _ A11.out).mono ?_); rintro e w19 ⟨rfl, hb⟩; have n0_ := Aside0.mk (below_step (by repeat (first | (with_reducible first | exact HB.out | apply below_alloc | apply pw_below_drewN | apply below_drew1) | exact HB.out)) hb); clear HB; have HB := n0_; clear n0_; (try clear hb); (try clear hb2); (try clear hk); (try clear hi)) | (go_at_call 21; (with_reducible refine (anamnesisref02_Text.calls k a0 t224 _ A12.out).mono ?_); rintro e w20 ⟨rfl, hb⟩; have n0_ := Aside0.mk (below_step (by repeat (first | (with_reducible first | exact HB.out | apply below_alloc | apply pw_below_drewN | apply below_drew1) | exact HB.out)) hb); clear HB; have HB := n0_; clear n0_; (try clear hb); (try clear hb2); (try clear hk); (try clear hi)) | (go_at_call 22; (with_reducible refine (flt_Of.calls a0 t225 _ A16.out).mono ?_); rintro e w' ⟨rfl, ⟨nd, rfl⟩⟩) | (go_at_call 23; (with_reducible refine (anamnesisref02_Of.calls k a0 t226 _ A17.out).mono ?_); rintro e w21 ⟨rfl, hb⟩; have n0_ := Aside0.mk (below_step (by repeat (first | (with_reducible first | exact HB.out | apply below_alloc | apply pw_below_drewN | apply below_drew1) | exact HB.out)) hb); clear HB; have HB := n0_; clear n0_; (try clear hb); (try clear hb2); (try clear hk); (try clear hi)))
            go_ret
            exact ⟨by first | rfl | (simp [errW_none, errW_some] <;> rfl) | (simp [*, errW_none, errW_some] <;> rfl) | (simp [wrap64, errW_none, errW_some]; done), by repeat (first | (with_reducible first | exact HB.out | apply below_alloc | apply pw_below_drewN | apply below_drew1) | exact HB.out)⟩
          · rw [if_neg c15] at H
            have c15b0 : (t215 == t217) = false := by simpa using c15
            (try (have c15b1 : decide (t215 = t217) = false := by simpa using c15))
            (try (have c15b2 : (t215 == t217) = false := by simpa using c15))
            (try (have c15b3 : ¬ (t215 = t217) := by simpa using c15))
            clear c15
            obtain rfl := Option.some.inj H
            exact absurd hr_.out (by decide)
        · rw [if_neg c14] at H
          have c14b0 : (t214 == t216) = false := beq_eq_false_iff_ne.mpr c14
          have c14b1 : (t214 != t216) = true := bne_iff_ne.mpr c14
          obtain rfl := Option.some.inj H
          exact absurd hr_.out (by decide)
      · rw [if_neg c13] at H
        have c13b0 : (t223.toList == t224.toList) = false := beq_eq_false_iff_ne.mpr c13
        have c13b1 : (t223.toList != t224.toList) = true := bne_iff_ne.mpr c13
        obtain rfl := Option.some.inj H
        exact absurd hr_.out (by decide)
    · rw [if_neg c10] at H
      have c10b0 : (t221 == t222) = false := beq_eq_false_iff_ne.mpr c10
      have c10b1 : (t221 != t222) = true := bne_iff_ne.mpr c10
      obtain rfl := Option.some.inj H
      exact absurd hr_.out (by decide)
  · rw [if_neg c7] at H
    have c7b0 : (t219 == t220) = false := beq_eq_false_iff_ne.mpr c7
    have c7b1 : (t219 != t220) = true := bne_iff_ne.mpr c7
    obtain rfl := Option.some.inj H
    exact absurd hr_.out (by decide)

/-- THE ONE PURE STATEMENT of anamnesislaw02_FltKinds: yours. -/
def anamnesislaw02_FltKinds.Pure : Prop := ∀ (a0 : Int), (Lit.int .i64 a0).wf = true → ∃ k, anamnesislaw02_FltKinds.f k a0 = some true
theorem anamnesislaw02_FltKinds.walk (P : anamnesislaw02_FltKinds.Pure) (a0 : Int) (w : World) (w0 : (Lit.int .i64 a0).wf = true) :
    Calls Try.prog 4 #[.int .i64 a0] w fun e w' => e = .returned (.bool true) ∧ Below w.heap.size w w' := by
  obtain ⟨k, h⟩ := P a0 w0
  refine (anamnesislaw02_FltKinds.calls k a0 true w h rfl).mono ?_
  rintro e w' ⟨rfl, hd⟩
  exact ⟨rfl, hd⟩

/-! ### anamnesisref02_order: function 42 -/
def anamnesisref02_order.f (a0 : Int) : Option (Int) := (anamnesisref02_sign.f a0).bind fun t227 => (if t227 = true then ((anamnesisref02_plain.f a0).bind fun t228 => (some (wrap64 (-t228)))) else (some a0))
set_option maxHeartbeats 8000000 in
set_option maxRecDepth 100000 in
theorem anamnesisref02_order.calls (a0 : Int) (r : Int) (w : World) (h : anamnesisref02_order.f a0 = some r) :
    Calls Try.prog 42 #[.int .i64 a0] w fun e w' => e = .returned (.int .i64 r) ∧ Drawn0 w w' := by
  have H : ((anamnesisref02_sign.f a0).bind fun t227 => (if t227 = true then ((anamnesisref02_plain.f a0).bind fun t228 => (some (wrap64 (-t228)))) else (some a0))) = some r := h
  clear h
  replace H := Option.bind_eq_some_iff.mp H
  obtain ⟨t227, A20, H⟩ := H
  replace H : (if t227 = true then ((anamnesisref02_plain.f a0).bind fun t228 => (some (wrap64 (-t228)))) else (some a0)) = some r := H
  have A2 := Aside0.mk A20
  clear A20
  by_cases c3 : t227 = true
  · subst c3
    have H1 : ((anamnesisref02_plain.f a0).bind fun t228 => (some (wrap64 (-t228)))) = some r := by rw [if_pos rfl] at H; exact H
    clear H
    have H := H1
    clear H1
    replace H := Option.bind_eq_some_iff.mp H
    obtain ⟨t228, A40, H⟩ := H
    replace H : (some (wrap64 (-t228))) = some r := H
    have A4 := Aside0.mk A40
    clear A40
    obtain rfl := Option.some.inj H
    go_enter Try.func42, Try.ntmps42
    go_wp2_with (first | ((with_reducible refine gate_callee (f := 33) rfl ?_); refine goesL_ (some 4) rfl rfl Try.func33 (by kernel_rfl) rfl #[.int .i64 a0] rfl (by (try simp only [List.map_toArray, List.map_cons, List.map_nil]); first | done | rfl | (simp only [List.length_drop, List.length_take]; rfl)) ?_; (with_reducible refine (anamnesisref02_sign.calls a0 true _ A2.out).mono ?_); rintro e w' ⟨rfl, ⟨nd, rfl⟩⟩; refine ⟨_, rfl, ?_⟩) | ((with_reducible refine gate_callee (f := 34) rfl ?_); refine goesL_ (some 6) rfl rfl Try.func34 (by kernel_rfl) rfl #[.int .i64 a0] rfl (by (try simp only [List.map_toArray, List.map_cons, List.map_nil]); first | done | rfl | (simp only [List.length_drop, List.length_take]; rfl)) ?_; (with_reducible refine (anamnesisref02_plain.calls a0 t228 _ A4.out).mono ?_); rintro e w' ⟨rfl, ⟨nd, rfl⟩⟩; refine ⟨_, rfl, ?_⟩))
    go_ret
    exact ⟨by first | rfl | (simp; done) | (simp [*]; done), by repeat (first | exact Drawn0.refl _ | apply Drawn0.step)⟩
  · replace c3 := Bool.eq_false_iff.mpr c3
    subst c3
    have H1 : (some a0) = some r := by rw [if_neg (show ¬ (false = true) by decide)] at H; exact H
    clear H
    have H := H1
    clear H1
    obtain rfl := Option.some.inj H
    go_enter Try.func42, Try.ntmps42
    go_wp2_with (first | ((with_reducible refine gate_callee (f := 33) rfl ?_); refine goesL_ (some 4) rfl rfl Try.func33 (by kernel_rfl) rfl #[.int .i64 a0] rfl (by (try simp only [List.map_toArray, List.map_cons, List.map_nil]); first | done | rfl | (simp only [List.length_drop, List.length_take]; rfl)) ?_; (with_reducible refine (anamnesisref02_sign.calls a0 false _ A2.out).mono ?_); rintro e w' ⟨rfl, ⟨nd, rfl⟩⟩; refine ⟨_, rfl, ?_⟩))
    go_ret
    exact ⟨by first | rfl | (simp; done) | (simp [*]; done), by repeat (first | exact Drawn0.refl _ | apply Drawn0.step)⟩

/-! ### anamnesisref02_Less: function 25 -/
def anamnesisref02_Less.f (a0 : Int) (a1 : Int) : Option (Bool) := (anamnesisref02_Kind.f a0).bind fun t229 => (if t229 > 0 then ((anamnesisref02_Kind.f a1).bind fun t230 => (if t230 > 0 then ((anamnesisref02_order.f a0).bind fun t231 => ((anamnesisref02_order.f a1).bind fun t232 => (some (decide (t231 < t232))))) else (some false))) else (some false))
set_option maxHeartbeats 8000000 in
set_option maxRecDepth 100000 in
theorem anamnesisref02_Less.calls (a0 : Int) (a1 : Int) (r : Bool) (w : World) (h : anamnesisref02_Less.f a0 a1 = some r) :
    Calls Try.prog 25 #[.int .i64 a0, .int .i64 a1] w fun e w' => e = .returned (.bool r) ∧ Drawn0 w w' := by
  have H : ((anamnesisref02_Kind.f a0).bind fun t229 => (if t229 > 0 then ((anamnesisref02_Kind.f a1).bind fun t230 => (if t230 > 0 then ((anamnesisref02_order.f a0).bind fun t231 => ((anamnesisref02_order.f a1).bind fun t232 => (some (decide (t231 < t232))))) else (some false))) else (some false))) = some r := h
  clear h
  replace H := Option.bind_eq_some_iff.mp H
  obtain ⟨t229, A30, H⟩ := H
  replace H : (if t229 > 0 then ((anamnesisref02_Kind.f a1).bind fun t230 => (if t230 > 0 then ((anamnesisref02_order.f a0).bind fun t231 => ((anamnesisref02_order.f a1).bind fun t232 => (some (decide (t231 < t232))))) else (some false))) else (some false)) = some r := H
  have A3 := Aside0.mk A30
  clear A30
  by_cases c4 : t229 > 0
  · rw [if_pos c4] at H
    have c4b0 : decide (0 < t229) = true := decide_eq_true c4
    clear c4
    replace H := Option.bind_eq_some_iff.mp H
    obtain ⟨t230, A50, H⟩ := H
    replace H : (if t230 > 0 then ((anamnesisref02_order.f a0).bind fun t231 => ((anamnesisref02_order.f a1).bind fun t232 => (some (decide (t231 < t232))))) else (some false)) = some r := H
    have A5 := Aside0.mk A50
    clear A50
    by_cases c6 : t230 > 0
    · rw [if_pos c6] at H
      have c6b0 : decide (0 < t230) = true := decide_eq_true c6
      clear c6
      replace H := Option.bind_eq_some_iff.mp H
      obtain ⟨t231, A70, H⟩ := H
      replace H : ((anamnesisref02_order.f a1).bind fun t232 => (some (decide (t231 < t232)))) = some r := H
      have A7 := Aside0.mk A70
      clear A70
      replace H := Option.bind_eq_some_iff.mp H
      obtain ⟨t232, A80, H⟩ := H
      replace H : (some (decide (t231 < t232))) = some r := H
      have A8 := Aside0.mk A80
      clear A80
      obtain rfl := Option.some.inj H
      go_enter Try.func25, Try.ntmps25
      go_wp2_with (first | ((with_reducible refine gate_callee (f := 17) rfl ?_); refine goesL_ (some 6) rfl rfl Try.func17 (by kernel_rfl) rfl #[.int .i64 a0] rfl (by (try simp only [List.map_toArray, List.map_cons, List.map_nil]); first | done | rfl | (simp only [List.length_drop, List.length_take]; rfl)) ?_; (with_reducible refine (anamnesisref02_Kind.calls a0 t229 _ A3.out).mono ?_); rintro e w' ⟨rfl, ⟨nd, rfl⟩⟩; refine ⟨_, rfl, ?_⟩) | (go_at_call 17; (with_reducible refine (anamnesisref02_Kind.calls a1 t230 _ A5.out).mono ?_); rintro e w' ⟨rfl, ⟨nd, rfl⟩⟩) | (go_at_call 42; (with_reducible refine (anamnesisref02_order.calls a0 t231 _ A7.out).mono ?_); rintro e w' ⟨rfl, ⟨nd, rfl⟩⟩) | (go_at_call 42; (with_reducible refine (anamnesisref02_order.calls a1 t232 _ A8.out).mono ?_); rintro e w' ⟨rfl, ⟨nd, rfl⟩⟩))
      go_ret
      exact ⟨by first | rfl | (simp; done) | (simp [*]; done), by repeat (first | exact Drawn0.refl _ | apply Drawn0.step)⟩
    · rw [if_neg c6] at H
      have c6b0 : decide (0 < t230) = false := decide_eq_false c6
      clear c6
      obtain rfl := Option.some.inj H
      go_enter Try.func25, Try.ntmps25
      go_wp2_with (first | ((with_reducible refine gate_callee (f := 17) rfl ?_); refine goesL_ (some 6) rfl rfl Try.func17 (by kernel_rfl) rfl #[.int .i64 a0] rfl (by (try simp only [List.map_toArray, List.map_cons, List.map_nil]); first | done | rfl | (simp only [List.length_drop, List.length_take]; rfl)) ?_; (with_reducible refine (anamnesisref02_Kind.calls a0 t229 _ A3.out).mono ?_); rintro e w' ⟨rfl, ⟨nd, rfl⟩⟩; refine ⟨_, rfl, ?_⟩) | (go_at_call 17; (with_reducible refine (anamnesisref02_Kind.calls a1 t230 _ A5.out).mono ?_); rintro e w' ⟨rfl, ⟨nd, rfl⟩⟩))
      go_ret
      exact ⟨by first | rfl | (simp; done) | (simp [*]; done), by repeat (first | exact Drawn0.refl _ | apply Drawn0.step)⟩
  · rw [if_neg c4] at H
    have c4b0 : decide (0 < t229) = false := decide_eq_false c4
    clear c4
    obtain rfl := Option.some.inj H
    go_enter Try.func25, Try.ntmps25
    go_wp2_with (first | ((with_reducible refine gate_callee (f := 17) rfl ?_); refine goesL_ (some 6) rfl rfl Try.func17 (by kernel_rfl) rfl #[.int .i64 a0] rfl (by (try simp only [List.map_toArray, List.map_cons, List.map_nil]); first | done | rfl | (simp only [List.length_drop, List.length_take]; rfl)) ?_; (with_reducible refine (anamnesisref02_Kind.calls a0 t229 _ A3.out).mono ?_); rintro e w' ⟨rfl, ⟨nd, rfl⟩⟩; refine ⟨_, rfl, ?_⟩))
    go_ret
    exact ⟨by first | rfl | (simp; done) | (simp [*]; done), by repeat (first | exact Drawn0.refl _ | apply Drawn0.step)⟩

/-! ### anamnesisref02_Equal: function 27 -/
def anamnesisref02_Equal.f (a0 : Int) (a1 : Int) : Option (Bool) := (anamnesisref02_Kind.f a0).bind fun t233 => (if t233 > 0 then ((anamnesisref02_Kind.f a1).bind fun t234 => (if t234 > 0 then ((anamnesisref02_order.f a0).bind fun t235 => ((anamnesisref02_order.f a1).bind fun t236 => (some (t235 == t236)))) else (some false))) else (some false))
set_option maxHeartbeats 8000000 in
set_option maxRecDepth 100000 in
theorem anamnesisref02_Equal.calls (a0 : Int) (a1 : Int) (r : Bool) (w : World) (h : anamnesisref02_Equal.f a0 a1 = some r) :
    Calls Try.prog 27 #[.int .i64 a0, .int .i64 a1] w fun e w' => e = .returned (.bool r) ∧ Drawn0 w w' := by
  have H : ((anamnesisref02_Kind.f a0).bind fun t233 => (if t233 > 0 then ((anamnesisref02_Kind.f a1).bind fun t234 => (if t234 > 0 then ((anamnesisref02_order.f a0).bind fun t235 => ((anamnesisref02_order.f a1).bind fun t236 => (some (t235 == t236)))) else (some false))) else (some false))) = some r := h
  clear h
  replace H := Option.bind_eq_some_iff.mp H
  obtain ⟨t233, A30, H⟩ := H
  replace H : (if t233 > 0 then ((anamnesisref02_Kind.f a1).bind fun t234 => (if t234 > 0 then ((anamnesisref02_order.f a0).bind fun t235 => ((anamnesisref02_order.f a1).bind fun t236 => (some (t235 == t236)))) else (some false))) else (some false)) = some r := H
  have A3 := Aside0.mk A30
  clear A30
  by_cases c4 : t233 > 0
  · rw [if_pos c4] at H
    have c4b0 : decide (0 < t233) = true := decide_eq_true c4
    clear c4
    replace H := Option.bind_eq_some_iff.mp H
    obtain ⟨t234, A50, H⟩ := H
    replace H : (if t234 > 0 then ((anamnesisref02_order.f a0).bind fun t235 => ((anamnesisref02_order.f a1).bind fun t236 => (some (t235 == t236)))) else (some false)) = some r := H
    have A5 := Aside0.mk A50
    clear A50
    by_cases c6 : t234 > 0
    · rw [if_pos c6] at H
      have c6b0 : decide (0 < t234) = true := decide_eq_true c6
      clear c6
      replace H := Option.bind_eq_some_iff.mp H
      obtain ⟨t235, A70, H⟩ := H
      replace H : ((anamnesisref02_order.f a1).bind fun t236 => (some (t235 == t236))) = some r := H
      have A7 := Aside0.mk A70
      clear A70
      replace H := Option.bind_eq_some_iff.mp H
      obtain ⟨t236, A80, H⟩ := H
      replace H : (some (t235 == t236)) = some r := H
      have A8 := Aside0.mk A80
      clear A80
      obtain rfl := Option.some.inj H
      go_enter Try.func27, Try.ntmps27
      go_wp2_with (first | ((with_reducible refine gate_callee (f := 17) rfl ?_); refine goesL_ (some 6) rfl rfl Try.func17 (by kernel_rfl) rfl #[.int .i64 a0] rfl (by (try simp only [List.map_toArray, List.map_cons, List.map_nil]); first | done | rfl | (simp only [List.length_drop, List.length_take]; rfl)) ?_; (with_reducible refine (anamnesisref02_Kind.calls a0 t233 _ A3.out).mono ?_); rintro e w' ⟨rfl, ⟨nd, rfl⟩⟩; refine ⟨_, rfl, ?_⟩) | (go_at_call 17; (with_reducible refine (anamnesisref02_Kind.calls a1 t234 _ A5.out).mono ?_); rintro e w' ⟨rfl, ⟨nd, rfl⟩⟩) | (go_at_call 42; (with_reducible refine (anamnesisref02_order.calls a0 t235 _ A7.out).mono ?_); rintro e w' ⟨rfl, ⟨nd, rfl⟩⟩) | (go_at_call 42; (with_reducible refine (anamnesisref02_order.calls a1 t236 _ A8.out).mono ?_); rintro e w' ⟨rfl, ⟨nd, rfl⟩⟩))
      go_ret
      exact ⟨by first | rfl | (simp; done) | (simp [*]; done), by repeat (first | exact Drawn0.refl _ | apply Drawn0.step)⟩
    · rw [if_neg c6] at H
      have c6b0 : decide (0 < t234) = false := decide_eq_false c6
      clear c6
      obtain rfl := Option.some.inj H
      go_enter Try.func27, Try.ntmps27
      go_wp2_with (first | ((with_reducible refine gate_callee (f := 17) rfl ?_); refine goesL_ (some 6) rfl rfl Try.func17 (by kernel_rfl) rfl #[.int .i64 a0] rfl (by (try simp only [List.map_toArray, List.map_cons, List.map_nil]); first | done | rfl | (simp only [List.length_drop, List.length_take]; rfl)) ?_; (with_reducible refine (anamnesisref02_Kind.calls a0 t233 _ A3.out).mono ?_); rintro e w' ⟨rfl, ⟨nd, rfl⟩⟩; refine ⟨_, rfl, ?_⟩) | (go_at_call 17; (with_reducible refine (anamnesisref02_Kind.calls a1 t234 _ A5.out).mono ?_); rintro e w' ⟨rfl, ⟨nd, rfl⟩⟩))
      go_ret
      exact ⟨by first | rfl | (simp; done) | (simp [*]; done), by repeat (first | exact Drawn0.refl _ | apply Drawn0.step)⟩
  · rw [if_neg c4] at H
    have c4b0 : decide (0 < t233) = false := decide_eq_false c4
    clear c4
    obtain rfl := Option.some.inj H
    go_enter Try.func27, Try.ntmps27
    go_wp2_with (first | ((with_reducible refine gate_callee (f := 17) rfl ?_); refine goesL_ (some 6) rfl rfl Try.func17 (by kernel_rfl) rfl #[.int .i64 a0] rfl (by (try simp only [List.map_toArray, List.map_cons, List.map_nil]); first | done | rfl | (simp only [List.length_drop, List.length_take]; rfl)) ?_; (with_reducible refine (anamnesisref02_Kind.calls a0 t233 _ A3.out).mono ?_); rintro e w' ⟨rfl, ⟨nd, rfl⟩⟩; refine ⟨_, rfl, ?_⟩))
    go_ret
    exact ⟨by first | rfl | (simp; done) | (simp [*]; done), by repeat (first | exact Drawn0.refl _ | apply Drawn0.step)⟩

/-! ### anamnesislaw02_FltOrder: function 5 -/
def anamnesislaw02_FltOrder.f (a0 : Int) (a1 : Int) : Option (Bool) := (anamnesislaw02_fixed.f).bind fun t237 => ((flt_Less.f a0 a1).bind fun t238 => ((anamnesisref02_Less.f a0 a1).bind fun t239 => (if (t238 == t239) = true then ((flt_Equal.f a0 a1).bind fun t240 => ((anamnesisref02_Equal.f a0 a1).bind fun t241 => (some (t240 == t241)))) else (some false))))
set_option maxHeartbeats 8000000 in
set_option maxRecDepth 100000 in
theorem anamnesislaw02_FltOrder.calls (a0 : Int) (a1 : Int) (r : Bool) (w : World) (h : anamnesislaw02_FltOrder.f a0 a1 = some r) (hr : r = true) :
    Calls Try.prog 5 #[.int .i64 a0, .int .i64 a1] w fun e w' => e = .returned (.bool r) ∧ Below w.heap.size w w' := by
  have hr_ := Aside0.mk hr
  clear hr
  have HB := Aside0.mk (Below.refl w.heap.size w)
  have H : ((anamnesislaw02_fixed.f).bind fun t237 => ((flt_Less.f a0 a1).bind fun t238 => ((anamnesisref02_Less.f a0 a1).bind fun t239 => (if (t238 == t239) = true then ((flt_Equal.f a0 a1).bind fun t240 => ((anamnesisref02_Equal.f a0 a1).bind fun t241 => (some (t240 == t241)))) else (some false))))) = some r := h
  clear h
  replace H := Option.bind_eq_some_iff.mp H
  obtain ⟨t237, A30, H⟩ := H
  replace H : ((flt_Less.f a0 a1).bind fun t238 => ((anamnesisref02_Less.f a0 a1).bind fun t239 => (if (t238 == t239) = true then ((flt_Equal.f a0 a1).bind fun t240 => ((anamnesisref02_Equal.f a0 a1).bind fun t241 => (some (t240 == t241)))) else (some false)))) = some r := H
  have A3 := Aside0.mk A30
  clear A30
  replace H := Option.bind_eq_some_iff.mp H
  obtain ⟨t238, A40, H⟩ := H
  replace H : ((anamnesisref02_Less.f a0 a1).bind fun t239 => (if (t238 == t239) = true then ((flt_Equal.f a0 a1).bind fun t240 => ((anamnesisref02_Equal.f a0 a1).bind fun t241 => (some (t240 == t241)))) else (some false))) = some r := H
  have A4 := Aside0.mk A40
  clear A40
  replace H := Option.bind_eq_some_iff.mp H
  obtain ⟨t239, A50, H⟩ := H
  replace H : (if (t238 == t239) = true then ((flt_Equal.f a0 a1).bind fun t240 => ((anamnesisref02_Equal.f a0 a1).bind fun t241 => (some (t240 == t241)))) else (some false)) = some r := H
  have A5 := Aside0.mk A50
  clear A50
  by_cases c6 : (t238 == t239) = true
  · rw [if_pos c6] at H
    have c6b0 : (t238 == t239) = true := c6
    (try (have c6b1 : decide (t238 = t239) = true := by simpa using c6))
    (try (have c6b2 : (t238 == t239) = true := by simpa using c6))
    clear c6
    replace H := Option.bind_eq_some_iff.mp H
    obtain ⟨t240, A70, H⟩ := H
    replace H : ((anamnesisref02_Equal.f a0 a1).bind fun t241 => (some (t240 == t241))) = some r := H
    have A7 := Aside0.mk A70
    clear A70
    replace H := Option.bind_eq_some_iff.mp H
    obtain ⟨t241, A80, H⟩ := H
    replace H : (some (t240 == t241)) = some r := H
    have A8 := Aside0.mk A80
    clear A80
    obtain rfl := Option.some.inj H
    go_enter Try.func5, Try.ntmps5
    go_wp2_with (first | ((with_reducible refine gate_callee (f := 11) rfl ?_); refine goesL_ (some 5) rfl rfl Try.func11 (by kernel_rfl) rfl #[] rfl (by (try simp only [List.map_toArray, List.map_cons, List.map_nil]); first | done | rfl | (simp only [List.length_drop, List.length_take]; rfl)) ?_; (with_reducible refine (anamnesislaw02_fixed.calls  t237 _ A3.out).mono ?_); rintro e w9 ⟨rfl, hb⟩; refine ⟨_, rfl, ?_⟩; have n0_ := Aside0.mk (below_step (by repeat (first | (with_reducible first | exact HB.out | apply below_alloc | apply pw_below_drewN | apply below_drew1) | exact HB.out)) hb); clear HB; have HB := n0_; clear n0_; (try clear hb); (try clear hb2); (try clear hk); (try clear hi)) | (go_at_call 24; (with_reducible refine (flt_Less.calls a0 a1 t238 _ A4.out).mono ?_); rintro e w' ⟨rfl, ⟨nd, rfl⟩⟩) | (go_at_call 25; (with_reducible refine (anamnesisref02_Less.calls a0 a1 t239 _ A5.out).mono ?_); rintro e w' ⟨rfl, ⟨nd, rfl⟩⟩) | (go_at_call 26; (with_reducible refine (flt_Equal.calls a0 a1 t240 _ A7.out).mono ?_); rintro e w' ⟨rfl, ⟨nd, rfl⟩⟩) | (go_at_call 27; (with_reducible refine (anamnesisref02_Equal.calls a0 a1 t241 _ A8.out).mono ?_); rintro e w' ⟨rfl, ⟨nd, rfl⟩⟩))
    go_ret
    exact ⟨by first | rfl | (simp [errW_none, errW_some] <;> rfl) | (simp [*, errW_none, errW_some] <;> rfl) | (simp [wrap64, errW_none, errW_some]; done), by repeat (first | (with_reducible first | exact HB.out | apply below_alloc | apply pw_below_drewN | apply below_drew1) | exact HB.out)⟩
  · rw [if_neg c6] at H
    have c6b0 : (t238 == t239) = false := by simpa using c6
    (try (have c6b1 : decide (t238 = t239) = false := by simpa using c6))
    (try (have c6b2 : (t238 == t239) = false := by simpa using c6))
    (try (have c6b3 : ¬ (t238 = t239) := by simpa using c6))
    clear c6
    obtain rfl := Option.some.inj H
    exact absurd hr_.out (by decide)

/-- THE ONE PURE STATEMENT of anamnesislaw02_FltOrder: yours. -/
def anamnesislaw02_FltOrder.Pure : Prop := ∀ (a0 : Int) (a1 : Int), (Lit.int .i64 a0).wf = true → (Lit.int .i64 a1).wf = true → anamnesislaw02_FltOrder.f a0 a1 = some true
theorem anamnesislaw02_FltOrder.walk (P : anamnesislaw02_FltOrder.Pure) (a0 : Int) (a1 : Int) (w : World) (w0 : (Lit.int .i64 a0).wf = true) (w1 : (Lit.int .i64 a1).wf = true) :
    Calls Try.prog 5 #[.int .i64 a0, .int .i64 a1] w fun e w' => e = .returned (.bool true) ∧ Below w.heap.size w w' := by
  have h := P a0 a1 w0 w1
  refine (anamnesislaw02_FltOrder.calls a0 a1 true w h rfl).mono ?_
  rintro e w' ⟨rfl, hd⟩
  exact ⟨rfl, hd⟩

end Go.Proofs.Ytbnpodkfcfdpeaa.PFlt
