-- laid by a program of this session (gprint.py)
import Derived.Test.YtbnpodkfcfdpeaaPFltx0
import Derived.Test.YtbnpodkfcfdpeaaPFltx1
import Derived.Test.YtbnpodkfcfdpeaaPFltx2
import Derived.Test.YtbnpodkfcfdpeaaPFltx3
import Derived.Test.YtbnpodkfcfdpeaaPFltx4
import Derived.Test.YtbnpodkfcfdpeaaPFltx5
namespace Go.Proofs.Ytbnpodkfcfdpeaa.PFlt
open Go.RowKit Go.Proofs.YtbnpodkfcfdpeaaW.PrintWords Go.Proofs.YtbnpodkfcfdpeaaW.PrintLast Go.Proofs.YtbnpodkfcfdpeaaW.PrintMore
attribute [local go_sem] max2_int min2_int max_two min_two max_three min_three max_four min_four   -- for this text's walks alone
set_option linter.unusedVariables false
set_option linter.unusedSimpArgs false

/-! ### anamnesisref02_quotient: function 36 -/
mutual
def anamnesisref02_quotient.j0 : Nat → Int → Int → Int → Int → Bool → Bool → Option (Int)
  | 0, _, _, _, _, _, _ => none
  | k + 1, x0, x1, x5, x6, x7, x45 => if x45 = true then ((anamnesisref02_NaN.f).bind fun t178 => (some t178)) else (if x5 = 1 then (anamnesisref02_quotient.j1 k x0 x1 x5 x6 x7 true) else (anamnesisref02_quotient.j1 k x0 x1 x5 x6 x7 (x6 == 2)))
def anamnesisref02_quotient.j1 : Nat → Int → Int → Int → Int → Bool → Bool → Option (Int)
  | 0, _, _, _, _, _, _ => none
  | k + 1, x0, x1, x5, x6, x7, x52 => if x52 = true then ((anamnesisref02_with.f x7 9218868437227405312).bind fun t179 => (some t179)) else (if x5 = 2 then (anamnesisref02_quotient.j2 k x0 x1 x7 true) else (anamnesisref02_quotient.j2 k x0 x1 x7 (x6 == 1)))
def anamnesisref02_quotient.j2 : Nat → Int → Int → Bool → Bool → Option (Int)
  | 0, _, _, _, _ => none
  | k + 1, x0, x1, x7, x60 => if x60 = true then ((anamnesisref02_with.f x7 0).bind fun t180 => (some t180)) else ((anamnesisref02_part.f k x0).bind fun bt181 => ((anamnesisref02_part.f k x1).bind fun bt183 => (if bt183.1 = 0 then (none) else (anamnesisref02_quotient.l0 k x7 bt181.2 bt183.1 bt183.2 (wrap64 (Int.tdiv bt181.1 bt183.1)) (Int.tmod bt181.1 bt183.1) 0))))
def anamnesisref02_quotient.l0 : Nat → Bool → Int → Int → Int → Int → Int → Int → Option (Int)
  | 0, _, _, _, _, _, _, _ => none
  | k + 1, x7, x9, x10, x11, x12, x13, x14 => if x14 < 60 then (if (wrap64 (2 * x13)) ≥ x10 then (anamnesisref02_quotient.l0 k x7 x9 x10 x11 (wrap64 ((wrap64 (2 * x12)) + 1)) (wrap64 ((wrap64 (2 * x13)) - x10)) (wrap64 (x14 + 1))) else (anamnesisref02_quotient.l0 k x7 x9 x10 x11 (wrap64 (2 * x12)) (wrap64 (2 * x13)) (wrap64 (x14 + 1)))) else ((anamnesisref02_round.f k x12 (wrap64 ((wrap64 (x9 - x11)) - 60)) (x13 != 0)).bind fun t185 => ((anamnesisref02_with.f x7 t185).bind fun t186 => (some t186)))
end
def anamnesisref02_quotient.f (k : Nat) (a0 : Int) (a1 : Int) : Option (Int) := (anamnesisref02_Kind.f a0).bind fun t174 => ((anamnesisref02_Kind.f a1).bind fun t175 => ((anamnesisref02_sign.f a0).bind fun t176 => ((anamnesisref02_sign.f a1).bind fun t177 => (if t174 = 0 then (anamnesisref02_quotient.j0 k a0 a1 t174 t175 (!t176 == t177) true) else (if t175 = 0 then (anamnesisref02_quotient.j0 k a0 a1 t174 t175 (!t176 == t177) true) else (if t174 = 1 then (if t175 = 1 then (anamnesisref02_quotient.j0 k a0 a1 t174 t175 (!t176 == t177) true) else (if t174 = 2 then (anamnesisref02_quotient.j0 k a0 a1 t174 t175 (!t176 == t177) (t175 == 2)) else (anamnesisref02_quotient.j0 k a0 a1 t174 t175 (!t176 == t177) false))) else (if t174 = 2 then (anamnesisref02_quotient.j0 k a0 a1 t174 t175 (!t176 == t177) (t175 == 2)) else (anamnesisref02_quotient.j0 k a0 a1 t174 t175 (!t176 == t177) false))))))))
theorem anamnesisref02_quotient.mono_l : ∀ k, (∀ y0 y1 y2 y3 y4 y5, LeO (anamnesisref02_quotient.j0 k y0 y1 y2 y3 y4 y5) (anamnesisref02_quotient.j0 (k + 1) y0 y1 y2 y3 y4 y5)) ∧ (∀ y0 y1 y2 y3 y4 y5, LeO (anamnesisref02_quotient.j1 k y0 y1 y2 y3 y4 y5) (anamnesisref02_quotient.j1 (k + 1) y0 y1 y2 y3 y4 y5)) ∧ (∀ y0 y1 y2 y3, LeO (anamnesisref02_quotient.j2 k y0 y1 y2 y3) (anamnesisref02_quotient.j2 (k + 1) y0 y1 y2 y3)) ∧ (∀ y0 y1 y2 y3 y4 y5 y6, LeO (anamnesisref02_quotient.l0 k y0 y1 y2 y3 y4 y5 y6) (anamnesisref02_quotient.l0 (k + 1) y0 y1 y2 y3 y4 y5 y6))
  | 0 => ⟨fun _ _ _ _ _ _ r h => by simp [anamnesisref02_quotient.j0] at h, fun _ _ _ _ _ _ r h => by simp [anamnesisref02_quotient.j1] at h, fun _ _ _ _ r h => by simp [anamnesisref02_quotient.j2] at h, fun _ _ _ _ _ _ _ r h => by simp [anamnesisref02_quotient.l0] at h⟩
  | k + 1 => by
    obtain ⟨ih0, ih1, ih2, ih3⟩ := anamnesisref02_quotient.mono_l k
    refine ⟨?_, ?_, ?_, ?_⟩
    · intro y0 y1 y2 y3 y4 y5
      unfold anamnesisref02_quotient.j0
      repeat' first
      | (with_reducible exact ih0 _ _ _ _ _ _)
      | (with_reducible exact ih1 _ _ _ _ _ _)
      | (with_reducible exact ih2 _ _ _ _)
      | (with_reducible exact ih3 _ _ _ _ _ _ _)
      | (with_reducible exact anamnesisref02_part.mono _ _)
      | (with_reducible exact anamnesisref02_round.mono _ _ _ _)
      | (with_reducible exact LeO.refl _)
      | (with_reducible exact LeO.none _)
      | (with_reducible refine LeO.ite ?_ ?_)
      | (with_reducible refine LeO.bind ?_ (fun _ => ?_))
      | exact ih0 _ _ _ _ _ _
      | exact ih1 _ _ _ _ _ _
      | exact ih2 _ _ _ _
      | exact ih3 _ _ _ _ _ _ _
      | exact anamnesisref02_part.mono _ _
      | exact anamnesisref02_round.mono _ _ _ _
      | exact LeO.none _
      | refine LeO.ite ?_ ?_
      | refine LeO.bind ?_ (fun _ => ?_)
    · intro y0 y1 y2 y3 y4 y5
      unfold anamnesisref02_quotient.j1
      repeat' first
      | (with_reducible exact ih0 _ _ _ _ _ _)
      | (with_reducible exact ih1 _ _ _ _ _ _)
      | (with_reducible exact ih2 _ _ _ _)
      | (with_reducible exact ih3 _ _ _ _ _ _ _)
      | (with_reducible exact anamnesisref02_part.mono _ _)
      | (with_reducible exact anamnesisref02_round.mono _ _ _ _)
      | (with_reducible exact LeO.refl _)
      | (with_reducible exact LeO.none _)
      | (with_reducible refine LeO.ite ?_ ?_)
      | (with_reducible refine LeO.bind ?_ (fun _ => ?_))
      | exact ih0 _ _ _ _ _ _
      | exact ih1 _ _ _ _ _ _
      | exact ih2 _ _ _ _
      | exact ih3 _ _ _ _ _ _ _
      | exact anamnesisref02_part.mono _ _
      | exact anamnesisref02_round.mono _ _ _ _
      | exact LeO.none _
      | refine LeO.ite ?_ ?_
      | refine LeO.bind ?_ (fun _ => ?_)
    · intro y0 y1 y2 y3
      unfold anamnesisref02_quotient.j2
      repeat' first
      | (with_reducible exact ih0 _ _ _ _ _ _)
      | (with_reducible exact ih1 _ _ _ _ _ _)
      | (with_reducible exact ih2 _ _ _ _)
      | (with_reducible exact ih3 _ _ _ _ _ _ _)
      | (with_reducible exact anamnesisref02_part.mono _ _)
      | (with_reducible exact anamnesisref02_round.mono _ _ _ _)
      | (with_reducible exact LeO.refl _)
      | (with_reducible exact LeO.none _)
      | (with_reducible refine LeO.ite ?_ ?_)
      | (with_reducible refine LeO.bind ?_ (fun _ => ?_))
      | exact ih0 _ _ _ _ _ _
      | exact ih1 _ _ _ _ _ _
      | exact ih2 _ _ _ _
      | exact ih3 _ _ _ _ _ _ _
      | exact anamnesisref02_part.mono _ _
      | exact anamnesisref02_round.mono _ _ _ _
      | exact LeO.none _
      | refine LeO.ite ?_ ?_
      | refine LeO.bind ?_ (fun _ => ?_)
    · intro y0 y1 y2 y3 y4 y5 y6
      unfold anamnesisref02_quotient.l0
      repeat' first
      | (with_reducible exact ih0 _ _ _ _ _ _)
      | (with_reducible exact ih1 _ _ _ _ _ _)
      | (with_reducible exact ih2 _ _ _ _)
      | (with_reducible exact ih3 _ _ _ _ _ _ _)
      | (with_reducible exact anamnesisref02_part.mono _ _)
      | (with_reducible exact anamnesisref02_round.mono _ _ _ _)
      | (with_reducible exact LeO.refl _)
      | (with_reducible exact LeO.none _)
      | (with_reducible refine LeO.ite ?_ ?_)
      | (with_reducible refine LeO.bind ?_ (fun _ => ?_))
      | exact ih0 _ _ _ _ _ _
      | exact ih1 _ _ _ _ _ _
      | exact ih2 _ _ _ _
      | exact ih3 _ _ _ _ _ _ _
      | exact anamnesisref02_part.mono _ _
      | exact anamnesisref02_round.mono _ _ _ _
      | exact LeO.none _
      | refine LeO.ite ?_ ?_
      | refine LeO.bind ?_ (fun _ => ?_)
theorem anamnesisref02_quotient.mono : ∀ a0 a1 k, LeO (anamnesisref02_quotient.f k a0 a1) (anamnesisref02_quotient.f (k + 1) a0 a1) := by
  intro a0 a1 k
  obtain ⟨ih0, ih1, ih2, ih3⟩ := anamnesisref02_quotient.mono_l k
  unfold anamnesisref02_quotient.f
  repeat' first
      | (with_reducible exact ih0 _ _ _ _ _ _)
      | (with_reducible exact ih1 _ _ _ _ _ _)
      | (with_reducible exact ih2 _ _ _ _)
      | (with_reducible exact ih3 _ _ _ _ _ _ _)
      | (with_reducible exact anamnesisref02_part.mono _ _)
      | (with_reducible exact anamnesisref02_round.mono _ _ _ _)
      | (with_reducible exact LeO.refl _)
      | (with_reducible exact LeO.none _)
      | (with_reducible refine LeO.ite ?_ ?_)
      | (with_reducible refine LeO.bind ?_ (fun _ => ?_))
      | exact ih0 _ _ _ _ _ _
      | exact ih1 _ _ _ _ _ _
      | exact ih2 _ _ _ _
      | exact ih3 _ _ _ _ _ _ _
      | exact anamnesisref02_part.mono _ _
      | exact anamnesisref02_round.mono _ _ _ _
      | exact LeO.none _
      | refine LeO.ite ?_ ?_
      | refine LeO.bind ?_ (fun _ => ?_)
set_option maxHeartbeats 8000000 in
set_option maxRecDepth 100000 in
theorem anamnesisref02_quotient.calls (k : Nat) (a0 : Int) (a1 : Int) (r : Int) (w : World) (h : anamnesisref02_quotient.f k a0 a1 = some r) :
    Calls Try.prog 36 #[.int .i64 a0, .int .i64 a1] w fun e w' => e = .returned (.int .i64 r) ∧ Below w.heap.size w w' := by
  have HB := Aside0.mk (Below.refl w.heap.size w)
  have H : ((anamnesisref02_Kind.f a0).bind fun t174 => ((anamnesisref02_Kind.f a1).bind fun t175 => ((anamnesisref02_sign.f a0).bind fun t176 => ((anamnesisref02_sign.f a1).bind fun t177 => (if t174 = 0 then (anamnesisref02_quotient.j0 k a0 a1 t174 t175 (!t176 == t177) true) else (if t175 = 0 then (anamnesisref02_quotient.j0 k a0 a1 t174 t175 (!t176 == t177) true) else (if t174 = 1 then (if t175 = 1 then (anamnesisref02_quotient.j0 k a0 a1 t174 t175 (!t176 == t177) true) else (if t174 = 2 then (anamnesisref02_quotient.j0 k a0 a1 t174 t175 (!t176 == t177) (t175 == 2)) else (anamnesisref02_quotient.j0 k a0 a1 t174 t175 (!t176 == t177) false))) else (if t174 = 2 then (anamnesisref02_quotient.j0 k a0 a1 t174 t175 (!t176 == t177) (t175 == 2)) else (anamnesisref02_quotient.j0 k a0 a1 t174 t175 (!t176 == t177) false))))))))) = some r := h
  clear h
  replace H := Option.bind_eq_some_iff.mp H
  obtain ⟨t174, A30, H⟩ := H
  replace H : ((anamnesisref02_Kind.f a1).bind fun t175 => ((anamnesisref02_sign.f a0).bind fun t176 => ((anamnesisref02_sign.f a1).bind fun t177 => (if t174 = 0 then (anamnesisref02_quotient.j0 k a0 a1 t174 t175 (!t176 == t177) true) else (if t175 = 0 then (anamnesisref02_quotient.j0 k a0 a1 t174 t175 (!t176 == t177) true) else (if t174 = 1 then (if t175 = 1 then (anamnesisref02_quotient.j0 k a0 a1 t174 t175 (!t176 == t177) true) else (if t174 = 2 then (anamnesisref02_quotient.j0 k a0 a1 t174 t175 (!t176 == t177) (t175 == 2)) else (anamnesisref02_quotient.j0 k a0 a1 t174 t175 (!t176 == t177) false))) else (if t174 = 2 then (anamnesisref02_quotient.j0 k a0 a1 t174 t175 (!t176 == t177) (t175 == 2)) else (anamnesisref02_quotient.j0 k a0 a1 t174 t175 (!t176 == t177) false)))))))) = some r := H
  have A3 := Aside0.mk A30
  clear A30
  replace H := Option.bind_eq_some_iff.mp H
  obtain ⟨t175, A40, H⟩ := H
  replace H : ((anamnesisref02_sign.f a0).bind fun t176 => ((anamnesisref02_sign.f a1).bind fun t177 => (if t174 = 0 then (anamnesisref02_quotient.j0 k a0 a1 t174 t175 (!t176 == t177) true) else (if t175 = 0 then (anamnesisref02_quotient.j0 k a0 a1 t174 t175 (!t176 == t177) true) else (if t174 = 1 then (if t175 = 1 then (anamnesisref02_quotient.j0 k a0 a1 t174 t175 (!t176 == t177) true) else (if t174 = 2 then (anamnesisref02_quotient.j0 k a0 a1 t174 t175 (!t176 == t177) (t175 == 2)) else (anamnesisref02_quotient.j0 k a0 a1 t174 t175 (!t176 == t177) false))) else (if t174 = 2 then (anamnesisref02_quotient.j0 k a0 a1 t174 t175 (!t176 == t177) (t175 == 2)) else (anamnesisref02_quotient.j0 k a0 a1 t174 t175 (!t176 == t177) false))))))) = some r := H
  have A4 := Aside0.mk A40
  clear A40
  replace H := Option.bind_eq_some_iff.mp H
  obtain ⟨t176, A50, H⟩ := H
  replace H : ((anamnesisref02_sign.f a1).bind fun t177 => (if t174 = 0 then (anamnesisref02_quotient.j0 k a0 a1 t174 t175 (!t176 == t177) true) else (if t175 = 0 then (anamnesisref02_quotient.j0 k a0 a1 t174 t175 (!t176 == t177) true) else (if t174 = 1 then (if t175 = 1 then (anamnesisref02_quotient.j0 k a0 a1 t174 t175 (!t176 == t177) true) else (if t174 = 2 then (anamnesisref02_quotient.j0 k a0 a1 t174 t175 (!t176 == t177) (t175 == 2)) else (anamnesisref02_quotient.j0 k a0 a1 t174 t175 (!t176 == t177) false))) else (if t174 = 2 then (anamnesisref02_quotient.j0 k a0 a1 t174 t175 (!t176 == t177) (t175 == 2)) else (anamnesisref02_quotient.j0 k a0 a1 t174 t175 (!t176 == t177) false)))))) = some r := H
  have A5 := Aside0.mk A50
  clear A50
  replace H := Option.bind_eq_some_iff.mp H
  obtain ⟨t177, A60, H⟩ := H
  replace H : (if t174 = 0 then (anamnesisref02_quotient.j0 k a0 a1 t174 t175 (!t176 == t177) true) else (if t175 = 0 then (anamnesisref02_quotient.j0 k a0 a1 t174 t175 (!t176 == t177) true) else (if t174 = 1 then (if t175 = 1 then (anamnesisref02_quotient.j0 k a0 a1 t174 t175 (!t176 == t177) true) else (if t174 = 2 then (anamnesisref02_quotient.j0 k a0 a1 t174 t175 (!t176 == t177) (t175 == 2)) else (anamnesisref02_quotient.j0 k a0 a1 t174 t175 (!t176 == t177) false))) else (if t174 = 2 then (anamnesisref02_quotient.j0 k a0 a1 t174 t175 (!t176 == t177) (t175 == 2)) else (anamnesisref02_quotient.j0 k a0 a1 t174 t175 (!t176 == t177) false))))) = some r := H
  have A6 := Aside0.mk A60
  clear A60
  have HC7 := Aside0.mk H
  clear H
  go_enter Try.func36, Try.ntmps36
  go_upto_region 3 with (first | (go_at_call 17; (with_reducible refine (anamnesisref02_Kind.calls a0 t174 _ A3.out).mono ?_); rintro e w' ⟨rfl, ⟨nd, rfl⟩⟩; (try first | exact ⟨rfl, _, World.drewN_drewN _ _ _⟩ | exact ⟨rfl, _, Eq.trans (World.drewN_drewN _ _ _) (congrArg (World.drewN _) (Nat.add_assoc _ _ _))⟩)) | (go_at_call 17; (with_reducible refine (anamnesisref02_Kind.calls a1 t175 _ A4.out).mono ?_); rintro e w' ⟨rfl, ⟨nd, rfl⟩⟩; (try first | exact ⟨rfl, _, World.drewN_drewN _ _ _⟩ | exact ⟨rfl, _, Eq.trans (World.drewN_drewN _ _ _) (congrArg (World.drewN _) (Nat.add_assoc _ _ _))⟩)) | (go_at_call 33; (with_reducible refine (anamnesisref02_sign.calls a0 t176 _ A5.out).mono ?_); rintro e w' ⟨rfl, ⟨nd, rfl⟩⟩; (try first | exact ⟨rfl, _, World.drewN_drewN _ _ _⟩ | exact ⟨rfl, _, Eq.trans (World.drewN_drewN _ _ _) (congrArg (World.drewN _) (Nat.add_assoc _ _ _))⟩)) | (go_at_call 33; (with_reducible refine (anamnesisref02_sign.calls a1 t177 _ A6.out).mono ?_); rintro e w' ⟨rfl, ⟨nd, rfl⟩⟩; (try first | exact ⟨rfl, _, World.drewN_drewN _ _ _⟩ | exact ⟨rfl, _, Eq.trans (World.drewN_drewN _ _ _) (congrArg (World.drewN _) (Nat.add_assoc _ _ _))⟩)))
  repeat (go_quiet (first | (go_at_call 17; (with_reducible refine (anamnesisref02_Kind.calls a0 t174 _ A3.out).mono ?_); rintro e w' ⟨rfl, ⟨nd, rfl⟩⟩; (try first | exact ⟨rfl, _, World.drewN_drewN _ _ _⟩ | exact ⟨rfl, _, Eq.trans (World.drewN_drewN _ _ _) (congrArg (World.drewN _) (Nat.add_assoc _ _ _))⟩)) | (go_at_call 17; (with_reducible refine (anamnesisref02_Kind.calls a1 t175 _ A4.out).mono ?_); rintro e w' ⟨rfl, ⟨nd, rfl⟩⟩; (try first | exact ⟨rfl, _, World.drewN_drewN _ _ _⟩ | exact ⟨rfl, _, Eq.trans (World.drewN_drewN _ _ _) (congrArg (World.drewN _) (Nat.add_assoc _ _ _))⟩)) | (go_at_call 33; (with_reducible refine (anamnesisref02_sign.calls a0 t176 _ A5.out).mono ?_); rintro e w' ⟨rfl, ⟨nd, rfl⟩⟩; (try first | exact ⟨rfl, _, World.drewN_drewN _ _ _⟩ | exact ⟨rfl, _, Eq.trans (World.drewN_drewN _ _ _) (congrArg (World.drewN _) (Nat.add_assoc _ _ _))⟩)) | (go_at_call 33; (with_reducible refine (anamnesisref02_sign.calls a1 t177 _ A6.out).mono ?_); rintro e w' ⟨rfl, ⟨nd, rfl⟩⟩; (try first | exact ⟨rfl, _, World.drewN_drewN _ _ _⟩ | exact ⟨rfl, _, Eq.trans (World.drewN_drewN _ _ _) (congrArg (World.drewN _) (Nat.add_assoc _ _ _))⟩))); go_upto_region 3 with (first | (go_at_call 17; (with_reducible refine (anamnesisref02_Kind.calls a0 t174 _ A3.out).mono ?_); rintro e w' ⟨rfl, ⟨nd, rfl⟩⟩; (try first | exact ⟨rfl, _, World.drewN_drewN _ _ _⟩ | exact ⟨rfl, _, Eq.trans (World.drewN_drewN _ _ _) (congrArg (World.drewN _) (Nat.add_assoc _ _ _))⟩)) | (go_at_call 17; (with_reducible refine (anamnesisref02_Kind.calls a1 t175 _ A4.out).mono ?_); rintro e w' ⟨rfl, ⟨nd, rfl⟩⟩; (try first | exact ⟨rfl, _, World.drewN_drewN _ _ _⟩ | exact ⟨rfl, _, Eq.trans (World.drewN_drewN _ _ _) (congrArg (World.drewN _) (Nat.add_assoc _ _ _))⟩)) | (go_at_call 33; (with_reducible refine (anamnesisref02_sign.calls a0 t176 _ A5.out).mono ?_); rintro e w' ⟨rfl, ⟨nd, rfl⟩⟩; (try first | exact ⟨rfl, _, World.drewN_drewN _ _ _⟩ | exact ⟨rfl, _, Eq.trans (World.drewN_drewN _ _ _) (congrArg (World.drewN _) (Nat.add_assoc _ _ _))⟩)) | (go_at_call 33; (with_reducible refine (anamnesisref02_sign.calls a1 t177 _ A6.out).mono ?_); rintro e w' ⟨rfl, ⟨nd, rfl⟩⟩; (try first | exact ⟨rfl, _, World.drewN_drewN _ _ _⟩ | exact ⟨rfl, _, Eq.trans (World.drewN_drewN _ _ _) (congrArg (World.drewN _) (Nat.add_assoc _ _ _))⟩))))
  (try simp only [Act.put, List.setIfInBounds_toArray, List.set_cons_zero, List.set_cons_succ])
  go_cut [45] (fun v45 wc => ∃ (kq : Nat) (x45_6 : Bool), v45 = .bool x45_6 ∧ Aside0 (anamnesisref02_quotient.j0 kq a0 a1 t174 t175 (!t176 == t177) x45_6 = some r) ∧ Aside0 (kq ≤ k) ∧ Aside0 (Below w.heap.size w wc))
  case first =>
    have H := HC7.out
    clear HC7
    by_cases c8 : t174 = 0
    · rw [if_pos c8] at H
      have c8b0 : (t174 == 0) = true := beq_iff_eq.mpr c8
      have c8b1 : (t174 != 0) = false := bne_eq_false_iff_eq.mpr c8
      clear c8
      (first | rw [c8b0] | (simp only [i64_w, i32_w]; rw [c8b0]) | skip)
      have H' := Aside0.mk H
      clear H
      go_wp2
      repeat (go_quiet (fail); try go_wp2)
      go_meet
      case rel => exact ⟨_, (true), (by first | rfl | (simp; done) | (simp [*]; done)), H', ⟨by first | omega | exact Nat.le_refl _⟩, ⟨by repeat (first | (with_reducible first | exact HB.out | apply below_alloc | apply pw_below_drewN | apply below_drew1) | exact HB.out)⟩⟩
    · rw [if_neg c8] at H
      have c8b0 : (t174 == 0) = false := beq_eq_false_iff_ne.mpr c8
      have c8b1 : (t174 != 0) = true := bne_iff_ne.mpr c8
      (first | rw [c8b0] | (simp only [i64_w, i32_w]; rw [c8b0]) | skip)
      by_cases c9 : t175 = 0
      · rw [if_pos c9] at H
        have c9b0 : (t175 == 0) = true := beq_iff_eq.mpr c9
        have c9b1 : (t175 != 0) = false := bne_eq_false_iff_eq.mpr c9
        clear c9
        have H' := Aside0.mk H
        clear H
        go_wp2
        repeat (go_quiet (fail); try go_wp2)
        go_meet
        case rel => exact ⟨_, (true), (by first | rfl | (simp; done) | (simp [*]; done)), H', ⟨by first | omega | exact Nat.le_refl _⟩, ⟨by repeat (first | (with_reducible first | exact HB.out | apply below_alloc | apply pw_below_drewN | apply below_drew1) | exact HB.out)⟩⟩
      · rw [if_neg c9] at H
        have c9b0 : (t175 == 0) = false := beq_eq_false_iff_ne.mpr c9
        have c9b1 : (t175 != 0) = true := bne_iff_ne.mpr c9
        by_cases c10 : t174 = 1
        · rw [if_pos c10] at H
          have c10b0 : (t174 == 1) = true := beq_iff_eq.mpr c10
          have c10b1 : (t174 != 1) = false := bne_eq_false_iff_eq.mpr c10
          clear c10
          by_cases c11 : t175 = 1
          · rw [if_pos c11] at H
            have c11b0 : (t175 == 1) = true := beq_iff_eq.mpr c11
            have c11b1 : (t175 != 1) = false := bne_eq_false_iff_eq.mpr c11
            clear c11
            have H' := Aside0.mk H
            clear H
            go_wp2
            repeat (go_quiet (fail); try go_wp2)
            go_meet
            case rel => exact ⟨_, (true), (by first | rfl | (simp; done) | (simp [*]; done)), H', ⟨by first | omega | exact Nat.le_refl _⟩, ⟨by repeat (first | (with_reducible first | exact HB.out | apply below_alloc | apply pw_below_drewN | apply below_drew1) | exact HB.out)⟩⟩
          · rw [if_neg c11] at H
            have c11b0 : (t175 == 1) = false := beq_eq_false_iff_ne.mpr c11
            have c11b1 : (t175 != 1) = true := bne_iff_ne.mpr c11
            by_cases c12 : t174 = 2
            · rw [if_pos c12] at H
              have c12b0 : (t174 == 2) = true := beq_iff_eq.mpr c12
              have c12b1 : (t174 != 2) = false := bne_eq_false_iff_eq.mpr c12
              clear c12
              have H' := Aside0.mk H
              clear H
              go_wp2
              repeat (go_quiet (fail); try go_wp2)
              go_meet
              case rel => exact ⟨_, ((t175 == 2)), (by first | rfl | (simp; done) | (simp [*]; done)), H', ⟨by first | omega | exact Nat.le_refl _⟩, ⟨by repeat (first | (with_reducible first | exact HB.out | apply below_alloc | apply pw_below_drewN | apply below_drew1) | exact HB.out)⟩⟩
            · rw [if_neg c12] at H
              have c12b0 : (t174 == 2) = false := beq_eq_false_iff_ne.mpr c12
              have c12b1 : (t174 != 2) = true := bne_iff_ne.mpr c12
              have H' := Aside0.mk H
              clear H
              go_wp2
              repeat (go_quiet (fail); try go_wp2)
              go_meet
              case rel => exact ⟨_, (false), (by first | rfl | (simp; done) | (simp [*]; done)), H', ⟨by first | omega | exact Nat.le_refl _⟩, ⟨by repeat (first | (with_reducible first | exact HB.out | apply below_alloc | apply pw_below_drewN | apply below_drew1) | exact HB.out)⟩⟩
        · rw [if_neg c10] at H
          have c10b0 : (t174 == 1) = false := beq_eq_false_iff_ne.mpr c10
          have c10b1 : (t174 != 1) = true := bne_iff_ne.mpr c10
          by_cases c13 : t174 = 2
          · rw [if_pos c13] at H
            have c13b0 : (t174 == 2) = true := beq_iff_eq.mpr c13
            have c13b1 : (t174 != 2) = false := bne_eq_false_iff_eq.mpr c13
            clear c13
            have H' := Aside0.mk H
            clear H
            go_wp2
            repeat (go_quiet (fail); try go_wp2)
            go_meet
            case rel => exact ⟨_, ((t175 == 2)), (by first | rfl | (simp; done) | (simp [*]; done)), H', ⟨by first | omega | exact Nat.le_refl _⟩, ⟨by repeat (first | (with_reducible first | exact HB.out | apply below_alloc | apply pw_below_drewN | apply below_drew1) | exact HB.out)⟩⟩
          · rw [if_neg c13] at H
            have c13b0 : (t174 == 2) = false := beq_eq_false_iff_ne.mpr c13
            have c13b1 : (t174 != 2) = true := bne_iff_ne.mpr c13
            have H' := Aside0.mk H
            clear H
            go_wp2
            repeat (go_quiet (fail); try go_wp2)
            go_meet
            case rel => exact ⟨_, (false), (by first | rfl | (simp; done) | (simp [*]; done)), H', ⟨by first | omega | exact Nat.le_refl _⟩, ⟨by repeat (first | (with_reducible first | exact HB.out | apply below_alloc | apply pw_below_drewN | apply below_drew1) | exact HB.out)⟩⟩
  case rest =>
    clear HC7
    try clear c1
    try clear p2
    try clear c3
    try clear c8
    try clear c8b0
    try clear c8b1
    try clear c9
    try clear c9b0
    try clear c9b1
    try clear c10
    try clear c10b0
    try clear c10b1
    try clear c11
    try clear c11b0
    try clear c11b1
    try clear c12
    try clear c12b0
    try clear c12b1
    try clear c13
    try clear c13b0
    try clear c13b1
    obtain ⟨kq, x45_6, rfl, HA, HJ6, HB⟩ := hcut
    cases kq with
    | zero => exact absurd HA.out (by simp [anamnesisref02_quotient.j0])
    | succ kj6 =>
      have H := HA.out
      clear HA
      simp only [anamnesisref02_quotient.j0] at H
      by_cases c14 : x45_6 = true
      · subst c14
        have H1 : ((anamnesisref02_NaN.f).bind fun t178 => (some t178)) = some r := by rw [if_pos rfl] at H; exact H
        clear H
        have H := H1
        clear H1
        replace H := Option.bind_eq_some_iff.mp H
        obtain ⟨t178, A150, H⟩ := H
        replace H : (some t178) = some r := H
        have A15 := Aside0.mk A150
        clear A150
        obtain rfl := Option.some.inj H
        go_wp2_with (first | (go_at_call 28; (with_reducible refine (anamnesisref02_NaN.calls  t178 _ A15.out).mono ?_); rintro e w' ⟨rfl, ⟨nd, rfl⟩⟩; (try first | exact ⟨rfl, _, World.drewN_drewN _ _ _⟩ | exact ⟨rfl, _, Eq.trans (World.drewN_drewN _ _ _) (congrArg (World.drewN _) (Nat.add_assoc _ _ _))⟩)))
        repeat (go_quiet (first | (go_at_call 28; (with_reducible refine (anamnesisref02_NaN.calls  t178 _ A15.out).mono ?_); rintro e w' ⟨rfl, ⟨nd, rfl⟩⟩; (try first | exact ⟨rfl, _, World.drewN_drewN _ _ _⟩ | exact ⟨rfl, _, Eq.trans (World.drewN_drewN _ _ _) (congrArg (World.drewN _) (Nat.add_assoc _ _ _))⟩))); try go_wp2_with (first | (go_at_call 28; (with_reducible refine (anamnesisref02_NaN.calls  t178 _ A15.out).mono ?_); rintro e w' ⟨rfl, ⟨nd, rfl⟩⟩; (try first | exact ⟨rfl, _, World.drewN_drewN _ _ _⟩ | exact ⟨rfl, _, Eq.trans (World.drewN_drewN _ _ _) (congrArg (World.drewN _) (Nat.add_assoc _ _ _))⟩))))
        go_ret
        exact ⟨by first | rfl | (simp [errW_none, errW_some] <;> rfl) | (simp [*, errW_none, errW_some] <;> rfl) | (simp [wrap64, errW_none, errW_some]; done), by repeat (first | (with_reducible first | exact HB.out | apply below_alloc | apply pw_below_drewN | apply below_drew1) | exact HB.out)⟩
      · replace c14 := Bool.eq_false_iff.mpr c14
        subst c14
        have H1 : (if t174 = 1 then (anamnesisref02_quotient.j1 kj6 a0 a1 t174 t175 (!t176 == t177) true) else (anamnesisref02_quotient.j1 kj6 a0 a1 t174 t175 (!t176 == t177) (t175 == 2))) = some r := by rw [if_neg (show ¬ (false = true) by decide)] at H; exact H
        clear H
        have H := H1
        clear H1
        have HC16 := Aside0.mk H
        clear H
        go_upto_region 5 with (fail)
        repeat (go_quiet (fail); go_upto_region 5 with (fail))
        go_cut [52] (fun v52 wc => ∃ (kq : Nat) (x52_15 : Bool), v52 = .bool x52_15 ∧ Aside0 (anamnesisref02_quotient.j1 kq a0 a1 t174 t175 (!t176 == t177) x52_15 = some r) ∧ Aside0 (kq ≤ kj6) ∧ Aside0 (Below w.heap.size w wc))
        case first =>
          have H := HC16.out
          clear HC16
          by_cases c17 : t174 = 1
          · rw [if_pos c17] at H
            have c17b0 : (t174 == 1) = true := beq_iff_eq.mpr c17
            have c17b1 : (t174 != 1) = false := bne_eq_false_iff_eq.mpr c17
            clear c17
            (first | rw [c17b0] | (simp only [i64_w, i32_w]; rw [c17b0]) | skip)
            have H' := Aside0.mk H
            clear H
            go_wp2
            repeat (go_quiet (fail); try go_wp2)
            go_meet
            case rel => exact ⟨_, (true), (by first | rfl | (simp; done) | (simp [*]; done)), H', ⟨by have := HJ6.out; first | omega | exact Nat.le_refl _⟩, ⟨by repeat (first | (with_reducible first | exact HB.out | apply below_alloc | apply pw_below_drewN | apply below_drew1) | exact HB.out)⟩⟩
          · rw [if_neg c17] at H
            have c17b0 : (t174 == 1) = false := beq_eq_false_iff_ne.mpr c17
            have c17b1 : (t174 != 1) = true := bne_iff_ne.mpr c17
            (first | rw [c17b0] | (simp only [i64_w, i32_w]; rw [c17b0]) | skip)
            have H' := Aside0.mk H
            clear H
            go_wp2
            repeat (go_quiet (fail); try go_wp2)
            go_meet
            case rel => exact ⟨_, ((t175 == 2)), (by first | rfl | (simp; done) | (simp [*]; done)), H', ⟨by have := HJ6.out; first | omega | exact Nat.le_refl _⟩, ⟨by repeat (first | (with_reducible first | exact HB.out | apply below_alloc | apply pw_below_drewN | apply below_drew1) | exact HB.out)⟩⟩
        case rest =>
          clear HC16
          try clear c1
          try clear p2
          try clear c3
          try clear p6
          try clear c8
          try clear c8b0
          try clear c8b1
          try clear c9
          try clear c9b0
          try clear c9b1
          try clear c10
          try clear c10b0
          try clear c10b1
          try clear c11
          try clear c11b0
          try clear c11b1
          try clear c12
          try clear c12b0
          try clear c12b1
          try clear c13
          try clear c13b0
          try clear c13b1
          try clear c14
          try clear c17
          try clear c17b0
          try clear c17b1
          try clear p2
          obtain ⟨kq, x52_15, rfl, HA, HJ15, HB⟩ := hcut
          cases kq with
          | zero => exact absurd HA.out (by simp [anamnesisref02_quotient.j1])
          | succ kj15 =>
            have H := HA.out
            clear HA
            simp only [anamnesisref02_quotient.j1] at H
            by_cases c18 : x52_15 = true
            · subst c18
              have H1 : ((anamnesisref02_with.f (!t176 == t177) 9218868437227405312).bind fun t179 => (some t179)) = some r := by rw [if_pos rfl] at H; exact H
              clear H
              have H := H1
              clear H1
              replace H := Option.bind_eq_some_iff.mp H
              obtain ⟨t179, A190, H⟩ := H
              replace H : (some t179) = some r := H
              have A19 := Aside0.mk A190
              clear A190
              obtain rfl := Option.some.inj H
              go_wp2_with (first | (go_at_call 32; (with_reducible refine (anamnesisref02_with.calls (!t176 == t177) 9218868437227405312 t179 _ A19.out).mono ?_); rintro e w' ⟨rfl, ⟨nd, rfl⟩⟩; (try first | exact ⟨rfl, _, World.drewN_drewN _ _ _⟩ | exact ⟨rfl, _, Eq.trans (World.drewN_drewN _ _ _) (congrArg (World.drewN _) (Nat.add_assoc _ _ _))⟩)))
              repeat (go_quiet (first | (go_at_call 32; (with_reducible refine (anamnesisref02_with.calls (!t176 == t177) 9218868437227405312 t179 _ A19.out).mono ?_); rintro e w' ⟨rfl, ⟨nd, rfl⟩⟩; (try first | exact ⟨rfl, _, World.drewN_drewN _ _ _⟩ | exact ⟨rfl, _, Eq.trans (World.drewN_drewN _ _ _) (congrArg (World.drewN _) (Nat.add_assoc _ _ _))⟩))); try go_wp2_with (first | (go_at_call 32; (with_reducible refine (anamnesisref02_with.calls (!t176 == t177) 9218868437227405312 t179 _ A19.out).mono ?_); rintro e w' ⟨rfl, ⟨nd, rfl⟩⟩; (try first | exact ⟨rfl, _, World.drewN_drewN _ _ _⟩ | exact ⟨rfl, _, Eq.trans (World.drewN_drewN _ _ _) (congrArg (World.drewN _) (Nat.add_assoc _ _ _))⟩))))
              go_ret
              exact ⟨by first | rfl | (simp [errW_none, errW_some] <;> rfl) | (simp [*, errW_none, errW_some] <;> rfl) | (simp [wrap64, errW_none, errW_some]; done), by repeat (first | (with_reducible first | exact HB.out | apply below_alloc | apply pw_below_drewN | apply below_drew1) | exact HB.out)⟩
            · replace c18 := Bool.eq_false_iff.mpr c18
              subst c18
              have H1 : (if t174 = 2 then (anamnesisref02_quotient.j2 kj15 a0 a1 (!t176 == t177) true) else (anamnesisref02_quotient.j2 kj15 a0 a1 (!t176 == t177) (t175 == 1))) = some r := by rw [if_neg (show ¬ (false = true) by decide)] at H; exact H
              clear H
              have H := H1
              clear H1
              have HC20 := Aside0.mk H
              clear H
              go_upto_region 7 with (fail)
              repeat (go_quiet (fail); go_upto_region 7 with (fail))
              go_cut [60] (fun v60 wc => ∃ (kq : Nat) (x60_19 : Bool), v60 = .bool x60_19 ∧ Aside0 (anamnesisref02_quotient.j2 kq a0 a1 (!t176 == t177) x60_19 = some r) ∧ Aside0 (kq ≤ kj15) ∧ Aside0 (Below w.heap.size w wc))
              case first =>
                have H := HC20.out
                clear HC20
                by_cases c21 : t174 = 2
                · rw [if_pos c21] at H
                  have c21b0 : (t174 == 2) = true := beq_iff_eq.mpr c21
                  have c21b1 : (t174 != 2) = false := bne_eq_false_iff_eq.mpr c21
                  clear c21
                  (first | rw [c21b0] | (simp only [i64_w, i32_w]; rw [c21b0]) | skip)
                  have H' := Aside0.mk H
                  clear H
                  go_wp2
                  repeat (go_quiet (fail); try go_wp2)
                  go_meet
                  case rel => exact ⟨_, (true), (by first | rfl | (simp; done) | (simp [*]; done)), H', ⟨by have := HJ6.out; have := HJ15.out; first | omega | exact Nat.le_refl _⟩, ⟨by repeat (first | (with_reducible first | exact HB.out | apply below_alloc | apply pw_below_drewN | apply below_drew1) | exact HB.out)⟩⟩
                · rw [if_neg c21] at H
                  have c21b0 : (t174 == 2) = false := beq_eq_false_iff_ne.mpr c21
                  have c21b1 : (t174 != 2) = true := bne_iff_ne.mpr c21
                  (first | rw [c21b0] | (simp only [i64_w, i32_w]; rw [c21b0]) | skip)
                  have H' := Aside0.mk H
                  clear H
                  go_wp2
                  repeat (go_quiet (fail); try go_wp2)
                  go_meet
                  case rel => exact ⟨_, ((t175 == 1)), (by first | rfl | (simp; done) | (simp [*]; done)), H', ⟨by have := HJ6.out; have := HJ15.out; first | omega | exact Nat.le_refl _⟩, ⟨by repeat (first | (with_reducible first | exact HB.out | apply below_alloc | apply pw_below_drewN | apply below_drew1) | exact HB.out)⟩⟩
              case rest =>
                clear HC20
                try clear c1
                try clear c2
                try clear p2
                try clear c3
                try clear p6
                try clear c8
                try clear c8b0
                try clear c8b1
                try clear c9
                try clear c9b0
                try clear c9b1
                try clear c10
                try clear c10b0
                try clear c10b1
                try clear c11
                try clear c11b0
                try clear c11b1
                try clear c12
                try clear c12b0
                try clear c12b1
                try clear c13
                try clear c13b0
                try clear c13b1
                try clear c14
                try clear c17
                try clear c17b0
                try clear c17b1
                try clear c18
                try clear c21
                try clear c21b0
                try clear c21b1
                try clear p2
                try clear p6
                obtain ⟨kq, x60_19, rfl, HA, HJ19, HB⟩ := hcut
                cases kq with
                | zero => exact absurd HA.out (by simp [anamnesisref02_quotient.j2])
                | succ kj19 =>
                  have H := HA.out
                  clear HA
                  simp only [anamnesisref02_quotient.j2] at H
                  by_cases c22 : x60_19 = true
                  · subst c22
                    have H1 : ((anamnesisref02_with.f (!t176 == t177) 0).bind fun t180 => (some t180)) = some r := by rw [if_pos rfl] at H; exact H
                    clear H
                    have H := H1
                    clear H1
                    replace H := Option.bind_eq_some_iff.mp H
                    obtain ⟨t180, A230, H⟩ := H
                    replace H : (some t180) = some r := H
                    have A23 := Aside0.mk A230
                    clear A230
                    obtain rfl := Option.some.inj H
                    go_wp2_with (first | (go_at_call 32; (with_reducible refine (anamnesisref02_with.calls (!t176 == t177) 0 t180 _ A23.out).mono ?_); rintro e w' ⟨rfl, ⟨nd, rfl⟩⟩; (try first | exact ⟨rfl, _, World.drewN_drewN _ _ _⟩ | exact ⟨rfl, _, Eq.trans (World.drewN_drewN _ _ _) (congrArg (World.drewN _) (Nat.add_assoc _ _ _))⟩)))
                    repeat (go_quiet (first | (go_at_call 32; (with_reducible refine (anamnesisref02_with.calls (!t176 == t177) 0 t180 _ A23.out).mono ?_); rintro e w' ⟨rfl, ⟨nd, rfl⟩⟩; (try first | exact ⟨rfl, _, World.drewN_drewN _ _ _⟩ | exact ⟨rfl, _, Eq.trans (World.drewN_drewN _ _ _) (congrArg (World.drewN _) (Nat.add_assoc _ _ _))⟩))); try go_wp2_with (first | (go_at_call 32; (with_reducible refine (anamnesisref02_with.calls (!t176 == t177) 0 t180 _ A23.out).mono ?_); rintro e w' ⟨rfl, ⟨nd, rfl⟩⟩; (try first | exact ⟨rfl, _, World.drewN_drewN _ _ _⟩ | exact ⟨rfl, _, Eq.trans (World.drewN_drewN _ _ _) (congrArg (World.drewN _) (Nat.add_assoc _ _ _))⟩))))
                    go_ret
                    exact ⟨by first | rfl | (simp [errW_none, errW_some] <;> rfl) | (simp [*, errW_none, errW_some] <;> rfl) | (simp [wrap64, errW_none, errW_some]; done), by repeat (first | (with_reducible first | exact HB.out | apply below_alloc | apply pw_below_drewN | apply below_drew1) | exact HB.out)⟩
                  · replace c22 := Bool.eq_false_iff.mpr c22
                    subst c22
                    have H1 : ((anamnesisref02_part.f kj19 a0).bind fun bt181 => ((anamnesisref02_part.f kj19 a1).bind fun bt183 => (if bt183.1 = 0 then (none) else (anamnesisref02_quotient.l0 kj19 (!t176 == t177) bt181.2 bt183.1 bt183.2 (wrap64 (Int.tdiv bt181.1 bt183.1)) (Int.tmod bt181.1 bt183.1) 0)))) = some r := by rw [if_neg (show ¬ (false = true) by decide)] at H; exact H
                    clear H
                    have H := H1
                    clear H1
                    replace H := Option.bind_eq_some_iff.mp H
                    obtain ⟨⟨t181, t182⟩, A240, H⟩ := H
                    replace H : ((anamnesisref02_part.f kj19 a1).bind fun bt183 => (if bt183.1 = 0 then (none) else (anamnesisref02_quotient.l0 kj19 (!t176 == t177) t182 bt183.1 bt183.2 (wrap64 (Int.tdiv t181 bt183.1)) (Int.tmod t181 bt183.1) 0))) = some r := H
                    have A24 := Aside0.mk A240
                    clear A240
                    replace H := Option.bind_eq_some_iff.mp H
                    obtain ⟨⟨t183, t184⟩, A250, H⟩ := H
                    replace H : (if t183 = 0 then (none) else (anamnesisref02_quotient.l0 kj19 (!t176 == t177) t182 t183 t184 (wrap64 (Int.tdiv t181 t183)) (Int.tmod t181 t183) 0)) = some r := H
                    have A25 := Aside0.mk A250
                    clear A250
                    by_cases c26 : t183 = 0
                    · rw [if_pos c26] at H
                      exact absurd H (by simp)
                    · rw [if_neg c26] at H
                      have c26b0 : (t183 == 0) = false := beq_eq_false_iff_ne.mpr c26
                      have c26b1 : (t183 != 0) = true := bne_iff_ne.mpr c26
                      have H' := Aside0.mk H
                      clear H
                      go_wp2_with (first | (go_at_call 38; (with_reducible refine (anamnesisref02_part.calls kj19 a0 t181 t182 _ A24.out).mono ?_); rintro e w' ⟨rfl, ⟨nd, rfl⟩⟩; (try first | exact ⟨rfl, _, World.drewN_drewN _ _ _⟩ | exact ⟨rfl, _, Eq.trans (World.drewN_drewN _ _ _) (congrArg (World.drewN _) (Nat.add_assoc _ _ _))⟩)) | (go_at_call 38; (with_reducible refine (anamnesisref02_part.calls kj19 a1 t183 t184 _ A25.out).mono ?_); rintro e w' ⟨rfl, ⟨nd, rfl⟩⟩; (try first | exact ⟨rfl, _, World.drewN_drewN _ _ _⟩ | exact ⟨rfl, _, Eq.trans (World.drewN_drewN _ _ _) (congrArg (World.drewN _) (Nat.add_assoc _ _ _))⟩)))
                      repeat (go_quiet (first | (go_at_call 38; (with_reducible refine (anamnesisref02_part.calls kj19 a0 t181 t182 _ A24.out).mono ?_); rintro e w' ⟨rfl, ⟨nd, rfl⟩⟩; (try first | exact ⟨rfl, _, World.drewN_drewN _ _ _⟩ | exact ⟨rfl, _, Eq.trans (World.drewN_drewN _ _ _) (congrArg (World.drewN _) (Nat.add_assoc _ _ _))⟩)) | (go_at_call 38; (with_reducible refine (anamnesisref02_part.calls kj19 a1 t183 t184 _ A25.out).mono ?_); rintro e w' ⟨rfl, ⟨nd, rfl⟩⟩; (try first | exact ⟨rfl, _, World.drewN_drewN _ _ _⟩ | exact ⟨rfl, _, Eq.trans (World.drewN_drewN _ _ _) (congrArg (World.drewN _) (Nat.add_assoc _ _ _))⟩))); try go_wp2_with (first | (go_at_call 38; (with_reducible refine (anamnesisref02_part.calls kj19 a0 t181 t182 _ A24.out).mono ?_); rintro e w' ⟨rfl, ⟨nd, rfl⟩⟩; (try first | exact ⟨rfl, _, World.drewN_drewN _ _ _⟩ | exact ⟨rfl, _, Eq.trans (World.drewN_drewN _ _ _) (congrArg (World.drewN _) (Nat.add_assoc _ _ _))⟩)) | (go_at_call 38; (with_reducible refine (anamnesisref02_part.calls kj19 a1 t183 t184 _ A25.out).mono ?_); rintro e w' ⟨rfl, ⟨nd, rfl⟩⟩; (try first | exact ⟨rfl, _, World.drewN_drewN _ _ _⟩ | exact ⟨rfl, _, Eq.trans (World.drewN_drewN _ _ _) (congrArg (World.drewN _) (Nat.add_assoc _ _ _))⟩))))
                      go_loopg [12, 13, 14] kj19 (fun kq v12 v13 v14 w' => ∃ (x12_4 : Int) (x13_4 : Int) (x14_4 : Int), v12 = .int .i64 x12_4 ∧ v13 = .int .i64 x13_4 ∧ v14 = .int .i64 x14_4 ∧ Aside0 (anamnesisref02_quotient.l0 kq (!t176 == t177) t182 t183 t184 x12_4 x13_4 x14_4 = some r) ∧ Aside0 (kq ≤ kj19) ∧ Aside0 (Below w.heap.size w w'))
                      case atStart => exact ⟨(wrap64 (Int.tdiv t181 t183)), (Int.tmod t181 t183), (0), (by first | rfl | (simp; done) | (simp [*]; done)), (by first | rfl | (simp; done) | (simp [*]; done)), (by first | rfl | (simp; done) | (simp [*]; done)), H', ⟨Nat.le_refl _⟩, ⟨by repeat (first | (with_reducible first | exact HB.out | apply below_alloc | apply pw_below_drewN | apply below_drew1) | exact HB.out)⟩⟩
                      case round =>
                        clear H'
                        try clear c1
                        try clear c2
                        try clear p2
                        try clear c3
                        try clear p6
                        try clear c8
                        try clear c8b0
                        try clear c8b1
                        try clear c9
                        try clear c9b0
                        try clear c9b1
                        try clear c10
                        try clear c10b0
                        try clear c10b1
                        try clear c11
                        try clear c11b0
                        try clear c11b1
                        try clear c12
                        try clear c12b0
                        try clear c12b1
                        try clear c13
                        try clear c13b0
                        try clear c13b1
                        try clear c14
                        try clear c17
                        try clear c17b0
                        try clear c17b1
                        try clear c18
                        try clear c21
                        try clear c21b0
                        try clear c21b1
                        try clear c22
                        try clear c26
                        try clear c26b0
                        try clear c26b1
                        try clear p2
                        try clear p6
                        obtain ⟨x12_4, x13_4, x14_4, rfl, rfl, rfl, HA, HK4, HB⟩ := hrel
                        cases gk with
                        | zero => exact absurd HA.out (by simp [anamnesisref02_quotient.l0])
                        | succ k4 =>
                          have H := HA.out
                          clear HA
                          simp only [anamnesisref02_quotient.l0] at H
                          by_cases c27 : x14_4 < 60
                          · rw [if_pos c27] at H
                            have c27b0 : decide (x14_4 < 60) = true := decide_eq_true c27
                            clear c27
                            by_cases c28 : (wrap64 (2 * x13_4)) ≥ t183
                            · rw [if_pos c28] at H
                              have c28b0 : decide (t183 ≤ (wrap64 (2 * x13_4))) = true := decide_eq_true c28
                              clear c28
                              have H' := Aside0.mk H
                              clear H
                              go_wp2
                              repeat (go_quiet (fail); try go_wp2)
                              go_roundg k4
                              case measure => have := HJ6.out; have := HJ15.out; have := HJ19.out; have := HK4.out; omega
                              case rel => exact ⟨(wrap64 ((wrap64 (2 * x12_4)) + 1)), (wrap64 ((wrap64 (2 * x13_4)) - t183)), (wrap64 (x14_4 + 1)), (by first | rfl | (simp; done) | (simp [*]; done)), (by first | rfl | (simp; done) | (simp [*]; done)), (by first | rfl | (simp; done) | (simp [*]; done)), H', ⟨by have := HJ6.out; have := HJ15.out; have := HJ19.out; have := HK4.out; omega⟩, ⟨by repeat (first | (with_reducible first | exact HB.out | apply below_alloc | apply pw_below_drewN | apply below_drew1) | exact HB.out)⟩⟩
                            · rw [if_neg c28] at H
                              have c28b0 : decide (t183 ≤ (wrap64 (2 * x13_4))) = false := decide_eq_false c28
                              clear c28
                              have H' := Aside0.mk H
                              clear H
                              go_wp2
                              repeat (go_quiet (fail); try go_wp2)
                              go_roundg k4
                              case measure => have := HJ6.out; have := HJ15.out; have := HJ19.out; have := HK4.out; omega
                              case rel => exact ⟨(wrap64 (2 * x12_4)), (wrap64 (2 * x13_4)), (wrap64 (x14_4 + 1)), (by first | rfl | (simp; done) | (simp [*]; done)), (by first | rfl | (simp; done) | (simp [*]; done)), (by first | rfl | (simp; done) | (simp [*]; done)), H', ⟨by have := HJ6.out; have := HJ15.out; have := HJ19.out; have := HK4.out; omega⟩, ⟨by repeat (first | (with_reducible first | exact HB.out | apply below_alloc | apply pw_below_drewN | apply below_drew1) | exact HB.out)⟩⟩
                          · rw [if_neg c27] at H
                            have c27b0 : decide (x14_4 < 60) = false := decide_eq_false c27
                            clear c27
                            replace H := Option.bind_eq_some_iff.mp H
                            obtain ⟨t185, A290, H⟩ := H
                            replace H : ((anamnesisref02_with.f (!t176 == t177) t185).bind fun t186 => (some t186)) = some r := H
                            have A29 := Aside0.mk A290
                            clear A290
                            replace H := Option.bind_eq_some_iff.mp H
                            obtain ⟨t186, A300, H⟩ := H
                            replace H : (some t186) = some r := H
                            have A30 := Aside0.mk A300
                            clear A300
                            obtain rfl := Option.some.inj H
                            go_wp2_with (first | (go_at_call 41; (with_reducible refine (anamnesisref02_round.calls k4 x12_4 (wrap64 ((wrap64 (t182 - t184)) - 60)) (x13_4 != 0) t185 _ A29.out).mono ?_); rintro e w31 ⟨rfl, hb⟩; have n0_ := Aside0.mk (below_step (by repeat (first | (with_reducible first | exact HB.out | apply below_alloc | apply pw_below_drewN | apply below_drew1) | exact HB.out)) hb); clear HB; have HB := n0_; clear n0_; (try clear hb); (try clear hb2); (try clear hk); (try clear hi)) | (go_at_call 32; (with_reducible refine (anamnesisref02_with.calls (!t176 == t177) t185 t186 _ A30.out).mono ?_); rintro e w' ⟨rfl, ⟨nd, rfl⟩⟩; (try first | exact ⟨rfl, _, World.drewN_drewN _ _ _⟩ | exact ⟨rfl, _, Eq.trans (World.drewN_drewN _ _ _) (congrArg (World.drewN _) (Nat.add_assoc _ _ _))⟩)))
                            repeat (go_quiet (first | (go_at_call 41; (with_reducible refine (anamnesisref02_round.calls k4 x12_4 (wrap64 ((wrap64 (t182 - t184)) - 60)) (x13_4 != 0) t185 _ A29.out).mono ?_); rintro e w31 ⟨rfl, hb⟩; have n0_ := Aside0.mk (below_step (by repeat (first | (with_reducible first | exact HB.out | apply below_alloc | apply pw_below_drewN | apply below_drew1) | exact HB.out)) hb); clear HB; have HB := n0_; clear n0_; (try clear hb); (try clear hb2); (try clear hk); (try clear hi)) | (go_at_call 32; (with_reducible refine (anamnesisref02_with.calls (!t176 == t177) t185 t186 _ A30.out).mono ?_); rintro e w' ⟨rfl, ⟨nd, rfl⟩⟩; (try first | exact ⟨rfl, _, World.drewN_drewN _ _ _⟩ | exact ⟨rfl, _, Eq.trans (World.drewN_drewN _ _ _) (congrArg (World.drewN _) (Nat.add_assoc _ _ _))⟩))); try go_wp2_with (first | (go_at_call 41; (with_reducible refine (anamnesisref02_round.calls k4 x12_4 (wrap64 ((wrap64 (t182 - t184)) - 60)) (x13_4 != 0) t185 _ A29.out).mono ?_); rintro e w31 ⟨rfl, hb⟩; have n0_ := Aside0.mk (below_step (by repeat (first | (with_reducible first | exact HB.out | apply below_alloc | apply pw_below_drewN | apply below_drew1) | exact HB.out)) hb); clear HB; have HB := n0_; clear n0_; (try clear hb); (try clear hb2); (try clear hk); (try clear hi)) | (go_at_call 32; (with_reducible refine (anamnesisref02_with.calls (!t176 == t177) t185 t186 _ A30.out).mono ?_); rintro e w' ⟨rfl, ⟨nd, rfl⟩⟩; (try first | exact ⟨rfl, _, World.drewN_drewN _ _ _⟩ | exact ⟨rfl, _, Eq.trans (World.drewN_drewN _ _ _) (congrArg (World.drewN _) (Nat.add_assoc _ _ _))⟩))))
                            go_ret
                            exact ⟨by first | rfl | (simp [errW_none, errW_some] <;> rfl) | (simp [*, errW_none, errW_some] <;> rfl) | (simp [wrap64, errW_none, errW_some]; done), by repeat (first | (with_reducible first | exact HB.out | apply below_alloc | apply pw_below_drewN | apply below_drew1) | exact HB.out)⟩

/-! ### anamnesisref02_Op: function 13 -/
def anamnesisref02_Op.f (k : Nat) (a0 : Int) (a1 : Int) (a2 : Int) : Option (Int) := if a0 = 0 then ((anamnesisref02_sum.f k a1 a2).bind fun t187 => (some t187)) else (if a0 = 1 then ((anamnesisref02_Kind.f a2).bind fun t188 => (if t188 = 0 then ((anamnesisref02_NaN.f).bind fun t189 => (some t189)) else ((anamnesisref02_sign.f a2).bind fun t190 => ((anamnesisref02_plain.f a2).bind fun t191 => ((anamnesisref02_with.f (!t190) t191).bind fun t192 => ((anamnesisref02_sum.f k a1 t192).bind fun t193 => (some t193))))))) else (if a0 = 2 then ((anamnesisref02_product.f k a1 a2).bind fun t194 => (some t194)) else (if a0 = 3 then ((anamnesisref02_quotient.f k a1 a2).bind fun t195 => (some t195)) else ((anamnesisref02_NaN.f).bind fun t196 => (some t196)))))
theorem anamnesisref02_Op.mono : ∀ a0 a1 a2 k, LeO (anamnesisref02_Op.f k a0 a1 a2) (anamnesisref02_Op.f (k + 1) a0 a1 a2) := by
  intro a0 a1 a2 k
  unfold anamnesisref02_Op.f
  repeat' first
      | (with_reducible exact anamnesisref02_product.mono _ _ _)
      | (with_reducible exact anamnesisref02_quotient.mono _ _ _)
      | (with_reducible exact anamnesisref02_sum.mono _ _ _)
      | (with_reducible exact LeO.refl _)
      | (with_reducible exact LeO.none _)
      | (with_reducible refine LeO.ite ?_ ?_)
      | (with_reducible refine LeO.bind ?_ (fun _ => ?_))
      | exact anamnesisref02_product.mono _ _ _
      | exact anamnesisref02_quotient.mono _ _ _
      | exact anamnesisref02_sum.mono _ _ _
      | exact LeO.none _
      | refine LeO.ite ?_ ?_
      | refine LeO.bind ?_ (fun _ => ?_)
set_option maxHeartbeats 8000000 in
set_option maxRecDepth 100000 in
theorem anamnesisref02_Op.calls (k : Nat) (a0 : Int) (a1 : Int) (a2 : Int) (r : Int) (w : World) (h : anamnesisref02_Op.f k a0 a1 a2 = some r) :
    Calls Try.prog 13 #[.int .i64 a0, .int .i64 a1, .int .i64 a2] w fun e w' => e = .returned (.int .i64 r) ∧ Below w.heap.size w w' := by
  have HB := Aside0.mk (Below.refl w.heap.size w)
  have H : (if a0 = 0 then ((anamnesisref02_sum.f k a1 a2).bind fun t187 => (some t187)) else (if a0 = 1 then ((anamnesisref02_Kind.f a2).bind fun t188 => (if t188 = 0 then ((anamnesisref02_NaN.f).bind fun t189 => (some t189)) else ((anamnesisref02_sign.f a2).bind fun t190 => ((anamnesisref02_plain.f a2).bind fun t191 => ((anamnesisref02_with.f (!t190) t191).bind fun t192 => ((anamnesisref02_sum.f k a1 t192).bind fun t193 => (some t193))))))) else (if a0 = 2 then ((anamnesisref02_product.f k a1 a2).bind fun t194 => (some t194)) else (if a0 = 3 then ((anamnesisref02_quotient.f k a1 a2).bind fun t195 => (some t195)) else ((anamnesisref02_NaN.f).bind fun t196 => (some t196)))))) = some r := h
  clear h
  by_cases c4 : a0 = 0
  · rw [if_pos c4] at H
    have c4b0 : (a0 == 0) = true := beq_iff_eq.mpr c4
    have c4b1 : (a0 != 0) = false := bne_eq_false_iff_eq.mpr c4
    clear c4
    replace H := Option.bind_eq_some_iff.mp H
    obtain ⟨t187, A50, H⟩ := H
    replace H : (some t187) = some r := H
    have A5 := Aside0.mk A50
    clear A50
    obtain rfl := Option.some.inj H
    go_enter Try.func13, Try.ntmps13
    go_wp2_with (first | ((with_reducible refine gate_callee (f := 31) rfl ?_); refine goesL_ (some 12) rfl rfl Try.func31 (by kernel_rfl) rfl #[.int .i64 a1, .int .i64 a2] rfl (by (try simp only [List.map_toArray, List.map_cons, List.map_nil]); first | done | rfl | (simp only [List.length_drop, List.length_take]; rfl)) ?_; (with_reducible refine (anamnesisref02_sum.calls k a1 a2 t187 _ A5.out).mono ?_); rintro e w6 ⟨rfl, hb⟩; refine ⟨_, rfl, ?_⟩; have n0_ := Aside0.mk (below_step (by repeat (first | (with_reducible first | exact HB.out | apply below_alloc | apply pw_below_drewN | apply below_drew1) | exact HB.out)) hb); clear HB; have HB := n0_; clear n0_; (try clear hb); (try clear hb2); (try clear hk); (try clear hi)))
    go_ret
    exact ⟨by first | rfl | (simp [errW_none, errW_some] <;> rfl) | (simp [*, errW_none, errW_some] <;> rfl) | (simp [wrap64, errW_none, errW_some]; done), by repeat (first | (with_reducible first | exact HB.out | apply below_alloc | apply pw_below_drewN | apply below_drew1) | exact HB.out)⟩
  · rw [if_neg c4] at H
    have c4b0 : (a0 == 0) = false := beq_eq_false_iff_ne.mpr c4
    have c4b1 : (a0 != 0) = true := bne_iff_ne.mpr c4
    by_cases c7 : a0 = 1
    · rw [if_pos c7] at H
      have c7b0 : (a0 == 1) = true := beq_iff_eq.mpr c7
      have c7b1 : (a0 != 1) = false := bne_eq_false_iff_eq.mpr c7
      clear c7
      replace H := Option.bind_eq_some_iff.mp H
      obtain ⟨t188, A80, H⟩ := H
      replace H : (if t188 = 0 then ((anamnesisref02_NaN.f).bind fun t189 => (some t189)) else ((anamnesisref02_sign.f a2).bind fun t190 => ((anamnesisref02_plain.f a2).bind fun t191 => ((anamnesisref02_with.f (!t190) t191).bind fun t192 => ((anamnesisref02_sum.f k a1 t192).bind fun t193 => (some t193)))))) = some r := H
      have A8 := Aside0.mk A80
      clear A80
      by_cases c9 : t188 = 0
      · rw [if_pos c9] at H
        have c9b0 : (t188 == 0) = true := beq_iff_eq.mpr c9
        have c9b1 : (t188 != 0) = false := bne_eq_false_iff_eq.mpr c9
        clear c9
        replace H := Option.bind_eq_some_iff.mp H
        obtain ⟨t189, A100, H⟩ := H
        replace H : (some t189) = some r := H
        have A10 := Aside0.mk A100
        clear A100
        obtain rfl := Option.some.inj H
        go_enter Try.func13, Try.ntmps13
        go_wp2_with (first | ((with_reducible refine gate_callee (f := 17) rfl ?_); refine goesL_ (some 16) rfl rfl Try.func17 (by kernel_rfl) rfl #[.int .i64 a2] rfl (by (try simp only [List.map_toArray, List.map_cons, List.map_nil]); first | done | rfl | (simp only [List.length_drop, List.length_take]; rfl)) ?_; (with_reducible refine (anamnesisref02_Kind.calls a2 t188 _ A8.out).mono ?_); rintro e w' ⟨rfl, ⟨nd, rfl⟩⟩; refine ⟨_, rfl, ?_⟩) | ((with_reducible refine gate_callee (f := 28) rfl ?_); refine goesL_ (some 18) rfl rfl Try.func28 (by kernel_rfl) rfl #[] rfl (by (try simp only [List.map_toArray, List.map_cons, List.map_nil]); first | done | rfl | (simp only [List.length_drop, List.length_take]; rfl)) ?_; (with_reducible refine (anamnesisref02_NaN.calls  t189 _ A10.out).mono ?_); rintro e w' ⟨rfl, ⟨nd, rfl⟩⟩; refine ⟨_, rfl, ?_⟩))
        go_ret
        exact ⟨by first | rfl | (simp [errW_none, errW_some] <;> rfl) | (simp [*, errW_none, errW_some] <;> rfl) | (simp [wrap64, errW_none, errW_some]; done), by repeat (first | (with_reducible first | exact HB.out | apply below_alloc | apply pw_below_drewN | apply below_drew1) | exact HB.out)⟩
      · rw [if_neg c9] at H
        have c9b0 : (t188 == 0) = false := beq_eq_false_iff_ne.mpr c9
        have c9b1 : (t188 != 0) = true := bne_iff_ne.mpr c9
        replace H := Option.bind_eq_some_iff.mp H
        obtain ⟨t190, A110, H⟩ := H
        replace H : ((anamnesisref02_plain.f a2).bind fun t191 => ((anamnesisref02_with.f (!t190) t191).bind fun t192 => ((anamnesisref02_sum.f k a1 t192).bind fun t193 => (some t193)))) = some r := H
        have A11 := Aside0.mk A110
        clear A110
        replace H := Option.bind_eq_some_iff.mp H
        obtain ⟨t191, A120, H⟩ := H
        replace H : ((anamnesisref02_with.f (!t190) t191).bind fun t192 => ((anamnesisref02_sum.f k a1 t192).bind fun t193 => (some t193))) = some r := H
        have A12 := Aside0.mk A120
        clear A120
        replace H := Option.bind_eq_some_iff.mp H
        obtain ⟨t192, A130, H⟩ := H
        replace H : ((anamnesisref02_sum.f k a1 t192).bind fun t193 => (some t193)) = some r := H
        have A13 := Aside0.mk A130
        clear A130
        replace H := Option.bind_eq_some_iff.mp H
        obtain ⟨t193, A140, H⟩ := H
        replace H : (some t193) = some r := H
        have A14 := Aside0.mk A140
        clear A140
        obtain rfl := Option.some.inj H
        go_enter Try.func13, Try.ntmps13
        go_wp2_with (first | ((with_reducible refine gate_callee (f := 17) rfl ?_); refine goesL_ (some 16) rfl rfl Try.func17 (by kernel_rfl) rfl #[.int .i64 a2] rfl (by (try simp only [List.map_toArray, List.map_cons, List.map_nil]); first | done | rfl | (simp only [List.length_drop, List.length_take]; rfl)) ?_; (with_reducible refine (anamnesisref02_Kind.calls a2 t188 _ A8.out).mono ?_); rintro e w' ⟨rfl, ⟨nd, rfl⟩⟩; refine ⟨_, rfl, ?_⟩) | ((with_reducible refine gate_callee (f := 33) rfl ?_); refine goesL_ (some 21) rfl rfl Try.func33 (by kernel_rfl) rfl #[.int .i64 a2] rfl (by (try simp only [List.map_toArray, List.map_cons, List.map_nil]); first | done | rfl | (simp only [List.length_drop, List.length_take]; rfl)) ?_; (with_reducible refine (anamnesisref02_sign.calls a2 t190 _ A11.out).mono ?_); rintro e w' ⟨rfl, ⟨nd, rfl⟩⟩; refine ⟨_, rfl, ?_⟩) | ((with_reducible refine gate_callee (f := 34) rfl ?_); refine goesL_ (some 24) rfl rfl Try.func34 (by kernel_rfl) rfl #[.int .i64 a2] rfl (by (try simp only [List.map_toArray, List.map_cons, List.map_nil]); first | done | rfl | (simp only [List.length_drop, List.length_take]; rfl)) ?_; (with_reducible refine (anamnesisref02_plain.calls a2 t191 _ A12.out).mono ?_); rintro e w' ⟨rfl, ⟨nd, rfl⟩⟩; refine ⟨_, rfl, ?_⟩) | ((with_reducible refine gate_callee (f := 32) rfl ?_); refine goesL_ (some 25) rfl rfl Try.func32 (by kernel_rfl) rfl #[.bool (!t190), .int .i64 t191] rfl (by (try simp only [List.map_toArray, List.map_cons, List.map_nil]); first | done | rfl | (simp only [List.length_drop, List.length_take]; rfl)) ?_; (with_reducible refine (anamnesisref02_with.calls (!t190) t191 t192 _ A13.out).mono ?_); rintro e w' ⟨rfl, ⟨nd, rfl⟩⟩; refine ⟨_, rfl, ?_⟩) | ((with_reducible refine gate_callee (f := 31) rfl ?_); refine goesL_ (some 26) rfl rfl Try.func31 (by kernel_rfl) rfl #[.int .i64 a1, .int .i64 t192] rfl (by (try simp only [List.map_toArray, List.map_cons, List.map_nil]); first | done | rfl | (simp only [List.length_drop, List.length_take]; rfl)) ?_; (with_reducible refine (anamnesisref02_sum.calls k a1 t192 t193 _ A14.out).mono ?_); rintro e w15 ⟨rfl, hb⟩; refine ⟨_, rfl, ?_⟩; have n0_ := Aside0.mk (below_step (by repeat (first | (with_reducible first | exact HB.out | apply below_alloc | apply pw_below_drewN | apply below_drew1) | exact HB.out)) hb); clear HB; have HB := n0_; clear n0_; (try clear hb); (try clear hb2); (try clear hk); (try clear hi)))
        go_ret
        exact ⟨by first | rfl | (simp [errW_none, errW_some] <;> rfl) | (simp [*, errW_none, errW_some] <;> rfl) | (simp [wrap64, errW_none, errW_some]; done), by repeat (first | (with_reducible first | exact HB.out | apply below_alloc | apply pw_below_drewN | apply below_drew1) | exact HB.out)⟩
    · rw [if_neg c7] at H
      have c7b0 : (a0 == 1) = false := beq_eq_false_iff_ne.mpr c7
      have c7b1 : (a0 != 1) = true := bne_iff_ne.mpr c7
      by_cases c16 : a0 = 2
      · rw [if_pos c16] at H
        have c16b0 : (a0 == 2) = true := beq_iff_eq.mpr c16
        have c16b1 : (a0 != 2) = false := bne_eq_false_iff_eq.mpr c16
        clear c16
        replace H := Option.bind_eq_some_iff.mp H
        obtain ⟨t194, A170, H⟩ := H
        replace H : (some t194) = some r := H
        have A17 := Aside0.mk A170
        clear A170
        obtain rfl := Option.some.inj H
        go_enter Try.func13, Try.ntmps13
        go_wp2_with (first | ((with_reducible refine gate_callee (f := 35) rfl ?_); refine goesL_ (some 31) rfl rfl Try.func35 (by kernel_rfl) rfl #[.int .i64 a1, .int .i64 a2] rfl (by (try simp only [List.map_toArray, List.map_cons, List.map_nil]); first | done | rfl | (simp only [List.length_drop, List.length_take]; rfl)) ?_; (with_reducible refine (anamnesisref02_product.calls k a1 a2 t194 _ A17.out).mono ?_); rintro e w18 ⟨rfl, hb⟩; refine ⟨_, rfl, ?_⟩; have n0_ := Aside0.mk (below_step (by repeat (first | (with_reducible first | exact HB.out | apply below_alloc | apply pw_below_drewN | apply below_drew1) | exact HB.out)) hb); clear HB; have HB := n0_; clear n0_; (try clear hb); (try clear hb2); (try clear hk); (try clear hi)))
        go_ret
        exact ⟨by first | rfl | (simp [errW_none, errW_some] <;> rfl) | (simp [*, errW_none, errW_some] <;> rfl) | (simp [wrap64, errW_none, errW_some]; done), by repeat (first | (with_reducible first | exact HB.out | apply below_alloc | apply pw_below_drewN | apply below_drew1) | exact HB.out)⟩
      · rw [if_neg c16] at H
        have c16b0 : (a0 == 2) = false := beq_eq_false_iff_ne.mpr c16
        have c16b1 : (a0 != 2) = true := bne_iff_ne.mpr c16
        by_cases c19 : a0 = 3
        · rw [if_pos c19] at H
          have c19b0 : (a0 == 3) = true := beq_iff_eq.mpr c19
          have c19b1 : (a0 != 3) = false := bne_eq_false_iff_eq.mpr c19
          clear c19
          replace H := Option.bind_eq_some_iff.mp H
          obtain ⟨t195, A200, H⟩ := H
          replace H : (some t195) = some r := H
          have A20 := Aside0.mk A200
          clear A200
          obtain rfl := Option.some.inj H
          go_enter Try.func13, Try.ntmps13
          go_wp2_with (first | ((with_reducible refine gate_callee (f := 36) rfl ?_); refine goesL_ (some 36) rfl rfl Try.func36 (by kernel_rfl) rfl #[.int .i64 a1, .int .i64 a2] rfl (by (try simp only [List.map_toArray, List.map_cons, List.map_nil]); first | done | rfl | (simp only [List.length_drop, List.length_take]; rfl)) ?_; (with_reducible refine (anamnesisref02_quotient.calls k a1 a2 t195 _ A20.out).mono ?_); rintro e w21 ⟨rfl, hb⟩; refine ⟨_, rfl, ?_⟩; have n0_ := Aside0.mk (below_step (by repeat (first | (with_reducible first | exact HB.out | apply below_alloc | apply pw_below_drewN | apply below_drew1) | exact HB.out)) hb); clear HB; have HB := n0_; clear n0_; (try clear hb); (try clear hb2); (try clear hk); (try clear hi)))
          go_ret
          exact ⟨by first | rfl | (simp [errW_none, errW_some] <;> rfl) | (simp [*, errW_none, errW_some] <;> rfl) | (simp [wrap64, errW_none, errW_some]; done), by repeat (first | (with_reducible first | exact HB.out | apply below_alloc | apply pw_below_drewN | apply below_drew1) | exact HB.out)⟩
        · rw [if_neg c19] at H
          have c19b0 : (a0 == 3) = false := beq_eq_false_iff_ne.mpr c19
          have c19b1 : (a0 != 3) = true := bne_iff_ne.mpr c19
          replace H := Option.bind_eq_some_iff.mp H
          obtain ⟨t196, A220, H⟩ := H
          replace H : (some t196) = some r := H
          have A22 := Aside0.mk A220
          clear A220
          obtain rfl := Option.some.inj H
          go_enter Try.func13, Try.ntmps13
          go_wp2_with (first | ((with_reducible refine gate_callee (f := 28) rfl ?_); refine goesL_ (some 37) rfl rfl Try.func28 (by kernel_rfl) rfl #[] rfl (by (try simp only [List.map_toArray, List.map_cons, List.map_nil]); first | done | rfl | (simp only [List.length_drop, List.length_take]; rfl)) ?_; (with_reducible refine (anamnesisref02_NaN.calls  t196 _ A22.out).mono ?_); rintro e w' ⟨rfl, ⟨nd, rfl⟩⟩; refine ⟨_, rfl, ?_⟩))
          go_ret
          exact ⟨by first | rfl | (simp [errW_none, errW_some] <;> rfl) | (simp [*, errW_none, errW_some] <;> rfl) | (simp [wrap64, errW_none, errW_some]; done), by repeat (first | (with_reducible first | exact HB.out | apply below_alloc | apply pw_below_drewN | apply below_drew1) | exact HB.out)⟩

/-! ### anamnesislaw02_FltTells: function 3 -/
def anamnesislaw02_FltTells.f (k : Nat) (a0 : Int) (a1 : Int) (a2 : Int) : Option (Bool) := (anamnesislaw02_fixed.f).bind fun t197 => ((flt_Op.f a0 a1 a2).bind fun t198 => ((anamnesisref02_Op.f k a0 a1 a2).bind fun t199 => (some (t198 == t199))))
theorem anamnesislaw02_FltTells.mono : ∀ a0 a1 a2 k, LeO (anamnesislaw02_FltTells.f k a0 a1 a2) (anamnesislaw02_FltTells.f (k + 1) a0 a1 a2) := by
  intro a0 a1 a2 k
  unfold anamnesislaw02_FltTells.f
  repeat' first
      | (with_reducible exact anamnesisref02_Op.mono _ _ _ _)
      | (with_reducible exact LeO.refl _)
      | (with_reducible exact LeO.none _)
      | (with_reducible refine LeO.ite ?_ ?_)
      | (with_reducible refine LeO.bind ?_ (fun _ => ?_))
      | exact anamnesisref02_Op.mono _ _ _ _
      | exact LeO.none _
      | refine LeO.ite ?_ ?_
      | refine LeO.bind ?_ (fun _ => ?_)
set_option maxHeartbeats 8000000 in
set_option maxRecDepth 100000 in
theorem anamnesislaw02_FltTells.calls (k : Nat) (a0 : Int) (a1 : Int) (a2 : Int) (r : Bool) (w : World) (h : anamnesislaw02_FltTells.f k a0 a1 a2 = some r) (hr : r = true) :
    Calls Try.prog 3 #[.int .i64 a0, .int .i64 a1, .int .i64 a2] w fun e w' => e = .returned (.bool r) ∧ Below w.heap.size w w' := by
  have hr_ := Aside0.mk hr
  clear hr
  have HB := Aside0.mk (Below.refl w.heap.size w)
  have H : ((anamnesislaw02_fixed.f).bind fun t197 => ((flt_Op.f a0 a1 a2).bind fun t198 => ((anamnesisref02_Op.f k a0 a1 a2).bind fun t199 => (some (t198 == t199))))) = some r := h
  clear h
  replace H := Option.bind_eq_some_iff.mp H
  obtain ⟨t197, A40, H⟩ := H
  replace H : ((flt_Op.f a0 a1 a2).bind fun t198 => ((anamnesisref02_Op.f k a0 a1 a2).bind fun t199 => (some (t198 == t199)))) = some r := H
  have A4 := Aside0.mk A40
  clear A40
  replace H := Option.bind_eq_some_iff.mp H
  obtain ⟨t198, A50, H⟩ := H
  replace H : ((anamnesisref02_Op.f k a0 a1 a2).bind fun t199 => (some (t198 == t199))) = some r := H
  have A5 := Aside0.mk A50
  clear A50
  replace H := Option.bind_eq_some_iff.mp H
  obtain ⟨t199, A60, H⟩ := H
  replace H : (some (t198 == t199)) = some r := H
  have A6 := Aside0.mk A60
  clear A60
  obtain rfl := Option.some.inj H
  go_enter Try.func3, Try.ntmps3
  go_wp2_with (first | ((with_reducible refine gate_callee (f := 11) rfl ?_); refine goesL_ (some 7) rfl rfl Try.func11 (by kernel_rfl) rfl #[] rfl (by (try simp only [List.map_toArray, List.map_cons, List.map_nil]); first | done | rfl | (simp only [List.length_drop, List.length_take]; rfl)) ?_; (with_reducible refine (anamnesislaw02_fixed.calls  t197 _ A4.out).mono ?_); rintro e w7 ⟨rfl, hb⟩; refine ⟨_, rfl, ?_⟩; have n0_ := Aside0.mk (below_step (by repeat (first | (with_reducible first | exact HB.out | apply below_alloc | apply pw_below_drewN | apply below_drew1) | exact HB.out)) hb); clear HB; have HB := n0_; clear n0_; (try clear hb); (try clear hb2); (try clear hk); (try clear hi)) | (go_at_call 12; (with_reducible refine (flt_Op.calls a0 a1 a2 t198 _ A5.out).mono ?_); rintro e w' ⟨rfl, ⟨nd, rfl⟩⟩) | (go_at_call 13; (with_reducible refine (anamnesisref02_Op.calls k a0 a1 a2 t199 _ A6.out).mono ?_); rintro e w8 ⟨rfl, hb⟩; have n0_ := Aside0.mk (below_step (by repeat (first | (with_reducible first | exact HB.out | apply below_alloc | apply pw_below_drewN | apply below_drew1) | exact HB.out)) hb); clear HB; have HB := n0_; clear n0_; (try clear hb); (try clear hb2); (try clear hk); (try clear hi)))
  go_ret
  exact ⟨by first | rfl | (simp [errW_none, errW_some] <;> rfl) | (simp [*, errW_none, errW_some] <;> rfl) | (simp [wrap64, errW_none, errW_some]; done), by repeat (first | (with_reducible first | exact HB.out | apply below_alloc | apply pw_below_drewN | apply below_drew1) | exact HB.out)⟩

/-- THE ONE PURE STATEMENT of anamnesislaw02_FltTells: yours. -/
def anamnesislaw02_FltTells.Pure : Prop := ∀ (a0 : Int) (a1 : Int) (a2 : Int), (Lit.int .i64 a0).wf = true → (Lit.int .i64 a1).wf = true → (Lit.int .i64 a2).wf = true → ∃ k, anamnesislaw02_FltTells.f k a0 a1 a2 = some true
theorem anamnesislaw02_FltTells.walk (P : anamnesislaw02_FltTells.Pure) (a0 : Int) (a1 : Int) (a2 : Int) (w : World) (w0 : (Lit.int .i64 a0).wf = true) (w1 : (Lit.int .i64 a1).wf = true) (w2 : (Lit.int .i64 a2).wf = true) :
    Calls Try.prog 3 #[.int .i64 a0, .int .i64 a1, .int .i64 a2] w fun e w' => e = .returned (.bool true) ∧ Below w.heap.size w w' := by
  obtain ⟨k, h⟩ := P a0 a1 a2 w0 w1 w2
  refine (anamnesislaw02_FltTells.calls k a0 a1 a2 true w h rfl).mono ?_
  rintro e w' ⟨rfl, hd⟩
  exact ⟨rfl, hd⟩

end Go.Proofs.Ytbnpodkfcfdpeaa.PFlt
