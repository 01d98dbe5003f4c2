-- laid by a program of this session (gprint.py)
import Derived.Test.YtbnpodkfcfdpeaaPFltx0
import Derived.Test.YtbnpodkfcfdpeaaPFltx1
import Derived.Test.YtbnpodkfcfdpeaaPFltx2
import Derived.Test.YtbnpodkfcfdpeaaPFltx3
namespace Go.Proofs.Ytbnpodkfcfdpeaa.PFlt
open Go.RowKit Go.Proofs.YtbnpodkfcfdpeaaW.PrintWords Go.Proofs.YtbnpodkfcfdpeaaW.PrintLast Go.Proofs.YtbnpodkfcfdpeaaW.PrintMore
attribute [local go_sem] max2_int min2_int max_two min_two max_three min_three max_four min_four   -- for this text's walks alone
set_option linter.unusedVariables false
set_option linter.unusedSimpArgs false

/-! ### anamnesisref02_product: function 35 -/
mutual
def anamnesisref02_product.j0 : Nat → Int → Int → Int → Int → Bool → Bool → Option (Int)
  | 0, _, _, _, _, _, _ => none
  | k + 1, x0, x1, x5, x6, x7, x48 => if x48 = true then ((anamnesisref02_NaN.f).bind fun t163 => (some t163)) else (if x5 = 1 then (anamnesisref02_product.j1 k x0 x1 x5 x6 x7 true) else (anamnesisref02_product.j1 k x0 x1 x5 x6 x7 (x6 == 1)))
def anamnesisref02_product.j1 : Nat → Int → Int → Int → Int → Bool → Bool → Option (Int)
  | 0, _, _, _, _, _, _ => none
  | k + 1, x0, x1, x5, x6, x7, x55 => if x55 = true then ((anamnesisref02_with.f x7 9218868437227405312).bind fun t164 => (some t164)) else (if x5 = 2 then (anamnesisref02_product.j2 k x0 x1 x7 true) else (anamnesisref02_product.j2 k x0 x1 x7 (x6 == 2)))
def anamnesisref02_product.j2 : Nat → Int → Int → Bool → Bool → Option (Int)
  | 0, _, _, _, _ => none
  | k + 1, x0, x1, x7, x63 => if x63 = true then ((anamnesisref02_with.f x7 0).bind fun t165 => (some t165)) else ((anamnesisref02_part.f k x0).bind fun bt166 => ((anamnesisref02_part.f k x1).bind fun bt168 => (if (Int.tmod (wrap64 ((wrap64 ((wrap64 ((wrap64 (Int.tdiv bt166.1 134217728)) * (Int.tmod bt168.1 134217728))) + (wrap64 ((Int.tmod bt166.1 134217728) * (wrap64 (Int.tdiv bt168.1 134217728)))))) + (wrap64 (Int.tdiv (wrap64 ((Int.tmod bt166.1 134217728) * (Int.tmod bt168.1 134217728))) 134217728)))) 524288) = 0 then ((anamnesisref02_round.f k (wrap64 ((wrap64 ((wrap64 ((wrap64 ((wrap64 (Int.tdiv bt166.1 134217728)) * (wrap64 (Int.tdiv bt168.1 134217728)))) + (wrap64 (Int.tdiv (wrap64 ((wrap64 ((wrap64 ((wrap64 (Int.tdiv bt166.1 134217728)) * (Int.tmod bt168.1 134217728))) + (wrap64 ((Int.tmod bt166.1 134217728) * (wrap64 (Int.tdiv bt168.1 134217728)))))) + (wrap64 (Int.tdiv (wrap64 ((Int.tmod bt166.1 134217728) * (Int.tmod bt168.1 134217728))) 134217728)))) 134217728)))) * 256)) + ((Int.tmod (wrap64 ((wrap64 ((wrap64 ((wrap64 (Int.tdiv bt166.1 134217728)) * (Int.tmod bt168.1 134217728))) + (wrap64 ((Int.tmod bt166.1 134217728) * (wrap64 (Int.tdiv bt168.1 134217728)))))) + (wrap64 (Int.tdiv (wrap64 ((Int.tmod bt166.1 134217728) * (Int.tmod bt168.1 134217728))) 134217728)))) 134217728) / 524288))) (wrap64 ((wrap64 (bt166.2 + bt168.2)) + 46)) ((Int.tmod (wrap64 ((Int.tmod bt166.1 134217728) * (Int.tmod bt168.1 134217728))) 134217728) != 0)).bind fun t170 => ((anamnesisref02_with.f x7 t170).bind fun t171 => (some t171))) else ((anamnesisref02_round.f k (wrap64 ((wrap64 ((wrap64 ((wrap64 ((wrap64 (Int.tdiv bt166.1 134217728)) * (wrap64 (Int.tdiv bt168.1 134217728)))) + (wrap64 (Int.tdiv (wrap64 ((wrap64 ((wrap64 ((wrap64 (Int.tdiv bt166.1 134217728)) * (Int.tmod bt168.1 134217728))) + (wrap64 ((Int.tmod bt166.1 134217728) * (wrap64 (Int.tdiv bt168.1 134217728)))))) + (wrap64 (Int.tdiv (wrap64 ((Int.tmod bt166.1 134217728) * (Int.tmod bt168.1 134217728))) 134217728)))) 134217728)))) * 256)) + ((Int.tmod (wrap64 ((wrap64 ((wrap64 ((wrap64 (Int.tdiv bt166.1 134217728)) * (Int.tmod bt168.1 134217728))) + (wrap64 ((Int.tmod bt166.1 134217728) * (wrap64 (Int.tdiv bt168.1 134217728)))))) + (wrap64 (Int.tdiv (wrap64 ((Int.tmod bt166.1 134217728) * (Int.tmod bt168.1 134217728))) 134217728)))) 134217728) / 524288))) (wrap64 ((wrap64 (bt166.2 + bt168.2)) + 46)) true).bind fun t172 => ((anamnesisref02_with.f x7 t172).bind fun t173 => (some t173))))))
end
def anamnesisref02_product.f (k : Nat) (a0 : Int) (a1 : Int) : Option (Int) := (anamnesisref02_Kind.f a0).bind fun t159 => ((anamnesisref02_Kind.f a1).bind fun t160 => ((anamnesisref02_sign.f a0).bind fun t161 => ((anamnesisref02_sign.f a1).bind fun t162 => (if t159 = 0 then (anamnesisref02_product.j0 k a0 a1 t159 t160 (!t161 == t162) true) else (if t160 = 0 then (anamnesisref02_product.j0 k a0 a1 t159 t160 (!t161 == t162) true) else (if t159 = 1 then (if t160 = 2 then (anamnesisref02_product.j0 k a0 a1 t159 t160 (!t161 == t162) true) else (if t159 = 2 then (anamnesisref02_product.j0 k a0 a1 t159 t160 (!t161 == t162) (t160 == 1)) else (anamnesisref02_product.j0 k a0 a1 t159 t160 (!t161 == t162) false))) else (if t159 = 2 then (anamnesisref02_product.j0 k a0 a1 t159 t160 (!t161 == t162) (t160 == 1)) else (anamnesisref02_product.j0 k a0 a1 t159 t160 (!t161 == t162) false))))))))
theorem anamnesisref02_product.mono_l : ∀ k, (∀ y0 y1 y2 y3 y4 y5, LeO (anamnesisref02_product.j0 k y0 y1 y2 y3 y4 y5) (anamnesisref02_product.j0 (k + 1) y0 y1 y2 y3 y4 y5)) ∧ (∀ y0 y1 y2 y3 y4 y5, LeO (anamnesisref02_product.j1 k y0 y1 y2 y3 y4 y5) (anamnesisref02_product.j1 (k + 1) y0 y1 y2 y3 y4 y5)) ∧ (∀ y0 y1 y2 y3, LeO (anamnesisref02_product.j2 k y0 y1 y2 y3) (anamnesisref02_product.j2 (k + 1) y0 y1 y2 y3))
  | 0 => ⟨fun _ _ _ _ _ _ r h => by simp [anamnesisref02_product.j0] at h, fun _ _ _ _ _ _ r h => by simp [anamnesisref02_product.j1] at h, fun _ _ _ _ r h => by simp [anamnesisref02_product.j2] at h⟩
  | k + 1 => by
    obtain ⟨ih0, ih1, ih2⟩ := anamnesisref02_product.mono_l k
    refine ⟨?_, ?_, ?_⟩
    · intro y0 y1 y2 y3 y4 y5
      unfold anamnesisref02_product.j0
      repeat' first
      | (with_reducible exact ih0 _ _ _ _ _ _)
      | (with_reducible exact ih1 _ _ _ _ _ _)
      | (with_reducible exact ih2 _ _ _ _)
      | (with_reducible exact anamnesisref02_part.mono _ _)
      | (with_reducible exact anamnesisref02_round.mono _ _ _ _)
      | (with_reducible exact LeO.refl _)
      | (with_reducible exact LeO.none _)
      | (with_reducible refine LeO.ite ?_ ?_)
      | (with_reducible refine LeO.bind ?_ (fun _ => ?_))
      | exact ih0 _ _ _ _ _ _
      | exact ih1 _ _ _ _ _ _
      | exact ih2 _ _ _ _
      | exact anamnesisref02_part.mono _ _
      | exact anamnesisref02_round.mono _ _ _ _
      | exact LeO.none _
      | refine LeO.ite ?_ ?_
      | refine LeO.bind ?_ (fun _ => ?_)
    · intro y0 y1 y2 y3 y4 y5
      unfold anamnesisref02_product.j1
      repeat' first
      | (with_reducible exact ih0 _ _ _ _ _ _)
      | (with_reducible exact ih1 _ _ _ _ _ _)
      | (with_reducible exact ih2 _ _ _ _)
      | (with_reducible exact anamnesisref02_part.mono _ _)
      | (with_reducible exact anamnesisref02_round.mono _ _ _ _)
      | (with_reducible exact LeO.refl _)
      | (with_reducible exact LeO.none _)
      | (with_reducible refine LeO.ite ?_ ?_)
      | (with_reducible refine LeO.bind ?_ (fun _ => ?_))
      | exact ih0 _ _ _ _ _ _
      | exact ih1 _ _ _ _ _ _
      | exact ih2 _ _ _ _
      | exact anamnesisref02_part.mono _ _
      | exact anamnesisref02_round.mono _ _ _ _
      | exact LeO.none _
      | refine LeO.ite ?_ ?_
      | refine LeO.bind ?_ (fun _ => ?_)
    · intro y0 y1 y2 y3
      unfold anamnesisref02_product.j2
      repeat' first
      | (with_reducible exact ih0 _ _ _ _ _ _)
      | (with_reducible exact ih1 _ _ _ _ _ _)
      | (with_reducible exact ih2 _ _ _ _)
      | (with_reducible exact anamnesisref02_part.mono _ _)
      | (with_reducible exact anamnesisref02_round.mono _ _ _ _)
      | (with_reducible exact LeO.refl _)
      | (with_reducible exact LeO.none _)
      | (with_reducible refine LeO.ite ?_ ?_)
      | (with_reducible refine LeO.bind ?_ (fun _ => ?_))
      | exact ih0 _ _ _ _ _ _
      | exact ih1 _ _ _ _ _ _
      | exact ih2 _ _ _ _
      | exact anamnesisref02_part.mono _ _
      | exact anamnesisref02_round.mono _ _ _ _
      | exact LeO.none _
      | refine LeO.ite ?_ ?_
      | refine LeO.bind ?_ (fun _ => ?_)
theorem anamnesisref02_product.mono : ∀ a0 a1 k, LeO (anamnesisref02_product.f k a0 a1) (anamnesisref02_product.f (k + 1) a0 a1) := by
  intro a0 a1 k
  obtain ⟨ih0, ih1, ih2⟩ := anamnesisref02_product.mono_l k
  unfold anamnesisref02_product.f
  repeat' first
      | (with_reducible exact ih0 _ _ _ _ _ _)
      | (with_reducible exact ih1 _ _ _ _ _ _)
      | (with_reducible exact ih2 _ _ _ _)
      | (with_reducible exact anamnesisref02_part.mono _ _)
      | (with_reducible exact anamnesisref02_round.mono _ _ _ _)
      | (with_reducible exact LeO.refl _)
      | (with_reducible exact LeO.none _)
      | (with_reducible refine LeO.ite ?_ ?_)
      | (with_reducible refine LeO.bind ?_ (fun _ => ?_))
      | exact ih0 _ _ _ _ _ _
      | exact ih1 _ _ _ _ _ _
      | exact ih2 _ _ _ _
      | exact anamnesisref02_part.mono _ _
      | exact anamnesisref02_round.mono _ _ _ _
      | exact LeO.none _
      | refine LeO.ite ?_ ?_
      | refine LeO.bind ?_ (fun _ => ?_)
set_option maxHeartbeats 8000000 in
set_option maxRecDepth 100000 in
theorem anamnesisref02_product.calls (k : Nat) (a0 : Int) (a1 : Int) (r : Int) (w : World) (h : anamnesisref02_product.f k a0 a1 = some r) :
    Calls Try.prog 35 #[.int .i64 a0, .int .i64 a1] w fun e w' => e = .returned (.int .i64 r) ∧ Below w.heap.size w w' := by
  have HB := Aside0.mk (Below.refl w.heap.size w)
  have H : ((anamnesisref02_Kind.f a0).bind fun t159 => ((anamnesisref02_Kind.f a1).bind fun t160 => ((anamnesisref02_sign.f a0).bind fun t161 => ((anamnesisref02_sign.f a1).bind fun t162 => (if t159 = 0 then (anamnesisref02_product.j0 k a0 a1 t159 t160 (!t161 == t162) true) else (if t160 = 0 then (anamnesisref02_product.j0 k a0 a1 t159 t160 (!t161 == t162) true) else (if t159 = 1 then (if t160 = 2 then (anamnesisref02_product.j0 k a0 a1 t159 t160 (!t161 == t162) true) else (if t159 = 2 then (anamnesisref02_product.j0 k a0 a1 t159 t160 (!t161 == t162) (t160 == 1)) else (anamnesisref02_product.j0 k a0 a1 t159 t160 (!t161 == t162) false))) else (if t159 = 2 then (anamnesisref02_product.j0 k a0 a1 t159 t160 (!t161 == t162) (t160 == 1)) else (anamnesisref02_product.j0 k a0 a1 t159 t160 (!t161 == t162) false))))))))) = some r := h
  clear h
  replace H := Option.bind_eq_some_iff.mp H
  obtain ⟨t159, A30, H⟩ := H
  replace H : ((anamnesisref02_Kind.f a1).bind fun t160 => ((anamnesisref02_sign.f a0).bind fun t161 => ((anamnesisref02_sign.f a1).bind fun t162 => (if t159 = 0 then (anamnesisref02_product.j0 k a0 a1 t159 t160 (!t161 == t162) true) else (if t160 = 0 then (anamnesisref02_product.j0 k a0 a1 t159 t160 (!t161 == t162) true) else (if t159 = 1 then (if t160 = 2 then (anamnesisref02_product.j0 k a0 a1 t159 t160 (!t161 == t162) true) else (if t159 = 2 then (anamnesisref02_product.j0 k a0 a1 t159 t160 (!t161 == t162) (t160 == 1)) else (anamnesisref02_product.j0 k a0 a1 t159 t160 (!t161 == t162) false))) else (if t159 = 2 then (anamnesisref02_product.j0 k a0 a1 t159 t160 (!t161 == t162) (t160 == 1)) else (anamnesisref02_product.j0 k a0 a1 t159 t160 (!t161 == t162) false)))))))) = some r := H
  have A3 := Aside0.mk A30
  clear A30
  replace H := Option.bind_eq_some_iff.mp H
  obtain ⟨t160, A40, H⟩ := H
  replace H : ((anamnesisref02_sign.f a0).bind fun t161 => ((anamnesisref02_sign.f a1).bind fun t162 => (if t159 = 0 then (anamnesisref02_product.j0 k a0 a1 t159 t160 (!t161 == t162) true) else (if t160 = 0 then (anamnesisref02_product.j0 k a0 a1 t159 t160 (!t161 == t162) true) else (if t159 = 1 then (if t160 = 2 then (anamnesisref02_product.j0 k a0 a1 t159 t160 (!t161 == t162) true) else (if t159 = 2 then (anamnesisref02_product.j0 k a0 a1 t159 t160 (!t161 == t162) (t160 == 1)) else (anamnesisref02_product.j0 k a0 a1 t159 t160 (!t161 == t162) false))) else (if t159 = 2 then (anamnesisref02_product.j0 k a0 a1 t159 t160 (!t161 == t162) (t160 == 1)) else (anamnesisref02_product.j0 k a0 a1 t159 t160 (!t161 == t162) false))))))) = some r := H
  have A4 := Aside0.mk A40
  clear A40
  replace H := Option.bind_eq_some_iff.mp H
  obtain ⟨t161, A50, H⟩ := H
  replace H : ((anamnesisref02_sign.f a1).bind fun t162 => (if t159 = 0 then (anamnesisref02_product.j0 k a0 a1 t159 t160 (!t161 == t162) true) else (if t160 = 0 then (anamnesisref02_product.j0 k a0 a1 t159 t160 (!t161 == t162) true) else (if t159 = 1 then (if t160 = 2 then (anamnesisref02_product.j0 k a0 a1 t159 t160 (!t161 == t162) true) else (if t159 = 2 then (anamnesisref02_product.j0 k a0 a1 t159 t160 (!t161 == t162) (t160 == 1)) else (anamnesisref02_product.j0 k a0 a1 t159 t160 (!t161 == t162) false))) else (if t159 = 2 then (anamnesisref02_product.j0 k a0 a1 t159 t160 (!t161 == t162) (t160 == 1)) else (anamnesisref02_product.j0 k a0 a1 t159 t160 (!t161 == t162) false)))))) = some r := H
  have A5 := Aside0.mk A50
  clear A50
  replace H := Option.bind_eq_some_iff.mp H
  obtain ⟨t162, A60, H⟩ := H
  replace H : (if t159 = 0 then (anamnesisref02_product.j0 k a0 a1 t159 t160 (!t161 == t162) true) else (if t160 = 0 then (anamnesisref02_product.j0 k a0 a1 t159 t160 (!t161 == t162) true) else (if t159 = 1 then (if t160 = 2 then (anamnesisref02_product.j0 k a0 a1 t159 t160 (!t161 == t162) true) else (if t159 = 2 then (anamnesisref02_product.j0 k a0 a1 t159 t160 (!t161 == t162) (t160 == 1)) else (anamnesisref02_product.j0 k a0 a1 t159 t160 (!t161 == t162) false))) else (if t159 = 2 then (anamnesisref02_product.j0 k a0 a1 t159 t160 (!t161 == t162) (t160 == 1)) else (anamnesisref02_product.j0 k a0 a1 t159 t160 (!t161 == t162) false))))) = some r := H
  have A6 := Aside0.mk A60
  clear A60
  have HC7 := Aside0.mk H
  clear H
  go_enter Try.func35, Try.ntmps35
  go_upto_region 3 with (first | (go_at_call 17; (with_reducible refine (anamnesisref02_Kind.calls a0 t159 _ A3.out).mono ?_); rintro e w' ⟨rfl, ⟨nd, rfl⟩⟩; (try first | exact ⟨rfl, _, World.drewN_drewN _ _ _⟩ | exact ⟨rfl, _, Eq.trans (World.drewN_drewN _ _ _) (congrArg (World.drewN _) (Nat.add_assoc _ _ _))⟩)) | (go_at_call 17; (with_reducible refine (anamnesisref02_Kind.calls a1 t160 _ A4.out).mono ?_); rintro e w' ⟨rfl, ⟨nd, rfl⟩⟩; (try first | exact ⟨rfl, _, World.drewN_drewN _ _ _⟩ | exact ⟨rfl, _, Eq.trans (World.drewN_drewN _ _ _) (congrArg (World.drewN _) (Nat.add_assoc _ _ _))⟩)) | (go_at_call 33; (with_reducible refine (anamnesisref02_sign.calls a0 t161 _ A5.out).mono ?_); rintro e w' ⟨rfl, ⟨nd, rfl⟩⟩; (try first | exact ⟨rfl, _, World.drewN_drewN _ _ _⟩ | exact ⟨rfl, _, Eq.trans (World.drewN_drewN _ _ _) (congrArg (World.drewN _) (Nat.add_assoc _ _ _))⟩)) | (go_at_call 33; (with_reducible refine (anamnesisref02_sign.calls a1 t162 _ A6.out).mono ?_); rintro e w' ⟨rfl, ⟨nd, rfl⟩⟩; (try first | exact ⟨rfl, _, World.drewN_drewN _ _ _⟩ | exact ⟨rfl, _, Eq.trans (World.drewN_drewN _ _ _) (congrArg (World.drewN _) (Nat.add_assoc _ _ _))⟩)))
  repeat (go_quiet (first | (go_at_call 17; (with_reducible refine (anamnesisref02_Kind.calls a0 t159 _ A3.out).mono ?_); rintro e w' ⟨rfl, ⟨nd, rfl⟩⟩; (try first | exact ⟨rfl, _, World.drewN_drewN _ _ _⟩ | exact ⟨rfl, _, Eq.trans (World.drewN_drewN _ _ _) (congrArg (World.drewN _) (Nat.add_assoc _ _ _))⟩)) | (go_at_call 17; (with_reducible refine (anamnesisref02_Kind.calls a1 t160 _ A4.out).mono ?_); rintro e w' ⟨rfl, ⟨nd, rfl⟩⟩; (try first | exact ⟨rfl, _, World.drewN_drewN _ _ _⟩ | exact ⟨rfl, _, Eq.trans (World.drewN_drewN _ _ _) (congrArg (World.drewN _) (Nat.add_assoc _ _ _))⟩)) | (go_at_call 33; (with_reducible refine (anamnesisref02_sign.calls a0 t161 _ A5.out).mono ?_); rintro e w' ⟨rfl, ⟨nd, rfl⟩⟩; (try first | exact ⟨rfl, _, World.drewN_drewN _ _ _⟩ | exact ⟨rfl, _, Eq.trans (World.drewN_drewN _ _ _) (congrArg (World.drewN _) (Nat.add_assoc _ _ _))⟩)) | (go_at_call 33; (with_reducible refine (anamnesisref02_sign.calls a1 t162 _ A6.out).mono ?_); rintro e w' ⟨rfl, ⟨nd, rfl⟩⟩; (try first | exact ⟨rfl, _, World.drewN_drewN _ _ _⟩ | exact ⟨rfl, _, Eq.trans (World.drewN_drewN _ _ _) (congrArg (World.drewN _) (Nat.add_assoc _ _ _))⟩))); go_upto_region 3 with (first | (go_at_call 17; (with_reducible refine (anamnesisref02_Kind.calls a0 t159 _ A3.out).mono ?_); rintro e w' ⟨rfl, ⟨nd, rfl⟩⟩; (try first | exact ⟨rfl, _, World.drewN_drewN _ _ _⟩ | exact ⟨rfl, _, Eq.trans (World.drewN_drewN _ _ _) (congrArg (World.drewN _) (Nat.add_assoc _ _ _))⟩)) | (go_at_call 17; (with_reducible refine (anamnesisref02_Kind.calls a1 t160 _ A4.out).mono ?_); rintro e w' ⟨rfl, ⟨nd, rfl⟩⟩; (try first | exact ⟨rfl, _, World.drewN_drewN _ _ _⟩ | exact ⟨rfl, _, Eq.trans (World.drewN_drewN _ _ _) (congrArg (World.drewN _) (Nat.add_assoc _ _ _))⟩)) | (go_at_call 33; (with_reducible refine (anamnesisref02_sign.calls a0 t161 _ A5.out).mono ?_); rintro e w' ⟨rfl, ⟨nd, rfl⟩⟩; (try first | exact ⟨rfl, _, World.drewN_drewN _ _ _⟩ | exact ⟨rfl, _, Eq.trans (World.drewN_drewN _ _ _) (congrArg (World.drewN _) (Nat.add_assoc _ _ _))⟩)) | (go_at_call 33; (with_reducible refine (anamnesisref02_sign.calls a1 t162 _ A6.out).mono ?_); rintro e w' ⟨rfl, ⟨nd, rfl⟩⟩; (try first | exact ⟨rfl, _, World.drewN_drewN _ _ _⟩ | exact ⟨rfl, _, Eq.trans (World.drewN_drewN _ _ _) (congrArg (World.drewN _) (Nat.add_assoc _ _ _))⟩))))
  (try simp only [Act.put, List.setIfInBounds_toArray, List.set_cons_zero, List.set_cons_succ])
  go_cut [48] (fun v48 wc => ∃ (kq : Nat) (x48_6 : Bool), v48 = .bool x48_6 ∧ Aside0 (anamnesisref02_product.j0 kq a0 a1 t159 t160 (!t161 == t162) x48_6 = some r) ∧ Aside0 (kq ≤ k) ∧ Aside0 (Below w.heap.size w wc))
  case first =>
    have H := HC7.out
    clear HC7
    by_cases c8 : t159 = 0
    · rw [if_pos c8] at H
      have c8b0 : (t159 == 0) = true := beq_iff_eq.mpr c8
      have c8b1 : (t159 != 0) = false := bne_eq_false_iff_eq.mpr c8
      clear c8
      (first | rw [c8b0] | (simp only [i64_w, i32_w]; rw [c8b0]) | skip)
      have H' := Aside0.mk H
      clear H
      go_wp2
      repeat (go_quiet (fail); try go_wp2)
      go_meet
      case rel => exact ⟨_, (true), (by first | rfl | (simp; done) | (simp [*]; done)), H', ⟨by first | omega | exact Nat.le_refl _⟩, ⟨by repeat (first | (with_reducible first | exact HB.out | apply below_alloc | apply pw_below_drewN | apply below_drew1) | exact HB.out)⟩⟩
    · rw [if_neg c8] at H
      have c8b0 : (t159 == 0) = false := beq_eq_false_iff_ne.mpr c8
      have c8b1 : (t159 != 0) = true := bne_iff_ne.mpr c8
      (first | rw [c8b0] | (simp only [i64_w, i32_w]; rw [c8b0]) | skip)
      by_cases c9 : t160 = 0
      · rw [if_pos c9] at H
        have c9b0 : (t160 == 0) = true := beq_iff_eq.mpr c9
        have c9b1 : (t160 != 0) = false := bne_eq_false_iff_eq.mpr c9
        clear c9
        have H' := Aside0.mk H
        clear H
        go_wp2
        repeat (go_quiet (fail); try go_wp2)
        go_meet
        case rel => exact ⟨_, (true), (by first | rfl | (simp; done) | (simp [*]; done)), H', ⟨by first | omega | exact Nat.le_refl _⟩, ⟨by repeat (first | (with_reducible first | exact HB.out | apply below_alloc | apply pw_below_drewN | apply below_drew1) | exact HB.out)⟩⟩
      · rw [if_neg c9] at H
        have c9b0 : (t160 == 0) = false := beq_eq_false_iff_ne.mpr c9
        have c9b1 : (t160 != 0) = true := bne_iff_ne.mpr c9
        by_cases c10 : t159 = 1
        · rw [if_pos c10] at H
          have c10b0 : (t159 == 1) = true := beq_iff_eq.mpr c10
          have c10b1 : (t159 != 1) = false := bne_eq_false_iff_eq.mpr c10
          clear c10
          by_cases c11 : t160 = 2
          · rw [if_pos c11] at H
            have c11b0 : (t160 == 2) = true := beq_iff_eq.mpr c11
            have c11b1 : (t160 != 2) = false := bne_eq_false_iff_eq.mpr c11
            clear c11
            have H' := Aside0.mk H
            clear H
            go_wp2
            repeat (go_quiet (fail); try go_wp2)
            go_meet
            case rel => exact ⟨_, (true), (by first | rfl | (simp; done) | (simp [*]; done)), H', ⟨by first | omega | exact Nat.le_refl _⟩, ⟨by repeat (first | (with_reducible first | exact HB.out | apply below_alloc | apply pw_below_drewN | apply below_drew1) | exact HB.out)⟩⟩
          · rw [if_neg c11] at H
            have c11b0 : (t160 == 2) = false := beq_eq_false_iff_ne.mpr c11
            have c11b1 : (t160 != 2) = true := bne_iff_ne.mpr c11
            by_cases c12 : t159 = 2
            · rw [if_pos c12] at H
              have c12b0 : (t159 == 2) = true := beq_iff_eq.mpr c12
              have c12b1 : (t159 != 2) = false := bne_eq_false_iff_eq.mpr c12
              clear c12
              have H' := Aside0.mk H
              clear H
              go_wp2
              repeat (go_quiet (fail); try go_wp2)
              go_meet
              case rel => exact ⟨_, ((t160 == 1)), (by first | rfl | (simp; done) | (simp [*]; done)), H', ⟨by first | omega | exact Nat.le_refl _⟩, ⟨by repeat (first | (with_reducible first | exact HB.out | apply below_alloc | apply pw_below_drewN | apply below_drew1) | exact HB.out)⟩⟩
            · rw [if_neg c12] at H
              have c12b0 : (t159 == 2) = false := beq_eq_false_iff_ne.mpr c12
              have c12b1 : (t159 != 2) = true := bne_iff_ne.mpr c12
              have H' := Aside0.mk H
              clear H
              go_wp2
              repeat (go_quiet (fail); try go_wp2)
              go_meet
              case rel => exact ⟨_, (false), (by first | rfl | (simp; done) | (simp [*]; done)), H', ⟨by first | omega | exact Nat.le_refl _⟩, ⟨by repeat (first | (with_reducible first | exact HB.out | apply below_alloc | apply pw_below_drewN | apply below_drew1) | exact HB.out)⟩⟩
        · rw [if_neg c10] at H
          have c10b0 : (t159 == 1) = false := beq_eq_false_iff_ne.mpr c10
          have c10b1 : (t159 != 1) = true := bne_iff_ne.mpr c10
          by_cases c13 : t159 = 2
          · rw [if_pos c13] at H
            have c13b0 : (t159 == 2) = true := beq_iff_eq.mpr c13
            have c13b1 : (t159 != 2) = false := bne_eq_false_iff_eq.mpr c13
            clear c13
            have H' := Aside0.mk H
            clear H
            go_wp2
            repeat (go_quiet (fail); try go_wp2)
            go_meet
            case rel => exact ⟨_, ((t160 == 1)), (by first | rfl | (simp; done) | (simp [*]; done)), H', ⟨by first | omega | exact Nat.le_refl _⟩, ⟨by repeat (first | (with_reducible first | exact HB.out | apply below_alloc | apply pw_below_drewN | apply below_drew1) | exact HB.out)⟩⟩
          · rw [if_neg c13] at H
            have c13b0 : (t159 == 2) = false := beq_eq_false_iff_ne.mpr c13
            have c13b1 : (t159 != 2) = true := bne_iff_ne.mpr c13
            have H' := Aside0.mk H
            clear H
            go_wp2
            repeat (go_quiet (fail); try go_wp2)
            go_meet
            case rel => exact ⟨_, (false), (by first | rfl | (simp; done) | (simp [*]; done)), H', ⟨by first | omega | exact Nat.le_refl _⟩, ⟨by repeat (first | (with_reducible first | exact HB.out | apply below_alloc | apply pw_below_drewN | apply below_drew1) | exact HB.out)⟩⟩
  case rest =>
    clear HC7
    try clear c1
    try clear p2
    try clear c3
    try clear c8
    try clear c8b0
    try clear c8b1
    try clear c9
    try clear c9b0
    try clear c9b1
    try clear c10
    try clear c10b0
    try clear c10b1
    try clear c11
    try clear c11b0
    try clear c11b1
    try clear c12
    try clear c12b0
    try clear c12b1
    try clear c13
    try clear c13b0
    try clear c13b1
    obtain ⟨kq, x48_6, rfl, HA, HJ6, HB⟩ := hcut
    cases kq with
    | zero => exact absurd HA.out (by simp [anamnesisref02_product.j0])
    | succ kj6 =>
      have H := HA.out
      clear HA
      simp only [anamnesisref02_product.j0] at H
      by_cases c14 : x48_6 = true
      · subst c14
        have H1 : ((anamnesisref02_NaN.f).bind fun t163 => (some t163)) = some r := by rw [if_pos rfl] at H; exact H
        clear H
        have H := H1
        clear H1
        replace H := Option.bind_eq_some_iff.mp H
        obtain ⟨t163, A150, H⟩ := H
        replace H : (some t163) = some r := H
        have A15 := Aside0.mk A150
        clear A150
        obtain rfl := Option.some.inj H
        go_wp2_with (first | (go_at_call 28; (with_reducible refine (anamnesisref02_NaN.calls  t163 _ A15.out).mono ?_); rintro e w' ⟨rfl, ⟨nd, rfl⟩⟩; (try first | exact ⟨rfl, _, World.drewN_drewN _ _ _⟩ | exact ⟨rfl, _, Eq.trans (World.drewN_drewN _ _ _) (congrArg (World.drewN _) (Nat.add_assoc _ _ _))⟩)))
        repeat (go_quiet (first | (go_at_call 28; (with_reducible refine (anamnesisref02_NaN.calls  t163 _ A15.out).mono ?_); rintro e w' ⟨rfl, ⟨nd, rfl⟩⟩; (try first | exact ⟨rfl, _, World.drewN_drewN _ _ _⟩ | exact ⟨rfl, _, Eq.trans (World.drewN_drewN _ _ _) (congrArg (World.drewN _) (Nat.add_assoc _ _ _))⟩))); try go_wp2_with (first | (go_at_call 28; (with_reducible refine (anamnesisref02_NaN.calls  t163 _ A15.out).mono ?_); rintro e w' ⟨rfl, ⟨nd, rfl⟩⟩; (try first | exact ⟨rfl, _, World.drewN_drewN _ _ _⟩ | exact ⟨rfl, _, Eq.trans (World.drewN_drewN _ _ _) (congrArg (World.drewN _) (Nat.add_assoc _ _ _))⟩))))
        go_ret
        exact ⟨by first | rfl | (simp [errW_none, errW_some] <;> rfl) | (simp [*, errW_none, errW_some] <;> rfl) | (simp [wrap64, errW_none, errW_some]; done), by repeat (first | (with_reducible first | exact HB.out | apply below_alloc | apply pw_below_drewN | apply below_drew1) | exact HB.out)⟩
      · replace c14 := Bool.eq_false_iff.mpr c14
        subst c14
        have H1 : (if t159 = 1 then (anamnesisref02_product.j1 kj6 a0 a1 t159 t160 (!t161 == t162) true) else (anamnesisref02_product.j1 kj6 a0 a1 t159 t160 (!t161 == t162) (t160 == 1))) = some r := by rw [if_neg (show ¬ (false = true) by decide)] at H; exact H
        clear H
        have H := H1
        clear H1
        have HC16 := Aside0.mk H
        clear H
        go_upto_region 5 with (fail)
        repeat (go_quiet (fail); go_upto_region 5 with (fail))
        go_cut [55] (fun v55 wc => ∃ (kq : Nat) (x55_15 : Bool), v55 = .bool x55_15 ∧ Aside0 (anamnesisref02_product.j1 kq a0 a1 t159 t160 (!t161 == t162) x55_15 = some r) ∧ Aside0 (kq ≤ kj6) ∧ Aside0 (Below w.heap.size w wc))
        case first =>
          have H := HC16.out
          clear HC16
          by_cases c17 : t159 = 1
          · rw [if_pos c17] at H
            have c17b0 : (t159 == 1) = true := beq_iff_eq.mpr c17
            have c17b1 : (t159 != 1) = false := bne_eq_false_iff_eq.mpr c17
            clear c17
            (first | rw [c17b0] | (simp only [i64_w, i32_w]; rw [c17b0]) | skip)
            have H' := Aside0.mk H
            clear H
            go_wp2
            repeat (go_quiet (fail); try go_wp2)
            go_meet
            case rel => exact ⟨_, (true), (by first | rfl | (simp; done) | (simp [*]; done)), H', ⟨by have := HJ6.out; first | omega | exact Nat.le_refl _⟩, ⟨by repeat (first | (with_reducible first | exact HB.out | apply below_alloc | apply pw_below_drewN | apply below_drew1) | exact HB.out)⟩⟩
          · rw [if_neg c17] at H
            have c17b0 : (t159 == 1) = false := beq_eq_false_iff_ne.mpr c17
            have c17b1 : (t159 != 1) = true := bne_iff_ne.mpr c17
            (first | rw [c17b0] | (simp only [i64_w, i32_w]; rw [c17b0]) | skip)
            have H' := Aside0.mk H
            clear H
            go_wp2
            repeat (go_quiet (fail); try go_wp2)
            go_meet
            case rel => exact ⟨_, ((t160 == 1)), (by first | rfl | (simp; done) | (simp [*]; done)), H', ⟨by have := HJ6.out; first | omega | exact Nat.le_refl _⟩, ⟨by repeat (first | (with_reducible first | exact HB.out | apply below_alloc | apply pw_below_drewN | apply below_drew1) | exact HB.out)⟩⟩
        case rest =>
          clear HC16
          try clear c1
          try clear p2
          try clear c3
          try clear p6
          try clear c8
          try clear c8b0
          try clear c8b1
          try clear c9
          try clear c9b0
          try clear c9b1
          try clear c10
          try clear c10b0
          try clear c10b1
          try clear c11
          try clear c11b0
          try clear c11b1
          try clear c12
          try clear c12b0
          try clear c12b1
          try clear c13
          try clear c13b0
          try clear c13b1
          try clear c14
          try clear c17
          try clear c17b0
          try clear c17b1
          try clear p2
          obtain ⟨kq, x55_15, rfl, HA, HJ15, HB⟩ := hcut
          cases kq with
          | zero => exact absurd HA.out (by simp [anamnesisref02_product.j1])
          | succ kj15 =>
            have H := HA.out
            clear HA
            simp only [anamnesisref02_product.j1] at H
            by_cases c18 : x55_15 = true
            · subst c18
              have H1 : ((anamnesisref02_with.f (!t161 == t162) 9218868437227405312).bind fun t164 => (some t164)) = some r := by rw [if_pos rfl] at H; exact H
              clear H
              have H := H1
              clear H1
              replace H := Option.bind_eq_some_iff.mp H
              obtain ⟨t164, A190, H⟩ := H
              replace H : (some t164) = some r := H
              have A19 := Aside0.mk A190
              clear A190
              obtain rfl := Option.some.inj H
              go_wp2_with (first | (go_at_call 32; (with_reducible refine (anamnesisref02_with.calls (!t161 == t162) 9218868437227405312 t164 _ A19.out).mono ?_); rintro e w' ⟨rfl, ⟨nd, rfl⟩⟩; (try first | exact ⟨rfl, _, World.drewN_drewN _ _ _⟩ | exact ⟨rfl, _, Eq.trans (World.drewN_drewN _ _ _) (congrArg (World.drewN _) (Nat.add_assoc _ _ _))⟩)))
              repeat (go_quiet (first | (go_at_call 32; (with_reducible refine (anamnesisref02_with.calls (!t161 == t162) 9218868437227405312 t164 _ A19.out).mono ?_); rintro e w' ⟨rfl, ⟨nd, rfl⟩⟩; (try first | exact ⟨rfl, _, World.drewN_drewN _ _ _⟩ | exact ⟨rfl, _, Eq.trans (World.drewN_drewN _ _ _) (congrArg (World.drewN _) (Nat.add_assoc _ _ _))⟩))); try go_wp2_with (first | (go_at_call 32; (with_reducible refine (anamnesisref02_with.calls (!t161 == t162) 9218868437227405312 t164 _ A19.out).mono ?_); rintro e w' ⟨rfl, ⟨nd, rfl⟩⟩; (try first | exact ⟨rfl, _, World.drewN_drewN _ _ _⟩ | exact ⟨rfl, _, Eq.trans (World.drewN_drewN _ _ _) (congrArg (World.drewN _) (Nat.add_assoc _ _ _))⟩))))
              go_ret
              exact ⟨by first | rfl | (simp [errW_none, errW_some] <;> rfl) | (simp [*, errW_none, errW_some] <;> rfl) | (simp [wrap64, errW_none, errW_some]; done), by repeat (first | (with_reducible first | exact HB.out | apply below_alloc | apply pw_below_drewN | apply below_drew1) | exact HB.out)⟩
            · replace c18 := Bool.eq_false_iff.mpr c18
              subst c18
              have H1 : (if t159 = 2 then (anamnesisref02_product.j2 kj15 a0 a1 (!t161 == t162) true) else (anamnesisref02_product.j2 kj15 a0 a1 (!t161 == t162) (t160 == 2))) = some r := by rw [if_neg (show ¬ (false = true) by decide)] at H; exact H
              clear H
              have H := H1
              clear H1
              have HC20 := Aside0.mk H
              clear H
              go_upto_region 7 with (fail)
              repeat (go_quiet (fail); go_upto_region 7 with (fail))
              go_cut [63] (fun v63 wc => ∃ (kq : Nat) (x63_19 : Bool), v63 = .bool x63_19 ∧ Aside0 (anamnesisref02_product.j2 kq a0 a1 (!t161 == t162) x63_19 = some r) ∧ Aside0 (kq ≤ kj15) ∧ Aside0 (Below w.heap.size w wc))
              case first =>
                have H := HC20.out
                clear HC20
                by_cases c21 : t159 = 2
                · rw [if_pos c21] at H
                  have c21b0 : (t159 == 2) = true := beq_iff_eq.mpr c21
                  have c21b1 : (t159 != 2) = false := bne_eq_false_iff_eq.mpr c21
                  clear c21
                  (first | rw [c21b0] | (simp only [i64_w, i32_w]; rw [c21b0]) | skip)
                  have H' := Aside0.mk H
                  clear H
                  go_wp2
                  repeat (go_quiet (fail); try go_wp2)
                  go_meet
                  case rel => exact ⟨_, (true), (by first | rfl | (simp; done) | (simp [*]; done)), H', ⟨by have := HJ6.out; have := HJ15.out; first | omega | exact Nat.le_refl _⟩, ⟨by repeat (first | (with_reducible first | exact HB.out | apply below_alloc | apply pw_below_drewN | apply below_drew1) | exact HB.out)⟩⟩
                · rw [if_neg c21] at H
                  have c21b0 : (t159 == 2) = false := beq_eq_false_iff_ne.mpr c21
                  have c21b1 : (t159 != 2) = true := bne_iff_ne.mpr c21
                  (first | rw [c21b0] | (simp only [i64_w, i32_w]; rw [c21b0]) | skip)
                  have H' := Aside0.mk H
                  clear H
                  go_wp2
                  repeat (go_quiet (fail); try go_wp2)
                  go_meet
                  case rel => exact ⟨_, ((t160 == 2)), (by first | rfl | (simp; done) | (simp [*]; done)), H', ⟨by have := HJ6.out; have := HJ15.out; first | omega | exact Nat.le_refl _⟩, ⟨by repeat (first | (with_reducible first | exact HB.out | apply below_alloc | apply pw_below_drewN | apply below_drew1) | exact HB.out)⟩⟩
              case rest =>
                clear HC20
                try clear c1
                try clear c2
                try clear p2
                try clear c3
                try clear p6
                try clear c8
                try clear c8b0
                try clear c8b1
                try clear c9
                try clear c9b0
                try clear c9b1
                try clear c10
                try clear c10b0
                try clear c10b1
                try clear c11
                try clear c11b0
                try clear c11b1
                try clear c12
                try clear c12b0
                try clear c12b1
                try clear c13
                try clear c13b0
                try clear c13b1
                try clear c14
                try clear c17
                try clear c17b0
                try clear c17b1
                try clear c18
                try clear c21
                try clear c21b0
                try clear c21b1
                try clear p2
                try clear p6
                obtain ⟨kq, x63_19, rfl, HA, HJ19, HB⟩ := hcut
                cases kq with
                | zero => exact absurd HA.out (by simp [anamnesisref02_product.j2])
                | succ kj19 =>
                  have H := HA.out
                  clear HA
                  simp only [anamnesisref02_product.j2] at H
                  by_cases c22 : x63_19 = true
                  · subst c22
                    have H1 : ((anamnesisref02_with.f (!t161 == t162) 0).bind fun t165 => (some t165)) = some r := by rw [if_pos rfl] at H; exact H
                    clear H
                    have H := H1
                    clear H1
                    replace H := Option.bind_eq_some_iff.mp H
                    obtain ⟨t165, A230, H⟩ := H
                    replace H : (some t165) = some r := H
                    have A23 := Aside0.mk A230
                    clear A230
                    obtain rfl := Option.some.inj H
                    go_wp2_with (first | (go_at_call 32; (with_reducible refine (anamnesisref02_with.calls (!t161 == t162) 0 t165 _ A23.out).mono ?_); rintro e w' ⟨rfl, ⟨nd, rfl⟩⟩; (try first | exact ⟨rfl, _, World.drewN_drewN _ _ _⟩ | exact ⟨rfl, _, Eq.trans (World.drewN_drewN _ _ _) (congrArg (World.drewN _) (Nat.add_assoc _ _ _))⟩)))
                    repeat (go_quiet (first | (go_at_call 32; (with_reducible refine (anamnesisref02_with.calls (!t161 == t162) 0 t165 _ A23.out).mono ?_); rintro e w' ⟨rfl, ⟨nd, rfl⟩⟩; (try first | exact ⟨rfl, _, World.drewN_drewN _ _ _⟩ | exact ⟨rfl, _, Eq.trans (World.drewN_drewN _ _ _) (congrArg (World.drewN _) (Nat.add_assoc _ _ _))⟩))); try go_wp2_with (first | (go_at_call 32; (with_reducible refine (anamnesisref02_with.calls (!t161 == t162) 0 t165 _ A23.out).mono ?_); rintro e w' ⟨rfl, ⟨nd, rfl⟩⟩; (try first | exact ⟨rfl, _, World.drewN_drewN _ _ _⟩ | exact ⟨rfl, _, Eq.trans (World.drewN_drewN _ _ _) (congrArg (World.drewN _) (Nat.add_assoc _ _ _))⟩))))
                    go_ret
                    exact ⟨by first | rfl | (simp [errW_none, errW_some] <;> rfl) | (simp [*, errW_none, errW_some] <;> rfl) | (simp [wrap64, errW_none, errW_some]; done), by repeat (first | (with_reducible first | exact HB.out | apply below_alloc | apply pw_below_drewN | apply below_drew1) | exact HB.out)⟩
                  · replace c22 := Bool.eq_false_iff.mpr c22
                    subst c22
                    have H1 : ((anamnesisref02_part.f kj19 a0).bind fun bt166 => ((anamnesisref02_part.f kj19 a1).bind fun bt168 => (if (Int.tmod (wrap64 ((wrap64 ((wrap64 ((wrap64 (Int.tdiv bt166.1 134217728)) * (Int.tmod bt168.1 134217728))) + (wrap64 ((Int.tmod bt166.1 134217728) * (wrap64 (Int.tdiv bt168.1 134217728)))))) + (wrap64 (Int.tdiv (wrap64 ((Int.tmod bt166.1 134217728) * (Int.tmod bt168.1 134217728))) 134217728)))) 524288) = 0 then ((anamnesisref02_round.f kj19 (wrap64 ((wrap64 ((wrap64 ((wrap64 ((wrap64 (Int.tdiv bt166.1 134217728)) * (wrap64 (Int.tdiv bt168.1 134217728)))) + (wrap64 (Int.tdiv (wrap64 ((wrap64 ((wrap64 ((wrap64 (Int.tdiv bt166.1 134217728)) * (Int.tmod bt168.1 134217728))) + (wrap64 ((Int.tmod bt166.1 134217728) * (wrap64 (Int.tdiv bt168.1 134217728)))))) + (wrap64 (Int.tdiv (wrap64 ((Int.tmod bt166.1 134217728) * (Int.tmod bt168.1 134217728))) 134217728)))) 134217728)))) * 256)) + ((Int.tmod (wrap64 ((wrap64 ((wrap64 ((wrap64 (Int.tdiv bt166.1 134217728)) * (Int.tmod bt168.1 134217728))) + (wrap64 ((Int.tmod bt166.1 134217728) * (wrap64 (Int.tdiv bt168.1 134217728)))))) + (wrap64 (Int.tdiv (wrap64 ((Int.tmod bt166.1 134217728) * (Int.tmod bt168.1 134217728))) 134217728)))) 134217728) / 524288))) (wrap64 ((wrap64 (bt166.2 + bt168.2)) + 46)) ((Int.tmod (wrap64 ((Int.tmod bt166.1 134217728) * (Int.tmod bt168.1 134217728))) 134217728) != 0)).bind fun t170 => ((anamnesisref02_with.f (!t161 == t162) t170).bind fun t171 => (some t171))) else ((anamnesisref02_round.f kj19 (wrap64 ((wrap64 ((wrap64 ((wrap64 ((wrap64 (Int.tdiv bt166.1 134217728)) * (wrap64 (Int.tdiv bt168.1 134217728)))) + (wrap64 (Int.tdiv (wrap64 ((wrap64 ((wrap64 ((wrap64 (Int.tdiv bt166.1 134217728)) * (Int.tmod bt168.1 134217728))) + (wrap64 ((Int.tmod bt166.1 134217728) * (wrap64 (Int.tdiv bt168.1 134217728)))))) + (wrap64 (Int.tdiv (wrap64 ((Int.tmod bt166.1 134217728) * (Int.tmod bt168.1 134217728))) 134217728)))) 134217728)))) * 256)) + ((Int.tmod (wrap64 ((wrap64 ((wrap64 ((wrap64 (Int.tdiv bt166.1 134217728)) * (Int.tmod bt168.1 134217728))) + (wrap64 ((Int.tmod bt166.1 134217728) * (wrap64 (Int.tdiv bt168.1 134217728)))))) + (wrap64 (Int.tdiv (wrap64 ((Int.tmod bt166.1 134217728) * (Int.tmod bt168.1 134217728))) 134217728)))) 134217728) / 524288))) (wrap64 ((wrap64 (bt166.2 + bt168.2)) + 46)) true).bind fun t172 => ((anamnesisref02_with.f (!t161 == t162) t172).bind fun t173 => (some t173)))))) = some r := by rw [if_neg (show ¬ (false = true) by decide)] at H; exact H
                    clear H
                    have H := H1
                    clear H1
                    replace H := Option.bind_eq_some_iff.mp H
                    obtain ⟨⟨t166, t167⟩, A240, H⟩ := H
                    replace H : ((anamnesisref02_part.f kj19 a1).bind fun bt168 => (if (Int.tmod (wrap64 ((wrap64 ((wrap64 ((wrap64 (Int.tdiv t166 134217728)) * (Int.tmod bt168.1 134217728))) + (wrap64 ((Int.tmod t166 134217728) * (wrap64 (Int.tdiv bt168.1 134217728)))))) + (wrap64 (Int.tdiv (wrap64 ((Int.tmod t166 134217728) * (Int.tmod bt168.1 134217728))) 134217728)))) 524288) = 0 then ((anamnesisref02_round.f kj19 (wrap64 ((wrap64 ((wrap64 ((wrap64 ((wrap64 (Int.tdiv t166 134217728)) * (wrap64 (Int.tdiv bt168.1 134217728)))) + (wrap64 (Int.tdiv (wrap64 ((wrap64 ((wrap64 ((wrap64 (Int.tdiv t166 134217728)) * (Int.tmod bt168.1 134217728))) + (wrap64 ((Int.tmod t166 134217728) * (wrap64 (Int.tdiv bt168.1 134217728)))))) + (wrap64 (Int.tdiv (wrap64 ((Int.tmod t166 134217728) * (Int.tmod bt168.1 134217728))) 134217728)))) 134217728)))) * 256)) + ((Int.tmod (wrap64 ((wrap64 ((wrap64 ((wrap64 (Int.tdiv t166 134217728)) * (Int.tmod bt168.1 134217728))) + (wrap64 ((Int.tmod t166 134217728) * (wrap64 (Int.tdiv bt168.1 134217728)))))) + (wrap64 (Int.tdiv (wrap64 ((Int.tmod t166 134217728) * (Int.tmod bt168.1 134217728))) 134217728)))) 134217728) / 524288))) (wrap64 ((wrap64 (t167 + bt168.2)) + 46)) ((Int.tmod (wrap64 ((Int.tmod t166 134217728) * (Int.tmod bt168.1 134217728))) 134217728) != 0)).bind fun t170 => ((anamnesisref02_with.f (!t161 == t162) t170).bind fun t171 => (some t171))) else ((anamnesisref02_round.f kj19 (wrap64 ((wrap64 ((wrap64 ((wrap64 ((wrap64 (Int.tdiv t166 134217728)) * (wrap64 (Int.tdiv bt168.1 134217728)))) + (wrap64 (Int.tdiv (wrap64 ((wrap64 ((wrap64 ((wrap64 (Int.tdiv t166 134217728)) * (Int.tmod bt168.1 134217728))) + (wrap64 ((Int.tmod t166 134217728) * (wrap64 (Int.tdiv bt168.1 134217728)))))) + (wrap64 (Int.tdiv (wrap64 ((Int.tmod t166 134217728) * (Int.tmod bt168.1 134217728))) 134217728)))) 134217728)))) * 256)) + ((Int.tmod (wrap64 ((wrap64 ((wrap64 ((wrap64 (Int.tdiv t166 134217728)) * (Int.tmod bt168.1 134217728))) + (wrap64 ((Int.tmod t166 134217728) * (wrap64 (Int.tdiv bt168.1 134217728)))))) + (wrap64 (Int.tdiv (wrap64 ((Int.tmod t166 134217728) * (Int.tmod bt168.1 134217728))) 134217728)))) 134217728) / 524288))) (wrap64 ((wrap64 (t167 + bt168.2)) + 46)) true).bind fun t172 => ((anamnesisref02_with.f (!t161 == t162) t172).bind fun t173 => (some t173))))) = some r := H
                    have A24 := Aside0.mk A240
                    clear A240
                    replace H := Option.bind_eq_some_iff.mp H
                    obtain ⟨⟨t168, t169⟩, A250, H⟩ := H
                    replace H : (if (Int.tmod (wrap64 ((wrap64 ((wrap64 ((wrap64 (Int.tdiv t166 134217728)) * (Int.tmod t168 134217728))) + (wrap64 ((Int.tmod t166 134217728) * (wrap64 (Int.tdiv t168 134217728)))))) + (wrap64 (Int.tdiv (wrap64 ((Int.tmod t166 134217728) * (Int.tmod t168 134217728))) 134217728)))) 524288) = 0 then ((anamnesisref02_round.f kj19 (wrap64 ((wrap64 ((wrap64 ((wrap64 ((wrap64 (Int.tdiv t166 134217728)) * (wrap64 (Int.tdiv t168 134217728)))) + (wrap64 (Int.tdiv (wrap64 ((wrap64 ((wrap64 ((wrap64 (Int.tdiv t166 134217728)) * (Int.tmod t168 134217728))) + (wrap64 ((Int.tmod t166 134217728) * (wrap64 (Int.tdiv t168 134217728)))))) + (wrap64 (Int.tdiv (wrap64 ((Int.tmod t166 134217728) * (Int.tmod t168 134217728))) 134217728)))) 134217728)))) * 256)) + ((Int.tmod (wrap64 ((wrap64 ((wrap64 ((wrap64 (Int.tdiv t166 134217728)) * (Int.tmod t168 134217728))) + (wrap64 ((Int.tmod t166 134217728) * (wrap64 (Int.tdiv t168 134217728)))))) + (wrap64 (Int.tdiv (wrap64 ((Int.tmod t166 134217728) * (Int.tmod t168 134217728))) 134217728)))) 134217728) / 524288))) (wrap64 ((wrap64 (t167 + t169)) + 46)) ((Int.tmod (wrap64 ((Int.tmod t166 134217728) * (Int.tmod t168 134217728))) 134217728) != 0)).bind fun t170 => ((anamnesisref02_with.f (!t161 == t162) t170).bind fun t171 => (some t171))) else ((anamnesisref02_round.f kj19 (wrap64 ((wrap64 ((wrap64 ((wrap64 ((wrap64 (Int.tdiv t166 134217728)) * (wrap64 (Int.tdiv t168 134217728)))) + (wrap64 (Int.tdiv (wrap64 ((wrap64 ((wrap64 ((wrap64 (Int.tdiv t166 134217728)) * (Int.tmod t168 134217728))) + (wrap64 ((Int.tmod t166 134217728) * (wrap64 (Int.tdiv t168 134217728)))))) + (wrap64 (Int.tdiv (wrap64 ((Int.tmod t166 134217728) * (Int.tmod t168 134217728))) 134217728)))) 134217728)))) * 256)) + ((Int.tmod (wrap64 ((wrap64 ((wrap64 ((wrap64 (Int.tdiv t166 134217728)) * (Int.tmod t168 134217728))) + (wrap64 ((Int.tmod t166 134217728) * (wrap64 (Int.tdiv t168 134217728)))))) + (wrap64 (Int.tdiv (wrap64 ((Int.tmod t166 134217728) * (Int.tmod t168 134217728))) 134217728)))) 134217728) / 524288))) (wrap64 ((wrap64 (t167 + t169)) + 46)) true).bind fun t172 => ((anamnesisref02_with.f (!t161 == t162) t172).bind fun t173 => (some t173)))) = some r := H
                    have A25 := Aside0.mk A250
                    clear A250
                    by_cases c26 : (Int.tmod (wrap64 ((wrap64 ((wrap64 ((wrap64 (Int.tdiv t166 134217728)) * (Int.tmod t168 134217728))) + (wrap64 ((Int.tmod t166 134217728) * (wrap64 (Int.tdiv t168 134217728)))))) + (wrap64 (Int.tdiv (wrap64 ((Int.tmod t166 134217728) * (Int.tmod t168 134217728))) 134217728)))) 524288) = 0
                    · rw [if_pos c26] at H
                      have c26b0 : ((Int.tmod (wrap64 ((wrap64 ((wrap64 ((wrap64 (Int.tdiv t166 134217728)) * (Int.tmod t168 134217728))) + (wrap64 ((Int.tmod t166 134217728) * (wrap64 (Int.tdiv t168 134217728)))))) + (wrap64 (Int.tdiv (wrap64 ((Int.tmod t166 134217728) * (Int.tmod t168 134217728))) 134217728)))) 524288) == 0) = true := beq_iff_eq.mpr c26
                      have c26b1 : ((Int.tmod (wrap64 ((wrap64 ((wrap64 ((wrap64 (Int.tdiv t166 134217728)) * (Int.tmod t168 134217728))) + (wrap64 ((Int.tmod t166 134217728) * (wrap64 (Int.tdiv t168 134217728)))))) + (wrap64 (Int.tdiv (wrap64 ((Int.tmod t166 134217728) * (Int.tmod t168 134217728))) 134217728)))) 524288) != 0) = false := bne_eq_false_iff_eq.mpr c26
                      clear c26
                      replace H := Option.bind_eq_some_iff.mp H
                      obtain ⟨t170, A270, H⟩ := H
                      replace H : ((anamnesisref02_with.f (!t161 == t162) t170).bind fun t171 => (some t171)) = some r := H
                      have A27 := Aside0.mk A270
                      clear A270
                      replace H := Option.bind_eq_some_iff.mp H
                      obtain ⟨t171, A280, H⟩ := H
                      replace H : (some t171) = some r := H
                      have A28 := Aside0.mk A280
                      clear A280
                      obtain rfl := Option.some.inj H
                      go_wp2_with (first | (go_at_call 38; (with_reducible refine (anamnesisref02_part.calls kj19 a0 t166 t167 _ A24.out).mono ?_); rintro e w' ⟨rfl, ⟨nd, rfl⟩⟩; (try first | exact ⟨rfl, _, World.drewN_drewN _ _ _⟩ | exact ⟨rfl, _, Eq.trans (World.drewN_drewN _ _ _) (congrArg (World.drewN _) (Nat.add_assoc _ _ _))⟩)) | (go_at_call 38; (with_reducible refine (anamnesisref02_part.calls kj19 a1 t168 t169 _ A25.out).mono ?_); rintro e w' ⟨rfl, ⟨nd, rfl⟩⟩; (try first | exact ⟨rfl, _, World.drewN_drewN _ _ _⟩ | exact ⟨rfl, _, Eq.trans (World.drewN_drewN _ _ _) (congrArg (World.drewN _) (Nat.add_assoc _ _ _))⟩)) | (go_at_call 41; (with_reducible refine (anamnesisref02_round.calls kj19 (wrap64 ((wrap64 ((wrap64 ((wrap64 ((wrap64 (Int.tdiv t166 134217728)) * (wrap64 (Int.tdiv t168 134217728)))) + (wrap64 (Int.tdiv (wrap64 ((wrap64 ((wrap64 ((wrap64 (Int.tdiv t166 134217728)) * (Int.tmod t168 134217728))) + (wrap64 ((Int.tmod t166 134217728) * (wrap64 (Int.tdiv t168 134217728)))))) + (wrap64 (Int.tdiv (wrap64 ((Int.tmod t166 134217728) * (Int.tmod t168 134217728))) 134217728)))) 134217728)))) * 256)) + ((Int.tmod (wrap64 ((wrap64 ((wrap64 ((wrap64 (Int.tdiv t166 134217728)) * (Int.tmod t168 134217728))) + (wrap64 ((Int.tmod t166 134217728) * (wrap64 (Int.tdiv t168 134217728)))))) + (wrap64 (Int.tdiv (wrap64 ((Int.tmod t166 134217728) * (Int.tmod t168 134217728))) 134217728)))) 134217728) / 524288))) (wrap64 ((wrap64 (t167 + t169)) + 46)) ((Int.tmod (wrap64 ((Int.tmod t166 134217728) * (Int.tmod t168 134217728))) 134217728) != 0) t170 _ A27.out).mono ?_); rintro e w29 ⟨rfl, hb⟩; have n0_ := Aside0.mk (below_step (by repeat (first | (with_reducible first | exact HB.out | apply below_alloc | apply pw_below_drewN | apply below_drew1) | exact HB.out)) hb); clear HB; have HB := n0_; clear n0_; (try clear hb); (try clear hb2); (try clear hk); (try clear hi)) | (go_at_call 32; (with_reducible refine (anamnesisref02_with.calls (!t161 == t162) t170 t171 _ A28.out).mono ?_); rintro e w' ⟨rfl, ⟨nd, rfl⟩⟩; (try first | exact ⟨rfl, _, World.drewN_drewN _ _ _⟩ | exact ⟨rfl, _, Eq.trans (World.drewN_drewN _ _ _) (congrArg (World.drewN _) (Nat.add_assoc _ _ _))⟩)))
                      repeat (go_quiet (first | (go_at_call 38; (with_reducible refine (anamnesisref02_part.calls kj19 a0 t166 t167 _ A24.out).mono ?_); rintro e w' ⟨rfl, ⟨nd, rfl⟩⟩; (try first | exact ⟨rfl, _, World.drewN_drewN _ _ _⟩ | exact ⟨rfl, _, Eq.trans (World.drewN_drewN _ _ _) (congrArg (World.drewN _) (Nat.add_assoc _ _ _))⟩)) | (go_at_call 38; (with_reducible refine (anamnesisref02_part.calls kj19 a1 t168 t169 _ A25.out).mono ?_); rintro e w' ⟨rfl, ⟨nd, rfl⟩⟩; (try first | exact ⟨rfl, _, World.drewN_drewN _ _ _⟩ | exact ⟨rfl, _, Eq.trans (World.drewN_drewN _ _ _) (congrArg (World.drewN _) (Nat.add_assoc _ _ _))⟩)) | (go_at_call 41; (with_reducible refine (anamnesisref02_round.calls kj19 (wrap64 ((wrap64 ((wrap64 ((wrap64 ((wrap64 (Int.tdiv t166 134217728)) * (wrap64 (Int.tdiv t168 134217728)))) + (wrap64 (Int.tdiv (wrap64 ((wrap64 ((wrap64 ((wrap64 (Int.tdiv t166 134217728)) * (Int.tmod t168 134217728))) + (wrap64 ((Int.tmod t166 134217728) * (wrap64 (Int.tdiv t168 134217728)))))) + (wrap64 (Int.tdiv (wrap64 ((Int.tmod t166 134217728) * (Int.tmod t168 134217728))) 134217728)))) 134217728)))) * 256)) + ((Int.tmod (wrap64 ((wrap64 ((wrap64 ((wrap64 (Int.tdiv t166 134217728)) * (Int.tmod t168 134217728))) + (wrap64 ((Int.tmod t166 134217728) * (wrap64 (Int.tdiv t168 134217728)))))) + (wrap64 (Int.tdiv (wrap64 ((Int.tmod t166 134217728) * (Int.tmod t168 134217728))) 134217728)))) 134217728) / 524288))) (wrap64 ((wrap64 (t167 + t169)) + 46)) ((Int.tmod (wrap64 ((Int.tmod t166 134217728) * (Int.tmod t168 134217728))) 134217728) != 0) t170 _ A27.out).mono ?_); rintro e w29 ⟨rfl, hb⟩; have n0_ := Aside0.mk (below_step (by repeat (first | (with_reducible first | exact HB.out | apply below_alloc | apply pw_below_drewN | apply below_drew1) | exact HB.out)) hb); clear HB; have HB := n0_; clear n0_; (try clear hb); (try clear hb2); (try clear hk); (try clear hi)) | (go_at_call 32; (with_reducible refine (anamnesisref02_with.calls (!t161 == t162) t170 t171 _ A28.out).mono ?_); rintro e w' ⟨rfl, ⟨nd, rfl⟩⟩; (try first | exact ⟨rfl, _, World.drewN_drewN _ _ _⟩ | exact ⟨rfl, _, Eq.trans (World.drewN_drewN _ _ _) (congrArg (World.drewN _) (Nat.add_assoc _ _ _))⟩))); try go_wp2_with (first | (go_at_call 38; (with_reducible refine (anamnesisref02_part.calls kj19 a0 t166 t167 _ A24.out).mono ?_); rintro e w' ⟨rfl, ⟨nd, rfl⟩⟩; (try first | exact ⟨rfl, _, World.drewN_drewN _ _ _⟩ | exact ⟨rfl, _, Eq.trans (World.drewN_drewN _ _ _) (congrArg (World.drewN _) (Nat.add_assoc _ _ _))⟩)) | (go_at_call 38; (with_reducible refine (anamnesisref02_part.calls kj19 a1 t168 t169 _ A25.out).mono ?_); rintro e w' ⟨rfl, ⟨nd, rfl⟩⟩; (try first | exact ⟨rfl, _, World.drewN_drewN _ _ _⟩ | exact ⟨rfl, _, Eq.trans (World.drewN_drewN _ _ _) (congrArg (World.drewN _) (Nat.add_assoc _ _ _))⟩)) | (go_at_call 41; (with_reducible refine (anamnesisref02_round.calls kj19 (wrap64 ((wrap64 ((wrap64 ((wrap64 ((wrap64 (Int.tdiv t166 134217728)) * (wrap64 (Int.tdiv t168 134217728)))) + (wrap64 (Int.tdiv (wrap64 ((wrap64 ((wrap64 ((wrap64 (Int.tdiv t166 134217728)) * (Int.tmod t168 134217728))) + (wrap64 ((Int.tmod t166 134217728) * (wrap64 (Int.tdiv t168 134217728)))))) + (wrap64 (Int.tdiv (wrap64 ((Int.tmod t166 134217728) * (Int.tmod t168 134217728))) 134217728)))) 134217728)))) * 256)) + ((Int.tmod (wrap64 ((wrap64 ((wrap64 ((wrap64 (Int.tdiv t166 134217728)) * (Int.tmod t168 134217728))) + (wrap64 ((Int.tmod t166 134217728) * (wrap64 (Int.tdiv t168 134217728)))))) + (wrap64 (Int.tdiv (wrap64 ((Int.tmod t166 134217728) * (Int.tmod t168 134217728))) 134217728)))) 134217728) / 524288))) (wrap64 ((wrap64 (t167 + t169)) + 46)) ((Int.tmod (wrap64 ((Int.tmod t166 134217728) * (Int.tmod t168 134217728))) 134217728) != 0) t170 _ A27.out).mono ?_); rintro e w29 ⟨rfl, hb⟩; have n0_ := Aside0.mk (below_step (by repeat (first | (with_reducible first | exact HB.out | apply below_alloc | apply pw_below_drewN | apply below_drew1) | exact HB.out)) hb); clear HB; have HB := n0_; clear n0_; (try clear hb); (try clear hb2); (try clear hk); (try clear hi)) | (go_at_call 32; (with_reducible refine (anamnesisref02_with.calls (!t161 == t162) t170 t171 _ A28.out).mono ?_); rintro e w' ⟨rfl, ⟨nd, rfl⟩⟩; (try first | exact ⟨rfl, _, World.drewN_drewN _ _ _⟩ | exact ⟨rfl, _, Eq.trans (World.drewN_drewN _ _ _) (congrArg (World.drewN _) (Nat.add_assoc _ _ _))⟩))))
                      go_ret
                      exact ⟨by first | rfl | (simp [errW_none, errW_some] <;> rfl) | (simp [*, errW_none, errW_some] <;> rfl) | (simp [wrap64, errW_none, errW_some]; done), by repeat (first | (with_reducible first | exact HB.out | apply below_alloc | apply pw_below_drewN | apply below_drew1) | exact HB.out)⟩
                    · rw [if_neg c26] at H
                      have c26b0 : ((Int.tmod (wrap64 ((wrap64 ((wrap64 ((wrap64 (Int.tdiv t166 134217728)) * (Int.tmod t168 134217728))) + (wrap64 ((Int.tmod t166 134217728) * (wrap64 (Int.tdiv t168 134217728)))))) + (wrap64 (Int.tdiv (wrap64 ((Int.tmod t166 134217728) * (Int.tmod t168 134217728))) 134217728)))) 524288) == 0) = false := beq_eq_false_iff_ne.mpr c26
                      have c26b1 : ((Int.tmod (wrap64 ((wrap64 ((wrap64 ((wrap64 (Int.tdiv t166 134217728)) * (Int.tmod t168 134217728))) + (wrap64 ((Int.tmod t166 134217728) * (wrap64 (Int.tdiv t168 134217728)))))) + (wrap64 (Int.tdiv (wrap64 ((Int.tmod t166 134217728) * (Int.tmod t168 134217728))) 134217728)))) 524288) != 0) = true := bne_iff_ne.mpr c26
                      replace H := Option.bind_eq_some_iff.mp H
                      obtain ⟨t172, A300, H⟩ := H
                      replace H : ((anamnesisref02_with.f (!t161 == t162) t172).bind fun t173 => (some t173)) = some r := H
                      have A30 := Aside0.mk A300
                      clear A300
                      replace H := Option.bind_eq_some_iff.mp H
                      obtain ⟨t173, A310, H⟩ := H
                      replace H : (some t173) = some r := H
                      have A31 := Aside0.mk A310
                      clear A310
                      obtain rfl := Option.some.inj H
                      go_wp2_with (first | (go_at_call 38; (with_reducible refine (anamnesisref02_part.calls kj19 a0 t166 t167 _ A24.out).mono ?_); rintro e w' ⟨rfl, ⟨nd, rfl⟩⟩; (try first | exact ⟨rfl, _, World.drewN_drewN _ _ _⟩ | exact ⟨rfl, _, Eq.trans (World.drewN_drewN _ _ _) (congrArg (World.drewN _) (Nat.add_assoc _ _ _))⟩)) | (go_at_call 38; (with_reducible refine (anamnesisref02_part.calls kj19 a1 t168 t169 _ A25.out).mono ?_); rintro e w' ⟨rfl, ⟨nd, rfl⟩⟩; (try first | exact ⟨rfl, _, World.drewN_drewN _ _ _⟩ | exact ⟨rfl, _, Eq.trans (World.drewN_drewN _ _ _) (congrArg (World.drewN _) (Nat.add_assoc _ _ _))⟩)) | (go_at_call 41; (with_reducible refine (anamnesisref02_round.calls kj19 (wrap64 ((wrap64 ((wrap64 ((wrap64 ((wrap64 (Int.tdiv t166 134217728)) * (wrap64 (Int.tdiv t168 134217728)))) + (wrap64 (Int.tdiv (wrap64 ((wrap64 ((wrap64 ((wrap64 (Int.tdiv t166 134217728)) * (Int.tmod t168 134217728))) + (wrap64 ((Int.tmod t166 134217728) * (wrap64 (Int.tdiv t168 134217728)))))) + (wrap64 (Int.tdiv (wrap64 ((Int.tmod t166 134217728) * (Int.tmod t168 134217728))) 134217728)))) 134217728)))) * 256)) + ((Int.tmod (wrap64 ((wrap64 ((wrap64 ((wrap64 (Int.tdiv t166 134217728)) * (Int.tmod t168 134217728))) + (wrap64 ((Int.tmod t166 134217728) * (wrap64 (Int.tdiv t168 134217728)))))) + (wrap64 (Int.tdiv (wrap64 ((Int.tmod t166 134217728) * (Int.tmod t168 134217728))) 134217728)))) 134217728) / 524288))) (wrap64 ((wrap64 (t167 + t169)) + 46)) true t172 _ A30.out).mono ?_); rintro e w32 ⟨rfl, hb⟩; have n0_ := Aside0.mk (below_step (by repeat (first | (with_reducible first | exact HB.out | apply below_alloc | apply pw_below_drewN | apply below_drew1) | exact HB.out)) hb); clear HB; have HB := n0_; clear n0_; (try clear hb); (try clear hb2); (try clear hk); (try clear hi)) | (go_at_call 32; (with_reducible refine (anamnesisref02_with.calls (!t161 == t162) t172 t173 _ A31.out).mono ?_); rintro e w' ⟨rfl, ⟨nd, rfl⟩⟩; (try first | exact ⟨rfl, _, World.drewN_drewN _ _ _⟩ | exact ⟨rfl, _, Eq.trans (World.drewN_drewN _ _ _) (congrArg (World.drewN _) (Nat.add_assoc _ _ _))⟩)))
                      repeat (go_quiet (first | (go_at_call 38; (with_reducible refine (anamnesisref02_part.calls kj19 a0 t166 t167 _ A24.out).mono ?_); rintro e w' ⟨rfl, ⟨nd, rfl⟩⟩; (try first | exact ⟨rfl, _, World.drewN_drewN _ _ _⟩ | exact ⟨rfl, _, Eq.trans (World.drewN_drewN _ _ _) (congrArg (World.drewN _) (Nat.add_assoc _ _ _))⟩)) | (go_at_call 38; (with_reducible refine (anamnesisref02_part.calls kj19 a1 t168 t169 _ A25.out).mono ?_); rintro e w' ⟨rfl, ⟨nd, rfl⟩⟩; (try first | exact ⟨rfl, _, World.drewN_drewN _ _ _⟩ | exact ⟨rfl, _, Eq.trans (World.drewN_drewN _ _ _) (congrArg (World.drewN _) (Nat.add_assoc _ _ _))⟩)) | (go_at_call 41; (with_reducible refine (anamnesisref02_round.calls kj19 (wrap64 ((wrap64 ((wrap64 ((wrap64 ((wrap64 (Int.tdiv t166 134217728)) * (wrap64 (Int.tdiv t168 134217728)))) + (wrap64 (Int.tdiv (wrap64 ((wrap64 ((wrap64 ((wrap64 (Int.tdiv t166 134217728)) * (Int.tmod t168 134217728))) + (wrap64 ((Int.tmod t166 134217728) * (wrap64 (Int.tdiv t168 134217728)))))) + (wrap64 (Int.tdiv (wrap64 ((Int.tmod t166 134217728) * (Int.tmod t168 134217728))) 134217728)))) 134217728)))) * 256)) + ((Int.tmod (wrap64 ((wrap64 ((wrap64 ((wrap64 (Int.tdiv t166 134217728)) * (Int.tmod t168 134217728))) + (wrap64 ((Int.tmod t166 134217728) * (wrap64 (Int.tdiv t168 134217728)))))) + (wrap64 (Int.tdiv (wrap64 ((Int.tmod t166 134217728) * (Int.tmod t168 134217728))) 134217728)))) 134217728) / 524288))) (wrap64 ((wrap64 (t167 + t169)) + 46)) true t172 _ A30.out).mono ?_); rintro e w32 ⟨rfl, hb⟩; have n0_ := Aside0.mk (below_step (by repeat (first | (with_reducible first | exact HB.out | apply below_alloc | apply pw_below_drewN | apply below_drew1) | exact HB.out)) hb); clear HB; have HB := n0_; clear n0_; (try clear hb); (try clear hb2); (try clear hk); (try clear hi)) | (go_at_call 32; (with_reducible refine (anamnesisref02_with.calls (!t161 == t162) t172 t173 _ A31.out).mono ?_); rintro e w' ⟨rfl, ⟨nd, rfl⟩⟩; (try first | exact ⟨rfl, _, World.drewN_drewN _ _ _⟩ | exact ⟨rfl, _, Eq.trans (World.drewN_drewN _ _ _) (congrArg (World.drewN _) (Nat.add_assoc _ _ _))⟩))); try go_wp2_with (first | (go_at_call 38; (with_reducible refine (anamnesisref02_part.calls kj19 a0 t166 t167 _ A24.out).mono ?_); rintro e w' ⟨rfl, ⟨nd, rfl⟩⟩; (try first | exact ⟨rfl, _, World.drewN_drewN _ _ _⟩ | exact ⟨rfl, _, Eq.trans (World.drewN_drewN _ _ _) (congrArg (World.drewN _) (Nat.add_assoc _ _ _))⟩)) | (go_at_call 38; (with_reducible refine (anamnesisref02_part.calls kj19 a1 t168 t169 _ A25.out).mono ?_); rintro e w' ⟨rfl, ⟨nd, rfl⟩⟩; (try first | exact ⟨rfl, _, World.drewN_drewN _ _ _⟩ | exact ⟨rfl, _, Eq.trans (World.drewN_drewN _ _ _) (congrArg (World.drewN _) (Nat.add_assoc _ _ _))⟩)) | (go_at_call 41; (with_reducible refine (anamnesisref02_round.calls kj19 (wrap64 ((wrap64 ((wrap64 ((wrap64 ((wrap64 (Int.tdiv t166 134217728)) * (wrap64 (Int.tdiv t168 134217728)))) + (wrap64 (Int.tdiv (wrap64 ((wrap64 ((wrap64 ((wrap64 (Int.tdiv t166 134217728)) * (Int.tmod t168 134217728))) + (wrap64 ((Int.tmod t166 134217728) * (wrap64 (Int.tdiv t168 134217728)))))) + (wrap64 (Int.tdiv (wrap64 ((Int.tmod t166 134217728) * (Int.tmod t168 134217728))) 134217728)))) 134217728)))) * 256)) + ((Int.tmod (wrap64 ((wrap64 ((wrap64 ((wrap64 (Int.tdiv t166 134217728)) * (Int.tmod t168 134217728))) + (wrap64 ((Int.tmod t166 134217728) * (wrap64 (Int.tdiv t168 134217728)))))) + (wrap64 (Int.tdiv (wrap64 ((Int.tmod t166 134217728) * (Int.tmod t168 134217728))) 134217728)))) 134217728) / 524288))) (wrap64 ((wrap64 (t167 + t169)) + 46)) true t172 _ A30.out).mono ?_); rintro e w32 ⟨rfl, hb⟩; have n0_ := Aside0.mk (below_step (by repeat (first | (with_reducible first | exact HB.out | apply below_alloc | apply pw_below_drewN | apply below_drew1) | exact HB.out)) hb); clear HB; have HB := n0_; clear n0_; (try clear hb); (try clear hb2); (try clear hk); (try clear hi)) | (go_at_call 32; (with_reducible refine (anamnesisref02_with.calls (!t161 == t162) t172 t173 _ A31.out).mono ?_); rintro e w' ⟨rfl, ⟨nd, rfl⟩⟩; (try first | exact ⟨rfl, _, World.drewN_drewN _ _ _⟩ | exact ⟨rfl, _, Eq.trans (World.drewN_drewN _ _ _) (congrArg (World.drewN _) (Nat.add_assoc _ _ _))⟩))))
                      go_ret
                      exact ⟨by first | rfl | (simp [errW_none, errW_some] <;> rfl) | (simp [*, errW_none, errW_some] <;> rfl) | (simp [wrap64, errW_none, errW_some]; done), by repeat (first | (with_reducible first | exact HB.out | apply below_alloc | apply pw_below_drewN | apply below_drew1) | exact HB.out)⟩

end Go.Proofs.Ytbnpodkfcfdpeaa.PFlt
