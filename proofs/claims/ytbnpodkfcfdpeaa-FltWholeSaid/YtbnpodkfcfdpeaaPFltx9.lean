-- laid by a program of this session (gprint.py)
import Derived.Test.YtbnpodkfcfdpeaaPFltx0
import Derived.Test.YtbnpodkfcfdpeaaPFltx1
import Derived.Test.YtbnpodkfcfdpeaaPFltx2
namespace Go.Proofs.Ytbnpodkfcfdpeaa.PFlt
open Go.RowKit Go.Proofs.YtbnpodkfcfdpeaaW.PrintWords Go.Proofs.YtbnpodkfcfdpeaaW.PrintLast Go.Proofs.YtbnpodkfcfdpeaaW.PrintMore
attribute [local go_sem] max2_int min2_int max_two min_two max_three min_three max_four min_four   -- for this text's walks alone
set_option linter.unusedVariables false
set_option linter.unusedSimpArgs false

/-! ### anamnesislaw02_FltEdges: function 7 -/
mutual
def anamnesislaw02_FltEdges.j0 : Nat → Int → Int → Int → Int → Bool → Option (Bool)
  | 0, _, _, _, _, _ => none
  | k + 1, x1, x7, x8, x9, x97 => if x97 = true then (some false) else (if x7 > 2 then ((flt_Op.f 3 x1 x1).bind fun t273 => ((flt_Of.f 1).bind fun t274 => (if t273 = t274 then (if x7 < 3 then ((anamnesisref02_NaN.f).bind fun t275 => (anamnesislaw02_FltEdges.j1 k x8 x9 (t273 != t275))) else (anamnesislaw02_FltEdges.j1 k x8 x9 false)) else (anamnesislaw02_FltEdges.j1 k x8 x9 true)))) else (if x7 < 3 then ((flt_Op.f 3 x1 x1).bind fun t276 => ((anamnesisref02_NaN.f).bind fun t277 => (anamnesislaw02_FltEdges.j1 k x8 x9 (t276 != t277)))) else (anamnesislaw02_FltEdges.j1 k x8 x9 false)))
def anamnesislaw02_FltEdges.j1 : Nat → Int → Int → Bool → Option (Bool)
  | 0, _, _, _ => none
  | k + 1, x8, x9, x117 => if x117 = true then (some false) else ((flt_Of.f 1).bind fun t278 => ((flt_Op.f 3 t278 0).bind fun t279 => (if t279 = x8 then ((flt_Of.f 1).bind fun t280 => ((flt_Op.f 3 t280 x9).bind fun t281 => (some (t281 == (wrap64 (x8 + x9)))))) else (some false))))
end
def anamnesislaw02_FltEdges.f (k : Nat) (a0 : Int) (a1 : Int) (a2 : Int) : Option (Bool) := (anamnesislaw02_fixed.f).bind fun t255 => ((anamnesisref02_Kind.f a1).bind fun t256 => (if t256 = 0 then ((flt_Op.f a0 a1 a2).bind fun t257 => ((anamnesisref02_NaN.f).bind fun t258 => (if t257 = t258 then ((flt_Op.f a0 a2 a1).bind fun t259 => ((anamnesisref02_NaN.f).bind fun t260 => (if t259 = t260 then ((flt_Less.f a1 a2).bind fun t261 => (if t261 = true then (some false) else ((flt_Less.f a2 a1).bind fun t262 => (if t262 = true then (some false) else ((flt_Equal.f a1 a2).bind fun t263 => (if t263 = true then (some false) else ((flt_Equal.f a1 a1).bind fun t264 => (some (!t264))))))))) else (some false)))) else (some false)))) else ((flt_Equal.f a1 a1).bind fun t265 => (if t265 = true then ((flt_Less.f a1 a1).bind fun t266 => (if t266 = true then (anamnesislaw02_FltEdges.j0 k a1 t256 9218868437227405312 (-9223372036854775808) true) else (if t256 > 1 then ((flt_Less.f a1 9218868437227405312).bind fun t267 => (if t267 = true then ((flt_Less.f (-4503599627370496) a1).bind fun t268 => (if t268 = true then ((flt_Op.f 1 a1 a1).bind fun t269 => (if t269 = 0 then (if t256 = 1 then ((anamnesisref02_NaN.f).bind fun t270 => (anamnesislaw02_FltEdges.j0 k a1 t256 9218868437227405312 (-9223372036854775808) (t269 != t270))) else (anamnesislaw02_FltEdges.j0 k a1 t256 9218868437227405312 (-9223372036854775808) false)) else (anamnesislaw02_FltEdges.j0 k a1 t256 9218868437227405312 (-9223372036854775808) true))) else (anamnesislaw02_FltEdges.j0 k a1 t256 9218868437227405312 (-9223372036854775808) true))) else (anamnesislaw02_FltEdges.j0 k a1 t256 9218868437227405312 (-9223372036854775808) true))) else (if t256 = 1 then ((flt_Op.f 1 a1 a1).bind fun t271 => ((anamnesisref02_NaN.f).bind fun t272 => (anamnesislaw02_FltEdges.j0 k a1 t256 9218868437227405312 (-9223372036854775808) (t271 != t272)))) else (anamnesislaw02_FltEdges.j0 k a1 t256 9218868437227405312 (-9223372036854775808) false))))) else (anamnesislaw02_FltEdges.j0 k a1 t256 9218868437227405312 (-9223372036854775808) true)))))
theorem anamnesislaw02_FltEdges.mono_l : ∀ k, (∀ y0 y1 y2 y3 y4, LeO (anamnesislaw02_FltEdges.j0 k y0 y1 y2 y3 y4) (anamnesislaw02_FltEdges.j0 (k + 1) y0 y1 y2 y3 y4)) ∧ (∀ y0 y1 y2, LeO (anamnesislaw02_FltEdges.j1 k y0 y1 y2) (anamnesislaw02_FltEdges.j1 (k + 1) y0 y1 y2))
  | 0 => ⟨fun _ _ _ _ _ r h => by simp [anamnesislaw02_FltEdges.j0] at h, fun _ _ _ r h => by simp [anamnesislaw02_FltEdges.j1] at h⟩
  | k + 1 => by
    obtain ⟨ih0, ih1⟩ := anamnesislaw02_FltEdges.mono_l k
    refine ⟨?_, ?_⟩
    · intro y0 y1 y2 y3 y4
      unfold anamnesislaw02_FltEdges.j0
      repeat' first
      | (with_reducible exact ih0 _ _ _ _ _)
      | (with_reducible exact ih1 _ _ _)
      | (with_reducible exact LeO.refl _)
      | (with_reducible exact LeO.none _)
      | (with_reducible refine LeO.ite ?_ ?_)
      | (with_reducible refine LeO.bind ?_ (fun _ => ?_))
      | exact ih0 _ _ _ _ _
      | exact ih1 _ _ _
      | exact LeO.none _
      | refine LeO.ite ?_ ?_
      | refine LeO.bind ?_ (fun _ => ?_)
    · intro y0 y1 y2
      unfold anamnesislaw02_FltEdges.j1
      repeat' first
      | (with_reducible exact ih0 _ _ _ _ _)
      | (with_reducible exact ih1 _ _ _)
      | (with_reducible exact LeO.refl _)
      | (with_reducible exact LeO.none _)
      | (with_reducible refine LeO.ite ?_ ?_)
      | (with_reducible refine LeO.bind ?_ (fun _ => ?_))
      | exact ih0 _ _ _ _ _
      | exact ih1 _ _ _
      | exact LeO.none _
      | refine LeO.ite ?_ ?_
      | refine LeO.bind ?_ (fun _ => ?_)
theorem anamnesislaw02_FltEdges.mono : ∀ a0 a1 a2 k, LeO (anamnesislaw02_FltEdges.f k a0 a1 a2) (anamnesislaw02_FltEdges.f (k + 1) a0 a1 a2) := by
  intro a0 a1 a2 k
  obtain ⟨ih0, ih1⟩ := anamnesislaw02_FltEdges.mono_l k
  unfold anamnesislaw02_FltEdges.f
  repeat' first
      | (with_reducible exact ih0 _ _ _ _ _)
      | (with_reducible exact ih1 _ _ _)
      | (with_reducible exact LeO.refl _)
      | (with_reducible exact LeO.none _)
      | (with_reducible refine LeO.ite ?_ ?_)
      | (with_reducible refine LeO.bind ?_ (fun _ => ?_))
      | exact ih0 _ _ _ _ _
      | exact ih1 _ _ _
      | exact LeO.none _
      | refine LeO.ite ?_ ?_
      | refine LeO.bind ?_ (fun _ => ?_)
set_option maxHeartbeats 8000000 in
set_option maxRecDepth 100000 in
theorem anamnesislaw02_FltEdges.calls (k : Nat) (a0 : Int) (a1 : Int) (a2 : Int) (r : Bool) (w : World) (h : anamnesislaw02_FltEdges.f k a0 a1 a2 = some r) (hr : r = true) :
    Calls Try.prog 7 #[.int .i64 a0, .int .i64 a1, .int .i64 a2] w fun e w' => e = .returned (.bool r) ∧ Below w.heap.size w w' := by
  have hr_ := Aside0.mk hr
  clear hr
  have HB := Aside0.mk (Below.refl w.heap.size w)
  have H : ((anamnesislaw02_fixed.f).bind fun t255 => ((anamnesisref02_Kind.f a1).bind fun t256 => (if t256 = 0 then ((flt_Op.f a0 a1 a2).bind fun t257 => ((anamnesisref02_NaN.f).bind fun t258 => (if t257 = t258 then ((flt_Op.f a0 a2 a1).bind fun t259 => ((anamnesisref02_NaN.f).bind fun t260 => (if t259 = t260 then ((flt_Less.f a1 a2).bind fun t261 => (if t261 = true then (some false) else ((flt_Less.f a2 a1).bind fun t262 => (if t262 = true then (some false) else ((flt_Equal.f a1 a2).bind fun t263 => (if t263 = true then (some false) else ((flt_Equal.f a1 a1).bind fun t264 => (some (!t264))))))))) else (some false)))) else (some false)))) else ((flt_Equal.f a1 a1).bind fun t265 => (if t265 = true then ((flt_Less.f a1 a1).bind fun t266 => (if t266 = true then (anamnesislaw02_FltEdges.j0 k a1 t256 9218868437227405312 (-9223372036854775808) true) else (if t256 > 1 then ((flt_Less.f a1 9218868437227405312).bind fun t267 => (if t267 = true then ((flt_Less.f (-4503599627370496) a1).bind fun t268 => (if t268 = true then ((flt_Op.f 1 a1 a1).bind fun t269 => (if t269 = 0 then (if t256 = 1 then ((anamnesisref02_NaN.f).bind fun t270 => (anamnesislaw02_FltEdges.j0 k a1 t256 9218868437227405312 (-9223372036854775808) (t269 != t270))) else (anamnesislaw02_FltEdges.j0 k a1 t256 9218868437227405312 (-9223372036854775808) false)) else (anamnesislaw02_FltEdges.j0 k a1 t256 9218868437227405312 (-9223372036854775808) true))) else (anamnesislaw02_FltEdges.j0 k a1 t256 9218868437227405312 (-9223372036854775808) true))) else (anamnesislaw02_FltEdges.j0 k a1 t256 9218868437227405312 (-9223372036854775808) true))) else (if t256 = 1 then ((flt_Op.f 1 a1 a1).bind fun t271 => ((anamnesisref02_NaN.f).bind fun t272 => (anamnesislaw02_FltEdges.j0 k a1 t256 9218868437227405312 (-9223372036854775808) (t271 != t272)))) else (anamnesislaw02_FltEdges.j0 k a1 t256 9218868437227405312 (-9223372036854775808) false))))) else (anamnesislaw02_FltEdges.j0 k a1 t256 9218868437227405312 (-9223372036854775808) true)))))) = some r := h
  clear h
  replace H := Option.bind_eq_some_iff.mp H
  obtain ⟨t255, A40, H⟩ := H
  replace H : ((anamnesisref02_Kind.f a1).bind fun t256 => (if t256 = 0 then ((flt_Op.f a0 a1 a2).bind fun t257 => ((anamnesisref02_NaN.f).bind fun t258 => (if t257 = t258 then ((flt_Op.f a0 a2 a1).bind fun t259 => ((anamnesisref02_NaN.f).bind fun t260 => (if t259 = t260 then ((flt_Less.f a1 a2).bind fun t261 => (if t261 = true then (some false) else ((flt_Less.f a2 a1).bind fun t262 => (if t262 = true then (some false) else ((flt_Equal.f a1 a2).bind fun t263 => (if t263 = true then (some false) else ((flt_Equal.f a1 a1).bind fun t264 => (some (!t264))))))))) else (some false)))) else (some false)))) else ((flt_Equal.f a1 a1).bind fun t265 => (if t265 = true then ((flt_Less.f a1 a1).bind fun t266 => (if t266 = true then (anamnesislaw02_FltEdges.j0 k a1 t256 9218868437227405312 (-9223372036854775808) true) else (if t256 > 1 then ((flt_Less.f a1 9218868437227405312).bind fun t267 => (if t267 = true then ((flt_Less.f (-4503599627370496) a1).bind fun t268 => (if t268 = true then ((flt_Op.f 1 a1 a1).bind fun t269 => (if t269 = 0 then (if t256 = 1 then ((anamnesisref02_NaN.f).bind fun t270 => (anamnesislaw02_FltEdges.j0 k a1 t256 9218868437227405312 (-9223372036854775808) (t269 != t270))) else (anamnesislaw02_FltEdges.j0 k a1 t256 9218868437227405312 (-9223372036854775808) false)) else (anamnesislaw02_FltEdges.j0 k a1 t256 9218868437227405312 (-9223372036854775808) true))) else (anamnesislaw02_FltEdges.j0 k a1 t256 9218868437227405312 (-9223372036854775808) true))) else (anamnesislaw02_FltEdges.j0 k a1 t256 9218868437227405312 (-9223372036854775808) true))) else (if t256 = 1 then ((flt_Op.f 1 a1 a1).bind fun t271 => ((anamnesisref02_NaN.f).bind fun t272 => (anamnesislaw02_FltEdges.j0 k a1 t256 9218868437227405312 (-9223372036854775808) (t271 != t272)))) else (anamnesislaw02_FltEdges.j0 k a1 t256 9218868437227405312 (-9223372036854775808) false))))) else (anamnesislaw02_FltEdges.j0 k a1 t256 9218868437227405312 (-9223372036854775808) true))))) = some r := H
  have A4 := Aside0.mk A40
  clear A40
  replace H := Option.bind_eq_some_iff.mp H
  obtain ⟨t256, A50, H⟩ := H
  replace H : (if t256 = 0 then ((flt_Op.f a0 a1 a2).bind fun t257 => ((anamnesisref02_NaN.f).bind fun t258 => (if t257 = t258 then ((flt_Op.f a0 a2 a1).bind fun t259 => ((anamnesisref02_NaN.f).bind fun t260 => (if t259 = t260 then ((flt_Less.f a1 a2).bind fun t261 => (if t261 = true then (some false) else ((flt_Less.f a2 a1).bind fun t262 => (if t262 = true then (some false) else ((flt_Equal.f a1 a2).bind fun t263 => (if t263 = true then (some false) else ((flt_Equal.f a1 a1).bind fun t264 => (some (!t264))))))))) else (some false)))) else (some false)))) else ((flt_Equal.f a1 a1).bind fun t265 => (if t265 = true then ((flt_Less.f a1 a1).bind fun t266 => (if t266 = true then (anamnesislaw02_FltEdges.j0 k a1 t256 9218868437227405312 (-9223372036854775808) true) else (if t256 > 1 then ((flt_Less.f a1 9218868437227405312).bind fun t267 => (if t267 = true then ((flt_Less.f (-4503599627370496) a1).bind fun t268 => (if t268 = true then ((flt_Op.f 1 a1 a1).bind fun t269 => (if t269 = 0 then (if t256 = 1 then ((anamnesisref02_NaN.f).bind fun t270 => (anamnesislaw02_FltEdges.j0 k a1 t256 9218868437227405312 (-9223372036854775808) (t269 != t270))) else (anamnesislaw02_FltEdges.j0 k a1 t256 9218868437227405312 (-9223372036854775808) false)) else (anamnesislaw02_FltEdges.j0 k a1 t256 9218868437227405312 (-9223372036854775808) true))) else (anamnesislaw02_FltEdges.j0 k a1 t256 9218868437227405312 (-9223372036854775808) true))) else (anamnesislaw02_FltEdges.j0 k a1 t256 9218868437227405312 (-9223372036854775808) true))) else (if t256 = 1 then ((flt_Op.f 1 a1 a1).bind fun t271 => ((anamnesisref02_NaN.f).bind fun t272 => (anamnesislaw02_FltEdges.j0 k a1 t256 9218868437227405312 (-9223372036854775808) (t271 != t272)))) else (anamnesislaw02_FltEdges.j0 k a1 t256 9218868437227405312 (-9223372036854775808) false))))) else (anamnesislaw02_FltEdges.j0 k a1 t256 9218868437227405312 (-9223372036854775808) true)))) = some r := H
  have A5 := Aside0.mk A50
  clear A50
  by_cases c6 : t256 = 0
  · rw [if_pos c6] at H
    have c6b0 : (t256 == 0) = true := beq_iff_eq.mpr c6
    have c6b1 : (t256 != 0) = false := bne_eq_false_iff_eq.mpr c6
    clear c6
    replace H := Option.bind_eq_some_iff.mp H
    obtain ⟨t257, A70, H⟩ := H
    replace H : ((anamnesisref02_NaN.f).bind fun t258 => (if t257 = t258 then ((flt_Op.f a0 a2 a1).bind fun t259 => ((anamnesisref02_NaN.f).bind fun t260 => (if t259 = t260 then ((flt_Less.f a1 a2).bind fun t261 => (if t261 = true then (some false) else ((flt_Less.f a2 a1).bind fun t262 => (if t262 = true then (some false) else ((flt_Equal.f a1 a2).bind fun t263 => (if t263 = true then (some false) else ((flt_Equal.f a1 a1).bind fun t264 => (some (!t264))))))))) else (some false)))) else (some false))) = some r := H
    have A7 := Aside0.mk A70
    clear A70
    replace H := Option.bind_eq_some_iff.mp H
    obtain ⟨t258, A80, H⟩ := H
    replace H : (if t257 = t258 then ((flt_Op.f a0 a2 a1).bind fun t259 => ((anamnesisref02_NaN.f).bind fun t260 => (if t259 = t260 then ((flt_Less.f a1 a2).bind fun t261 => (if t261 = true then (some false) else ((flt_Less.f a2 a1).bind fun t262 => (if t262 = true then (some false) else ((flt_Equal.f a1 a2).bind fun t263 => (if t263 = true then (some false) else ((flt_Equal.f a1 a1).bind fun t264 => (some (!t264))))))))) else (some false)))) else (some false)) = some r := H
    have A8 := Aside0.mk A80
    clear A80
    by_cases c9 : t257 = t258
    · rw [if_pos c9] at H
      have c9b0 : (t257 == t258) = true := beq_iff_eq.mpr c9
      have c9b1 : (t257 != t258) = false := bne_eq_false_iff_eq.mpr c9
      clear c9
      replace H := Option.bind_eq_some_iff.mp H
      obtain ⟨t259, A100, H⟩ := H
      replace H : ((anamnesisref02_NaN.f).bind fun t260 => (if t259 = t260 then ((flt_Less.f a1 a2).bind fun t261 => (if t261 = true then (some false) else ((flt_Less.f a2 a1).bind fun t262 => (if t262 = true then (some false) else ((flt_Equal.f a1 a2).bind fun t263 => (if t263 = true then (some false) else ((flt_Equal.f a1 a1).bind fun t264 => (some (!t264))))))))) else (some false))) = some r := H
      have A10 := Aside0.mk A100
      clear A100
      replace H := Option.bind_eq_some_iff.mp H
      obtain ⟨t260, A110, H⟩ := H
      replace H : (if t259 = t260 then ((flt_Less.f a1 a2).bind fun t261 => (if t261 = true then (some false) else ((flt_Less.f a2 a1).bind fun t262 => (if t262 = true then (some false) else ((flt_Equal.f a1 a2).bind fun t263 => (if t263 = true then (some false) else ((flt_Equal.f a1 a1).bind fun t264 => (some (!t264))))))))) else (some false)) = some r := H
      have A11 := Aside0.mk A110
      clear A110
      by_cases c12 : t259 = t260
      · rw [if_pos c12] at H
        have c12b0 : (t259 == t260) = true := beq_iff_eq.mpr c12
        have c12b1 : (t259 != t260) = false := bne_eq_false_iff_eq.mpr c12
        clear c12
        replace H := Option.bind_eq_some_iff.mp H
        obtain ⟨t261, A130, H⟩ := H
        replace H : (if t261 = true then (some false) else ((flt_Less.f a2 a1).bind fun t262 => (if t262 = true then (some false) else ((flt_Equal.f a1 a2).bind fun t263 => (if t263 = true then (some false) else ((flt_Equal.f a1 a1).bind fun t264 => (some (!t264)))))))) = some r := H
        have A13 := Aside0.mk A130
        clear A130
        by_cases c14 : t261 = true
        · subst c14
          have H1 : (some false) = some r := by rw [if_pos rfl] at H; exact H
          clear H
          have H := H1
          clear H1
          obtain rfl := Option.some.inj H
          exact absurd hr_.out (by decide)
        · replace c14 := Bool.eq_false_iff.mpr c14
          subst c14
          have H1 : ((flt_Less.f a2 a1).bind fun t262 => (if t262 = true then (some false) else ((flt_Equal.f a1 a2).bind fun t263 => (if t263 = true then (some false) else ((flt_Equal.f a1 a1).bind fun t264 => (some (!t264))))))) = some r := by rw [if_neg (show ¬ (false = true) by decide)] at H; exact H
          clear H
          have H := H1
          clear H1
          replace H := Option.bind_eq_some_iff.mp H
          obtain ⟨t262, A150, H⟩ := H
          replace H : (if t262 = true then (some false) else ((flt_Equal.f a1 a2).bind fun t263 => (if t263 = true then (some false) else ((flt_Equal.f a1 a1).bind fun t264 => (some (!t264)))))) = some r := H
          have A15 := Aside0.mk A150
          clear A150
          by_cases c16 : t262 = true
          · subst c16
            have H1 : (some false) = some r := by rw [if_pos rfl] at H; exact H
            clear H
            have H := H1
            clear H1
            obtain rfl := Option.some.inj H
            exact absurd hr_.out (by decide)
          · replace c16 := Bool.eq_false_iff.mpr c16
            subst c16
            have H1 : ((flt_Equal.f a1 a2).bind fun t263 => (if t263 = true then (some false) else ((flt_Equal.f a1 a1).bind fun t264 => (some (!t264))))) = some r := by rw [if_neg (show ¬ (false = true) by decide)] at H; exact H
            clear H
            have H := H1
            clear H1
            replace H := Option.bind_eq_some_iff.mp H
            obtain ⟨t263, A170, H⟩ := H
            replace H : (if t263 = true then (some false) else ((flt_Equal.f a1 a1).bind fun t264 => (some (!t264)))) = some r := H
            have A17 := Aside0.mk A170
            clear A170
            by_cases c18 : t263 = true
            · subst c18
              have H1 : (some false) = some r := by rw [if_pos rfl] at H; exact H
              clear H
              have H := H1
              clear H1
              obtain rfl := Option.some.inj H
              exact absurd hr_.out (by decide)
            · replace c18 := Bool.eq_false_iff.mpr c18
              subst c18
              have H1 : ((flt_Equal.f a1 a1).bind fun t264 => (some (!t264))) = some r := by rw [if_neg (show ¬ (false = true) by decide)] at H; exact H
              clear H
              have H := H1
              clear H1
              replace H := Option.bind_eq_some_iff.mp H
              obtain ⟨t264, A190, H⟩ := H
              replace H : (some (!t264)) = some r := H
              have A19 := Aside0.mk A190
              clear A190
              obtain rfl := Option.some.inj H
              go_enter Try.func7, Try.ntmps7
              go_wp2_with (first | ((with_reducible refine gate_callee (f := 11) rfl ?_); refine goesL_ (some 10) rfl rfl Try.func11 (by kernel_rfl) rfl #[] rfl (by (try simp only [List.map_toArray, List.map_cons, List.map_nil]); first | done | rfl | (simp only [List.length_drop, List.length_take]; rfl)) ?_; (with_reducible refine (anamnesislaw02_fixed.calls  t255 _ A4.out).mono ?_); rintro e w20 ⟨rfl, hb⟩; refine ⟨_, rfl, ?_⟩; have n0_ := Aside0.mk (below_step (by repeat (first | (with_reducible first | exact HB.out | apply below_alloc | apply pw_below_drewN | apply below_drew1) | exact HB.out)) hb); clear HB; have HB := n0_; clear n0_; (try clear hb); (try clear hb2); (try clear hk); (try clear hi)) | ((with_reducible refine gate_callee (f := 17) rfl ?_); refine goesL_ (some 13) rfl rfl Try.func17 (by kernel_rfl) rfl #[.int .i64 a1] rfl (by (try simp only [List.map_toArray, List.map_cons, List.map_nil]); first | done | rfl | (simp only [List.length_drop, List.length_take]; rfl)) ?_; (with_reducible refine (anamnesisref02_Kind.calls a1 t256 _ A5.out).mono ?_); rintro e w' ⟨rfl, ⟨nd, rfl⟩⟩; refine ⟨_, rfl, ?_⟩) | ((with_reducible refine gate_callee (f := 12) rfl ?_); refine goesL_ (some 19) rfl rfl Try.func12 (by kernel_rfl) rfl #[.int .i64 a0, .int .i64 a1, .int .i64 a2] rfl (by (try simp only [List.map_toArray, List.map_cons, List.map_nil]); first | done | rfl | (simp only [List.length_drop, List.length_take]; rfl)) ?_; (with_reducible refine (flt_Op.calls a0 a1 a2 t257 _ A7.out).mono ?_); rintro e w' ⟨rfl, ⟨nd, rfl⟩⟩; refine ⟨_, rfl, ?_⟩) | ((with_reducible refine gate_callee (f := 28) rfl ?_); refine goesL_ (some 20) rfl rfl Try.func28 (by kernel_rfl) rfl #[] rfl (by (try simp only [List.map_toArray, List.map_cons, List.map_nil]); first | done | rfl | (simp only [List.length_drop, List.length_take]; rfl)) ?_; (with_reducible refine (anamnesisref02_NaN.calls  t258 _ A8.out).mono ?_); rintro e w' ⟨rfl, ⟨nd, rfl⟩⟩; refine ⟨_, rfl, ?_⟩) | (go_at_call 12; (with_reducible refine (flt_Op.calls a0 a2 a1 t259 _ A10.out).mono ?_); rintro e w' ⟨rfl, ⟨nd, rfl⟩⟩) | (go_at_call 28; (with_reducible refine (anamnesisref02_NaN.calls  t260 _ A11.out).mono ?_); rintro e w' ⟨rfl, ⟨nd, rfl⟩⟩) | (go_at_call 24; (with_reducible refine (flt_Less.calls a1 a2 false _ A13.out).mono ?_); rintro e w' ⟨rfl, ⟨nd, rfl⟩⟩) | (go_at_call 24; (with_reducible refine (flt_Less.calls a2 a1 false _ A15.out).mono ?_); rintro e w' ⟨rfl, ⟨nd, rfl⟩⟩) | (go_at_call 26; (with_reducible refine (flt_Equal.calls a1 a2 false _ A17.out).mono ?_); rintro e w' ⟨rfl, ⟨nd, rfl⟩⟩) | (go_at_call 26; (with_reducible refine (flt_Equal.calls a1 a1 t264 _ A19.out).mono ?_); rintro e w' ⟨rfl, ⟨nd, rfl⟩⟩))
              go_ret
              exact ⟨by first | rfl | (simp [errW_none, errW_some] <;> rfl) | (simp [*, errW_none, errW_some] <;> rfl) | (simp [wrap64, errW_none, errW_some]; done), by repeat (first | (with_reducible first | exact HB.out | apply below_alloc | apply pw_below_drewN | apply below_drew1) | exact HB.out)⟩
      · rw [if_neg c12] at H
        have c12b0 : (t259 == t260) = false := beq_eq_false_iff_ne.mpr c12
        have c12b1 : (t259 != t260) = true := bne_iff_ne.mpr c12
        obtain rfl := Option.some.inj H
        exact absurd hr_.out (by decide)
    · rw [if_neg c9] at H
      have c9b0 : (t257 == t258) = false := beq_eq_false_iff_ne.mpr c9
      have c9b1 : (t257 != t258) = true := bne_iff_ne.mpr c9
      obtain rfl := Option.some.inj H
      exact absurd hr_.out (by decide)
  · rw [if_neg c6] at H
    have c6b0 : (t256 == 0) = false := beq_eq_false_iff_ne.mpr c6
    have c6b1 : (t256 != 0) = true := bne_iff_ne.mpr c6
    have HC21 := Aside0.mk H
    clear H
    go_enter Try.func7, Try.ntmps7
    go_upto_region 6 with (first | ((with_reducible refine gate_callee (f := 11) rfl ?_); refine goesL_ (some 10) rfl rfl Try.func11 (by kernel_rfl) rfl #[] rfl (by (try simp only [List.map_toArray, List.map_cons, List.map_nil]); first | done | rfl | (simp only [List.length_drop, List.length_take]; rfl)) ?_; (with_reducible refine (anamnesislaw02_fixed.calls  t255 _ A4.out).mono ?_); rintro e w22 ⟨rfl, hb⟩; refine ⟨_, rfl, ?_⟩; have n0_ := Aside0.mk (below_step (by repeat (first | (with_reducible first | exact HB.out | apply below_alloc | apply pw_below_drewN | apply below_drew1) | exact HB.out)) hb); clear HB; have HB := n0_; clear n0_; (try clear hb); (try clear hb2); (try clear hk); (try clear hi)) | ((with_reducible refine gate_callee (f := 17) rfl ?_); refine goesL_ (some 13) rfl rfl Try.func17 (by kernel_rfl) rfl #[.int .i64 a1] rfl (by (try simp only [List.map_toArray, List.map_cons, List.map_nil]); first | done | rfl | (simp only [List.length_drop, List.length_take]; rfl)) ?_; (with_reducible refine (anamnesisref02_Kind.calls a1 t256 _ A5.out).mono ?_); rintro e w' ⟨rfl, ⟨nd, rfl⟩⟩; refine ⟨_, rfl, ?_⟩))
    (try simp only [Act.put, List.setIfInBounds_toArray, List.set_cons_zero, List.set_cons_succ])
    go_cut [97] (fun v97 wc => ∃ (kq : Nat) (x97_20 : Bool), v97 = .bool x97_20 ∧ Aside0 (anamnesislaw02_FltEdges.j0 kq a1 t256 9218868437227405312 (-9223372036854775808) x97_20 = some r) ∧ Aside0 (kq ≤ k) ∧ Aside0 (Below w.heap.size w wc))
    case first =>
      have H := HC21.out
      clear HC21
      replace H := Option.bind_eq_some_iff.mp H
      obtain ⟨t265, A230, H⟩ := H
      replace H : (if t265 = true then ((flt_Less.f a1 a1).bind fun t266 => (if t266 = true then (anamnesislaw02_FltEdges.j0 k a1 t256 9218868437227405312 (-9223372036854775808) true) else (if t256 > 1 then ((flt_Less.f a1 9218868437227405312).bind fun t267 => (if t267 = true then ((flt_Less.f (-4503599627370496) a1).bind fun t268 => (if t268 = true then ((flt_Op.f 1 a1 a1).bind fun t269 => (if t269 = 0 then (if t256 = 1 then ((anamnesisref02_NaN.f).bind fun t270 => (anamnesislaw02_FltEdges.j0 k a1 t256 9218868437227405312 (-9223372036854775808) (t269 != t270))) else (anamnesislaw02_FltEdges.j0 k a1 t256 9218868437227405312 (-9223372036854775808) false)) else (anamnesislaw02_FltEdges.j0 k a1 t256 9218868437227405312 (-9223372036854775808) true))) else (anamnesislaw02_FltEdges.j0 k a1 t256 9218868437227405312 (-9223372036854775808) true))) else (anamnesislaw02_FltEdges.j0 k a1 t256 9218868437227405312 (-9223372036854775808) true))) else (if t256 = 1 then ((flt_Op.f 1 a1 a1).bind fun t271 => ((anamnesisref02_NaN.f).bind fun t272 => (anamnesislaw02_FltEdges.j0 k a1 t256 9218868437227405312 (-9223372036854775808) (t271 != t272)))) else (anamnesislaw02_FltEdges.j0 k a1 t256 9218868437227405312 (-9223372036854775808) false))))) else (anamnesislaw02_FltEdges.j0 k a1 t256 9218868437227405312 (-9223372036854775808) true)) = some r := H
      have A23 := Aside0.mk A230
      clear A230
      by_cases c24 : t265 = true
      · subst c24
        have H1 : ((flt_Less.f a1 a1).bind fun t266 => (if t266 = true then (anamnesislaw02_FltEdges.j0 k a1 t256 9218868437227405312 (-9223372036854775808) true) else (if t256 > 1 then ((flt_Less.f a1 9218868437227405312).bind fun t267 => (if t267 = true then ((flt_Less.f (-4503599627370496) a1).bind fun t268 => (if t268 = true then ((flt_Op.f 1 a1 a1).bind fun t269 => (if t269 = 0 then (if t256 = 1 then ((anamnesisref02_NaN.f).bind fun t270 => (anamnesislaw02_FltEdges.j0 k a1 t256 9218868437227405312 (-9223372036854775808) (t269 != t270))) else (anamnesislaw02_FltEdges.j0 k a1 t256 9218868437227405312 (-9223372036854775808) false)) else (anamnesislaw02_FltEdges.j0 k a1 t256 9218868437227405312 (-9223372036854775808) true))) else (anamnesislaw02_FltEdges.j0 k a1 t256 9218868437227405312 (-9223372036854775808) true))) else (anamnesislaw02_FltEdges.j0 k a1 t256 9218868437227405312 (-9223372036854775808) true))) else (if t256 = 1 then ((flt_Op.f 1 a1 a1).bind fun t271 => ((anamnesisref02_NaN.f).bind fun t272 => (anamnesislaw02_FltEdges.j0 k a1 t256 9218868437227405312 (-9223372036854775808) (t271 != t272)))) else (anamnesislaw02_FltEdges.j0 k a1 t256 9218868437227405312 (-9223372036854775808) false))))) = some r := by rw [if_pos rfl] at H; exact H
        clear H
        have H := H1
        clear H1
        replace H := Option.bind_eq_some_iff.mp H
        obtain ⟨t266, A250, H⟩ := H
        replace H : (if t266 = true then (anamnesislaw02_FltEdges.j0 k a1 t256 9218868437227405312 (-9223372036854775808) true) else (if t256 > 1 then ((flt_Less.f a1 9218868437227405312).bind fun t267 => (if t267 = true then ((flt_Less.f (-4503599627370496) a1).bind fun t268 => (if t268 = true then ((flt_Op.f 1 a1 a1).bind fun t269 => (if t269 = 0 then (if t256 = 1 then ((anamnesisref02_NaN.f).bind fun t270 => (anamnesislaw02_FltEdges.j0 k a1 t256 9218868437227405312 (-9223372036854775808) (t269 != t270))) else (anamnesislaw02_FltEdges.j0 k a1 t256 9218868437227405312 (-9223372036854775808) false)) else (anamnesislaw02_FltEdges.j0 k a1 t256 9218868437227405312 (-9223372036854775808) true))) else (anamnesislaw02_FltEdges.j0 k a1 t256 9218868437227405312 (-9223372036854775808) true))) else (anamnesislaw02_FltEdges.j0 k a1 t256 9218868437227405312 (-9223372036854775808) true))) else (if t256 = 1 then ((flt_Op.f 1 a1 a1).bind fun t271 => ((anamnesisref02_NaN.f).bind fun t272 => (anamnesislaw02_FltEdges.j0 k a1 t256 9218868437227405312 (-9223372036854775808) (t271 != t272)))) else (anamnesislaw02_FltEdges.j0 k a1 t256 9218868437227405312 (-9223372036854775808) false)))) = some r := H
        have A25 := Aside0.mk A250
        clear A250
        by_cases c26 : t266 = true
        · subst c26
          have H1 : (anamnesislaw02_FltEdges.j0 k a1 t256 9218868437227405312 (-9223372036854775808) true) = some r := by rw [if_pos rfl] at H; exact H
          clear H
          have H := H1
          clear H1
          have H' := Aside0.mk H
          clear H
          go_wp2_with (first | ((with_reducible refine gate_callee (f := 26) rfl ?_); refine goesL_ (some 56) rfl rfl Try.func26 (by kernel_rfl) rfl #[.int .i64 a1, .int .i64 a1] rfl (by (try simp only [List.map_toArray, List.map_cons, List.map_nil]); first | done | rfl | (simp only [List.length_drop, List.length_take]; rfl)) ?_; (with_reducible refine (flt_Equal.calls a1 a1 true _ A23.out).mono ?_); rintro e w' ⟨rfl, ⟨nd, rfl⟩⟩; refine ⟨_, rfl, ?_⟩) | (go_at_call 24; (with_reducible refine (flt_Less.calls a1 a1 true _ A25.out).mono ?_); rintro e w' ⟨rfl, ⟨nd, rfl⟩⟩))
          go_meet
          case rel => exact ⟨_, (true), (by first | rfl | (simp; done) | (simp [*]; done)), H', ⟨by first | omega | exact Nat.le_refl _⟩, ⟨by repeat (first | (with_reducible first | exact HB.out | apply below_alloc | apply pw_below_drewN | apply below_drew1) | exact HB.out)⟩⟩
        · replace c26 := Bool.eq_false_iff.mpr c26
          subst c26
          have H1 : (if t256 > 1 then ((flt_Less.f a1 9218868437227405312).bind fun t267 => (if t267 = true then ((flt_Less.f (-4503599627370496) a1).bind fun t268 => (if t268 = true then ((flt_Op.f 1 a1 a1).bind fun t269 => (if t269 = 0 then (if t256 = 1 then ((anamnesisref02_NaN.f).bind fun t270 => (anamnesislaw02_FltEdges.j0 k a1 t256 9218868437227405312 (-9223372036854775808) (t269 != t270))) else (anamnesislaw02_FltEdges.j0 k a1 t256 9218868437227405312 (-9223372036854775808) false)) else (anamnesislaw02_FltEdges.j0 k a1 t256 9218868437227405312 (-9223372036854775808) true))) else (anamnesislaw02_FltEdges.j0 k a1 t256 9218868437227405312 (-9223372036854775808) true))) else (anamnesislaw02_FltEdges.j0 k a1 t256 9218868437227405312 (-9223372036854775808) true))) else (if t256 = 1 then ((flt_Op.f 1 a1 a1).bind fun t271 => ((anamnesisref02_NaN.f).bind fun t272 => (anamnesislaw02_FltEdges.j0 k a1 t256 9218868437227405312 (-9223372036854775808) (t271 != t272)))) else (anamnesislaw02_FltEdges.j0 k a1 t256 9218868437227405312 (-9223372036854775808) false))) = some r := by rw [if_neg (show ¬ (false = true) by decide)] at H; exact H
          clear H
          have H := H1
          clear H1
          by_cases c27 : t256 > 1
          · rw [if_pos c27] at H
            have c27b0 : decide (1 < t256) = true := decide_eq_true c27
            clear c27
            (first | rw [c27b0] | (simp only [i64_w, i32_w]; rw [c27b0]) | skip)
            replace H := Option.bind_eq_some_iff.mp H
            obtain ⟨t267, A280, H⟩ := H
            replace H : (if t267 = true then ((flt_Less.f (-4503599627370496) a1).bind fun t268 => (if t268 = true then ((flt_Op.f 1 a1 a1).bind fun t269 => (if t269 = 0 then (if t256 = 1 then ((anamnesisref02_NaN.f).bind fun t270 => (anamnesislaw02_FltEdges.j0 k a1 t256 9218868437227405312 (-9223372036854775808) (t269 != t270))) else (anamnesislaw02_FltEdges.j0 k a1 t256 9218868437227405312 (-9223372036854775808) false)) else (anamnesislaw02_FltEdges.j0 k a1 t256 9218868437227405312 (-9223372036854775808) true))) else (anamnesislaw02_FltEdges.j0 k a1 t256 9218868437227405312 (-9223372036854775808) true))) else (anamnesislaw02_FltEdges.j0 k a1 t256 9218868437227405312 (-9223372036854775808) true)) = some r := H
            have A28 := Aside0.mk A280
            clear A280
            by_cases c29 : t267 = true
            · subst c29
              have H1 : ((flt_Less.f (-4503599627370496) a1).bind fun t268 => (if t268 = true then ((flt_Op.f 1 a1 a1).bind fun t269 => (if t269 = 0 then (if t256 = 1 then ((anamnesisref02_NaN.f).bind fun t270 => (anamnesislaw02_FltEdges.j0 k a1 t256 9218868437227405312 (-9223372036854775808) (t269 != t270))) else (anamnesislaw02_FltEdges.j0 k a1 t256 9218868437227405312 (-9223372036854775808) false)) else (anamnesislaw02_FltEdges.j0 k a1 t256 9218868437227405312 (-9223372036854775808) true))) else (anamnesislaw02_FltEdges.j0 k a1 t256 9218868437227405312 (-9223372036854775808) true))) = some r := by rw [if_pos rfl] at H; exact H
              clear H
              have H := H1
              clear H1
              replace H := Option.bind_eq_some_iff.mp H
              obtain ⟨t268, A300, H⟩ := H
              replace H : (if t268 = true then ((flt_Op.f 1 a1 a1).bind fun t269 => (if t269 = 0 then (if t256 = 1 then ((anamnesisref02_NaN.f).bind fun t270 => (anamnesislaw02_FltEdges.j0 k a1 t256 9218868437227405312 (-9223372036854775808) (t269 != t270))) else (anamnesislaw02_FltEdges.j0 k a1 t256 9218868437227405312 (-9223372036854775808) false)) else (anamnesislaw02_FltEdges.j0 k a1 t256 9218868437227405312 (-9223372036854775808) true))) else (anamnesislaw02_FltEdges.j0 k a1 t256 9218868437227405312 (-9223372036854775808) true)) = some r := H
              have A30 := Aside0.mk A300
              clear A300
              by_cases c31 : t268 = true
              · subst c31
                have H1 : ((flt_Op.f 1 a1 a1).bind fun t269 => (if t269 = 0 then (if t256 = 1 then ((anamnesisref02_NaN.f).bind fun t270 => (anamnesislaw02_FltEdges.j0 k a1 t256 9218868437227405312 (-9223372036854775808) (t269 != t270))) else (anamnesislaw02_FltEdges.j0 k a1 t256 9218868437227405312 (-9223372036854775808) false)) else (anamnesislaw02_FltEdges.j0 k a1 t256 9218868437227405312 (-9223372036854775808) true))) = some r := by rw [if_pos rfl] at H; exact H
                clear H
                have H := H1
                clear H1
                replace H := Option.bind_eq_some_iff.mp H
                obtain ⟨t269, A320, H⟩ := H
                replace H : (if t269 = 0 then (if t256 = 1 then ((anamnesisref02_NaN.f).bind fun t270 => (anamnesislaw02_FltEdges.j0 k a1 t256 9218868437227405312 (-9223372036854775808) (t269 != t270))) else (anamnesislaw02_FltEdges.j0 k a1 t256 9218868437227405312 (-9223372036854775808) false)) else (anamnesislaw02_FltEdges.j0 k a1 t256 9218868437227405312 (-9223372036854775808) true)) = some r := H
                have A32 := Aside0.mk A320
                clear A320
                by_cases c33 : t269 = 0
                · rw [if_pos c33] at H
                  have c33b0 : (t269 == 0) = true := beq_iff_eq.mpr c33
                  have c33b1 : (t269 != 0) = false := bne_eq_false_iff_eq.mpr c33
                  clear c33
                  by_cases c34 : t256 = 1
                  · rw [if_pos c34] at H
                    have c34b0 : (t256 == 1) = true := beq_iff_eq.mpr c34
                    have c34b1 : (t256 != 1) = false := bne_eq_false_iff_eq.mpr c34
                    clear c34
                    replace H := Option.bind_eq_some_iff.mp H
                    obtain ⟨t270, A350, H⟩ := H
                    replace H : (anamnesislaw02_FltEdges.j0 k a1 t256 9218868437227405312 (-9223372036854775808) (t269 != t270)) = some r := H
                    have A35 := Aside0.mk A350
                    clear A350
                    have H' := Aside0.mk H
                    clear H
                    go_wp2_with (first | ((with_reducible refine gate_callee (f := 26) rfl ?_); refine goesL_ (some 56) rfl rfl Try.func26 (by kernel_rfl) rfl #[.int .i64 a1, .int .i64 a1] rfl (by (try simp only [List.map_toArray, List.map_cons, List.map_nil]); first | done | rfl | (simp only [List.length_drop, List.length_take]; rfl)) ?_; (with_reducible refine (flt_Equal.calls a1 a1 true _ A23.out).mono ?_); rintro e w' ⟨rfl, ⟨nd, rfl⟩⟩; refine ⟨_, rfl, ?_⟩) | (go_at_call 24; (with_reducible refine (flt_Less.calls a1 a1 false _ A25.out).mono ?_); rintro e w' ⟨rfl, ⟨nd, rfl⟩⟩) | (go_at_call 24; (with_reducible refine (flt_Less.calls a1 9218868437227405312 true _ A28.out).mono ?_); rintro e w' ⟨rfl, ⟨nd, rfl⟩⟩) | (go_at_call 24; (with_reducible refine (flt_Less.calls (-4503599627370496) a1 true _ A30.out).mono ?_); rintro e w' ⟨rfl, ⟨nd, rfl⟩⟩) | (go_at_call 12; (with_reducible refine (flt_Op.calls 1 a1 a1 t269 _ A32.out).mono ?_); rintro e w' ⟨rfl, ⟨nd, rfl⟩⟩) | (go_at_call 28; (with_reducible refine (anamnesisref02_NaN.calls  t270 _ A35.out).mono ?_); rintro e w' ⟨rfl, ⟨nd, rfl⟩⟩))
                    go_meet
                    case rel => exact ⟨_, ((t269 != t270)), (by first | rfl | (simp; done) | (simp [*]; done)), H', ⟨by first | omega | exact Nat.le_refl _⟩, ⟨by repeat (first | (with_reducible first | exact HB.out | apply below_alloc | apply pw_below_drewN | apply below_drew1) | exact HB.out)⟩⟩
                  · rw [if_neg c34] at H
                    have c34b0 : (t256 == 1) = false := beq_eq_false_iff_ne.mpr c34
                    have c34b1 : (t256 != 1) = true := bne_iff_ne.mpr c34
                    have H' := Aside0.mk H
                    clear H
                    go_wp2_with (first | ((with_reducible refine gate_callee (f := 26) rfl ?_); refine goesL_ (some 56) rfl rfl Try.func26 (by kernel_rfl) rfl #[.int .i64 a1, .int .i64 a1] rfl (by (try simp only [List.map_toArray, List.map_cons, List.map_nil]); first | done | rfl | (simp only [List.length_drop, List.length_take]; rfl)) ?_; (with_reducible refine (flt_Equal.calls a1 a1 true _ A23.out).mono ?_); rintro e w' ⟨rfl, ⟨nd, rfl⟩⟩; refine ⟨_, rfl, ?_⟩) | (go_at_call 24; (with_reducible refine (flt_Less.calls a1 a1 false _ A25.out).mono ?_); rintro e w' ⟨rfl, ⟨nd, rfl⟩⟩) | (go_at_call 24; (with_reducible refine (flt_Less.calls a1 9218868437227405312 true _ A28.out).mono ?_); rintro e w' ⟨rfl, ⟨nd, rfl⟩⟩) | (go_at_call 24; (with_reducible refine (flt_Less.calls (-4503599627370496) a1 true _ A30.out).mono ?_); rintro e w' ⟨rfl, ⟨nd, rfl⟩⟩) | (go_at_call 12; (with_reducible refine (flt_Op.calls 1 a1 a1 t269 _ A32.out).mono ?_); rintro e w' ⟨rfl, ⟨nd, rfl⟩⟩))
                    go_meet
                    case rel => exact ⟨_, (false), (by first | rfl | (simp; done) | (simp [*]; done)), H', ⟨by first | omega | exact Nat.le_refl _⟩, ⟨by repeat (first | (with_reducible first | exact HB.out | apply below_alloc | apply pw_below_drewN | apply below_drew1) | exact HB.out)⟩⟩
                · rw [if_neg c33] at H
                  have c33b0 : (t269 == 0) = false := beq_eq_false_iff_ne.mpr c33
                  have c33b1 : (t269 != 0) = true := bne_iff_ne.mpr c33
                  have H' := Aside0.mk H
                  clear H
                  go_wp2_with (first | ((with_reducible refine gate_callee (f := 26) rfl ?_); refine goesL_ (some 56) rfl rfl Try.func26 (by kernel_rfl) rfl #[.int .i64 a1, .int .i64 a1] rfl (by (try simp only [List.map_toArray, List.map_cons, List.map_nil]); first | done | rfl | (simp only [List.length_drop, List.length_take]; rfl)) ?_; (with_reducible refine (flt_Equal.calls a1 a1 true _ A23.out).mono ?_); rintro e w' ⟨rfl, ⟨nd, rfl⟩⟩; refine ⟨_, rfl, ?_⟩) | (go_at_call 24; (with_reducible refine (flt_Less.calls a1 a1 false _ A25.out).mono ?_); rintro e w' ⟨rfl, ⟨nd, rfl⟩⟩) | (go_at_call 24; (with_reducible refine (flt_Less.calls a1 9218868437227405312 true _ A28.out).mono ?_); rintro e w' ⟨rfl, ⟨nd, rfl⟩⟩) | (go_at_call 24; (with_reducible refine (flt_Less.calls (-4503599627370496) a1 true _ A30.out).mono ?_); rintro e w' ⟨rfl, ⟨nd, rfl⟩⟩) | (go_at_call 12; (with_reducible refine (flt_Op.calls 1 a1 a1 t269 _ A32.out).mono ?_); rintro e w' ⟨rfl, ⟨nd, rfl⟩⟩))
                  go_meet
                  case rel => exact ⟨_, (true), (by first | rfl | (simp; done) | (simp [*]; done)), H', ⟨by first | omega | exact Nat.le_refl _⟩, ⟨by repeat (first | (with_reducible first | exact HB.out | apply below_alloc | apply pw_below_drewN | apply below_drew1) | exact HB.out)⟩⟩
              · replace c31 := Bool.eq_false_iff.mpr c31
                subst c31
                have H1 : (anamnesislaw02_FltEdges.j0 k a1 t256 9218868437227405312 (-9223372036854775808) true) = some r := by rw [if_neg (show ¬ (false = true) by decide)] at H; exact H
                clear H
                have H := H1
                clear H1
                have H' := Aside0.mk H
                clear H
                go_wp2_with (first | ((with_reducible refine gate_callee (f := 26) rfl ?_); refine goesL_ (some 56) rfl rfl Try.func26 (by kernel_rfl) rfl #[.int .i64 a1, .int .i64 a1] rfl (by (try simp only [List.map_toArray, List.map_cons, List.map_nil]); first | done | rfl | (simp only [List.length_drop, List.length_take]; rfl)) ?_; (with_reducible refine (flt_Equal.calls a1 a1 true _ A23.out).mono ?_); rintro e w' ⟨rfl, ⟨nd, rfl⟩⟩; refine ⟨_, rfl, ?_⟩) | (go_at_call 24; (with_reducible refine (flt_Less.calls a1 a1 false _ A25.out).mono ?_); rintro e w' ⟨rfl, ⟨nd, rfl⟩⟩) | (go_at_call 24; (with_reducible refine (flt_Less.calls a1 9218868437227405312 true _ A28.out).mono ?_); rintro e w' ⟨rfl, ⟨nd, rfl⟩⟩) | (go_at_call 24; (with_reducible refine (flt_Less.calls (-4503599627370496) a1 false _ A30.out).mono ?_); rintro e w' ⟨rfl, ⟨nd, rfl⟩⟩))
                go_meet
                case rel => exact ⟨_, (true), (by first | rfl | (simp; done) | (simp [*]; done)), H', ⟨by first | omega | exact Nat.le_refl _⟩, ⟨by repeat (first | (with_reducible first | exact HB.out | apply below_alloc | apply pw_below_drewN | apply below_drew1) | exact HB.out)⟩⟩
            · replace c29 := Bool.eq_false_iff.mpr c29
              subst c29
              have H1 : (anamnesislaw02_FltEdges.j0 k a1 t256 9218868437227405312 (-9223372036854775808) true) = some r := by rw [if_neg (show ¬ (false = true) by decide)] at H; exact H
              clear H
              have H := H1
              clear H1
              have H' := Aside0.mk H
              clear H
              go_wp2_with (first | ((with_reducible refine gate_callee (f := 26) rfl ?_); refine goesL_ (some 56) rfl rfl Try.func26 (by kernel_rfl) rfl #[.int .i64 a1, .int .i64 a1] rfl (by (try simp only [List.map_toArray, List.map_cons, List.map_nil]); first | done | rfl | (simp only [List.length_drop, List.length_take]; rfl)) ?_; (with_reducible refine (flt_Equal.calls a1 a1 true _ A23.out).mono ?_); rintro e w' ⟨rfl, ⟨nd, rfl⟩⟩; refine ⟨_, rfl, ?_⟩) | (go_at_call 24; (with_reducible refine (flt_Less.calls a1 a1 false _ A25.out).mono ?_); rintro e w' ⟨rfl, ⟨nd, rfl⟩⟩) | (go_at_call 24; (with_reducible refine (flt_Less.calls a1 9218868437227405312 false _ A28.out).mono ?_); rintro e w' ⟨rfl, ⟨nd, rfl⟩⟩))
              go_meet
              case rel => exact ⟨_, (true), (by first | rfl | (simp; done) | (simp [*]; done)), H', ⟨by first | omega | exact Nat.le_refl _⟩, ⟨by repeat (first | (with_reducible first | exact HB.out | apply below_alloc | apply pw_below_drewN | apply below_drew1) | exact HB.out)⟩⟩
          · rw [if_neg c27] at H
            have c27b0 : decide (1 < t256) = false := decide_eq_false c27
            clear c27
            (first | rw [c27b0] | (simp only [i64_w, i32_w]; rw [c27b0]) | skip)
            by_cases c36 : t256 = 1
            · rw [if_pos c36] at H
              have c36b0 : (t256 == 1) = true := beq_iff_eq.mpr c36
              have c36b1 : (t256 != 1) = false := bne_eq_false_iff_eq.mpr c36
              clear c36
              replace H := Option.bind_eq_some_iff.mp H
              obtain ⟨t271, A370, H⟩ := H
              replace H : ((anamnesisref02_NaN.f).bind fun t272 => (anamnesislaw02_FltEdges.j0 k a1 t256 9218868437227405312 (-9223372036854775808) (t271 != t272))) = some r := H
              have A37 := Aside0.mk A370
              clear A370
              replace H := Option.bind_eq_some_iff.mp H
              obtain ⟨t272, A380, H⟩ := H
              replace H : (anamnesislaw02_FltEdges.j0 k a1 t256 9218868437227405312 (-9223372036854775808) (t271 != t272)) = some r := H
              have A38 := Aside0.mk A380
              clear A380
              have H' := Aside0.mk H
              clear H
              go_wp2_with (first | ((with_reducible refine gate_callee (f := 26) rfl ?_); refine goesL_ (some 56) rfl rfl Try.func26 (by kernel_rfl) rfl #[.int .i64 a1, .int .i64 a1] rfl (by (try simp only [List.map_toArray, List.map_cons, List.map_nil]); first | done | rfl | (simp only [List.length_drop, List.length_take]; rfl)) ?_; (with_reducible refine (flt_Equal.calls a1 a1 true _ A23.out).mono ?_); rintro e w' ⟨rfl, ⟨nd, rfl⟩⟩; refine ⟨_, rfl, ?_⟩) | (go_at_call 24; (with_reducible refine (flt_Less.calls a1 a1 false _ A25.out).mono ?_); rintro e w' ⟨rfl, ⟨nd, rfl⟩⟩) | (go_at_call 12; (with_reducible refine (flt_Op.calls 1 a1 a1 t271 _ A37.out).mono ?_); rintro e w' ⟨rfl, ⟨nd, rfl⟩⟩) | (go_at_call 28; (with_reducible refine (anamnesisref02_NaN.calls  t272 _ A38.out).mono ?_); rintro e w' ⟨rfl, ⟨nd, rfl⟩⟩))
              go_meet
              case rel => exact ⟨_, ((t271 != t272)), (by first | rfl | (simp; done) | (simp [*]; done)), H', ⟨by first | omega | exact Nat.le_refl _⟩, ⟨by repeat (first | (with_reducible first | exact HB.out | apply below_alloc | apply pw_below_drewN | apply below_drew1) | exact HB.out)⟩⟩
            · rw [if_neg c36] at H
              have c36b0 : (t256 == 1) = false := beq_eq_false_iff_ne.mpr c36
              have c36b1 : (t256 != 1) = true := bne_iff_ne.mpr c36
              have H' := Aside0.mk H
              clear H
              go_wp2_with (first | ((with_reducible refine gate_callee (f := 26) rfl ?_); refine goesL_ (some 56) rfl rfl Try.func26 (by kernel_rfl) rfl #[.int .i64 a1, .int .i64 a1] rfl (by (try simp only [List.map_toArray, List.map_cons, List.map_nil]); first | done | rfl | (simp only [List.length_drop, List.length_take]; rfl)) ?_; (with_reducible refine (flt_Equal.calls a1 a1 true _ A23.out).mono ?_); rintro e w' ⟨rfl, ⟨nd, rfl⟩⟩; refine ⟨_, rfl, ?_⟩) | (go_at_call 24; (with_reducible refine (flt_Less.calls a1 a1 false _ A25.out).mono ?_); rintro e w' ⟨rfl, ⟨nd, rfl⟩⟩))
              go_meet
              case rel => exact ⟨_, (false), (by first | rfl | (simp; done) | (simp [*]; done)), H', ⟨by first | omega | exact Nat.le_refl _⟩, ⟨by repeat (first | (with_reducible first | exact HB.out | apply below_alloc | apply pw_below_drewN | apply below_drew1) | exact HB.out)⟩⟩
      · replace c24 := Bool.eq_false_iff.mpr c24
        subst c24
        have H1 : (anamnesislaw02_FltEdges.j0 k a1 t256 9218868437227405312 (-9223372036854775808) true) = some r := by rw [if_neg (show ¬ (false = true) by decide)] at H; exact H
        clear H
        have H := H1
        clear H1
        have H' := Aside0.mk H
        clear H
        go_wp2_with (first | ((with_reducible refine gate_callee (f := 26) rfl ?_); refine goesL_ (some 56) rfl rfl Try.func26 (by kernel_rfl) rfl #[.int .i64 a1, .int .i64 a1] rfl (by (try simp only [List.map_toArray, List.map_cons, List.map_nil]); first | done | rfl | (simp only [List.length_drop, List.length_take]; rfl)) ?_; (with_reducible refine (flt_Equal.calls a1 a1 false _ A23.out).mono ?_); rintro e w' ⟨rfl, ⟨nd, rfl⟩⟩; refine ⟨_, rfl, ?_⟩))
        go_meet
        case rel => exact ⟨_, (true), (by first | rfl | (simp; done) | (simp [*]; done)), H', ⟨by first | omega | exact Nat.le_refl _⟩, ⟨by repeat (first | (with_reducible first | exact HB.out | apply below_alloc | apply pw_below_drewN | apply below_drew1) | exact HB.out)⟩⟩
    case rest =>
      clear HC21
      try clear c1
      try clear c2
      try clear p2
      try clear c3
      try clear c6
      try clear c6b0
      try clear c6b1
      try clear p6
      try clear c7
      try clear c9
      try clear c9b0
      try clear c9b1
      try clear c11
      try clear c12
      try clear c12b0
      try clear c12b1
      try clear c14
      try clear c16
      try clear c17
      try clear c18
      try clear c24
      try clear c26
      try clear c27
      try clear c27b0
      try clear c28
      try clear c29
      try clear c31
      try clear c33
      try clear c33b0
      try clear c33b1
      try clear c34
      try clear c34b0
      try clear c34b1
      try clear c36
      try clear c36b0
      try clear c36b1
      obtain ⟨kq, x97_20, rfl, HA, HJ20, HB⟩ := hcut
      cases kq with
      | zero => exact absurd HA.out (by simp [anamnesislaw02_FltEdges.j0])
      | succ kj20 =>
        have H := HA.out
        clear HA
        simp only [anamnesislaw02_FltEdges.j0] at H
        by_cases c39 : x97_20 = true
        · subst c39
          have H1 : (some false) = some r := by rw [if_pos rfl] at H; exact H
          clear H
          have H := H1
          clear H1
          obtain rfl := Option.some.inj H
          exact absurd hr_.out (by decide)
        · replace c39 := Bool.eq_false_iff.mpr c39
          subst c39
          have H1 : (if t256 > 2 then ((flt_Op.f 3 a1 a1).bind fun t273 => ((flt_Of.f 1).bind fun t274 => (if t273 = t274 then (if t256 < 3 then ((anamnesisref02_NaN.f).bind fun t275 => (anamnesislaw02_FltEdges.j1 kj20 9218868437227405312 (-9223372036854775808) (t273 != t275))) else (anamnesislaw02_FltEdges.j1 kj20 9218868437227405312 (-9223372036854775808) false)) else (anamnesislaw02_FltEdges.j1 kj20 9218868437227405312 (-9223372036854775808) true)))) else (if t256 < 3 then ((flt_Op.f 3 a1 a1).bind fun t276 => ((anamnesisref02_NaN.f).bind fun t277 => (anamnesislaw02_FltEdges.j1 kj20 9218868437227405312 (-9223372036854775808) (t276 != t277)))) else (anamnesislaw02_FltEdges.j1 kj20 9218868437227405312 (-9223372036854775808) false))) = some r := by rw [if_neg (show ¬ (false = true) by decide)] at H; exact H
          clear H
          have H := H1
          clear H1
          have HC40 := Aside0.mk H
          clear H
          go_upto_region 8 with (fail)
          go_cut [117] (fun v117 wc => ∃ (kq : Nat) (x117_39 : Bool), v117 = .bool x117_39 ∧ Aside0 (anamnesislaw02_FltEdges.j1 kq 9218868437227405312 (-9223372036854775808) x117_39 = some r) ∧ Aside0 (kq ≤ kj20) ∧ Aside0 (Below w.heap.size w wc))
          case first =>
            have H := HC40.out
            clear HC40
            by_cases c41 : t256 > 2
            · rw [if_pos c41] at H
              have c41b0 : decide (2 < t256) = true := decide_eq_true c41
              clear c41
              (first | rw [c41b0] | (simp only [i64_w, i32_w]; rw [c41b0]) | skip)
              replace H := Option.bind_eq_some_iff.mp H
              obtain ⟨t273, A420, H⟩ := H
              replace H : ((flt_Of.f 1).bind fun t274 => (if t273 = t274 then (if t256 < 3 then ((anamnesisref02_NaN.f).bind fun t275 => (anamnesislaw02_FltEdges.j1 kj20 9218868437227405312 (-9223372036854775808) (t273 != t275))) else (anamnesislaw02_FltEdges.j1 kj20 9218868437227405312 (-9223372036854775808) false)) else (anamnesislaw02_FltEdges.j1 kj20 9218868437227405312 (-9223372036854775808) true))) = some r := H
              have A42 := Aside0.mk A420
              clear A420
              replace H := Option.bind_eq_some_iff.mp H
              obtain ⟨t274, A430, H⟩ := H
              replace H : (if t273 = t274 then (if t256 < 3 then ((anamnesisref02_NaN.f).bind fun t275 => (anamnesislaw02_FltEdges.j1 kj20 9218868437227405312 (-9223372036854775808) (t273 != t275))) else (anamnesislaw02_FltEdges.j1 kj20 9218868437227405312 (-9223372036854775808) false)) else (anamnesislaw02_FltEdges.j1 kj20 9218868437227405312 (-9223372036854775808) true)) = some r := H
              have A43 := Aside0.mk A430
              clear A430
              by_cases c44 : t273 = t274
              · rw [if_pos c44] at H
                have c44b0 : (t273 == t274) = true := beq_iff_eq.mpr c44
                have c44b1 : (t273 != t274) = false := bne_eq_false_iff_eq.mpr c44
                clear c44
                by_cases c45 : t256 < 3
                · rw [if_pos c45] at H
                  have c45b0 : decide (t256 < 3) = true := decide_eq_true c45
                  clear c45
                  replace H := Option.bind_eq_some_iff.mp H
                  obtain ⟨t275, A460, H⟩ := H
                  replace H : (anamnesislaw02_FltEdges.j1 kj20 9218868437227405312 (-9223372036854775808) (t273 != t275)) = some r := H
                  have A46 := Aside0.mk A460
                  clear A460
                  have H' := Aside0.mk H
                  clear H
                  go_wp2_with (first | (go_at_call 12; (with_reducible refine (flt_Op.calls 3 a1 a1 t273 _ A42.out).mono ?_); rintro e w' ⟨rfl, ⟨nd, rfl⟩⟩) | (go_at_call 22; (with_reducible refine (flt_Of.calls 1 t274 _ A43.out).mono ?_); rintro e w' ⟨rfl, ⟨nd, rfl⟩⟩) | (go_at_call 28; (with_reducible refine (anamnesisref02_NaN.calls  t275 _ A46.out).mono ?_); rintro e w' ⟨rfl, ⟨nd, rfl⟩⟩))
                  go_meet
                  case rel => exact ⟨_, ((t273 != t275)), (by first | rfl | (simp; done) | (simp [*]; done)), H', ⟨by have := HJ20.out; first | omega | exact Nat.le_refl _⟩, ⟨by repeat (first | (with_reducible first | exact HB.out | apply below_alloc | apply pw_below_drewN | apply below_drew1) | exact HB.out)⟩⟩
                · rw [if_neg c45] at H
                  have c45b0 : decide (t256 < 3) = false := decide_eq_false c45
                  clear c45
                  have H' := Aside0.mk H
                  clear H
                  go_wp2_with (first | (go_at_call 12; (with_reducible refine (flt_Op.calls 3 a1 a1 t273 _ A42.out).mono ?_); rintro e w' ⟨rfl, ⟨nd, rfl⟩⟩) | (go_at_call 22; (with_reducible refine (flt_Of.calls 1 t274 _ A43.out).mono ?_); rintro e w' ⟨rfl, ⟨nd, rfl⟩⟩))
                  go_meet
                  case rel => exact ⟨_, (false), (by first | rfl | (simp; done) | (simp [*]; done)), H', ⟨by have := HJ20.out; first | omega | exact Nat.le_refl _⟩, ⟨by repeat (first | (with_reducible first | exact HB.out | apply below_alloc | apply pw_below_drewN | apply below_drew1) | exact HB.out)⟩⟩
              · rw [if_neg c44] at H
                have c44b0 : (t273 == t274) = false := beq_eq_false_iff_ne.mpr c44
                have c44b1 : (t273 != t274) = true := bne_iff_ne.mpr c44
                have H' := Aside0.mk H
                clear H
                go_wp2_with (first | (go_at_call 12; (with_reducible refine (flt_Op.calls 3 a1 a1 t273 _ A42.out).mono ?_); rintro e w' ⟨rfl, ⟨nd, rfl⟩⟩) | (go_at_call 22; (with_reducible refine (flt_Of.calls 1 t274 _ A43.out).mono ?_); rintro e w' ⟨rfl, ⟨nd, rfl⟩⟩))
                go_meet
                case rel => exact ⟨_, (true), (by first | rfl | (simp; done) | (simp [*]; done)), H', ⟨by have := HJ20.out; first | omega | exact Nat.le_refl _⟩, ⟨by repeat (first | (with_reducible first | exact HB.out | apply below_alloc | apply pw_below_drewN | apply below_drew1) | exact HB.out)⟩⟩
            · rw [if_neg c41] at H
              have c41b0 : decide (2 < t256) = false := decide_eq_false c41
              clear c41
              (first | rw [c41b0] | (simp only [i64_w, i32_w]; rw [c41b0]) | skip)
              by_cases c47 : t256 < 3
              · rw [if_pos c47] at H
                have c47b0 : decide (t256 < 3) = true := decide_eq_true c47
                clear c47
                replace H := Option.bind_eq_some_iff.mp H
                obtain ⟨t276, A480, H⟩ := H
                replace H : ((anamnesisref02_NaN.f).bind fun t277 => (anamnesislaw02_FltEdges.j1 kj20 9218868437227405312 (-9223372036854775808) (t276 != t277))) = some r := H
                have A48 := Aside0.mk A480
                clear A480
                replace H := Option.bind_eq_some_iff.mp H
                obtain ⟨t277, A490, H⟩ := H
                replace H : (anamnesislaw02_FltEdges.j1 kj20 9218868437227405312 (-9223372036854775808) (t276 != t277)) = some r := H
                have A49 := Aside0.mk A490
                clear A490
                have H' := Aside0.mk H
                clear H
                go_wp2_with (first | (go_at_call 12; (with_reducible refine (flt_Op.calls 3 a1 a1 t276 _ A48.out).mono ?_); rintro e w' ⟨rfl, ⟨nd, rfl⟩⟩) | (go_at_call 28; (with_reducible refine (anamnesisref02_NaN.calls  t277 _ A49.out).mono ?_); rintro e w' ⟨rfl, ⟨nd, rfl⟩⟩))
                go_meet
                case rel => exact ⟨_, ((t276 != t277)), (by first | rfl | (simp; done) | (simp [*]; done)), H', ⟨by have := HJ20.out; first | omega | exact Nat.le_refl _⟩, ⟨by repeat (first | (with_reducible first | exact HB.out | apply below_alloc | apply pw_below_drewN | apply below_drew1) | exact HB.out)⟩⟩
              · rw [if_neg c47] at H
                have c47b0 : decide (t256 < 3) = false := decide_eq_false c47
                clear c47
                have H' := Aside0.mk H
                clear H
                go_wp2
                go_meet
                case rel => exact ⟨_, (false), (by first | rfl | (simp; done) | (simp [*]; done)), H', ⟨by have := HJ20.out; first | omega | exact Nat.le_refl _⟩, ⟨by repeat (first | (with_reducible first | exact HB.out | apply below_alloc | apply pw_below_drewN | apply below_drew1) | exact HB.out)⟩⟩
          case rest =>
            clear HC40
            try clear c1
            try clear c2
            try clear p2
            try clear c3
            try clear c4
            try clear c6
            try clear c6b0
            try clear c6b1
            try clear p6
            try clear c7
            try clear c9
            try clear c9b0
            try clear c9b1
            try clear c11
            try clear c12
            try clear c12b0
            try clear c12b1
            try clear c14
            try clear c16
            try clear c17
            try clear c18
            try clear c24
            try clear c26
            try clear c27
            try clear c27b0
            try clear c28
            try clear c29
            try clear c31
            try clear c33
            try clear c33b0
            try clear c33b1
            try clear c34
            try clear c34b0
            try clear c34b1
            try clear c36
            try clear c36b0
            try clear c36b1
            try clear c39
            try clear c41
            try clear c41b0
            try clear c44
            try clear c44b0
            try clear c44b1
            try clear c45
            try clear c45b0
            try clear c47
            try clear c47b0
            try clear p2
            try clear p6
            obtain ⟨kq, x117_39, rfl, HA, HJ39, HB⟩ := hcut
            cases kq with
            | zero => exact absurd HA.out (by simp [anamnesislaw02_FltEdges.j1])
            | succ kj39 =>
              have H := HA.out
              clear HA
              simp only [anamnesislaw02_FltEdges.j1] at H
              by_cases c50 : x117_39 = true
              · subst c50
                have H1 : (some false) = some r := by rw [if_pos rfl] at H; exact H
                clear H
                have H := H1
                clear H1
                obtain rfl := Option.some.inj H
                exact absurd hr_.out (by decide)
              · replace c50 := Bool.eq_false_iff.mpr c50
                subst c50
                have H1 : ((flt_Of.f 1).bind fun t278 => ((flt_Op.f 3 t278 0).bind fun t279 => (if t279 = 9218868437227405312 then ((flt_Of.f 1).bind fun t280 => ((flt_Op.f 3 t280 (-9223372036854775808)).bind fun t281 => (some (t281 == (wrap64 (9218868437227405312 + (-9223372036854775808))))))) else (some false)))) = some r := by rw [if_neg (show ¬ (false = true) by decide)] at H; exact H
                clear H
                have H := H1
                clear H1
                replace H := Option.bind_eq_some_iff.mp H
                obtain ⟨t278, A510, H⟩ := H
                replace H : ((flt_Op.f 3 t278 0).bind fun t279 => (if t279 = 9218868437227405312 then ((flt_Of.f 1).bind fun t280 => ((flt_Op.f 3 t280 (-9223372036854775808)).bind fun t281 => (some (t281 == (wrap64 (9218868437227405312 + (-9223372036854775808))))))) else (some false))) = some r := H
                have A51 := Aside0.mk A510
                clear A510
                replace H := Option.bind_eq_some_iff.mp H
                obtain ⟨t279, A520, H⟩ := H
                replace H : (if t279 = 9218868437227405312 then ((flt_Of.f 1).bind fun t280 => ((flt_Op.f 3 t280 (-9223372036854775808)).bind fun t281 => (some (t281 == (wrap64 (9218868437227405312 + (-9223372036854775808))))))) else (some false)) = some r := H
                have A52 := Aside0.mk A520
                clear A520
                by_cases c53 : t279 = 9218868437227405312
                · rw [if_pos c53] at H
                  have c53b0 : (t279 == 9218868437227405312) = true := beq_iff_eq.mpr c53
                  have c53b1 : (t279 != 9218868437227405312) = false := bne_eq_false_iff_eq.mpr c53
                  clear c53
                  replace H := Option.bind_eq_some_iff.mp H
                  obtain ⟨t280, A540, H⟩ := H
                  replace H : ((flt_Op.f 3 t280 (-9223372036854775808)).bind fun t281 => (some (t281 == (wrap64 (9218868437227405312 + (-9223372036854775808)))))) = some r := H
                  have A54 := Aside0.mk A540
                  clear A540
                  replace H := Option.bind_eq_some_iff.mp H
                  obtain ⟨t281, A550, H⟩ := H
                  replace H : (some (t281 == (wrap64 (9218868437227405312 + (-9223372036854775808))))) = some r := H
                  have A55 := Aside0.mk A550
                  clear A550
                  obtain rfl := Option.some.inj H
                  go_wp2_with (first | ((with_reducible refine gate_callee (f := 22) rfl ?_); refine goesL_ (some 118) rfl rfl Try.func22 (by kernel_rfl) rfl #[.int .i64 1] rfl (by (try simp only [List.map_toArray, List.map_cons, List.map_nil]); first | done | rfl | (simp only [List.length_drop, List.length_take]; rfl)) ?_; (with_reducible refine (flt_Of.calls 1 t278 _ A51.out).mono ?_); rintro e w' ⟨rfl, ⟨nd, rfl⟩⟩; refine ⟨_, rfl, ?_⟩) | ((with_reducible refine gate_callee (f := 12) rfl ?_); refine goesL_ (some 119) rfl rfl Try.func12 (by kernel_rfl) rfl #[.int .i64 3, .int .i64 t278, .int .i64 0] rfl (by (try simp only [List.map_toArray, List.map_cons, List.map_nil]); first | done | rfl | (simp only [List.length_drop, List.length_take]; rfl)) ?_; (with_reducible refine (flt_Op.calls 3 t278 0 t279 _ A52.out).mono ?_); rintro e w' ⟨rfl, ⟨nd, rfl⟩⟩; refine ⟨_, rfl, ?_⟩) | (go_at_call 22; (with_reducible refine (flt_Of.calls 1 t280 _ A54.out).mono ?_); rintro e w' ⟨rfl, ⟨nd, rfl⟩⟩) | (go_at_call 12; (with_reducible refine (flt_Op.calls 3 t280 (-9223372036854775808) t281 _ A55.out).mono ?_); rintro e w' ⟨rfl, ⟨nd, rfl⟩⟩))
                  go_ret
                  exact ⟨by first | rfl | (simp [errW_none, errW_some] <;> rfl) | (simp [*, errW_none, errW_some] <;> rfl) | (simp [wrap64, errW_none, errW_some]; done), by repeat (first | (with_reducible first | exact HB.out | apply below_alloc | apply pw_below_drewN | apply below_drew1) | exact HB.out)⟩
                · rw [if_neg c53] at H
                  have c53b0 : (t279 == 9218868437227405312) = false := beq_eq_false_iff_ne.mpr c53
                  have c53b1 : (t279 != 9218868437227405312) = true := bne_iff_ne.mpr c53
                  obtain rfl := Option.some.inj H
                  exact absurd hr_.out (by decide)

/-- THE ONE PURE STATEMENT of anamnesislaw02_FltEdges: yours. -/
def anamnesislaw02_FltEdges.Pure : Prop := ∀ (a0 : Int) (a1 : Int) (a2 : Int), (Lit.int .i64 a0).wf = true → (Lit.int .i64 a1).wf = true → (Lit.int .i64 a2).wf = true → ∃ k, anamnesislaw02_FltEdges.f k a0 a1 a2 = some true
theorem anamnesislaw02_FltEdges.walk (P : anamnesislaw02_FltEdges.Pure) (a0 : Int) (a1 : Int) (a2 : Int) (w : World) (w0 : (Lit.int .i64 a0).wf = true) (w1 : (Lit.int .i64 a1).wf = true) (w2 : (Lit.int .i64 a2).wf = true) :
    Calls Try.prog 7 #[.int .i64 a0, .int .i64 a1, .int .i64 a2] w fun e w' => e = .returned (.bool true) ∧ Below w.heap.size w w' := by
  obtain ⟨k, h⟩ := P a0 a1 a2 w0 w1 w2
  refine (anamnesislaw02_FltEdges.calls k a0 a1 a2 true w h rfl).mono ?_
  rintro e w' ⟨rfl, hd⟩
  exact ⟨rfl, hd⟩

end Go.Proofs.Ytbnpodkfcfdpeaa.PFlt
