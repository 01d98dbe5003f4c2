/- What NaN, infinite ones, zeros, and a float with itself come to. No condition. -/
import Derived.Test.YtbnpodkfcfdpeaaPureFltAlgebra
namespace Go.Proofs.Ytbnpodkfcfdpeaa.FA
open Go.RowKit Go.Proofs.Ytbnpodkfcfdpeaa.PFlt Go.Proofs.YtbnpodkfcfdpeaaW.PrintWords Go.Proofs.YtbnpodkfcfdpeaaW.PrintLast Go.Proofs.YtbnpodkfcfdpeaaW.PrintMore FM
open Ieee (Datum)

theorem opd_nan (o : Int) (s t : Bool) (p q : Nat) (h : 2047 * 2 ^ 52 < p) : told (opd o (dat s p) (dat t q)) = 9221120237041090561 ∧ told (opd o (dat t q) (dat s p)) = 9221120237041090561 := by
  rw [dat_nan s p h]
  have a1 : ∀ d : Datum, (Datum.nan s (p - 2047 * 2 ^ 52)).sum d = none := fun d => by cases d <;> rfl
  have a2 : ∀ d : Datum, d.sum (Datum.nan s (p - 2047 * 2 ^ 52)) = none := fun d => by cases d <;> rfl
  have a3 : ∀ d : Datum, d.sum (Datum.nan s (p - 2047 * 2 ^ 52)).opposite = none := fun d => by cases d <;> rfl
  have a4 : ∀ d : Datum, (Datum.nan s (p - 2047 * 2 ^ 52)).product d = none := fun d => by cases d <;> rfl
  have a5 : ∀ d : Datum, d.product (Datum.nan s (p - 2047 * 2 ^ 52)) = none := fun d => by cases d <;> rfl
  have a6 : ∀ d : Datum, (Datum.nan s (p - 2047 * 2 ^ 52)).quotient 54 d = none := fun d => by cases d <;> rfl
  have a7 : ∀ d : Datum, d.quotient 54 (Datum.nan s (p - 2047 * 2 ^ 52)) = none := fun d => by cases d <;> rfl
  unfold opd
  rw [a1, a1, a2, a3, a4, a5, a6, a7]
  simp only [ite_self]
  exact ⟨told_none, told_none⟩
theorem Op_nan (o : Int) (s t : Bool) (p q : Nat) (hp : p < 2 ^ 63) (hq : q < 2 ^ 63) (h : 2047 * 2 ^ 52 < p) :
    flt_Op.f o (toI s p) (toI t q) = some 9221120237041090561 ∧ flt_Op.f o (toI t q) (toI s p) = some 9221120237041090561 := by
  by_cases h1 : 0 ≤ o ∧ o < 4
  · rw [Op_flt o h1.1 h1.2 s t p q hp hq, Op_flt o h1.1 h1.2 t s q p hq hp, (opd_nan o s t p q h).1, (opd_nan o s t p q h).2]
    exact ⟨rfl, rfl⟩
  · unfold flt_Op.f
    simp only [if_neg (show ¬ o = 0 by omega), if_neg (show ¬ o = 1 by omega), if_neg (show ¬ o = 2 by omega), if_neg (show ¬ o = 3 by omega)]
    exact ⟨by first | rfl | trivial, by first | rfl | trivial⟩
theorem Of_one : flt_Of.f 1 = some 4607182418800017408 := by decide +kernel

theorem self_less (s : Bool) (p : Nat) (h : p < 2047 * 2 ^ 52) : told ((dat s p).sum (dat s p).opposite) = 0 := by
  obtain ⟨m, k, e, _⟩ := dat_fin s p h
  rw [e]
  show told (some (Datum.number (if Ieee.signed s m _ + Ieee.signed (!s) m _ = 0 then s && !s else _) (Ieee.signed s m _ + Ieee.signed (!s) m _).natAbs _)) = 0
  rw [signed_not]
  have : ∀ x : Int, x + -x = 0 := by omega
  rw [this, if_pos rfl, told_number]
  cases s <;> rfl
theorem self_quot (s : Bool) (p : Nat) (h0 : p ≠ 0) (h : p < 2047 * 2 ^ 52) : told ((dat s p).quotient 54 (dat s p)) = 4607182418800017408 := by
  obtain ⟨m, k, e, _, hm, _⟩ := dat_fin s p h
  have m0 : m ≠ 0 := fun x => h0 (hm.1 x)
  rw [e]
  have hq : (Datum.number s m (-1074 + (k : Int))).quotient 54 (.number s m (-1074 + (k : Int))) =
      some (.number (s ^^ s) (2 * ((m <<< (54 + m.log2 - m.log2)) / m) + ((m <<< (54 + m.log2 - m.log2)) % m != 0).toNat) (-1074 + (k : Int) - (-1074 + (k : Int)) - (54 + m.log2 - m.log2 : Nat) - 1)) := by
    unfold Datum.quotient
    simp only [if_neg m0]
  rw [hq, Nat.add_sub_cancel, Nat.shiftLeft_eq, Nat.mul_div_cancel_left _ (by omega), Nat.mul_mod_right, Int.sub_self, Bool.xor_self]
  decide +kernel
end Go.Proofs.Ytbnpodkfcfdpeaa.FA
namespace Go.Proofs.Ytbnpodkfcfdpeaa.Pure
open Go.RowKit Go.Proofs.Ytbnpodkfcfdpeaa.PFlt Go.Proofs.YtbnpodkfcfdpeaaW.PrintWords Go.Proofs.YtbnpodkfcfdpeaaW.PrintLast FM Go.Proofs.Ytbnpodkfcfdpeaa.FA
theorem FltEdges : anamnesislaw02_FltEdges.Pure := by
  intro o a b _ ha hb
  obtain ⟨s, p, hp, rfl⟩ := split a ha
  obtain ⟨t, q, hq, rfl⟩ := split b hb
  refine ⟨10, ?_⟩
  unfold anamnesislaw02_FltEdges.f
  have nan : anamnesisref02_NaN.f = some 9221120237041090561 := rfl
  have ff : ¬ (false = true) := by decide
  rw [show anamnesislaw02_fixed.f = some true from rfl, Option.bind_some, Kind_eq s p hp, Option.bind_some]
  have kp := kind_pos p hp
  have kw := FA.ways p hp
  by_cases h0 : kindOf p = 0
  · have hn : 2047 * 2 ^ 52 < p := by omega
    obtain ⟨g1, g2⟩ := Op_nan o s t p q hp hq hn
    rw [if_pos h0, g1, g2, nan, less_toI s t p q hp hq, less_toI t s q p hq hp, equal_toI s t p q hp hq, equal_toI s s p p hp hp]
    have e1 : ∀ P Q : Prop, [Decidable P] → [Decidable Q] → decide (p ≤ 2047 * 2 ^ 52 ∧ P ∧ Q) = false := fun P Q _ _ => decide_eq_false (by omega)
    have e2 : ∀ P Q : Prop, [Decidable P] → [Decidable Q] → decide (P ∧ p ≤ 2047 * 2 ^ 52 ∧ Q) = false := fun P Q _ _ => decide_eq_false (by omega)
    simp [e1, e2]
    omega
  · have hle : p ≤ 2047 * 2 ^ 52 := by omega
    have heq : flt_Equal.f (toI s p) (toI s p) = some true := by
      rw [equal_toI s s p p hp hp, decide_eq_true ⟨hle, hle, rfl⟩]
    have hls : flt_Less.f (toI s p) (toI s p) = some false := by
      rw [less_toI s s p p hp hp, decide_eq_false (by omega)]
    have tail : anamnesislaw02_FltEdges.j1 9 9218868437227405312 (-9223372036854775808) false = some true := by
      rw [anamnesislaw02_FltEdges.j1, if_neg ff, Of_one]
      decide +kernel
    rw [if_neg h0, heq, Option.bind_some, if_pos rfl, hls, Option.bind_some, if_neg ff]
    have i1 : (9218868437227405312 : Int) = toI false (2047 * 2 ^ 52) := rfl
    have i2 : (-4503599627370496 : Int) = toI true (2047 * 2 ^ 52) := rfl
    have kd := FA.ways p hp
    by_cases h1 : kindOf p = 1
    · have hi : p = 2047 * 2 ^ 52 := by omega
      subst hi
      rw [if_neg (by omega)]
      have hsub : flt_Op.f 1 (toI s (2047 * 2 ^ 52)) (toI s (2047 * 2 ^ 52)) = some 9221120237041090561 := by
        rw [Op_flt 1 (by omega) (by omega) s s _ _ hp hp, show opd 1 (dat s (2047 * 2 ^ 52)) (dat s (2047 * 2 ^ 52)) = (dat s (2047 * 2 ^ 52)).sum (dat s (2047 * 2 ^ 52)).opposite from rfl, dat_inf]
        cases s <;> rfl
      have hdiv : flt_Op.f 3 (toI s (2047 * 2 ^ 52)) (toI s (2047 * 2 ^ 52)) = some 9221120237041090561 := by
        rw [Op_flt 3 (by omega) (by omega) s s _ _ hp hp, show opd 3 (dat s (2047 * 2 ^ 52)) (dat s (2047 * 2 ^ 52)) = (dat s (2047 * 2 ^ 52)).quotient 54 (dat s (2047 * 2 ^ 52)) from rfl, dat_inf]
        rfl
      rw [if_pos h1, hsub, nan, Option.bind_some, Option.bind_some, bne_self_eq_false, h1, anamnesislaw02_FltEdges.j0, if_neg ff, if_neg (by omega), if_pos (by omega), hdiv, nan, Option.bind_some, Option.bind_some, bne_self_eq_false]
      exact tail
    · have hlt : p < 2047 * 2 ^ 52 := by omega
      have hsub : flt_Op.f 1 (toI s p) (toI s p) = some 0 := by
        rw [Op_flt 1 (by omega) (by omega) s s p p hp hp]
        exact congrArg some (self_less s p hlt)
      have l1 : flt_Less.f (toI s p) 9218868437227405312 = some true := by
        rw [i1, less_toI s false p _ hp (by omega)]
        exact congrArg some (decide_eq_true ⟨hle, Nat.le_refl _, by unfold place; split <;> simp <;> omega⟩)
      have l2 : flt_Less.f (-4503599627370496) (toI s p) = some true := by
        rw [i2, less_toI true s _ p (by omega) hp]
        exact congrArg some (decide_eq_true ⟨Nat.le_refl _, hle, by unfold place; rw [if_pos rfl]; split <;> omega⟩)
      rw [if_pos (by omega), l1, l2, hsub]
      simp only [Option.bind_some, if_true]
      rw [if_neg h1, anamnesislaw02_FltEdges.j0, if_neg ff]
      by_cases hz : p = 0
      · subst hz
        have hdiv : flt_Op.f 3 (toI s 0) (toI s 0) = some 9221120237041090561 := by
          rw [Op_flt 3 (by omega) (by omega) s s _ _ hp hp]
          cases s <;> rfl
        rw [if_neg (by omega), if_pos (by omega), hdiv, nan, Option.bind_some, Option.bind_some, bne_self_eq_false]
        exact tail
      · have hdiv : flt_Op.f 3 (toI s p) (toI s p) = some 4607182418800017408 := by
          rw [Op_flt 3 (by omega) (by omega) s s p p hp hp]
          exact congrArg some (self_quot s p hz hlt)
        rw [if_pos (by omega), hdiv, Of_one, Option.bind_some, Option.bind_some, if_pos rfl, if_neg (by omega)]
        exact tail
end Go.Proofs.Ytbnpodkfcfdpeaa.Pure
