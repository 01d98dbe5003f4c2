/- Twice a float is it and it; half of twice a float is it, unless it is infinite then. No condition. -/
import Derived.Test.YtbnpodkfcfdpeaaPureFltEdges
namespace Go.Proofs.Ytbnpodkfcfdpeaa.FA
open Go.RowKit Go.Proofs.Ytbnpodkfcfdpeaa.PFlt Go.Proofs.YtbnpodkfcfdpeaaW.PrintWords Go.Proofs.YtbnpodkfcfdpeaaW.PrintLast Go.Proofs.YtbnpodkfcfdpeaaW.PrintMore FM
open Ieee (Datum)

theorem Of_two : flt_Of.f 2 = some (toI false 4611686018427387904) := by decide +kernel
theorem dat_two : dat false 4611686018427387904 = .number false (2 ^ 52) (-51) := by decide +kernel
theorem half (s : Bool) (M : Nat) (I : Int) (h0 : M ≠ 0) (h1 : M < 2 ^ 53) : told ((Datum.number s M I).quotient 54 (.number false (2 ^ 52) (-51))) = toI s (rung M (I - 1)) := by
  have hl : M.log2 ≤ 52 := by have := (Nat.log2_lt h0).2 h1; omega
  have hq : (Datum.number s M I).quotient 54 (.number false (2 ^ 52) (-51)) =
      some (.number (s ^^ false) (2 * ((M <<< (54 + (2 ^ 52 : Nat).log2 - M.log2)) / 2 ^ 52) + ((M <<< (54 + (2 ^ 52 : Nat).log2 - M.log2)) % 2 ^ 52 != 0).toNat) (I - (-51) - (54 + (2 ^ 52 : Nat).log2 - M.log2 : Nat) - 1)) := by
    unfold Datum.quotient
    simp only [if_neg (show ¬ (2 ^ 52 : Nat) = 0 by decide)]
  rw [hq, show (2 ^ 52 : Nat).log2 = 52 by decide +kernel, Nat.shiftLeft_eq, Bool.xor_false]
  obtain ⟨g, hg⟩ : ∃ g, 54 + 52 - M.log2 = g + 52 := ⟨54 - M.log2, by omega⟩
  rw [hg, Nat.pow_add, ← Nat.mul_assoc, Nat.mul_div_cancel _ (Nat.two_pow_pos 52), Nat.mul_mod_left, told_number]
  have hp := Nat.two_pow_pos g
  have hne : M * 2 ^ g ≠ 0 := Nat.mul_ne_zero h0 (by omega)
  have hz : ((0 : Nat) != 0).toNat = 0 := rfl
  rw [hz, Nat.add_zero, if_neg (by omega), Nat.mul_comm 2, Nat.mul_assoc]
  have := rung_up M (g + 1) (I - (-51) - ((g + 52 : Nat) : Int) - 1) h0
  rw [Nat.pow_succ] at this
  rw [this]
  congr 2; omega
theorem rung_dbl (m : Nat) (i : Int) (h : m ≠ 0) : rung (m * 2) i = rung m (i + 1) := by
  have := rung_up m 1 i h
  rw [Nat.pow_one] at this
  exact this
theorem rung_p (s : Bool) (p m : Nat) (i : Int) (hp : p < 2047 * 2 ^ 52) (h : dat s p = .number s m i) (hm : m ≠ 0) : rung m i = p := by
  have := rung_dat s p hp
  rw [h, told_number, if_neg hm] at this
  exact ((toI_inj s s _ _ (by have := rung_le m i; omega) (by omega)).1 this).2
/-- Twice a number: its rung, and half of it again. -/
theorem twice (s : Bool) (p m : Nat) (i : Int) (hp0 : p ≠ 0) (hp : p < 2047 * 2 ^ 52) (h : dat s p = .number s m i) (hm : m ≠ 0) :
    rung m (i + 1) = 2047 * 2 ^ 52 ∨ ∃ M I, dat s (rung m (i + 1)) = .number s M I ∧ M ≠ 0 ∧ M < 2 ^ 53 ∧ rung M (I - 1) = p ∧ rung m (i + 1) < 2047 * 2 ^ 52 := by
  have hr := rung_p s p m i hp h hm
  by_cases h1 : p < 2 ^ 52
  · right
    have hd : dat s p = .number s p (-1074) := by unfold dat; rw [if_pos h1]
    rw [hd] at h
    injection h with _ e1 e2
    subst e1; subst e2
    have hd2 : dat s (2 * p) = .number s (2 * p) (-1074) := by
      unfold dat
      by_cases h2 : 2 * p < 2 ^ 52
      · rw [if_pos h2]
      · rw [if_neg h2, if_pos (by omega)]
        congr 1
        · omega
        · omega
    have e : rung p (-1074 + 1) = 2 * p := by
      have := rung_p s (2 * p) (2 * p) (-1074) (by omega) hd2 (by omega)
      rw [← rung_dbl p (-1074) hp0, Nat.mul_comm]
      exact this
    rw [e]
    refine ⟨2 * p, -1074, hd2, by omega, by omega, ?_, by omega⟩
    rw [Nat.mul_comm, rung_dbl p _ hp0]; exact hr
  · have hd : dat s p = .number s (2 ^ 52 + p % 2 ^ 52) (-1074 + ((p / 2 ^ 52 - 1 : Nat) : Int)) := by unfold dat; rw [if_neg h1, if_pos hp]
    rw [hd] at h
    injection h with _ e1 e2
    subst e1; subst e2
    by_cases h2 : p < 2046 * 2 ^ 52
    · right
      obtain ⟨q, hq⟩ : ∃ q, q = p + 2 ^ 52 := ⟨_, rfl⟩
      have hd2 : dat s q = .number s (2 ^ 52 + p % 2 ^ 52) (-1074 + ((p / 2 ^ 52 - 1 : Nat) : Int) + 1) := by
        unfold dat
        rw [if_neg (by omega), if_pos (by omega)]
        congr 1
        · omega
        · omega
      have e := rung_p s q _ _ (by omega) hd2 (by omega)
      rw [e]
      refine ⟨_, _, hd2, by omega, by omega, ?_, by omega⟩
      rw [Int.add_sub_cancel]; exact hr
    · left
      unfold rung
      have hl : (2 ^ 52 + p % 2 ^ 52).log2 = 52 := (Nat.log2_eq_iff (by omega)).2 ⟨by omega, by omega⟩
      rw [hl, show max (-1074 + ((p / 2 ^ 52 - 1 : Nat) : Int) + 1 + ((52 : Nat) : Int) - 52) (-1074) = -1074 + ((p / 2 ^ 52 - 1 : Nat) : Int) + 1 by omega]
      have hx : p / 2 ^ 52 - 1 = 2045 := by omega
      rw [hx]
      simp only []
      rw [show (-1074 + ((2045 : Nat) : Int) + 1 + 1074).toNat = 2046 by decide, show (-1074 + ((2045 : Nat) : Int) + 1 - (-1074 + ((2045 : Nat) : Int) + 1)).toNat = 0 by decide, Nat.pow_zero, Nat.mul_one, rne_one]
      omega
end Go.Proofs.Ytbnpodkfcfdpeaa.FA
namespace Go.Proofs.Ytbnpodkfcfdpeaa.Pure
open Go.RowKit Go.Proofs.Ytbnpodkfcfdpeaa.PFlt Go.Proofs.YtbnpodkfcfdpeaaW.PrintWords Go.Proofs.YtbnpodkfcfdpeaaW.PrintLast FM Go.Proofs.Ytbnpodkfcfdpeaa.FA
theorem FltTwice : anamnesislaw02_FltTwice.Pure := by
  intro a ha
  obtain ⟨s, p, hp, rfl⟩ := split a ha
  unfold anamnesislaw02_FltTwice.f
  rw [show anamnesislaw02_fixed.f = some true from rfl, Option.bind_some, Of_two, Option.bind_some, Op_flt 2 (by omega) (by omega) s false p _ hp (by omega), Op_flt 0 (by omega) (by omega) s s p p hp hp, Option.bind_some, Option.bind_some]
  have o2 : ∀ d e, opd 2 d e = d.product e := fun d e => rfl
  have o0 : ∀ d e, opd 0 d e = d.sum e := fun d e => rfl
  rw [o2, o0, dat_two]
  have o3 : ∀ d e, opd 3 d e = d.quotient 54 e := fun d e => rfl
  rcases FA.ways p hp with ⟨h1, k1⟩ | ⟨h1, k1⟩ | ⟨h1, k1⟩ | ⟨h1, h1', k1⟩
  · rw [dat_nan s p h1]
    have nan0 : kindOf 9221120237041090561 = 0 := by decide
    have e1 : told ((Ieee.Datum.nan s (p - 2047 * 2 ^ 52)).product (.number false (2 ^ 52) (-51))) = toI false 9221120237041090561 := rfl
    have e2 : told ((Ieee.Datum.nan s (p - 2047 * 2 ^ 52)).sum (Ieee.Datum.nan s (p - 2047 * 2 ^ 52))) = toI false 9221120237041090561 := rfl
    rw [e1, e2, if_pos rfl, Kind_eq false _ (by omega), Option.bind_some, nan0, if_pos (by omega)]
  · subst h1
    rw [dat_inf]
    have e1 : told ((Ieee.Datum.infinity s).product (.number false (2 ^ 52) (-51))) = toI s (2047 * 2 ^ 52) := by cases s <;> rfl
    have e2 : told ((Ieee.Datum.infinity s).sum (.infinity s)) = toI s (2047 * 2 ^ 52) := by cases s <;> rfl
    rw [e1, e2, if_pos rfl, Kind_eq s _ hp, Option.bind_some, k1, if_pos (by omega)]
  · subst h1
    rw [dat_zero]
    have e1 : told ((Ieee.Datum.number s 0 (-1074)).product (.number false (2 ^ 52) (-51))) = toI s 0 := by cases s <;> rfl
    have e2 : told ((Ieee.Datum.number s 0 (-1074)).sum (.number s 0 (-1074))) = toI s 0 := by cases s <;> rfl
    rw [e1, e2, if_pos rfl, Kind_eq s _ hp, Option.bind_some, k1, if_neg (by omega), Op_flt 3 (by omega) (by omega) s false 0 _ hp (by omega), Option.bind_some, o3, dat_two, dat_zero]
    cases s <;> decide +kernel
  · obtain ⟨m, k, hd, _, hm, _⟩ := dat_fin s p h1'
    have m0 : m ≠ 0 := fun x => h1 (hm.1 x)
    generalize -1074 + (k : Int) = i at hd
    have e1 : told ((Ieee.Datum.number s m i).product (.number false (2 ^ 52) (-51))) = toI s (rung m (i + 1)) := by
      show toI (s ^^ false) (if m * 2 ^ 52 = 0 then 0 else rung (m * 2 ^ 52) (i + -51)) = _
      rw [if_neg (by omega), rung_up m 52 _ m0, Bool.xor_false]
      congr 2; omega
    have e2 : told ((Ieee.Datum.number s m i).sum (.number s m i)) = toI s (rung m (i + 1)) := by
      show told (some (.number (if Ieee.signed s m (i - min i i).toNat + Ieee.signed s m (i - min i i).toNat = 0 then s && s else decide (Ieee.signed s m (i - min i i).toNat + Ieee.signed s m (i - min i i).toNat < 0)) (Ieee.signed s m (i - min i i).toNat + Ieee.signed s m (i - min i i).toNat).natAbs (min i i))) = _
      rw [show min i i = i by omega, show (i - i).toNat = 0 by omega, signed_shift, Nat.pow_zero, Nat.mul_one]
      have h3 := rung_dbl m i m0
      cases s
      · simp only [Bool.false_eq_true, if_false]
        rw [if_neg (by omega), decide_eq_false (by omega), told_number, if_neg (by omega), show ((m : Int) + (m : Int)).natAbs = m * 2 by omega, h3]
      · simp only [if_true]
        rw [if_neg (by omega), decide_eq_true (by omega), told_number, if_neg (by omega), show (-(m : Int) + -(m : Int)).natAbs = m * 2 by omega, h3]
    rw [hd, e1, e2, if_pos rfl]
    have hle := rung_le m (i + 1)
    rw [Kind_eq s _ (by omega), Option.bind_some]
    rcases twice s p m i h1 h1' hd m0 with h | ⟨M, I, hM, hM0, hM1, hM2, hlt⟩
    · have : kindOf (rung m (i + 1)) = 1 := by rw [h]; decide
      rw [this, if_pos (by omega)]
    · by_cases hk : kindOf (rung m (i + 1)) < 2
      · rw [if_pos hk]
      · rw [if_neg hk, Op_flt 3 (by omega) (by omega) s false _ _ (by omega) (by omega), Option.bind_some, o3, dat_two, hM, half s M I hM0 hM1, hM2, beq_self_eq_true]
end Go.Proofs.Ytbnpodkfcfdpeaa.Pure
