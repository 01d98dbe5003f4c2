/- With both signs turned floats lie the other way round; of two just one is below the other one, or they are the same number, or one is a NaN. No condition. -/
import Derived.Test.YtbnpodkfcfdpeaaPureFltOrder
namespace Go.Proofs.Ytbnpodkfcfdpeaa.FA
open Go.RowKit Go.Proofs.Ytbnpodkfcfdpeaa.PFlt Go.Proofs.YtbnpodkfcfdpeaaW.PrintWords Go.Proofs.YtbnpodkfcfdpeaaW.PrintLast FM
theorem xor_top (s : Bool) (p : Nat) (hp : p < 2 ^ 63) : Go.bits .xor .i64 (toI s p) (-9223372036854775808) = toI (!s) p := by
  unfold Go.bits
  simp only [BitVec.toNat_xor, BitVec.toNat_ofInt, show IntKind.i64.bits = 64 from rfl]
  have e2 : (-9223372036854775808 % ((2 ^ 64 : Nat) : Int)).toNat = 2 ^ 63 := by decide
  have e1 : (toI s p % ((2 ^ 64 : Nat) : Int)).toNat = if s then 2 ^ 63 + p else p := by
    unfold toI; cases s
    · rw [if_neg (by decide), if_neg (by decide)]; omega
    · rw [if_pos rfl, if_pos rfl]; omega
  rw [e1, e2, i64_w]
  have x1 : ∀ q : Nat, q < 2 ^ 63 → q ^^^ 2 ^ 63 = 2 ^ 63 + q := by
    intro q hq
    have := Nat.two_pow_add_eq_or_of_lt hq 1
    rw [Nat.mul_one] at this
    rw [this]
    apply Nat.eq_of_testBit_eq
    intro i
    rw [Nat.testBit_xor, Nat.testBit_or, Nat.testBit_two_pow]
    by_cases hi : 63 = i
    · subst hi
      rw [Nat.testBit_lt_two_pow hq]; simp
    · simp [hi]
  unfold toI
  cases s
  · rw [if_neg (by decide), x1 p hp, if_pos (by decide)]; unfold wrap64; omega
  · rw [if_pos rfl, ← x1 p hp, Nat.xor_assoc, Nat.xor_self, Nat.xor_zero, if_neg (by decide)]; unfold wrap64; omega
theorem place_not (s : Bool) (p : Nat) : place (!s) p = -place s p := by
  unfold place; cases s <;> simp
end Go.Proofs.Ytbnpodkfcfdpeaa.FA
namespace Go.Proofs.Ytbnpodkfcfdpeaa.Pure
open Go.RowKit Go.Proofs.Ytbnpodkfcfdpeaa.PFlt Go.Proofs.YtbnpodkfcfdpeaaW.PrintWords Go.Proofs.YtbnpodkfcfdpeaaW.PrintLast FM Go.Proofs.Ytbnpodkfcfdpeaa.FA
theorem FltTurned : anamnesislaw02_FltTurned.Pure := by
  intro a b ha hb
  obtain ⟨s, p, hp, rfl⟩ := split a ha
  obtain ⟨t, q, hq, rfl⟩ := split b hb
  refine ⟨10, ?_⟩
  unfold anamnesislaw02_FltTurned.f
  rw [show anamnesislaw02_fixed.f = some true from rfl, Option.bind_some, xor_top s p hp, xor_top t q hq, less_toI s t p q hp hq, less_toI (!t) (!s) q p hq hp, equal_toI s t p q hp hq, equal_toI t s q p hq hp, place_not, place_not]
  simp only [Option.bind_some]
  have e1 : decide (q ≤ 2047 * 2 ^ 52 ∧ p ≤ 2047 * 2 ^ 52 ∧ -place t q < -place s p) = decide (p ≤ 2047 * 2 ^ 52 ∧ q ≤ 2047 * 2 ^ 52 ∧ place s p < place t q) := by
    apply decide_eq_decide.2; omega
  have e2 : decide (q ≤ 2047 * 2 ^ 52 ∧ p ≤ 2047 * 2 ^ 52 ∧ place t q = place s p) = decide (p ≤ 2047 * 2 ^ 52 ∧ q ≤ 2047 * 2 ^ 52 ∧ place s p = place t q) := by
    apply decide_eq_decide.2; omega
  have nb : ∀ x : Bool, (!x == x) = false := by decide
  rw [e1, e2, nb, nb, if_neg (by decide)]
  rw [anamnesislaw02_FltTurned.j0, if_neg (by decide), less_toI s t p q hp hq]
  simp only [Option.bind_some, decide_eq_true_eq]
  have k1 := kind_pos p hp
  have k2 := kind_pos q hq
  have kk1 := FA.ways p hp
  have kk2 := FA.ways q hq
  have j1 := less_toI t s q p hq hp
  have j2 := equal_toI s t p q hp hq
  have K1 := Kind_eq s p hp
  have K2 := Kind_eq t q hq
  have w01 : wrap64 (0 + 1) = 1 := w64 (n := 0 + 1) (by omega) (by omega)
  have w11 : wrap64 (1 + 1) = 2 := w64 (n := 1 + 1) (by omega) (by omega)
  simp only [anamnesislaw02_FltTurned.j1, anamnesislaw02_FltTurned.j2, anamnesislaw02_FltTurned.j3, j1, j2, K1, K2, Option.bind_some, decide_eq_true_eq, w01, w11]
  clear j1 j2 K1 K2 e1 e2
  by_cases h1 : p ≤ 2047 * 2 ^ 52
  · have n1 : ¬ kindOf p = 0 := by omega
    by_cases h2 : q ≤ 2047 * 2 ^ 52
    · have n2 : ¬ kindOf q = 0 := by omega
      rcases Int.lt_trichotomy (place s p) (place t q) with h | h | h
      · simp [h1, h2, n1, n2, h, show ¬ place t q < place s p by omega, show ¬ place s p = place t q by omega]
      · simp [h1, h2, n1, n2, h]
      · simp [h1, h2, n1, n2, h, show ¬ place s p < place t q by omega, show ¬ place s p = place t q by omega]
    · have n2 : kindOf q = 0 := by omega
      simp [h1, h2, n1, n2]
  · have n1 : kindOf p = 0 := by omega
    simp [h1, n1]
end Go.Proofs.Ytbnpodkfcfdpeaa.Pure
