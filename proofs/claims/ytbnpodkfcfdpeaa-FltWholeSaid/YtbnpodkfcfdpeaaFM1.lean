import Ieee.Arith
namespace FM
open Ieee

/-- n / d rounded to nearest, ties to even. -/
def rne (n d : Nat) : Nat := n / d + if d < 2 * (n % d) ∨ (d = 2 * (n % d) ∧ n / d % 2 = 1) then 1 else 0

theorem toNat_ite {b : Bool} {P : Prop} [Decidable P] (h : b = true ↔ P) : b.toNat = if P then 1 else 0 := by
  cases b with
  | true => rw [if_pos (h.1 rfl)]; rfl
  | false => rw [if_neg (fun p => by cases h.2 p)]; rfl

theorem cut_eq (neg : Bool) (n drop : Nat) : Toward.even.cut neg n drop = rne n (2 ^ drop) := by
  unfold Toward.cut rne
  simp only [Nat.one_shiftLeft]
  by_cases h : drop ≤ n.log2 + 2
  · rw [Nat.min_eq_left h]
    congr 1
    exact toNat_ite (by simp only [Bool.or_eq_true, Bool.and_eq_true, decide_eq_true_eq, beq_iff_eq])
  · rw [Nat.min_eq_right (by omega)]
    have hn : n < 2 ^ (n.log2 + 1) := Nat.lt_log2_self
    have e1 : 2 ^ (n.log2 + 2) = 2 * 2 ^ (n.log2 + 1) := by rw [Nat.pow_succ]; omega
    have hd : 2 ^ (n.log2 + 2) ≤ 2 ^ drop := Nat.pow_le_pow_right (by omega) (by omega)
    have m1 : n % 2 ^ (n.log2 + 2) = n := Nat.mod_eq_of_lt (by omega)
    have m2 : n % 2 ^ drop = n := Nat.mod_eq_of_lt (by omega)
    have d1 : n / 2 ^ (n.log2 + 2) = 0 := Nat.div_eq_of_lt (by omega)
    have d2 : n / 2 ^ drop = 0 := Nat.div_eq_of_lt (by omega)
    rw [m1, m2, d1, d2]
    have a1 : ¬ (2 ^ (n.log2 + 2) < 2 * n) := by omega
    have a2 : ¬ (2 ^ drop < 2 * n) := by omega
    simp [a1, a2]

theorem rne_scale (n d k : Nat) (hk : 0 < k) : rne (n * k) (d * k) = rne n d := by
  unfold rne
  rw [Nat.mul_div_mul_right _ _ hk, Nat.mul_mod_mul_right]
  congr 1
  have e1 : d * k < 2 * (n % d * k) ↔ d < 2 * (n % d) := by
    rw [← Nat.mul_assoc]; exact Nat.mul_lt_mul_right hk
  have e2 : d * k = 2 * (n % d * k) ↔ d = 2 * (n % d) := by
    rw [← Nat.mul_assoc]; exact Nat.mul_left_inj (by omega)
  simp only [e1, e2]

theorem rne_one (n : Nat) : rne n 1 = n := by simp [rne, Nat.mod_one]

/-- What lies two digits or more below the last digit that is kept counts as something, or nothing. -/
theorem rne_sticky (q r c t : Nat) (hr : r < c) (ht : 0 < t) :
    rne (q * c + r) (c * (2 * t)) = rne (2 * q + (if r = 0 then 0 else 1)) (4 * t) := by
  have hc : 0 < c := by omega
  have d1 : (q * c + r) / (c * (2 * t)) = q / (2 * t) := by
    rw [← Nat.div_div_eq_div_mul, Nat.mul_comm q c, Nat.mul_add_div hc, Nat.div_eq_of_lt hr, Nat.add_zero]
  have m1 : (q * c + r) % (c * (2 * t)) = c * (q % (2 * t)) + r := by
    rw [Nat.mod_mul, Nat.mul_comm q c, Nat.mul_add_div hc, Nat.div_eq_of_lt hr, Nat.add_zero, Nat.mul_add_mod, Nat.mod_eq_of_lt hr]
    omega
  have hs : (if r = 0 then 0 else 1) < 2 := by split <;> omega
  have d2 : (2 * q + (if r = 0 then 0 else 1)) / (4 * t) = q / (2 * t) := by
    rw [show 4 * t = 2 * (2 * t) by omega, ← Nat.div_div_eq_div_mul, Nat.mul_add_div (by omega), Nat.div_eq_of_lt hs, Nat.add_zero]
  have m2 : (2 * q + (if r = 0 then 0 else 1)) % (4 * t) = 2 * (q % (2 * t)) + (if r = 0 then 0 else 1) := by
    rw [show 4 * t = 2 * (2 * t) by omega, Nat.mod_mul, Nat.mul_add_div (by omega), Nat.div_eq_of_lt hs, Nat.add_zero, Nat.mul_add_mod, Nat.mod_eq_of_lt hs]
    omega
  unfold rne
  rw [d1, m1, d2, m2]
  congr 1
  generalize q % (2 * t) = x
  have a1 : c * (2 * t) = 2 * (c * t) := by rw [Nat.mul_left_comm]
  rw [a1]
  have key : ∀ (P Q : Prop) [Decidable P] [Decidable Q], (P ↔ Q) → (if P then 1 else 0) = (if Q then 1 else 0 : Nat) := by
    intro P Q _ _ h; by_cases hp : P
    · rw [if_pos hp, if_pos (h.1 hp)]
    · rw [if_neg hp, if_neg (fun hq => hp (h.2 hq))]
  apply key
  rcases Nat.lt_trichotomy x t with hx | hx | hx
  · have : c * (x + 1) ≤ c * t := Nat.mul_le_mul_left _ hx
    rw [Nat.mul_add] at this
    split <;> omega
  · subst hx
    split <;> omega
  · have : c * (t + 1) ≤ c * x := Nat.mul_le_mul_left _ hx
    rw [Nat.mul_add] at this
    split <;> omega
end FM
