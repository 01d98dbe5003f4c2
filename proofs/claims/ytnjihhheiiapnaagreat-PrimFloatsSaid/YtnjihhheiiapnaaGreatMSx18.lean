/- What the statements' walks need. -/
import Derived.Test.YtnjihhheiiapnaaGreatMSa4
import Derived.Test.YtnjihhheiiapnaaGreatMSx17
set_option linter.unusedVariables false
set_option linter.unusedSimpArgs false
set_option maxRecDepth 100000
namespace FM
open Ieee
theorem sw_double : double.signWeight = 2 ^ 63 := rfl
def dat (neg : Bool) (p : Nat) : Datum :=
  if p < 2 ^ 52 then .number neg p (-1074)
  else if p < 2047 * 2 ^ 52 then .number neg (2 ^ 52 + p % 2 ^ 52) (-1074 + ((p / 2 ^ 52 - 1 : Nat) : Int))
  else if p = 2047 * 2 ^ 52 then .infinity neg
  else .nan neg (p - 2047 * 2 ^ 52)
theorem read_eq (W : Nat) (neg : Bool) (p : Nat) (h1 : W / double.signWeight % 2 = if neg then 1 else 0) (h2 : W % double.signWeight = p) : double.read W = dat neg p := by
  unfold Format.read dat
  rw [h1, h2]
  cases neg <;> rfl
theorem read_word (neg : Bool) (p : Nat) (h : p < 2 ^ 63) : double.read (double.word neg p) = dat neg p := by
  refine read_eq _ neg p ?_ ?_
  · show (if neg then 2 ^ 63 + p else p) / 2 ^ 63 % 2 = _
    cases neg
    · rw [if_neg (by decide), if_neg (by decide)]; omega
    · rw [if_pos rfl, if_pos rfl]; omega
  · show (if neg then 2 ^ 63 + p else p) % 2 ^ 63 = _
    cases neg
    · rw [if_neg (by decide)]; omega
    · rw [if_pos rfl]; omega
def toI (neg : Bool) (p : Nat) : Int := if neg then (p : Int) - 2 ^ 63 else p
def val (p : Nat) : Nat := if p < 2 ^ 52 then p else (2 ^ 52 + p % 2 ^ 52) * 2 ^ (p / 2 ^ 52 - 1)
theorem val_lt (p q : Nat) (h : p < q) : val p < val q := by
  unfold val
  by_cases h1 : q < 2 ^ 52
  · rw [if_pos h1, if_pos (by omega)]; exact h
  rw [if_neg h1]
  have hq : 1 ≤ q / 2 ^ 52 := by omega
  have low : 2 ^ 52 * 2 ^ (q / 2 ^ 52 - 1) ≤ (2 ^ 52 + q % 2 ^ 52) * 2 ^ (q / 2 ^ 52 - 1) := Nat.mul_le_mul_right _ (by omega)
  by_cases h2 : p < 2 ^ 52
  · rw [if_pos h2]
    have : 2 ^ 52 * 1 ≤ 2 ^ 52 * 2 ^ (q / 2 ^ 52 - 1) := Nat.mul_le_mul_left _ (Nat.two_pow_pos _)
    omega
  · rw [if_neg h2]
    have hd : p / 2 ^ 52 ≤ q / 2 ^ 52 := Nat.div_le_div_right (by omega)
    by_cases h3 : p / 2 ^ 52 = q / 2 ^ 52
    · rw [h3]
      exact Nat.mul_lt_mul_of_pos_right (by omega) (Nat.two_pow_pos _)
    · have hx : 2 ^ (p / 2 ^ 52 - 1) * 2 ≤ 2 ^ (q / 2 ^ 52 - 1) := by
        rw [← Nat.pow_succ]; exact Nat.pow_le_pow_right (by omega) (by omega)
      have hm : p % 2 ^ 52 < 2 ^ 52 := Nat.mod_lt _ (by decide)
      have : (2 ^ 52 + p % 2 ^ 52) * 2 ^ (p / 2 ^ 52 - 1) < (2 ^ 52 * 2) * 2 ^ (p / 2 ^ 52 - 1) := Nat.mul_lt_mul_of_pos_right (by omega) (Nat.two_pow_pos _)
      have : 2 ^ 52 * (2 ^ (p / 2 ^ 52 - 1) * 2) ≤ 2 ^ 52 * 2 ^ (q / 2 ^ 52 - 1) := Nat.mul_le_mul_left _ hx
      rw [Nat.mul_comm (2 ^ (p / 2 ^ 52 - 1)) 2, ← Nat.mul_assoc] at this
      omega
theorem val_zero : val 0 = 0 := by decide
theorem val_pos (p : Nat) (h : p ≠ 0) : 0 < val p := by have := val_lt 0 p (by omega); rwa [val_zero] at this
theorem dat_fin (neg : Bool) (p : Nat) (h : p < 2047 * 2 ^ 52) : ∃ (m k : Nat), dat neg p = .number neg m (-1074 + (k : Int)) ∧ m * 2 ^ k = val p ∧ (m = 0 ↔ p = 0) ∧ m < 2 ^ 53 ∧ k ≤ 2045 ∧ (k = 0 ∨ 2 ^ 52 ≤ m) := by
  unfold dat val
  by_cases h1 : p < 2 ^ 52
  · rw [if_pos h1, if_pos h1]
    exact ⟨p, 0, by simp, by simp, Iff.rfl, by omega, by omega, .inl rfl⟩
  · rw [if_neg h1, if_neg h1, if_pos h]
    exact ⟨_, _, rfl, rfl, by omega, by omega, by omega, .inr (by omega)⟩
theorem dat_inf (neg : Bool) : dat neg (2047 * 2 ^ 52) = .infinity neg := by
  unfold dat
  rw [if_neg (by omega), if_neg (by omega), if_pos rfl]
theorem dat_nan (neg : Bool) (p : Nat) (h : 2047 * 2 ^ 52 < p) : dat neg p = .nan neg (p - 2047 * 2 ^ 52) := by
  unfold dat
  rw [if_neg (by omega), if_neg (by omega), if_neg (by omega)]
def place (neg : Bool) (p : Nat) : Int := if neg then -(p : Int) else p
theorem signed_shift (neg : Bool) (m k : Nat) : signed neg m k = if neg then -((m * 2 ^ k : Nat) : Int) else ((m * 2 ^ k : Nat) : Int) := by
  unfold signed; rw [Nat.shiftLeft_eq]
theorem sval_lt (s t : Bool) (p q : Nat) : ((if s then -(val p : Int) else val p) < (if t then -(val q : Int) else val q)) ↔ place s p < place t q := by
  unfold place
  have a1 := val_lt p q; have a2 := val_lt q p; have b1 := val_pos p; have b2 := val_pos q
  have c : p = q → val p = val q := fun h => by rw [h]
  have z1 : p = 0 → val p = 0 := fun h => by rw [h, val_zero]
  have z2 : q = 0 → val q = 0 := fun h => by rw [h, val_zero]
  generalize val p = x at *; generalize val q = y at *
  cases s <;> cases t <;> simp only [if_true, if_false, Bool.false_eq_true] <;> omega
theorem sval_eq (s t : Bool) (p q : Nat) : ((if s then -(val p : Int) else val p) = (if t then -(val q : Int) else val q)) ↔ place s p = place t q := by
  unfold place
  have a1 := val_lt p q; have a2 := val_lt q p; have b1 := val_pos p; have b2 := val_pos q
  have c : p = q → val p = val q := fun h => by rw [h]
  have z1 : p = 0 → val p = 0 := fun h => by rw [h, val_zero]
  have z2 : q = 0 → val q = 0 := fun h => by rw [h, val_zero]
  generalize val p = x at *; generalize val q = y at *
  cases s <;> cases t <;> simp only [if_true, if_false, Bool.false_eq_true] <;> omega
theorem order_dat (s t : Bool) (p q : Nat) (hp : p ≤ 2047 * 2 ^ 52) (hq : q ≤ 2047 * 2 ^ 52) : (dat s p).order (dat t q) = some (compare (place s p) (place t q)) := by
  have cmp : ∀ a b : Int, a < b → compare a b = .lt := fun a b h => by rw [Int.compare_eq_lt]; exact h
  have cmg : ∀ a b : Int, b < a → compare a b = .gt := fun a b h => by rw [Int.compare_eq_gt]; exact h
  by_cases h1 : p = 2047 * 2 ^ 52
  · subst h1
    rw [dat_inf]
    by_cases h2 : q = 2047 * 2 ^ 52
    · subst h2
      rw [dat_inf]
      cases s <;> cases t <;> decide
    · obtain ⟨m, k, e, _⟩ := dat_fin t q (by omega)
      rw [e, show (Datum.infinity s).order (.number t m (-1074 + (k : Int))) = some (if s then .lt else .gt) from rfl]
      unfold place
      cases s with
      | true => rw [if_pos rfl, if_pos rfl, cmp _ _ (by split <;> omega)]
      | false => rw [if_neg (by decide), if_neg (by decide), cmg _ _ (by split <;> omega)]
  · obtain ⟨m, k, e, hv, _⟩ := dat_fin s p (by omega)
    by_cases h2 : q = 2047 * 2 ^ 52
    · subst h2
      rw [dat_inf, e, show (Datum.number s m (-1074 + (k : Int))).order (.infinity t) = some (if t then .gt else .lt) from rfl]
      unfold place
      cases t with
      | true => simp only [if_true]; rw [cmg _ _ (by split <;> omega)]
      | false => simp only [Bool.false_eq_true, if_false]; rw [cmp _ _ (by split <;> omega)]
    · obtain ⟨n, l, e2, hv2, _⟩ := dat_fin t q (by omega)
      rw [e, e2]
      show some (compare (signed s m _) (signed t n _)) = _
      congr 1
      obtain ⟨b, hb⟩ : ∃ b : Nat, min (-1074 + (k : Int)) (-1074 + (l : Int)) = -1074 + (b : Int) := ⟨min k l, by omega⟩
      have hbk : b ≤ k ∧ b ≤ l := by omega
      rw [hb, signed_shift, signed_shift, show (-1074 + (k : Int) - (-1074 + (b : Int))).toNat = k - b by omega, show (-1074 + (l : Int) - (-1074 + (b : Int))).toNat = l - b by omega]
      have x1 : m * 2 ^ (k - b) * 2 ^ b = val p := by rw [Nat.mul_assoc, ← Nat.pow_add, Nat.sub_add_cancel hbk.1]; exact hv
      have x2 : n * 2 ^ (l - b) * 2 ^ b = val q := by rw [Nat.mul_assoc, ← Nat.pow_add, Nat.sub_add_cancel hbk.2]; exact hv2
      generalize m * 2 ^ (k - b) = u at *
      generalize n * 2 ^ (l - b) = v at *
      have hp2 : (0 : Int) < ((2 ^ b : Nat) : Int) := by have := Nat.two_pow_pos b; omega
      have y1 : (if s then -(u : Int) else u) * ((2 ^ b : Nat) : Int) = if s then -(val p : Int) else val p := by
        rw [← x1]; split
        · rw [Int.neg_mul]; push_cast; rfl
        · push_cast; rfl
      have y2 : (if t then -(v : Int) else v) * ((2 ^ b : Nat) : Int) = if t then -(val q : Int) else val q := by
        rw [← x2]; split
        · rw [Int.neg_mul]; push_cast; rfl
        · push_cast; rfl
      generalize (if s then -(u : Int) else (u : Int)) = U at *
      generalize (if t then -(v : Int) else (v : Int)) = W at *
      rcases Int.lt_trichotomy U W with h | h | h
      · rw [cmp _ _ h, cmp]
        rw [← sval_lt, ← y1, ← y2]
        exact Int.mul_lt_mul_of_pos_right h hp2
      · subst h
        have : place s p = place t q := by rw [← sval_eq, ← y1, ← y2]
        rw [this, Int.compare_eq_eq.2 rfl, Int.compare_eq_eq.2 rfl]
      · rw [cmg _ _ h, cmg]
        rw [← sval_lt, ← y1, ← y2]
        exact Int.mul_lt_mul_of_pos_right h hp2
end FM
