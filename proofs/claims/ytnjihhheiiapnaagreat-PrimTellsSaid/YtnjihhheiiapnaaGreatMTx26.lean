/- What the statements' walks need. -/
import Derived.Test.YtnjihhheiiapnaaGreatMTa4
import Derived.Test.YtnjihhheiiapnaaGreatMTx24
set_option linter.unusedVariables false
set_option linter.unusedSimpArgs false
set_option maxRecDepth 100000
namespace FM
open Ieee
theorem rne_pow (m a b c d : Nat) (h : a + d = c + b) : rne (m * 2 ^ a) (2 ^ b) = rne (m * 2 ^ c) (2 ^ d) := by
  rw [← rne_scale _ _ (2 ^ d) (Nat.two_pow_pos d), ← rne_scale (m * 2 ^ c) _ (2 ^ b) (Nat.two_pow_pos b), Nat.mul_assoc, Nat.mul_assoc, ← Nat.pow_add, ← Nat.pow_add, h, ← Nat.pow_add 2 c b, ← Nat.pow_add 2 d b, Nat.add_comm b d]
def rung (mag : Nat) (place : Int) : Nat :=
  let last := max (place + mag.log2 - 52) (-1074)
  min ((last + 1074).toNat * 2 ^ 52 + rne (mag * 2 ^ (place - last).toNat) (2 ^ (last - place).toNat)) (2047 * 2 ^ 52)
theorem least_double : double.leastPlace = -1074 := by decide
theorem nearest_eq (neg : Bool) (mag : Nat) (place : Int) :
    double.nearest neg mag place = double.word neg (if mag = 0 then 0 else rung mag place) := by
  unfold Format.nearest
  by_cases h : mag = 0
  · rw [if_pos h, if_pos h]
  · rw [if_neg h, if_neg h]
    simp only [cut_eq, least_double, Nat.shiftLeft_eq]
    unfold rung
    simp only [show double.fractionBits = 52 from rfl, show double.binade = 2 ^ 52 from rfl, show double.infRung = 2047 * 2 ^ 52 from rfl, Int.sub_neg]
    rfl
theorem log2_mul_pow (m k : Nat) (h : m ≠ 0) : (m * 2 ^ k).log2 = m.log2 + k := by
  have hp : 0 < 2 ^ k := Nat.two_pow_pos k
  have h2 : m * 2 ^ k ≠ 0 := Nat.mul_ne_zero h (by omega)
  apply (Nat.log2_eq_iff h2).2
  have h3 := (Nat.log2_eq_iff (k := m.log2) h).1 rfl
  constructor
  · rw [Nat.pow_add]; exact Nat.mul_le_mul_right _ h3.1
  · rw [show m.log2 + k + 1 = (m.log2 + 1) + k by omega, Nat.pow_add]; exact Nat.mul_lt_mul_of_pos_right h3.2 hp
theorem rung_scale (mag k : Nat) (place : Int) (h : mag ≠ 0) : rung (mag * 2 ^ k) (place - k) = rung mag place := by
  unfold rung
  simp only [log2_mul_pow mag k h]
  have e : place - (k : Int) + ((mag.log2 + k : Nat) : Int) - 52 = place + mag.log2 - 52 := by omega
  rw [e]
  generalize max (place + (mag.log2 : Int) - 52) (-1074) = last
  congr 2
  rw [Nat.mul_assoc, ← Nat.pow_add]
  exact rne_pow _ _ _ _ _ (by omega)
theorem log2_add_lt (q r j : Nat) (hq : q ≠ 0) (hr : r < 2 ^ j) : (q * 2 ^ j + r).log2 = q.log2 + j := by
  have hp : 0 < 2 ^ j := Nat.two_pow_pos j
  have h2 : q * 2 ^ j + r ≠ 0 := by have := Nat.mul_ne_zero hq (Nat.pos_iff_ne_zero.1 hp); omega
  apply (Nat.log2_eq_iff h2).2
  have h3 := (Nat.log2_eq_iff (k := q.log2) hq).1 rfl
  constructor
  · rw [Nat.pow_add]; exact Nat.le_trans (Nat.mul_le_mul_right _ h3.1) (Nat.le_add_right _ _)
  · have : (q + 1) * 2 ^ j ≤ 2 ^ (q.log2 + 1) * 2 ^ j := Nat.mul_le_mul_right _ h3.2
    rw [← Nat.pow_add, Nat.add_mul] at this
    rw [show q.log2 + j + 1 = q.log2 + 1 + j by omega]; omega
theorem rung_sticky (q r j : Nat) (place : Int) (hq : 53 ≤ q.log2) (hr : r < 2 ^ j) :
    rung (q * 2 ^ j + r) place = rung (2 * q + if r = 0 then 0 else 1) (place + j - 1) := by
  have hq0 : q ≠ 0 := by intro h; subst h; rw [Nat.log2_zero] at hq; omega
  have hs : (if r = 0 then 0 else 1) < 2 ^ 1 := by split <;> omega
  have l1 := log2_add_lt q r j hq0 hr
  have l2 := log2_add_lt q (if r = 0 then 0 else 1) 1 hq0 hs
  rw [Nat.pow_one, Nat.mul_comm q 2] at l2
  unfold rung
  simp only [l1, l2]
  have e : place + ((q.log2 + j : Nat) : Int) - 52 = place + j - 1 + ((q.log2 + 1 : Nat) : Int) - 52 := by omega
  rw [← e]
  have hl : place + ((q.log2 + j : Nat) : Int) - 52 ≤ max (place + ((q.log2 + j : Nat) : Int) - 52) (-1074) := Int.le_max_left _ _
  generalize max (place + ((q.log2 + j : Nat) : Int) - 52) (-1074) = last at hl
  congr 2
  obtain ⟨t, ht⟩ : ∃ t : Nat, last = place + j + 1 + t := ⟨(last - place - j - 1).toNat, by omega⟩
  rw [show (place - last).toNat = 0 by omega, show (last - place).toNat = j + (1 + t) by omega, show (place + j - 1 - last).toNat = 0 by omega, show (last - (place + j - 1)).toNat = 2 + t by omega]
  rw [Nat.pow_zero, Nat.mul_one, Nat.mul_one, Nat.pow_add, Nat.pow_add 2 1 t, Nat.pow_one, Nat.pow_add 2 2 t]
  exact rne_sticky q r (2 ^ j) (2 ^ t) hr (Nat.two_pow_pos t)
def refRound (m : Nat) (e : Int) (more : Bool) : Nat :=
  let shift := max ((m.log2 : Int) - 52) (-1074 - e)
  let k := if shift ≤ 0 then m * 2 ^ (-shift).toNat
    else if shift < 63 then m / 2 ^ shift.toNat + (if 2 ^ (shift.toNat - 1) < m % 2 ^ shift.toNat ∨ (m % 2 ^ shift.toNat = 2 ^ (shift.toNat - 1) ∧ (more = true ∨ m / 2 ^ shift.toNat % 2 = 1)) then 1 else 0)
    else 0
  let e1 := e + shift
  if k < 2 ^ 52 then k
  else if k = 2 * 2 ^ 52 then (if 970 < e1 then 2047 * 2 ^ 52 else (e1 + 1076).toNat * 2 ^ 52)
  else if 971 < e1 then 2047 * 2 ^ 52 else (e1 + 1075).toNat * 2 ^ 52 + k - 2 ^ 52
theorem fin_sum (B k : Nat) (L : Int) (hB : 0 < B) (h : L = -1074 ∨ B ≤ k) (hk : k ≤ 2 * B) (hL : -1074 ≤ L) :
    (if k < B then k else if k = 2 * B then (if 970 < L then 2047 * B else (L + 1076).toNat * B) else if 971 < L then 2047 * B else (L + 1075).toNat * B + k - B)
      = min ((L + 1074).toNat * B + k) (2047 * B) := by
  obtain ⟨n, hn⟩ : ∃ n : Nat, L + 1074 = n := ⟨(L + 1074).toNat, by omega⟩
  rw [show (L + 1074).toNat = n by omega, show (L + 1076).toNat = n + 2 by omega, show (L + 1075).toNat = n + 1 by omega]
  by_cases g1 : k < B
  · rw [if_pos g1]
    obtain rfl : n = 0 := by omega
    omega
  rw [if_neg g1]
  by_cases g2 : k = 2 * B
  · rw [if_pos g2]
    subst g2
    by_cases g3 : 970 < L
    · rw [if_pos g3]
      have : 2045 * B ≤ n * B := Nat.mul_le_mul_right _ (by omega)
      omega
    · rw [if_neg g3]
      have : (n + 2) * B ≤ 2046 * B := Nat.mul_le_mul_right _ (by omega)
      rw [Nat.add_mul] at *
      omega
  · rw [if_neg g2]
    by_cases g3 : 971 < L
    · rw [if_pos g3]
      have : 2046 * B ≤ n * B := Nat.mul_le_mul_right _ (by omega)
      omega
    · rw [if_neg g3]
      have : n * B ≤ 2045 * B := Nat.mul_le_mul_right _ (by omega)
      rw [Nat.add_mul]
      omega
theorem refRound_eq (m : Nat) (e : Int) (more : Bool) (h0 : m ≠ 0) (h1 : m < 2 ^ 62) (hm : more = true → 54 ≤ m.log2) :
    refRound m e more = rung (2 * m + more.toNat) (e - 1) := by
  have hs : more.toNat < 2 ^ 1 := by cases more <;> decide
  have l2 := log2_add_lt m more.toNat 1 h0 hs
  rw [Nat.pow_one, Nat.mul_comm m 2] at l2
  have h3 := (Nat.log2_eq_iff (k := m.log2) h0).1 rfl
  unfold refRound rung
  simp only [l2]
  have e' : e - 1 + ((m.log2 + 1 : Nat) : Int) - 52 = e + m.log2 - 52 := by omega
  rw [e']
  have hl : max (e + (m.log2 : Int) - 52) (-1074) = e + max ((m.log2 : Int) - 52) (-1074 - e) := by omega
  rw [hl]
  have hsh : (m.log2 : Int) - 52 ≤ max ((m.log2 : Int) - 52) (-1074 - e) := Int.le_max_left _ _
  have hsh2 : -1074 - e ≤ max ((m.log2 : Int) - 52) (-1074 - e) := Int.le_max_right _ _
  have hsh3 : max ((m.log2 : Int) - 52) (-1074 - e) = (m.log2 : Int) - 52 ∨ max ((m.log2 : Int) - 52) (-1074 - e) = -1074 - e := by omega
  generalize max ((m.log2 : Int) - 52) (-1074 - e) = shift at *
  -- what is kept
  generalize hk : (if shift ≤ 0 then m * 2 ^ (-shift).toNat
    else if shift < 63 then m / 2 ^ shift.toNat + (if 2 ^ (shift.toNat - 1) < m % 2 ^ shift.toNat ∨ (m % 2 ^ shift.toNat = 2 ^ (shift.toNat - 1) ∧ (more = true ∨ m / 2 ^ shift.toNat % 2 = 1)) then 1 else 0)
    else 0) = k
  have hkk : rne ((2 * m + more.toNat) * 2 ^ (e - 1 - (e + shift)).toNat) (2 ^ (e + shift - (e - 1)).toNat) = k := by
    rw [← hk]
    by_cases c1 : shift ≤ 0
    · rw [if_pos c1]
      have hm0 : more = false := by
        cases more with
        | false => rfl
        | true => have := hm rfl; omega
      subst hm0
      obtain ⟨u, hu⟩ : ∃ u : Nat, shift = -u := ⟨(-shift).toNat, by omega⟩
      subst hu
      rw [show (- - (u : Int)).toNat = u by omega]
      rw [show (2 * m + false.toNat) = m * 2 ^ 1 by simp [Nat.mul_comm]]
      rw [Nat.mul_assoc, ← Nat.pow_add, rne_pow m _ _ u 0 (by omega), Nat.pow_zero, rne_one]
    · rw [if_neg c1]
      obtain ⟨s, hs'⟩ : ∃ s : Nat, shift = s + 1 := ⟨(shift - 1).toNat, by omega⟩
      subst hs'
      rw [show (e - 1 - (e + ((s : Int) + 1))).toNat = 0 by omega, show (e + ((s : Int) + 1) - (e - 1)).toNat = s + 1 + 1 by omega, show ((s : Int) + 1).toNat = s + 1 by omega, show s + 1 - 1 = s by omega, Nat.pow_zero, Nat.mul_one]
      have d2 : (2 * m + more.toNat) / 2 ^ (s + 1 + 1) = m / 2 ^ (s + 1) := by
        rw [Nat.pow_succ 2 (s + 1), Nat.mul_comm _ 2, ← Nat.div_div_eq_div_mul, Nat.mul_add_div (by omega), Nat.div_eq_of_lt hs, Nat.add_zero]
      have m2 : (2 * m + more.toNat) % 2 ^ (s + 1 + 1) = 2 * (m % 2 ^ (s + 1)) + more.toNat := by
        rw [Nat.pow_succ 2 (s + 1), Nat.mul_comm _ 2, Nat.mod_mul, Nat.mul_add_div (by omega), Nat.div_eq_of_lt hs, Nat.add_zero, Nat.mul_add_mod, Nat.mod_eq_of_lt hs]
        omega
      by_cases c2 : (s : Int) + 1 < 63
      · rw [if_pos c2]
        unfold rne
        rw [d2, m2]
        congr 1
        have p1 : 2 ^ (s + 1 + 1) = 4 * 2 ^ s := by rw [Nat.pow_succ, Nat.pow_succ]; omega
        rw [p1]
        generalize m % 2 ^ (s + 1) = x
        generalize m / 2 ^ (s + 1) = y
        generalize 2 ^ s = z
        have key : ∀ (P Q : Prop) [Decidable P] [Decidable Q], (P ↔ Q) → (if P then 1 else 0) = (if Q then 1 else 0 : Nat) := by
          intro P Q _ _ h; by_cases hp : P
          · rw [if_pos hp, if_pos (h.1 hp)]
          · rw [if_neg hp, if_neg (fun hq => hp (h.2 hq))]
        apply key
        cases more
        · simp only [Bool.toNat_false, Bool.false_eq_true, false_or]; omega
        · simp only [Bool.toNat_true, true_or, and_true]; omega
      · rw [if_neg c2]
        have hb : 2 ^ 63 ≤ 2 ^ (s + 1) := Nat.pow_le_pow_right (by omega) (by omega)
        have p1 : 2 ^ (s + 1 + 1) = 2 * 2 ^ (s + 1) := by rw [Nat.pow_succ]; omega
        have hm1 : more.toNat ≤ 1 := by cases more <;> decide
        have hlt : 2 * m + more.toNat < 2 ^ (s + 1) := by omega
        unfold rne
        rw [Nat.div_eq_of_lt (by omega), Nat.mod_eq_of_lt (by omega), if_neg (by omega)]
  rw [hkk]
  -- how great it is
  have hkb : (e + shift = -1074 ∨ 2 ^ 52 ≤ k) ∧ k ≤ 2 ^ 53 := by
    rw [← hk]
    by_cases c1 : shift ≤ 0
    · rw [if_pos c1]
      obtain ⟨u, hu⟩ : ∃ u : Nat, shift = -u := ⟨(-shift).toNat, by omega⟩
      subst hu
      rw [show (- - (u : Int)).toNat = u by omega]
      constructor
      · rcases hsh3 with h | h
        · right
          have : m.log2 + u = 52 := by omega
          rw [← this, Nat.pow_add]; exact Nat.mul_le_mul_right _ h3.1
        · left; omega
      · have : m * 2 ^ u ≤ 2 ^ (m.log2 + 1) * 2 ^ u := Nat.mul_le_mul_right _ (Nat.le_of_lt h3.2)
        rw [← Nat.pow_add] at this
        exact Nat.le_trans this (Nat.pow_le_pow_right (by omega) (by omega))
    · rw [if_neg c1]
      obtain ⟨s, hs'⟩ : ∃ s : Nat, shift = s + 1 := ⟨(shift - 1).toNat, by omega⟩
      subst hs'
      rw [show ((s : Int) + 1).toNat = s + 1 by omega, show s + 1 - 1 = s by omega]
      by_cases c2 : (s : Int) + 1 < 63
      · rw [if_pos c2]
        have up : m / 2 ^ (s + 1) < 2 ^ 53 := by
          rw [Nat.div_lt_iff_lt_mul (Nat.two_pow_pos _), ← Nat.pow_add]
          exact Nat.lt_of_lt_of_le h3.2 (Nat.pow_le_pow_right (by omega) (by omega))
        refine ⟨?_, by split <;> omega⟩
        rcases hsh3 with h | h
        · right
          have : 2 ^ 52 ≤ m / 2 ^ (s + 1) := by
            rw [Nat.le_div_iff_mul_le (Nat.two_pow_pos _), ← Nat.pow_add]
            exact Nat.le_trans (Nat.pow_le_pow_right (by omega) (by omega)) h3.1
          omega
        · left; omega
      · rw [if_neg c2]
        refine ⟨?_, by omega⟩
        rcases hsh3 with h | h
        · exfalso
          have : 2 ^ 63 ≤ 2 ^ m.log2 := Nat.pow_le_pow_right (by omega) (by omega)
          omega
        · left; omega
  exact (fin_sum (2 ^ 52) k (e + shift) (Nat.two_pow_pos _) hkb.1 (by have h := hkb.2; rw [Nat.pow_succ 2 52] at h; omega) (by omega)).trans rfl
end FM
namespace FM
open Ieee
theorem sw_double : double.signWeight = 2 ^ 63 := rfl
def dat (neg : Bool) (p : Nat) : Datum :=
  if p < 2 ^ 52 then .number neg p (-1074)
  else if p < 2047 * 2 ^ 52 then .number neg (2 ^ 52 + p % 2 ^ 52) (-1074 + ((p / 2 ^ 52 - 1 : Nat) : Int))
  else if p = 2047 * 2 ^ 52 then .infinity neg
  else .nan neg (p - 2047 * 2 ^ 52)
theorem read_eq (W : Nat) (neg : Bool) (p : Nat) (h1 : W / double.signWeight % 2 = if neg then 1 else 0) (h2 : W % double.signWeight = p) : double.read W = dat neg p := by
  unfold Format.read dat
  rw [h1, h2]
  cases neg <;> rfl
theorem read_word (neg : Bool) (p : Nat) (h : p < 2 ^ 63) : double.read (double.word neg p) = dat neg p := by
  refine read_eq _ neg p ?_ ?_
  · show (if neg then 2 ^ 63 + p else p) / 2 ^ 63 % 2 = _
    cases neg
    · rw [if_neg (by decide), if_neg (by decide)]; omega
    · rw [if_pos rfl, if_pos rfl]; omega
  · show (if neg then 2 ^ 63 + p else p) % 2 ^ 63 = _
    cases neg
    · rw [if_neg (by decide)]; omega
    · rw [if_pos rfl]; omega
def toI (neg : Bool) (p : Nat) : Int := if neg then (p : Int) - 2 ^ 63 else p
def val (p : Nat) : Nat := if p < 2 ^ 52 then p else (2 ^ 52 + p % 2 ^ 52) * 2 ^ (p / 2 ^ 52 - 1)
theorem val_lt (p q : Nat) (h : p < q) : val p < val q := by
  unfold val
  by_cases h1 : q < 2 ^ 52
  · rw [if_pos h1, if_pos (by omega)]; exact h
  rw [if_neg h1]
  have hq : 1 ≤ q / 2 ^ 52 := by omega
  have low : 2 ^ 52 * 2 ^ (q / 2 ^ 52 - 1) ≤ (2 ^ 52 + q % 2 ^ 52) * 2 ^ (q / 2 ^ 52 - 1) := Nat.mul_le_mul_right _ (by omega)
  by_cases h2 : p < 2 ^ 52
  · rw [if_pos h2]
    have : 2 ^ 52 * 1 ≤ 2 ^ 52 * 2 ^ (q / 2 ^ 52 - 1) := Nat.mul_le_mul_left _ (Nat.two_pow_pos _)
    omega
  · rw [if_neg h2]
    have hd : p / 2 ^ 52 ≤ q / 2 ^ 52 := Nat.div_le_div_right (by omega)
    by_cases h3 : p / 2 ^ 52 = q / 2 ^ 52
    · rw [h3]
      exact Nat.mul_lt_mul_of_pos_right (by omega) (Nat.two_pow_pos _)
    · have hx : 2 ^ (p / 2 ^ 52 - 1) * 2 ≤ 2 ^ (q / 2 ^ 52 - 1) := by
        rw [← Nat.pow_succ]; exact Nat.pow_le_pow_right (by omega) (by omega)
      have hm : p % 2 ^ 52 < 2 ^ 52 := Nat.mod_lt _ (by decide)
      have : (2 ^ 52 + p % 2 ^ 52) * 2 ^ (p / 2 ^ 52 - 1) < (2 ^ 52 * 2) * 2 ^ (p / 2 ^ 52 - 1) := Nat.mul_lt_mul_of_pos_right (by omega) (Nat.two_pow_pos _)
      have : 2 ^ 52 * (2 ^ (p / 2 ^ 52 - 1) * 2) ≤ 2 ^ 52 * 2 ^ (q / 2 ^ 52 - 1) := Nat.mul_le_mul_left _ hx
      rw [Nat.mul_comm (2 ^ (p / 2 ^ 52 - 1)) 2, ← Nat.mul_assoc] at this
      omega
theorem val_zero : val 0 = 0 := by decide
theorem val_pos (p : Nat) (h : p ≠ 0) : 0 < val p := by have := val_lt 0 p (by omega); rwa [val_zero] at this
theorem dat_fin (neg : Bool) (p : Nat) (h : p < 2047 * 2 ^ 52) : ∃ (m k : Nat), dat neg p = .number neg m (-1074 + (k : Int)) ∧ m * 2 ^ k = val p ∧ (m = 0 ↔ p = 0) ∧ m < 2 ^ 53 ∧ k ≤ 2045 ∧ (k = 0 ∨ 2 ^ 52 ≤ m) := by
  unfold dat val
  by_cases h1 : p < 2 ^ 52
  · rw [if_pos h1, if_pos h1]
    exact ⟨p, 0, by simp, by simp, Iff.rfl, by omega, by omega, .inl rfl⟩
  · rw [if_neg h1, if_neg h1, if_pos h]
    exact ⟨_, _, rfl, rfl, by omega, by omega, by omega, .inr (by omega)⟩
theorem dat_inf (neg : Bool) : dat neg (2047 * 2 ^ 52) = .infinity neg := by
  unfold dat
  rw [if_neg (by omega), if_neg (by omega), if_pos rfl]
theorem dat_nan (neg : Bool) (p : Nat) (h : 2047 * 2 ^ 52 < p) : dat neg p = .nan neg (p - 2047 * 2 ^ 52) := by
  unfold dat
  rw [if_neg (by omega), if_neg (by omega), if_neg (by omega)]
def place (neg : Bool) (p : Nat) : Int := if neg then -(p : Int) else p
theorem signed_shift (neg : Bool) (m k : Nat) : signed neg m k = if neg then -((m * 2 ^ k : Nat) : Int) else ((m * 2 ^ k : Nat) : Int) := by
  unfold signed; rw [Nat.shiftLeft_eq]
theorem sval_lt (s t : Bool) (p q : Nat) : ((if s then -(val p : Int) else val p) < (if t then -(val q : Int) else val q)) ↔ place s p < place t q := by
  unfold place
  have a1 := val_lt p q; have a2 := val_lt q p; have b1 := val_pos p; have b2 := val_pos q
  have c : p = q → val p = val q := fun h => by rw [h]
  have z1 : p = 0 → val p = 0 := fun h => by rw [h, val_zero]
  have z2 : q = 0 → val q = 0 := fun h => by rw [h, val_zero]
  generalize val p = x at *; generalize val q = y at *
  cases s <;> cases t <;> simp only [if_true, if_false, Bool.false_eq_true] <;> omega
theorem sval_eq (s t : Bool) (p q : Nat) : ((if s then -(val p : Int) else val p) = (if t then -(val q : Int) else val q)) ↔ place s p = place t q := by
  unfold place
  have a1 := val_lt p q; have a2 := val_lt q p; have b1 := val_pos p; have b2 := val_pos q
  have c : p = q → val p = val q := fun h => by rw [h]
  have z1 : p = 0 → val p = 0 := fun h => by rw [h, val_zero]
  have z2 : q = 0 → val q = 0 := fun h => by rw [h, val_zero]
  generalize val p = x at *; generalize val q = y at *
  cases s <;> cases t <;> simp only [if_true, if_false, Bool.false_eq_true] <;> omega
theorem order_dat (s t : Bool) (p q : Nat) (hp : p ≤ 2047 * 2 ^ 52) (hq : q ≤ 2047 * 2 ^ 52) : (dat s p).order (dat t q) = some (compare (place s p) (place t q)) := by
  have cmp : ∀ a b : Int, a < b → compare a b = .lt := fun a b h => by rw [Int.compare_eq_lt]; exact h
  have cmg : ∀ a b : Int, b < a → compare a b = .gt := fun a b h => by rw [Int.compare_eq_gt]; exact h
  by_cases h1 : p = 2047 * 2 ^ 52
  · subst h1
    rw [dat_inf]
    by_cases h2 : q = 2047 * 2 ^ 52
    · subst h2
      rw [dat_inf]
      cases s <;> cases t <;> decide
    · obtain ⟨m, k, e, _⟩ := dat_fin t q (by omega)
      rw [e, show (Datum.infinity s).order (.number t m (-1074 + (k : Int))) = some (if s then .lt else .gt) from rfl]
      unfold place
      cases s with
      | true => rw [if_pos rfl, if_pos rfl, cmp _ _ (by split <;> omega)]
      | false => rw [if_neg (by decide), if_neg (by decide), cmg _ _ (by split <;> omega)]
  · obtain ⟨m, k, e, hv, _⟩ := dat_fin s p (by omega)
    by_cases h2 : q = 2047 * 2 ^ 52
    · subst h2
      rw [dat_inf, e, show (Datum.number s m (-1074 + (k : Int))).order (.infinity t) = some (if t then .gt else .lt) from rfl]
      unfold place
      cases t with
      | true => simp only [if_true]; rw [cmg _ _ (by split <;> omega)]
      | false => simp only [Bool.false_eq_true, if_false]; rw [cmp _ _ (by split <;> omega)]
    · obtain ⟨n, l, e2, hv2, _⟩ := dat_fin t q (by omega)
      rw [e, e2]
      show some (compare (signed s m _) (signed t n _)) = _
      congr 1
      obtain ⟨b, hb⟩ : ∃ b : Nat, min (-1074 + (k : Int)) (-1074 + (l : Int)) = -1074 + (b : Int) := ⟨min k l, by omega⟩
      have hbk : b ≤ k ∧ b ≤ l := by omega
      rw [hb, signed_shift, signed_shift, show (-1074 + (k : Int) - (-1074 + (b : Int))).toNat = k - b by omega, show (-1074 + (l : Int) - (-1074 + (b : Int))).toNat = l - b by omega]
      have x1 : m * 2 ^ (k - b) * 2 ^ b = val p := by rw [Nat.mul_assoc, ← Nat.pow_add, Nat.sub_add_cancel hbk.1]; exact hv
      have x2 : n * 2 ^ (l - b) * 2 ^ b = val q := by rw [Nat.mul_assoc, ← Nat.pow_add, Nat.sub_add_cancel hbk.2]; exact hv2
      generalize m * 2 ^ (k - b) = u at *
      generalize n * 2 ^ (l - b) = v at *
      have hp2 : (0 : Int) < ((2 ^ b : Nat) : Int) := by have := Nat.two_pow_pos b; omega
      have y1 : (if s then -(u : Int) else u) * ((2 ^ b : Nat) : Int) = if s then -(val p : Int) else val p := by
        rw [← x1]; split
        · rw [Int.neg_mul]; push_cast; rfl
        · push_cast; rfl
      have y2 : (if t then -(v : Int) else v) * ((2 ^ b : Nat) : Int) = if t then -(val q : Int) else val q := by
        rw [← x2]; split
        · rw [Int.neg_mul]; push_cast; rfl
        · push_cast; rfl
      generalize (if s then -(u : Int) else (u : Int)) = U at *
      generalize (if t then -(v : Int) else (v : Int)) = W at *
      rcases Int.lt_trichotomy U W with h | h | h
      · rw [cmp _ _ h, cmp]
        rw [← sval_lt, ← y1, ← y2]
        exact Int.mul_lt_mul_of_pos_right h hp2
      · subst h
        have : place s p = place t q := by rw [← sval_eq, ← y1, ← y2]
        rw [this, Int.compare_eq_eq.2 rfl, Int.compare_eq_eq.2 rfl]
      · rw [cmg _ _ h, cmg]
        rw [← sval_lt, ← y1, ← y2]
        exact Int.mul_lt_mul_of_pos_right h hp2
end FM
