/- What the statements' walks need. -/
import Derived.Test.YtnjihhheiiapnaaGreatMTa4
import Derived.Test.YtnjihhheiiapnaaGreatMTx30
set_option linter.unusedVariables false
set_option linter.unusedSimpArgs false
set_option maxRecDepth 100000
namespace Go.Proofs.YtnjihhheiiapnaaGreat
open Go Go.RowKit Go.Proofs FM
set_option maxHeartbeats 4000000
theorem with_0 (s : Bool) : anamnesisref02_with.f s 0 = some (toI s 0) := by
  have h := with_eq s 0 (by omega)
  rwa [show ((0 : Nat) : Int) = 0 from rfl] at h
theorem with_i (s : Bool) : anamnesisref02_with.f s 9218868437227405312 = some (toI s (2047 * 2 ^ 52)) := by
  have h := with_eq s (2047 * 2 ^ 52) (by omega)
  rwa [show ((2047 * 2 ^ 52 : Nat) : Int) = 9218868437227405312 by decide] at h
theorem ways (p : Nat) (h : p < 2 ^ 63) :
    (2047 * 2 ^ 52 < p ∧ kindOf p = 0) ∨ (p = 2047 * 2 ^ 52 ∧ kindOf p = 1) ∨ (p = 0 ∧ kindOf p = 2) ∨ (p ≠ 0 ∧ p < 2047 * 2 ^ 52 ∧ (kindOf p = 3 ∨ kindOf p = 4)) := by
  unfold kindOf
  by_cases h1 : p < 2047 * 2 ^ 52
  · rw [if_pos h1]
    by_cases h2 : p = 0
    · rw [if_pos h2]; right; right; left; exact ⟨h2, rfl⟩
    · rw [if_neg h2]; right; right; right; refine ⟨h2, h1, ?_⟩; split <;> simp
  · rw [if_neg h1]
    by_cases h2 : p = 2047 * 2 ^ 52
    · rw [if_pos h2]; right; left; exact ⟨h2, rfl⟩
    · rw [if_neg h2]; left; exact ⟨by omega, rfl⟩
theorem dat_zero (s : Bool) : dat s 0 = .number s 0 (-1074) := rfl
theorem told_inf (s : Bool) : told (some (.infinity s)) = toI s (2047 * 2 ^ 52) := rfl
theorem told_none : told none = 9221120237041090561 := rfl
theorem zero_sum (s t : Bool) (q : Nat) (hq0 : q ≠ 0) (hq : q < 2047 * 2 ^ 52) : told ((dat s 0).sum (dat t q)) = toI t q := by
  rw [← rung_dat t q hq]
  obtain ⟨n, j, e2, hv, hn, hn2, hj, _⟩ := dat_fin t q hq
  rw [e2, dat_zero]
  show told (some (.number _ _ _)) = _
  have hn0 : n ≠ 0 := fun h => hq0 (hn.1 h)
  rw [show min (-1074 : Int) (-1074 + (j : Int)) = -1074 by omega, signed_shift, signed_shift, Nat.zero_mul, show (-1074 + (j : Int) - -1074).toNat = j by omega]
  have hpos : 0 < n * 2 ^ j := Nat.mul_pos (by omega) (Nat.two_pow_pos j)
  have h1 : ((if s then -((0 : Nat) : Int) else ((0 : Nat) : Int)) + (if t then -((n * 2 ^ j : Nat) : Int) else ((n * 2 ^ j : Nat) : Int))) = (if t then -((n * 2 ^ j : Nat) : Int) else ((n * 2 ^ j : Nat) : Int)) := by split <;> simp
  rw [h1]
  have h2 : (if t then -((n * 2 ^ j : Nat) : Int) else ((n * 2 ^ j : Nat) : Int)).natAbs = n * 2 ^ j := by split <;> omega
  have h3 : ¬ (if t then -((n * 2 ^ j : Nat) : Int) else ((n * 2 ^ j : Nat) : Int)) = 0 := by split <;> omega
  have h4 : decide ((if t then -((n * 2 ^ j : Nat) : Int) else ((n * 2 ^ j : Nat) : Int)) < 0) = t := by
    cases t
    · exact decide_eq_false (by simp only [Bool.false_eq_true, if_false]; omega)
    · exact decide_eq_true (by simp only [if_true]; omega)
  rw [h2, if_neg h3, told_number, told_number, h4, if_neg (by omega), if_neg hn0, rung_up n j _ hn0]
theorem sum_comm_dat (s t : Bool) (p q : Nat) (hp : p < 2047 * 2 ^ 52) (hq : q < 2047 * 2 ^ 52) : (dat s p).sum (dat t q) = (dat t q).sum (dat s p) := by
  obtain ⟨m, i, e1, _⟩ := dat_fin s p hp
  obtain ⟨n, j, e2, _⟩ := dat_fin t q hq
  rw [e1, e2, sum_comm]
theorem sum_told (k : Nat) (s t : Bool) (p q : Nat) (hk : 110 ≤ k) (hp : p < 2 ^ 63) (hq : q < 2 ^ 63) :
    anamnesisref02_sum.f k (toI s p) (toI t q) = some (told ((dat s p).sum (dat t q))) := by
  unfold anamnesisref02_sum.f
  rw [Kind_eq s p hp, Kind_eq t q hq]
  simp only [Option.bind_some]
  obtain ⟨k, rfl⟩ : ∃ x, k = x + 3 := ⟨k - 3, by omega⟩
  have nan : anamnesisref02_NaN.f = some 9221120237041090561 := rfl
  have sp := sign_eq s p hp
  have sq := sign_eq t q hq
  have dn := dat_nan s p
  have dn' := dat_nan t q
  have df := dat_fin s p
  have df' := dat_fin t q
  rcases ways p hp with ⟨h1, k1⟩ | ⟨h1, k1⟩ | ⟨h1, k1⟩ | ⟨h1, h1', k1⟩ <;> rcases ways q hq with ⟨h2, k2⟩ | ⟨h2, k2⟩ | ⟨h2, k2⟩ | ⟨h2, h2', k2⟩
  -- a NaN
  · rw [dn h1]; simp [anamnesisref02_sum.j0, k1, nan]; rfl
  · rw [dn h1]; simp [anamnesisref02_sum.j0, k1, nan]; rfl
  · rw [dn h1]; simp [anamnesisref02_sum.j0, k1, nan]; rfl
  · rw [dn h1]; simp [anamnesisref02_sum.j0, k1, nan]; rfl
  · rw [dn' h2]; subst h1; rw [dat_inf]; simp [anamnesisref02_sum.j0, k1, k2, nan]; rfl
  -- infinite
  · subst h1; subst h2
    rw [dat_inf, dat_inf, show (Ieee.Datum.infinity s).sum (.infinity t) = if s = t then some (.infinity s) else none from rfl]
    simp only [k1, sp, sq, Option.bind_some]
    by_cases hst : s = t
    · subst hst
      simp [anamnesisref02_sum.j0, anamnesisref02_sum.j1, told_inf]
    · have e : (!s == t) = true := by simpa using hst
      simp [anamnesisref02_sum.j0, nan, e, hst, told_none]
  · subst h1; subst h2; rw [dat_inf]
    simp [anamnesisref02_sum.j0, anamnesisref02_sum.j1, k1, k2]; rfl
  · obtain ⟨n, j, e2, _⟩ := df' h2'
    subst h1; rw [dat_inf, e2]
    rcases k2 with k2 | k2 <;> simp [anamnesisref02_sum.j0, anamnesisref02_sum.j1, k1, k2] <;> rfl
  -- zero
  · rw [dn' h2]; subst h1; simp [anamnesisref02_sum.j0, k1, k2, nan]; rfl
  · subst h1; subst h2; rw [dat_inf]
    simp [anamnesisref02_sum.j0, anamnesisref02_sum.j1, anamnesisref02_sum.j2, k1, k2]; rfl
  · subst h1; subst h2
    have w0 : ∀ s, anamnesisref02_with.f s 0 = some (toI s 0) := with_0
    simp [anamnesisref02_sum.j0, anamnesisref02_sum.j1, anamnesisref02_sum.j2, k1, sp, sq, w0]
    cases s <;> cases t <;> rfl
  · subst h1
    rcases k2 with k2 | k2 <;> simp [anamnesisref02_sum.j0, anamnesisref02_sum.j1, anamnesisref02_sum.j2, k1, k2, zero_sum s t q h2 h2']
  -- a number
  · obtain ⟨n, j, e2, _⟩ := df h1'
    rw [dn' h2, e2]; rcases k1 with k1 | k1 <;> simp [anamnesisref02_sum.j0, k1, k2, nan] <;> rfl
  · obtain ⟨n, j, e2, _⟩ := df h1'
    subst h2; rw [dat_inf, e2]
    rcases k1 with k1 | k1 <;> simp [anamnesisref02_sum.j0, anamnesisref02_sum.j1, anamnesisref02_sum.j2, k1, k2] <;> rfl
  · subst h2
    rw [sum_comm_dat s t p 0 h1' (by omega), zero_sum t s p h1 h1']
    rcases k1 with k1 | k1 <;> simp [anamnesisref02_sum.j0, anamnesisref02_sum.j1, k1, k2]
  · have ha := add_eq k s t p q (by omega) h1 h2 h1' h2'
    rcases k1 with k1 | k1 <;> rcases k2 with k2 | k2 <;> simp [anamnesisref02_sum.j0, anamnesisref02_sum.j1, anamnesisref02_sum.j2, k1, k2, ha]
theorem product_zero (s t : Bool) (p q : Nat) (hp : p < 2047 * 2 ^ 52) (hq : q < 2047 * 2 ^ 52) (h : p = 0 ∨ q = 0) : told ((dat s p).product (dat t q)) = toI (s ^^ t) 0 := by
  obtain ⟨m, i, e1, _, hm, _⟩ := dat_fin s p hp
  obtain ⟨n, j, e2, _, hn, _⟩ := dat_fin t q hq
  rw [e1, e2]
  show toI (s ^^ t) (if m * n = 0 then 0 else _) = _
  rw [if_pos]
  rcases h with h | h
  · rw [hm.2 h, Nat.zero_mul]
  · rw [hn.2 h, Nat.mul_zero]
theorem mul_parts (m n : Nat) (hm2 : m < 2 ^ 53) (hn2 : n < 2 ^ 53) :
    let low := m % 134217728 * (n % 134217728)
    let mid := m / 134217728 * (n % 134217728) + m % 134217728 * (n / 134217728) + low / 134217728
    let high := m / 134217728 * (n / 134217728) + mid / 134217728
    m * n / 2 ^ 46 = high * 256 + mid % 134217728 / 524288 ∧ m * n % 2 ^ 46 = mid % 524288 * 134217728 + low % 134217728 ∧ low < 2 ^ 54 ∧ mid < 2 ^ 55 ∧ high < 2 ^ 53 := by
  intro low mid high
  have a1 := Nat.div_add_mod m 134217728
  have a2 := Nat.div_add_mod n 134217728
  have b1 : m % 134217728 < 134217728 := Nat.mod_lt _ (by decide)
  have b2 : n % 134217728 < 134217728 := Nat.mod_lt _ (by decide)
  have c1 : m / 134217728 < 2 ^ 26 := by omega
  have c2 : n / 134217728 < 2 ^ 26 := by omega
  have hlow : low = m % 134217728 * (n % 134217728) := rfl
  have hmid : mid = m / 134217728 * (n % 134217728) + m % 134217728 * (n / 134217728) + low / 134217728 := rfl
  have hhigh : high = m / 134217728 * (n / 134217728) + mid / 134217728 := rfl
  have prod : m * n = 134217728 * 134217728 * (m / 134217728 * (n / 134217728)) + 134217728 * (m / 134217728 * (n % 134217728) + m % 134217728 * (n / 134217728)) + m % 134217728 * (n % 134217728) := by
    conv => lhs; rw [← a1, ← a2]
    simp only [Nat.mul_add, Nat.mul_comm, Nat.mul_left_comm]
    omega
  clear_value low mid high
  generalize m / 134217728 = x at *
  generalize m % 134217728 = y at *
  generalize n / 134217728 = u at *
  generalize n % 134217728 = v at *
  have p1 : y * v < 134217728 * 134217728 := Nat.mul_lt_mul'' b1 b2
  have p2 : x * v < 2 ^ 26 * 134217728 := Nat.mul_lt_mul'' c1 b2
  have p3 : y * u < 134217728 * 2 ^ 26 := Nat.mul_lt_mul'' b1 c2
  have p4 : x * u < 2 ^ 26 * 2 ^ 26 := Nat.mul_lt_mul'' c1 c2
  generalize x * u = X at *
  generalize y * v = Y at *
  generalize x * v = Z at *
  generalize y * u = W at *
  subst hlow hmid hhigh
  rw [prod]
  refine ⟨by omega, by omega, by omega, by omega, by omega⟩
theorem product_told (k : Nat) (s t : Bool) (p q : Nat) (hk : 110 ≤ k) (hp : p < 2 ^ 63) (hq : q < 2 ^ 63) :
    anamnesisref02_product.f k (toI s p) (toI t q) = some (told ((dat s p).product (dat t q))) := by
  obtain ⟨W, hW⟩ : ∃ W : Int → Int, W = IntKind.i64.wrap := ⟨_, rfl⟩
  have w64i : ∀ {n : Int}, -9223372036854775808 ≤ n → n ≤ 9223372036854775807 → W n = n := by subst hW; exact fun h1 h2 => w64i h1 h2
  unfold anamnesisref02_product.f
  rw [Kind_eq s p hp, Kind_eq t q hq, sign_eq s p hp, sign_eq t q hq]
  simp only [Option.bind_some]
  obtain ⟨k, rfl⟩ : ∃ x, k = x + 3 := ⟨k - 3, by omega⟩
  have nan : anamnesisref02_NaN.f = some 9221120237041090561 := rfl
  have hx : (!s == t) = (s ^^ t) := by cases s <;> cases t <;> rfl
  rw [hx]
  have w0 : ∀ s, anamnesisref02_with.f s 0 = some (toI s 0) := with_0
  have wi : ∀ s, anamnesisref02_with.f s 9218868437227405312 = some (toI s (2047 * 2 ^ 52)) := with_i
  have dn := dat_nan s p
  have dn' := dat_nan t q
  have df := dat_fin s p
  have df' := dat_fin t q
  have pz := product_zero s t p q
  rcases ways p hp with ⟨h1, k1⟩ | ⟨h1, k1⟩ | ⟨h1, k1⟩ | ⟨h1, h1', k1⟩ <;> rcases ways q hq with ⟨h2, k2⟩ | ⟨h2, k2⟩ | ⟨h2, k2⟩ | ⟨h2, h2', k2⟩
  -- a NaN
  · rw [dn h1]; simp [anamnesisref02_product.j0, k1, nan]; rfl
  · rw [dn h1]; simp [anamnesisref02_product.j0, k1, nan]; rfl
  · rw [dn h1]; simp [anamnesisref02_product.j0, k1, nan]; rfl
  · rw [dn h1]; simp [anamnesisref02_product.j0, k1, nan]; rfl
  · rw [dn' h2]; subst h1; rw [dat_inf]; simp [anamnesisref02_product.j0, k1, k2, nan]; rfl
  -- infinite
  · subst h1; subst h2; rw [dat_inf, dat_inf]
    simp [anamnesisref02_product.j0, anamnesisref02_product.j1, k1, wi]; rfl
  · subst h1; subst h2; rw [dat_inf, dat_zero]
    simp [anamnesisref02_product.j0, k1, k2, nan]; rfl
  · obtain ⟨n, j, e2, _, hn, _⟩ := df' h2'
    have hn0 : n ≠ 0 := fun h => h2 (hn.1 h)
    subst h1; rw [dat_inf, e2, show (Ieee.Datum.infinity s).product (.number t n (-1074 + (j : Int))) = if n = 0 then none else some (.infinity (s ^^ t)) from rfl, if_neg hn0]
    rcases k2 with k2 | k2 <;> simp [anamnesisref02_product.j0, anamnesisref02_product.j1, k1, k2, wi, told_inf]
  -- zero
  · rw [dn' h2]; subst h1; simp [anamnesisref02_product.j0, k1, k2, nan]; rfl
  · subst h1; subst h2; rw [dat_inf, dat_zero]
    simp [anamnesisref02_product.j0, k1, k2, nan]; rfl
  · rw [pz (by omega) (by omega) (.inl h1)]
    simp [anamnesisref02_product.j0, anamnesisref02_product.j1, anamnesisref02_product.j2, k1, k2, w0]
  · rw [pz (by omega) (by omega) (.inl h1)]
    rcases k2 with k2 | k2 <;> simp [anamnesisref02_product.j0, anamnesisref02_product.j1, anamnesisref02_product.j2, k1, k2, w0]
  -- a number
  · obtain ⟨n, j, e2, _⟩ := df h1'
    rw [dn' h2, e2]; rcases k1 with k1 | k1 <;> simp [anamnesisref02_product.j0, k1, k2, nan] <;> rfl
  · obtain ⟨n, j, e2, _, hn, _⟩ := df h1'
    have hn0 : n ≠ 0 := fun h => h1 (hn.1 h)
    subst h2; rw [dat_inf, e2, show (Ieee.Datum.number s n (-1074 + (j : Int))).product (.infinity t) = if n = 0 then none else some (.infinity (t ^^ s)) from rfl, if_neg hn0, told_inf, Bool.xor_comm t s]
    rcases k1 with k1 | k1 <;> simp [anamnesisref02_product.j0, anamnesisref02_product.j1, k1, k2, wi]
  · rw [pz (by omega) (by omega) (.inr h2)]
    rcases k1 with k1 | k1 <;> simp [anamnesisref02_product.j0, anamnesisref02_product.j1, anamnesisref02_product.j2, k1, k2, w0]
  · have n1 : ¬ kindOf p = 0 ∧ ¬ kindOf p = 1 ∧ ¬ kindOf p = 2 := by omega
    have n2 : ¬ kindOf q = 0 ∧ ¬ kindOf q = 1 ∧ ¬ kindOf q = 2 := by omega
    rw [if_neg n1.1, if_neg n2.1, if_neg n1.2.1, if_neg n1.2.2]
    have b1 : (kindOf q == 1) = false := beq_eq_false_iff_ne.2 n2.2.1
    have b2 : (kindOf q == 2) = false := beq_eq_false_iff_ne.2 n2.2.2
    have ff : ¬ (false = true) := by decide
    rw [anamnesisref02_product.j0, if_neg ff, if_neg n1.2.1, b1, anamnesisref02_product.j1, if_neg ff, if_neg n1.2.2, b2, anamnesisref02_product.j2, if_neg ff]
    rw [← hW]
    obtain ⟨m0, l, e, hd, hpart, hm, hm2, hl, he1, he2, hz1, hz2⟩ := part_eq s p h1 h1'
    obtain ⟨n0, l', f, hd', hpart', hn, hn2, hl', hf1, hf2, hz3, hz4⟩ := part_eq t q h2 h2'
    clear hz1 hz2 hz3 hz4 k1 k2 n1 n2
    rw [hd, hd', product_eq s t m0 n0 l l' e f hm hm2 hn hn2]
    rw [hpart k (by omega), Option.bind_some]
    rw [hpart' k (by omega), Option.bind_some]
    clear hpart hpart' hd hd' dn dn' df df' pz
    dsimp only
    generalize m0 * 2 ^ l = m at *
    generalize n0 * 2 ^ l' = n at *
    have lo : 2 ^ 52 * 2 ^ 52 ≤ m * n := Nat.mul_le_mul hm hn
    have hi : m * n < 2 ^ 53 * 2 ^ 53 := Nat.mul_lt_mul'' hm2 hn2
    have t1 : Int.tmod (m : Int) 134217728 = ((m % 134217728 : Nat) : Int) := by rw [Int.tmod_eq_emod_of_nonneg (by omega)]; omega
    have t2 : Int.tmod (n : Int) 134217728 = ((n % 134217728 : Nat) : Int) := by rw [Int.tmod_eq_emod_of_nonneg (by omega)]; omega
    have t3 : W (Int.tdiv (m : Int) 134217728) = ((m / 134217728 : Nat) : Int) := by rw [Int.tdiv_eq_ediv_of_nonneg (by omega), w64i (by omega) (by omega)]; omega
    have t4 : W (Int.tdiv (n : Int) 134217728) = ((n / 134217728 : Nat) : Int) := by rw [Int.tdiv_eq_ediv_of_nonneg (by omega), w64i (by omega) (by omega)]; omega
    rw [t1, t2, t3, t4]
    clear t1 t2 t3 t4
    have b1 : m % 134217728 < 134217728 := Nat.mod_lt _ (by decide)
    have b2 : n % 134217728 < 134217728 := Nat.mod_lt _ (by decide)
    have c1 : m / 134217728 < 2 ^ 26 := by omega
    have c2 : n / 134217728 < 2 ^ 26 := by omega
    have hres : ∀ more : Bool, more = decide (m * n % 2 ^ 46 ≠ 0) → ((anamnesisref02_round.f k ((m * n / 2 ^ 46 : Nat) : Int) (W (W (e + f) + 46)) more).bind fun a => (anamnesisref02_with.f (s ^^ t) a).bind fun b => some b) =
        some (toI (s ^^ t) (refRound (m * n / 2 ^ 46) (e + f + 46) (decide (m * n % 2 ^ 46 ≠ 0)))) := by
      intro more hmore
      rw [hmore, w64i (n := e + f) (by omega) (by omega), w64i (by omega) (by omega), round_eq k _ _ _ (by omega) (by omega) (by omega) (by omega) (by omega)]
      simp only [Option.bind_some]
      have hb := refRound_le (m * n / 2 ^ 46) (e + f + 46) (decide (m * n % 2 ^ 46 ≠ 0)) (by omega) (by omega) (fun _ => le_log2 (by omega))
      rw [with_eq _ _ (by omega)]
      rfl
    obtain ⟨r1, r2, r3, r4, r5⟩ := mul_parts m n hm2 hn2
    have R1 := Aside0.mk r1
    have R2 := Aside0.mk r2
    clear r1 r2
    generalize m / 134217728 = x at *
    generalize m % 134217728 = y at *
    generalize n / 134217728 = u at *
    generalize n % 134217728 = v at *
    have p1 : y * v < 134217728 * 134217728 := Nat.mul_lt_mul'' b1 b2
    have p2 : x * v < 2 ^ 26 * 134217728 := Nat.mul_lt_mul'' c1 b2
    have p3 : y * u < 134217728 * 2 ^ 26 := Nat.mul_lt_mul'' b1 c2
    have p4 : x * u < 2 ^ 26 * 2 ^ 26 := Nat.mul_lt_mul'' c1 c2
    rw [← Int.natCast_mul y v, ← Int.natCast_mul x v, ← Int.natCast_mul y u, ← Int.natCast_mul x u]
    generalize x * u = X at *
    generalize y * v = Y at *
    generalize x * v = Z at *
    generalize y * u = W at *
    rw [w64i (n := (Y : Int)) (by omega) (by omega), w64i (n := (Z : Int)) (by omega) (by omega), w64i (n := (W : Int)) (by omega) (by omega), w64i (n := (X : Int)) (by omega) (by omega)]
    have t5 : Int.tdiv (Y : Int) 134217728 = ((Y / 134217728 : Nat) : Int) := by rw [Int.tdiv_eq_ediv_of_nonneg (by omega)]; omega
    have t6 : Int.tmod (Y : Int) 134217728 = ((Y % 134217728 : Nat) : Int) := by rw [Int.tmod_eq_emod_of_nonneg (by omega)]; omega
    rw [t5, t6]
    clear t5 t6
    rw [w64i (n := ((Y / 134217728 : Nat) : Int)) (by omega) (by omega), w64i (n := (Z : Int) + (W : Int)) (by omega) (by omega)]
    have t7 : (Z : Int) + (W : Int) + ((Y / 134217728 : Nat) : Int) = ((Z + W + Y / 134217728 : Nat) : Int) := by omega
    rw [t7]
    clear t7
    rw [w64i (n := ((Z + W + Y / 134217728 : Nat) : Int)) (by omega) (by omega)]
    generalize Z + W + Y / 134217728 = D at *
    have t8 : Int.tdiv (D : Int) 134217728 = ((D / 134217728 : Nat) : Int) := by rw [Int.tdiv_eq_ediv_of_nonneg (by omega)]; omega
    have t9 : Int.tmod (D : Int) 134217728 = ((D % 134217728 : Nat) : Int) := by rw [Int.tmod_eq_emod_of_nonneg (by omega)]; omega
    have t10 : Int.tmod (D : Int) 524288 = ((D % 524288 : Nat) : Int) := by rw [Int.tmod_eq_emod_of_nonneg (by omega)]; omega
    rw [t8, t9, t10]
    clear t8 t9 t10
    rw [w64i (n := ((D / 134217728 : Nat) : Int)) (by omega) (by omega), w64i (n := (X : Int) + ((D / 134217728 : Nat) : Int)) (by omega) (by omega),
      w64i (n := ((X : Int) + ((D / 134217728 : Nat) : Int)) * 256) (by omega) (by omega), w64i (n := ((X : Int) + ((D / 134217728 : Nat) : Int)) * 256 + ((D % 134217728 : Nat) : Int) / 524288) (by omega) (by omega)]
    have t11 : ((X : Int) + ((D / 134217728 : Nat) : Int)) * 256 + ((D % 134217728 : Nat) : Int) / 524288 = ((m * n / 2 ^ 46 : Nat) : Int) := by rw [R1.out]; omega
    rw [t11]
    by_cases hz : D % 524288 = 0
    · rw [if_pos (by omega)]
      refine hres _ ?_
      rw [R2.out, hz, Nat.zero_mul, Nat.zero_add]
      by_cases hy : Y % 134217728 = 0
      · rw [hy]; rfl
      · rw [decide_eq_true hy]; exact bne_iff_ne.2 (by omega)
    · rw [if_neg (by omega)]
      refine hres _ ?_
      rw [R2.out]; exact (decide_eq_true (by omega)).symm
end Go.Proofs.YtnjihhheiiapnaaGreat
