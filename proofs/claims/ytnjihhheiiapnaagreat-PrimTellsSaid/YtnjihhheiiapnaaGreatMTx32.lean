/- What the statements' walks need. -/
import Derived.Test.YtnjihhheiiapnaaGreatMTa4
import Derived.Test.YtnjihhheiiapnaaGreatMTx31
set_option linter.unusedVariables false
set_option linter.unusedSimpArgs false
set_option maxRecDepth 100000
namespace Go.Proofs.YtnjihhheiiapnaaGreat
open Go Go.RowKit Go.Proofs FM
set_option maxHeartbeats 4000000
theorem quot_next (m n i : Nat) (hn : 0 < n) :
    (n ≤ 2 * (m * 2 ^ i % n) → m * 2 ^ (i + 1) / n = 2 * (m * 2 ^ i / n) + 1 ∧ m * 2 ^ (i + 1) % n = 2 * (m * 2 ^ i % n) - n) ∧
    (2 * (m * 2 ^ i % n) < n → m * 2 ^ (i + 1) / n = 2 * (m * 2 ^ i / n) ∧ m * 2 ^ (i + 1) % n = 2 * (m * 2 ^ i % n)) := by
  have e : m * 2 ^ (i + 1) = 2 * (m * 2 ^ i) := by rw [Nat.pow_succ]; simp only [Nat.mul_comm, Nat.mul_left_comm]
  rw [e]
  generalize m * 2 ^ i = X
  have hdm := Nat.div_add_mod X n
  have hr := Nat.mod_lt X hn
  have e1 : 2 * X = n * (2 * (X / n)) + 2 * (X % n) := by rw [Nat.mul_left_comm]; omega
  have e2 : 2 * X / n = 2 * (X / n) + 2 * (X % n) / n := by rw [e1, Nat.mul_add_div hn]
  have e3 : 2 * X % n = 2 * (X % n) % n := by rw [e1, Nat.mul_add_mod]
  rw [e2, e3]
  generalize X % n = r at *
  clear e e1 e2 e3 hdm
  constructor
  · intro h
    have d1 : 2 * r / n = 1 := Nat.div_eq_of_lt_le (by omega) (by omega)
    have m1 : 2 * r % n = 2 * r - n := by rw [Nat.mod_eq_sub_mod h, Nat.mod_eq_of_lt (by omega)]
    rw [d1, m1]
    exact ⟨rfl, rfl⟩
  · intro h
    rw [Nat.div_eq_of_lt h, Nat.mod_eq_of_lt h]; omega
theorem quot_loop (d : Nat) : ∀ (k i : Nat) (s : Bool) (e f : Int) (m n : Nat), i + d = 60 → d + 90 ≤ k → 2 ^ 52 ≤ n → n < 2 ^ 53 → m < 2 ^ 53 → 2 ^ 52 ≤ m → -1200 ≤ e → e ≤ 1000 → -1200 ≤ f → f ≤ 1000 →
    anamnesisref02_quotient.l0 k s e (n : Int) f ((m * 2 ^ i / n : Nat) : Int) ((m * 2 ^ i % n : Nat) : Int) (i : Int) =
      some (toI s (refRound (m * 2 ^ 60 / n) (e - f - 60) (decide (m * 2 ^ 60 % n ≠ 0)))) := by
  induction d with
  | zero =>
    intro k i s e f m n hi hk hn hn2 hm2 hm he1 he2 hf1 hf2
    obtain ⟨k, rfl⟩ : ∃ x, k = x + 1 := ⟨k - 1, by omega⟩
    obtain rfl : i = 60 := by omega
    rw [anamnesisref02_quotient.l0, if_neg (by omega), w64i (n := e - f) (by omega) (by omega), w64i (n := e - f - 60) (by omega) (by omega)]
    have lo : 2 ^ 58 ≤ m * 2 ^ 60 / n := by rw [Nat.le_div_iff_mul_le (by omega)]; omega
    have hi : m * 2 ^ 60 / n < 2 ^ 62 := by rw [Nat.div_lt_iff_lt_mul (by omega)]; omega
    have hmod : m * 2 ^ 60 % n < n := Nat.mod_lt _ (by omega)
    have hb : (((m * 2 ^ 60 % n : Nat) : Int) != 0) = decide (m * 2 ^ 60 % n ≠ 0) := by
      by_cases h : m * 2 ^ 60 % n = 0
      · rw [h]; rfl
      · rw [decide_eq_true h]; exact bne_iff_ne.2 (by omega)
    rw [hb]
    generalize m * 2 ^ 60 / n = q at *
    generalize decide (m * 2 ^ 60 % n ≠ 0) = more at *
    rw [round_eq k _ _ _ (by omega) (by omega) hi (by omega) (by omega), Option.bind_some]
    have hle := refRound_le q (e - f - 60) more (by omega) hi (fun _ => le_log2 (by omega))
    rw [with_eq _ _ (by omega), Option.bind_some]
  | succ d ih =>
    intro k i s e f m n hi hk hn hn2 hm2 hm he1 he2 hf1 hf2
    obtain ⟨k, rfl⟩ : ∃ x, k = x + 1 := ⟨k - 1, by omega⟩
    obtain ⟨up, dn⟩ := quot_next m n i (by omega)
    have hr : m * 2 ^ i % n < n := Nat.mod_lt _ (by omega)
    have hp : 2 ^ i ≤ 2 ^ 59 := Nat.pow_le_pow_right (by omega) (by omega)
    have hmi : m * 2 ^ i ≤ m * 2 ^ 59 := Nat.mul_le_mul_left _ hp
    have hq : m * 2 ^ i / n < 2 ^ 61 := by rw [Nat.div_lt_iff_lt_mul (by omega)]; omega
    have ih := ih k (i + 1) s e f m n (by omega) (by omega) hn hn2 hm2 hm he1 he2 hf1 hf2
    rw [anamnesisref02_quotient.l0, if_pos (by omega), w64i (n := 2 * ((m * 2 ^ i % n : Nat) : Int)) (by omega) (by omega), w64i (n := (i : Int) + 1) (by omega) (by omega)]
    rw [show ((i + 1 : Nat) : Int) = (i : Int) + 1 by omega] at ih
    clear hp hmi
    generalize m * 2 ^ i / n = q at *
    generalize m * 2 ^ i % n = r at *
    by_cases h : n ≤ 2 * r
    · obtain ⟨u1, u2⟩ := up h
      rw [u1, u2] at ih
      clear u1 u2 up dn
      rw [if_pos (by omega), w64i (n := 2 * (q : Int)) (by omega) (by omega), w64i (n := 2 * (q : Int) + 1) (by omega) (by omega), w64i (n := 2 * (r : Int) - (n : Int)) (by omega) (by omega)]
      rw [show 2 * (q : Int) + 1 = ((2 * q + 1 : Nat) : Int) by omega, show 2 * (r : Int) - (n : Int) = ((2 * r - n : Nat) : Int) by omega]
      exact ih
    · obtain ⟨u1, u2⟩ := dn (by omega)
      rw [u1, u2] at ih
      clear u1 u2 up dn
      rw [if_neg (by omega), w64i (n := 2 * (q : Int)) (by omega) (by omega)]
      rw [show 2 * (q : Int) = ((2 * q : Nat) : Int) by omega, show 2 * (r : Int) = ((2 * r : Nat) : Int) by omega]
      exact ih
theorem quotient_told (k : Nat) (s t : Bool) (p q : Nat) (hk : 160 ≤ k) (hp : p < 2 ^ 63) (hq : q < 2 ^ 63) :
    anamnesisref02_quotient.f k (toI s p) (toI t q) = some (told ((dat s p).quotient 54 (dat t q))) := by
  unfold anamnesisref02_quotient.f
  rw [Kind_eq s p hp, Kind_eq t q hq, sign_eq s p hp, sign_eq t q hq]
  simp only [Option.bind_some]
  obtain ⟨k, rfl⟩ : ∃ x, k = x + 3 := ⟨k - 3, by omega⟩
  have nan : anamnesisref02_NaN.f = some 9221120237041090561 := rfl
  have hx : (!s == t) = (s ^^ t) := by cases s <;> cases t <;> rfl
  rw [hx]
  have w0 : ∀ s, anamnesisref02_with.f s 0 = some (toI s 0) := with_0
  have wi : ∀ s, anamnesisref02_with.f s 9218868437227405312 = some (toI s (2047 * 2 ^ 52)) := with_i
  have dn := dat_nan s p
  have dn' := dat_nan t q
  have df := dat_fin s p
  have df' := dat_fin t q
  rcases ways p hp with ⟨h1, k1⟩ | ⟨h1, k1⟩ | ⟨h1, k1⟩ | ⟨h1, h1', k1⟩ <;> rcases ways q hq with ⟨h2, k2⟩ | ⟨h2, k2⟩ | ⟨h2, k2⟩ | ⟨h2, h2', k2⟩
  -- a NaN
  · rw [dn h1]; simp [anamnesisref02_quotient.j0, k1, nan]; rfl
  · rw [dn h1]; simp [anamnesisref02_quotient.j0, k1, nan]; rfl
  · rw [dn h1]; simp [anamnesisref02_quotient.j0, k1, nan]; rfl
  · rw [dn h1]; simp [anamnesisref02_quotient.j0, k1, nan]; rfl
  · rw [dn' h2]; subst h1; rw [dat_inf]; simp [anamnesisref02_quotient.j0, k1, k2, nan]; rfl
  -- infinite
  · subst h1; subst h2; rw [dat_inf, dat_inf]
    simp [anamnesisref02_quotient.j0, k1, nan]; rfl
  · subst h1; subst h2; rw [dat_inf, dat_zero]
    simp [anamnesisref02_quotient.j0, anamnesisref02_quotient.j1, k1, k2, wi]; rfl
  · obtain ⟨n, j, e2, _, hn, _⟩ := df' h2'
    subst h1; rw [dat_inf, e2]
    rcases k2 with k2 | k2 <;> simp [anamnesisref02_quotient.j0, anamnesisref02_quotient.j1, k1, k2, wi] <;> rfl
  -- zero
  · rw [dn' h2]; subst h1; simp [anamnesisref02_quotient.j0, k1, k2, nan]; rfl
  · subst h1; subst h2; rw [dat_inf, dat_zero]
    simp [anamnesisref02_quotient.j0, anamnesisref02_quotient.j1, anamnesisref02_quotient.j2, k1, k2, w0]; rfl
  · subst h1; subst h2; rw [dat_zero, dat_zero]
    simp [anamnesisref02_quotient.j0, k1, nan]; rfl
  · obtain ⟨n, j, e2, _, hn, _⟩ := df' h2'
    have hn0 : n ≠ 0 := fun h => h2 (hn.1 h)
    subst h1; rw [dat_zero, e2]
    have e : told ((Ieee.Datum.number s 0 (-1074)).quotient 54 (.number t n (-1074 + (j : Int)))) = toI (s ^^ t) 0 := by
      unfold Ieee.Datum.quotient
      simp only [if_neg hn0, told_number, Nat.zero_shiftLeft, Nat.zero_div, Nat.zero_mod]
      rfl
    rw [e]
    rcases k2 with k2 | k2 <;> simp [anamnesisref02_quotient.j0, anamnesisref02_quotient.j1, anamnesisref02_quotient.j2, k1, k2, w0]
  -- a number
  · obtain ⟨n, j, e2, _⟩ := df h1'
    rw [dn' h2, e2]; rcases k1 with k1 | k1 <;> simp [anamnesisref02_quotient.j0, k1, k2, nan] <;> rfl
  · obtain ⟨n, j, e2, _, hn, _⟩ := df h1'
    subst h2; rw [dat_inf, e2]
    rcases k1 with k1 | k1 <;> simp [anamnesisref02_quotient.j0, anamnesisref02_quotient.j1, anamnesisref02_quotient.j2, k1, k2, w0] <;> rfl
  · obtain ⟨n, j, e2, _, hn, _⟩ := df h1'
    have hn0 : n ≠ 0 := fun h => h1 (hn.1 h)
    subst h2; rw [dat_zero, e2]
    have e : told ((Ieee.Datum.number s n (-1074 + (j : Int))).quotient 54 (.number t 0 (-1074))) = toI (s ^^ t) (2047 * 2 ^ 52) := by
      unfold Ieee.Datum.quotient
      simp only [if_true, if_neg hn0, told_inf]
    rw [e]
    rcases k1 with k1 | k1 <;> simp [anamnesisref02_quotient.j0, anamnesisref02_quotient.j1, k1, k2, wi]
  · have n1 : ¬ kindOf p = 0 ∧ ¬ kindOf p = 1 ∧ ¬ kindOf p = 2 := by omega
    have n2 : ¬ kindOf q = 0 ∧ ¬ kindOf q = 1 ∧ ¬ kindOf q = 2 := by omega
    rw [if_neg n1.1, if_neg n2.1, if_neg n1.2.1, if_neg n1.2.2]
    have b1 : (kindOf q == 1) = false := beq_eq_false_iff_ne.2 n2.2.1
    have b2 : (kindOf q == 2) = false := beq_eq_false_iff_ne.2 n2.2.2
    have ff : ¬ (false = true) := by decide
    rw [anamnesisref02_quotient.j0, if_neg ff, if_neg n1.2.1, b2, anamnesisref02_quotient.j1, if_neg ff, if_neg n1.2.2, b1, anamnesisref02_quotient.j2, if_neg ff]
    obtain ⟨m0, l, e, hd, hpart, hm, hm2, hl, he1, he2, hz1, hz2⟩ := part_eq s p h1 h1'
    obtain ⟨n0, l', f, hd', hpart', hn, hn2, hl', hf1, hf2, hz3, hz4⟩ := part_eq t q h2 h2'
    rw [hd, hd', quotient_eq s t m0 n0 l l' e f hl hl' hm hm2 hn hn2]
    rw [hpart k (by omega), Option.bind_some]
    rw [hpart' k (by omega), Option.bind_some]
    clear hpart hpart' hd hd' dn dn' df df' hz1 hz2 hz3 hz4 k1 k2 n1 n2 b1 b2
    dsimp only
    generalize m0 * 2 ^ l = m at *
    generalize n0 * 2 ^ l' = n at *
    rw [if_neg (by omega)]
    have t1 : IntKind.i64.wrap (Int.tdiv (m : Int) (n : Int)) = ((m / n : Nat) : Int) := by
      have hz : m / n ≤ m := Nat.div_le_self _ _
      rw [Int.tdiv_eq_ediv_of_nonneg (by omega), ← Int.natCast_ediv]
      generalize m / n = z at hz ⊢
      exact w64i (by omega) (by omega)
    have t2 : Int.tmod (m : Int) (n : Int) = ((m % n : Nat) : Int) := by
      rw [Int.tmod_eq_emod_of_nonneg (by omega)]; rfl
    rw [t1, t2]
    clear t1 t2
    have := quot_loop 60 k 0 (s ^^ t) e f m n rfl (by omega) hn hn2 hm2 hm (by omega) (by omega) (by omega) (by omega)
    rw [Nat.pow_zero, Nat.mul_one] at this
    exact this
theorem Op_told (k : Nat) (o : Int) (s t : Bool) (p q : Nat) (hk : 160 ≤ k) (hp : p < 2 ^ 63) (hq : q < 2 ^ 63) :
    anamnesisref02_Op.f k o (toI s p) (toI t q) = flt_Op.f o (toI s p) (toI t q) := by
  have nan : anamnesisref02_NaN.f = some 9221120237041090561 := rfl
  have ra := read_toI s p hp
  have rb := read_toI t q hq
  unfold anamnesisref02_Op.f flt_Op.f Ieee.Format.add Ieee.Format.sub Ieee.Format.mul Ieee.Format.div
  rw [ra, rb]
  by_cases h0 : o = 0
  · rw [if_pos h0, if_pos h0, sum_told k s t p q (by omega) hp hq, fres_told, Option.bind_some]
    unfold dat Ieee.Datum.sum
    intro u v
    split <;> (try split) <;> simp_all
  rw [if_neg h0, if_neg h0]
  by_cases h1 : o = 1
  · rw [if_pos h1, if_pos h1, Kind_eq t q hq, Option.bind_some]
    have hopp : (dat t q).opposite = dat (!t) q := by
      unfold dat
      split
      · rfl
      split
      · rfl
      split <;> rfl
    rw [hopp, fres_told]
    · by_cases hk0 : kindOf q = 0
      · rw [if_pos hk0, nan, Option.bind_some]
        rcases ways q hq with ⟨h2, _⟩ | ⟨_, h2⟩ | ⟨_, h2⟩ | ⟨_, _, h2⟩
        · rw [dat_nan _ q h2]
          have : (dat s p).sum (.nan (!t) (q - 2047 * 2 ^ 52)) = none := by
            unfold Ieee.Datum.sum; cases dat s p <;> rfl
          rw [this, told_none]
        all_goals omega
      · rw [if_neg hk0, sign_eq t q hq, Option.bind_some, plain_eq t q hq, Option.bind_some, with_eq (!t) q hq, Option.bind_some, sum_told k s (!t) p q (by omega) hp hq, Option.bind_some]
    · unfold dat Ieee.Datum.sum
      intro u v
      split <;> (try split) <;> simp_all
  rw [if_neg h1, if_neg h1]
  by_cases h2 : o = 2
  · rw [if_pos h2, if_pos h2, product_told k s t p q (by omega) hp hq, fres_told, Option.bind_some]
    unfold dat Ieee.Datum.product
    intro u v
    split <;> (try split) <;> simp_all
  rw [if_neg h2, if_neg h2]
  by_cases h3 : o = 3
  · rw [if_pos h3, if_pos h3, quotient_told k s t p q (by omega) hp hq, fres_told, Option.bind_some]
    · rfl
    unfold dat Ieee.Datum.quotient
    intro u v
    split <;> (try split) <;> (try split) <;> simp_all
  rw [if_neg h3, if_neg h3, nan, Option.bind_some]
end Go.Proofs.YtnjihhheiiapnaaGreat
namespace Go.Proofs.YtnjihhheiiapnaaGreat
open Go Go.RowKit Go.Proofs FM
set_option maxHeartbeats 4000000
theorem Of_flt (n : Int) (h1 : -9007199254740992 ≤ n) (h2 : n ≤ 9007199254740992) : flt_Of.f n = some (toI (decide (n < 0)) (if n.natAbs = 0 then 0 else rung n.natAbs 0)) := by
  unfold flt_Of.f
  rw [if_neg (by omega), if_neg (by omega)]
  show some (fres (some (Ieee.double.write (.number (n < 0) n.natAbs 0)))) = _
  have := fres_told (some (.number (decide (n < 0)) n.natAbs 0)) (by intro s t h; cases h)
  rw [Option.map_some] at this
  rw [this]; rfl
theorem Of_ref (k : Nat) (hk : 90 ≤ k) (n : Int) : anamnesisref02_Of.f k n = flt_Of.f n := by
  unfold anamnesisref02_Of.f
  have nan : anamnesisref02_NaN.f = some 9221120237041090561 := rfl
  obtain ⟨k, rfl⟩ : ∃ x, k = x + 1 := ⟨k - 1, by omega⟩
  by_cases h1 : n < -9007199254740992
  · rw [if_pos h1, anamnesisref02_Of.j0, if_pos rfl, nan, Option.bind_some]
    unfold flt_Of.f
    rw [if_pos h1]
  rw [if_neg h1, anamnesisref02_Of.j0]
  by_cases h2 : n > 9007199254740992
  · rw [decide_eq_true h2, if_pos rfl, nan, Option.bind_some]
    unfold flt_Of.f
    rw [if_neg h1, if_pos h2]
  rw [decide_eq_false h2, if_neg (by decide), Of_flt n (by omega) (by omega)]
  have two : ∀ m : Nat, m ≠ 0 → m < 2 ^ 62 → refRound m 0 false = rung m 0 := by
    intro m hm hm2
    rw [refRound_eq m 0 false hm hm2 (by intro h; cases h), Bool.toNat_false, Nat.add_zero]
    have := rung_scale m 1 0 hm
    rw [Nat.pow_one, Nat.mul_comm] at this
    exact this
  by_cases h3 : n = 0
  · subst h3; rfl
  rw [if_neg h3, if_neg (by omega : ¬ n.natAbs = 0)]
  have hb := rung_le n.natAbs 0
  by_cases h4 : n < 0
  · rw [if_pos h4, w64i (by omega) (by omega), show -n = ((n.natAbs : Nat) : Int) by omega, round_eq k _ _ _ (by omega) (by omega) (by omega) (by omega) (by omega), two _ (by omega) (by omega), Option.bind_some, with_eq true _ (by omega), decide_eq_true h4]
    rfl
  · have : n = ((n.natAbs : Nat) : Int) := by omega
    rw [if_neg h4, decide_eq_false h4]
    rw [show anamnesisref02_round.f k n 0 false = anamnesisref02_round.f k ((n.natAbs : Nat) : Int) 0 false by rw [← this], round_eq k _ _ _ (by omega) (by omega) (by omega) (by omega) (by omega), two _ (by omega) (by omega)]
    rfl
end Go.Proofs.YtnjihhheiiapnaaGreat
