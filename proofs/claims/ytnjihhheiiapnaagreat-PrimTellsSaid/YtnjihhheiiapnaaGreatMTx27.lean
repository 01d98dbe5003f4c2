/- What the statements' walks need. -/
import Derived.Test.YtnjihhheiiapnaaGreatMTa4
import Derived.Test.YtnjihhheiiapnaaGreatMTx26
set_option linter.unusedVariables false
set_option linter.unusedSimpArgs false
set_option maxRecDepth 100000
namespace FM
open Ieee
def told : Option Datum → Int
  | some (.number s m e) => toI s (if m = 0 then 0 else rung m e)
  | some (.infinity s) => toI s (2047 * 2 ^ 52)
  | _ => 9221120237041090561
theorem told_number (s : Bool) (m : Nat) (e : Int) : told (some (.number s m e)) = toI s (if m = 0 then 0 else rung m e) := rfl
theorem le_log2 {n k : Nat} (h : 2 ^ k ≤ n) : k ≤ n.log2 := (Nat.le_log2 (by have := Nat.two_pow_pos k; omega)).2 h
theorem rung_up (T c : Nat) (p : Int) (h : T ≠ 0) : rung (T * 2 ^ c) p = rung T (p + c) := by
  have := rung_scale T c (p + c) h
  rwa [Int.add_sub_cancel] at this
theorem decide_toNat (P : Prop) [Decidable P] : (decide P).toNat = if P then 1 else 0 := by
  by_cases h : P <;> simp [h]
theorem ite_not_nat (r : Nat) : (if r ≠ 0 then 1 else 0 : Nat) = if r = 0 then 0 else 1 := by
  by_cases h : r = 0 <;> simp [h]
theorem refRound_tail (X j : Nat) (p : Int) (h1 : X / 2 ^ j < 2 ^ 62) (h2 : 2 ^ 54 ≤ X / 2 ^ j) :
    refRound (X / 2 ^ j) (p + j) (decide (X % 2 ^ j ≠ 0)) = rung X p := by
  have hp : 0 < 2 ^ 54 := Nat.two_pow_pos _
  rw [refRound_eq _ _ _ (by omega) h1 (fun _ => le_log2 h2), decide_toNat, ite_not_nat]
  have := rung_sticky (X / 2 ^ j) (X % 2 ^ j) j p (by have := le_log2 h2; omega) (Nat.mod_lt _ (Nat.two_pow_pos j))
  rw [Nat.mul_comm, Nat.div_add_mod] at this
  exact this.symm
theorem add_round (M N d : Nat) (p : Int) (h1 : 2 ^ 60 ≤ M) (h2 : M < 2 ^ 61) (h3 : N < 2 ^ 61) :
    rung (M * 2 ^ d + N) p = refRound (M + N / 2 ^ d) (p + d) (decide (N % 2 ^ d ≠ 0)) := by
  have hq : N / 2 ^ d ≤ N := Nat.div_le_self _ _
  have e1 : (M * 2 ^ d + N) / 2 ^ d = M + N / 2 ^ d := by rw [Nat.mul_comm, Nat.mul_add_div (Nat.two_pow_pos d)]
  have e2 : (M * 2 ^ d + N) % 2 ^ d = N % 2 ^ d := by rw [Nat.mul_comm, Nat.mul_add_mod]
  have hge : 2 ^ 60 ≤ M + N / 2 ^ d := Nat.le_trans h1 (Nat.le_add_right _ _)
  have := refRound_tail (M * 2 ^ d + N) d p (by rw [e1]; omega) (by rw [e1]; omega)
  rw [e1, e2] at this
  exact this.symm
theorem sub_round (M n d : Nat) (p : Int) (h1 : 2 ^ 60 ≤ M) (h2 : M < 2 ^ 61) (h3 : n < 2 ^ 53) (hle : 256 * n ≤ M * 2 ^ d) :
    (M - 256 * n / 2 ^ d - (decide (256 * n % 2 ^ d ≠ 0)).toNat = 0 ↔ M * 2 ^ d - 256 * n = 0) ∧
    (M * 2 ^ d - 256 * n ≠ 0 → rung (M * 2 ^ d - 256 * n) p = refRound (M - 256 * n / 2 ^ d - (decide (256 * n % 2 ^ d ≠ 0)).toNat) (p + d) (decide (256 * n % 2 ^ d ≠ 0))) := by
  have hdm := Nat.div_add_mod (256 * n) (2 ^ d)
  have hr := Nat.mod_lt (256 * n) (Nat.two_pow_pos d)
  have hle2 : 256 * n / 2 ^ d ≤ M := by
    apply Nat.div_le_of_le_mul; rw [Nat.mul_comm (2 ^ d)]; exact hle
  have hle3 : M - 256 * n / 2 ^ d ≤ M := Nat.sub_le _ _
  by_cases h0 : 256 * n % 2 ^ d = 0
  · rw [decide_eq_false (by simpa using h0), Bool.toNat_false, Nat.sub_zero]
    rw [h0, Nat.add_zero] at hdm
    have e : M * 2 ^ d - 256 * n = (M - 256 * n / 2 ^ d) * 2 ^ d := by
      rw [Nat.sub_mul, Nat.mul_comm (256 * n / 2 ^ d), hdm]
    rw [e]
    have hp := Nat.two_pow_pos d
    constructor
    · constructor
      · intro h; rw [h, Nat.zero_mul]
      · intro h; rcases Nat.mul_eq_zero.1 h with h | h <;> omega
    · intro hne
      have hx : M - 256 * n / 2 ^ d ≠ 0 := by intro h; rw [h, Nat.zero_mul] at hne; exact hne rfl
      rw [rung_up _ _ _ hx, refRound_eq _ _ _ hx (by omega) (by intro h; cases h), Bool.toNat_false, Nat.add_zero]
      have := rung_scale (M - 256 * n / 2 ^ d) 1 (p + d) hx
      rw [Nat.pow_one, Nat.mul_comm _ 2] at this
      exact this.symm
  · rw [decide_eq_true (by simpa using h0), Bool.toNat_true]
    have hpos : 0 < 256 * n % 2 ^ d := Nat.pos_of_ne_zero h0
    have hd : 9 ≤ d := by
      apply Classical.byContradiction; intro hn
      obtain ⟨k, hk⟩ : ∃ k, 8 = d + k := ⟨8 - d, by omega⟩
      have : 256 * n = 2 ^ d * (2 ^ k * n) := by rw [← Nat.mul_assoc, ← Nat.pow_add, ← hk]
      rw [this, Nat.mul_mod_right] at h0
      exact h0 rfl
    have hsmall : 256 * n / 2 ^ d < 2 ^ 52 := by
      rw [Nat.div_lt_iff_lt_mul (Nat.two_pow_pos d)]
      have : 2 ^ 9 ≤ 2 ^ d := Nat.pow_le_pow_right (by omega) hd
      have := Nat.mul_le_mul_left (2 ^ 52) this
      omega
    have e : M * 2 ^ d - 256 * n = (M - 256 * n / 2 ^ d - 1) * 2 ^ d + (2 ^ d - 256 * n % 2 ^ d) := by
      rw [Nat.sub_mul, Nat.sub_mul, Nat.mul_comm (256 * n / 2 ^ d), Nat.one_mul]
      have : 2 ^ d * (256 * n / 2 ^ d) + 2 ^ d ≤ M * 2 ^ d := by
        have h := Nat.mul_le_mul_right (2 ^ d) (show 256 * n / 2 ^ d + 1 ≤ M by omega)
        rw [Nat.add_mul, Nat.one_mul, Nat.mul_comm (256 * n / 2 ^ d)] at h
        exact h
      omega
    constructor
    · constructor
      · intro h; omega
      · intro h; rw [e] at h; omega
    · intro _
      have e1 : (M * 2 ^ d - 256 * n) / 2 ^ d = M - 256 * n / 2 ^ d - 1 := by
        rw [e, Nat.mul_comm _ (2 ^ d), Nat.mul_add_div (Nat.two_pow_pos d), Nat.div_eq_of_lt (show 2 ^ d - 256 * n % 2 ^ d < 2 ^ d by omega), Nat.add_zero]
      have e2 : (M * 2 ^ d - 256 * n) % 2 ^ d = 2 ^ d - 256 * n % 2 ^ d := by
        rw [e, Nat.mul_comm _ (2 ^ d), Nat.mul_add_mod, Nat.mod_eq_of_lt (show 2 ^ d - 256 * n % 2 ^ d < 2 ^ d by omega)]
      have q1 : M - 256 * n / 2 ^ d - 1 ≤ M := Nat.le_trans (Nat.sub_le _ _) hle3
      have q2 : 2 ^ 54 ≤ M - 256 * n / 2 ^ d - 1 := by
        generalize 256 * n / 2 ^ d = y at hsmall; omega
      have := refRound_tail (M * 2 ^ d - 256 * n) d p (by rw [e1]; omega) (by rw [e1]; exact q2)
      rw [e1, e2, decide_eq_true (by omega : 2 ^ d - 256 * n % 2 ^ d ≠ 0)] at this
      exact this.symm
def refAdd (s : Bool) (m : Nat) (e : Int) (t : Bool) (n : Nat) (f : Int) : Int :=
  let d := (e - f).toNat
  let more := decide (256 * n % 2 ^ d ≠ 0)
  if s = t then toI s (refRound (256 * m + 256 * n / 2 ^ d) (e - 8) more)
  else if 256 * m - 256 * n / 2 ^ d - more.toNat = 0 then 0
  else toI s (refRound (256 * m - 256 * n / 2 ^ d - more.toNat) (e - 8) more)
theorem sum_eq (s t : Bool) (m0 n0 k l : Nat) (e f : Int) (hm : 2 ^ 52 ≤ m0 * 2 ^ k) (hm2 : m0 * 2 ^ k < 2 ^ 53) (hn : 2 ^ 52 ≤ n0 * 2 ^ l) (hn2 : n0 * 2 ^ l < 2 ^ 53)
    (hef : f ≤ e) (hle : n0 * 2 ^ l ≤ m0 * 2 ^ k * 2 ^ (e - f).toNat) :
    told ((Datum.number s m0 (e + k)).sum (.number t n0 (f + l))) = refAdd s (m0 * 2 ^ k) e t (n0 * 2 ^ l) f := by
  obtain ⟨d, hd⟩ : ∃ d : Nat, e = f + d := ⟨(e - f).toNat, by omega⟩
  subst hd
  rw [show (f + (d : Int) - f).toNat = d by omega] at hle
  show told (some (.number _ _ _)) = _
  generalize hb : min (f + (d : Int) + (k : Int)) (f + (l : Int)) = base
  obtain ⟨c, hc⟩ : ∃ c : Nat, base = f - 8 + c := ⟨(base - (f - 8)).toNat, by omega⟩
  have hk2 : c ≤ k + d + 8 ∧ c ≤ l + 8 := by omega
  rw [signed_shift, signed_shift, show (f + (d : Int) + (k : Int) - base).toNat = k + d + 8 - c by omega, show (f + (l : Int) - base).toNat = l + 8 - c by omega]
  have x1 : m0 * 2 ^ (k + d + 8 - c) * 2 ^ c = 256 * (m0 * 2 ^ k) * 2 ^ d := by
    rw [Nat.mul_assoc, ← Nat.pow_add, Nat.sub_add_cancel hk2.1, Nat.pow_add, Nat.pow_add]
    simp only [Nat.mul_comm, Nat.mul_left_comm, Nat.mul_assoc]
  have x2 : n0 * 2 ^ (l + 8 - c) * 2 ^ c = 256 * (n0 * 2 ^ l) := by
    rw [Nat.mul_assoc, ← Nat.pow_add, Nat.sub_add_cancel hk2.2, Nat.pow_add]
    simp only [Nat.mul_comm, Nat.mul_assoc]
  unfold refAdd
  simp only [show (f + (d : Int) - f).toNat = d by omega]
  have hle256 : 256 * (n0 * 2 ^ l) ≤ 256 * (m0 * 2 ^ k) * 2 ^ d := by rw [Nat.mul_assoc]; exact Nat.mul_le_mul_left _ hle
  have add := add_round (256 * (m0 * 2 ^ k)) (256 * (n0 * 2 ^ l)) d (f - 8) (by omega) (by omega) (by omega)
  have sub := sub_round (256 * (m0 * 2 ^ k)) (n0 * 2 ^ l) d (f - 8) (by omega) (by omega) (by omega) hle256
  rw [show f - 8 + (d : Int) = f + d - 8 by omega] at add sub
  generalize m0 * 2 ^ (k + d + 8 - c) = u at *
  generalize n0 * 2 ^ (l + 8 - c) = v at *
  have hu : 0 < u := by
    apply Nat.pos_of_ne_zero; intro h; subst h
    have : 0 < 256 * (m0 * 2 ^ k) * 2 ^ d := Nat.mul_pos (by omega) (Nat.two_pow_pos d)
    omega
  have hv : 0 < v := by
    apply Nat.pos_of_ne_zero; intro h; subst h; omega
  have huv : v ≤ u := by
    have : v * 2 ^ c ≤ u * 2 ^ c := by rw [x1, x2]; exact hle256
    exact Nat.le_of_mul_le_mul_right this (Nat.two_pow_pos c)
  by_cases hst : s = t
  · subst hst
    rw [if_pos rfl, ← add, ← x1, ← x2, ← Nat.add_mul, rung_up _ _ _ (by omega), ← hc]
    have tot : ((if s then -(u : Int) else u) + (if s then -(v : Int) else v)).natAbs = u + v := by split <;> omega
    have ne : (if s then -(u : Int) else u) + (if s then -(v : Int) else v) ≠ 0 := by split <;> omega
    have sg : decide ((if s then -(u : Int) else u) + (if s then -(v : Int) else v) < 0) = s := by
      cases s
      · exact decide_eq_false (by simp only [Bool.false_eq_true, if_false]; omega)
      · exact decide_eq_true (by simp only [if_true]; omega)
    rw [tot, if_neg ne]
    rw [told_number, sg, if_neg (by omega : ¬ u + v = 0)]
  · rw [if_neg hst]
    have tot : ((if s then -(u : Int) else u) + (if t then -(v : Int) else v)).natAbs = u - v := by
      cases s <;> cases t <;> simp at hst ⊢ <;> omega
    have e3 : 256 * (m0 * 2 ^ k) * 2 ^ d - 256 * (n0 * 2 ^ l) = (u - v) * 2 ^ c := by rw [Nat.sub_mul, x1, x2]
    rw [e3] at sub
    by_cases huv2 : u = v
    · have z : (u - v) * 2 ^ c = 0 := by rw [huv2, Nat.sub_self, Nat.zero_mul]
      rw [if_pos (sub.1.2 z)]
      have tz : (if s then -(u : Int) else u) + (if t then -(v : Int) else v) = 0 := by omega
      rw [tot, if_pos tz]
      rw [told_number, if_pos (by omega)]
      unfold toI
      cases s <;> cases t <;> simp at hst ⊢
    · have hne : (u - v) * 2 ^ c ≠ 0 := by
        intro h; rcases Nat.mul_eq_zero.1 h with h | h
        · omega
        · have := Nat.two_pow_pos c; omega
      rw [if_neg (fun h => hne (sub.1.1 h)), ← sub.2 hne, rung_up _ _ _ (by omega), ← hc]
      have tz : (if s then -(u : Int) else u) + (if t then -(v : Int) else v) ≠ 0 := by omega
      have sg : decide ((if s then -(u : Int) else u) + (if t then -(v : Int) else v) < 0) = s := by
        cases s <;> cases t <;> simp at hst ⊢ <;> omega
      rw [tot, if_neg tz]
      rw [told_number, sg, if_neg (by omega : ¬ u - v = 0)]
theorem product_eq (s t : Bool) (m0 n0 k l : Nat) (e f : Int) (hm : 2 ^ 52 ≤ m0 * 2 ^ k) (hm2 : m0 * 2 ^ k < 2 ^ 53) (hn : 2 ^ 52 ≤ n0 * 2 ^ l) (hn2 : n0 * 2 ^ l < 2 ^ 53) :
    told ((Datum.number s m0 (e + k)).product (.number t n0 (f + l))) =
      toI (s ^^ t) (refRound (m0 * 2 ^ k * (n0 * 2 ^ l) / 2 ^ 46) (e + f + 46) (decide (m0 * 2 ^ k * (n0 * 2 ^ l) % 2 ^ 46 ≠ 0))) := by
  show toI (s ^^ t) (if m0 * n0 = 0 then 0 else rung (m0 * n0) (e + k + (f + l))) = _
  have hm0 : m0 ≠ 0 := by intro h; subst h; simp at hm
  have hn0 : n0 ≠ 0 := by intro h; subst h; simp at hn
  rw [if_neg (Nat.mul_ne_zero hm0 hn0)]
  have x : m0 * 2 ^ k * (n0 * 2 ^ l) = m0 * n0 * 2 ^ (k + l) := by rw [Nat.pow_add]; simp only [Nat.mul_left_comm, Nat.mul_assoc]
  have lo : 2 ^ 52 * 2 ^ 52 ≤ m0 * 2 ^ k * (n0 * 2 ^ l) := Nat.mul_le_mul hm hn
  have hi : m0 * 2 ^ k * (n0 * 2 ^ l) < 2 ^ 53 * 2 ^ 53 := Nat.mul_lt_mul'' hm2 hn2
  have := refRound_tail (m0 * 2 ^ k * (n0 * 2 ^ l)) 46 (e + f) (by omega) (by omega)
  rw [show (e + f + ((46 : Nat) : Int)) = e + f + 46 from rfl] at this
  rw [this, x, rung_up _ _ _ (Nat.mul_ne_zero hm0 hn0)]
  congr 2; omega
theorem quot_step (X n : Nat) (p : Int) (hn : 0 < n) (h : 2 ^ 53 ≤ X / n) :
    rung (2 * (2 * X / n) + if 2 * X % n = 0 then 0 else 1) (p - 1) = rung (2 * (X / n) + if X % n = 0 then 0 else 1) p := by
  have hdm := Nat.div_add_mod X n
  have hr := Nat.mod_lt X hn
  have e1 : 2 * X = n * (2 * (X / n)) + 2 * (X % n) := by rw [Nat.mul_left_comm]; omega
  have e2 : 2 * X / n = 2 * (X / n) + 2 * (X % n) / n := by rw [e1, Nat.mul_add_div hn]
  have e3 : 2 * X % n = 2 * (X % n) % n := by rw [e1, Nat.mul_add_mod]
  rw [e2, e3]
  have hb : 2 * (X % n) / n < 2 := by rw [Nat.div_lt_iff_lt_mul hn]; omega
  have hdm2 := Nat.div_add_mod (2 * (X % n)) n
  generalize X % n = r at *
  generalize X / n = q at *
  generalize hbb : 2 * r / n = b at *
  generalize hss : 2 * r % n = s' at *
  have hlog : 53 ≤ q.log2 := le_log2 h
  have hr2 : 2 * b + (if s' = 0 then 0 else 1) < 2 ^ 2 := by split <;> omega
  have st := rung_sticky q (2 * b + if s' = 0 then 0 else 1) 2 (p - 1) hlog hr2
  rw [show p - 1 + ((2 : Nat) : Int) - 1 = p by omega] at st
  have z : (2 * b + (if s' = 0 then 0 else 1) = 0) ↔ r = 0 := by
    have hb01 : b = 0 ∨ b = 1 := by omega
    rcases hb01 with rfl | rfl
    · rw [Nat.mul_zero, Nat.zero_add] at hdm2
      split <;> omega
    · rw [Nat.mul_one] at hdm2
      split <;> omega
  have z2 : (if 2 * b + (if s' = 0 then 0 else 1) = 0 then 0 else 1) = (if r = 0 then 0 else 1 : Nat) := by
    by_cases hr0 : r = 0
    · rw [if_pos (z.2 hr0), if_pos hr0]
    · rw [if_neg (fun h => hr0 (z.1 h)), if_neg hr0]
  rw [z2] at st
  rw [← st]
  congr 1
  omega
theorem quot_pow (X n k : Nat) (p : Int) (hn : 0 < n) (h : 2 ^ 53 ≤ X / n) :
    rung (2 * (X * 2 ^ k / n) + if X * 2 ^ k % n = 0 then 0 else 1) (p - k) = rung (2 * (X / n) + if X % n = 0 then 0 else 1) p := by
  induction k with
  | zero => simp
  | succ k ih =>
    have hge : 2 ^ 53 ≤ X * 2 ^ k / n := Nat.le_trans h (Nat.div_le_div_right (Nat.le_mul_of_pos_right _ (Nat.two_pow_pos k)))
    have := quot_step (X * 2 ^ k) n (p - k) hn hge
    rw [show 2 * (X * 2 ^ k) = X * 2 ^ (k + 1) by rw [Nat.pow_succ]; simp only [Nat.mul_comm, Nat.mul_left_comm], show p - (k : Int) - 1 = p - ((k + 1 : Nat) : Int) by omega] at this
    rw [this, ih]
theorem quotient_eq (s t : Bool) (m0 n0 k l : Nat) (e f : Int) (hk : k ≤ 52) (hl : l ≤ 52) (hm : 2 ^ 52 ≤ m0 * 2 ^ k) (hm2 : m0 * 2 ^ k < 2 ^ 53) (hn : 2 ^ 52 ≤ n0 * 2 ^ l) (hn2 : n0 * 2 ^ l < 2 ^ 53) :
    told ((Datum.number s m0 (e + k)).quotient 54 (.number t n0 (f + l))) =
      toI (s ^^ t) (refRound (m0 * 2 ^ k * 2 ^ 60 / (n0 * 2 ^ l)) (e - f - 60) (decide (m0 * 2 ^ k * 2 ^ 60 % (n0 * 2 ^ l) ≠ 0))) := by
  have hm0 : m0 ≠ 0 := by intro h; subst h; simp at hm
  have hn0 : n0 ≠ 0 := by intro h; subst h; simp at hn
  have lm : m0.log2 + k = 52 := by
    rw [← log2_mul_pow m0 k hm0]; exact (Nat.log2_eq_iff (by omega)).2 ⟨hm, hm2⟩
  have ln : n0.log2 + l = 52 := by
    rw [← log2_mul_pow n0 l hn0]; exact (Nat.log2_eq_iff (by omega)).2 ⟨hn, hn2⟩
  have hq : (Datum.number s m0 (e + k)).quotient 54 (.number t n0 (f + l)) =
      some (.number (s ^^ t) (2 * ((m0 <<< (54 + n0.log2 - m0.log2)) / n0) + ((m0 <<< (54 + n0.log2 - m0.log2)) % n0 != 0).toNat) (e + k - (f + l) - (54 + n0.log2 - m0.log2 : Nat) - 1)) := by
    unfold Datum.quotient
    simp only [if_neg hn0]
  rw [hq]
  rw [Nat.shiftLeft_eq]
  obtain ⟨g, hg⟩ : ∃ g : Nat, 54 + n0.log2 - m0.log2 = g := ⟨_, rfl⟩
  have hgk : g = 54 + k - l := by omega
  rw [hg]
  have hsz : 2 ^ 53 ≤ m0 * 2 ^ g / n0 := by
    rw [Nat.le_div_iff_mul_le (by omega)]
    have a1 := ((Nat.log2_eq_iff (k := m0.log2) hm0).1 rfl).1
    have a2 := ((Nat.log2_eq_iff (k := n0.log2) hn0).1 rfl).2
    have b1 : 2 ^ m0.log2 * 2 ^ g ≤ m0 * 2 ^ g := Nat.mul_le_mul_right _ a1
    have b2 : 2 ^ 53 * n0 ≤ 2 ^ 53 * 2 ^ (n0.log2 + 1) := Nat.mul_le_mul_left _ (Nat.le_of_lt a2)
    rw [← Nat.pow_add] at b1 b2
    rw [show 53 + (n0.log2 + 1) = m0.log2 + g by omega] at b2
    omega
  have mag : 2 * (m0 * 2 ^ g / n0) + (m0 * 2 ^ g % n0 != 0).toNat = 2 * (m0 * 2 ^ g / n0) + (if m0 * 2 ^ g % n0 = 0 then 0 else 1) := by
    by_cases h : m0 * 2 ^ g % n0 = 0
    · rw [if_pos h, h]; rfl
    · rw [if_neg h, bne_iff_ne.2 h]; rfl
  rw [mag]
  show toI (s ^^ t) (if _ = 0 then 0 else rung _ _) = _
  rw [if_neg (by omega), ← quot_pow (m0 * 2 ^ g) n0 6 _ (by omega) hsz]
  -- the reference's
  have e1 : m0 * 2 ^ k * 2 ^ 60 = m0 * 2 ^ g * 2 ^ 6 * 2 ^ l := by
    rw [Nat.mul_assoc, ← Nat.pow_add, Nat.mul_assoc, Nat.mul_assoc, ← Nat.pow_add, ← Nat.pow_add]
    congr 2; omega
  rw [e1, Nat.mul_div_mul_right _ _ (Nat.two_pow_pos l), Nat.mul_mod_mul_right]
  have z : decide (m0 * 2 ^ g * 2 ^ 6 % n0 * 2 ^ l ≠ 0) = decide (m0 * 2 ^ g * 2 ^ 6 % n0 ≠ 0) := by
    congr 1
    have := Nat.two_pow_pos l
    apply propext
    constructor
    · intro h h2; rw [h2, Nat.zero_mul] at h; exact h rfl
    · intro h h2; rcases Nat.mul_eq_zero.1 h2 with h3 | h3 <;> omega
  rw [z]
  have hlo : 2 ^ 59 ≤ m0 * 2 ^ g * 2 ^ 6 / n0 := by
    rw [Nat.le_div_iff_mul_le (by omega)]
    have := (Nat.le_div_iff_mul_le (by omega)).1 hsz
    omega
  have hhi : m0 * 2 ^ g * 2 ^ 6 / n0 < 2 ^ 62 := by
    rw [Nat.div_lt_iff_lt_mul (by omega)]
    have a1 := ((Nat.log2_eq_iff (k := m0.log2) hm0).1 rfl).2
    have a2 := ((Nat.log2_eq_iff (k := n0.log2) hn0).1 rfl).1
    have b1 : m0 * 2 ^ g < 2 ^ (m0.log2 + 1) * 2 ^ g := Nat.mul_lt_mul_of_pos_right a1 (Nat.two_pow_pos g)
    have b2 : 2 ^ 55 * 2 ^ n0.log2 ≤ 2 ^ 55 * n0 := Nat.mul_le_mul_left _ a2
    rw [← Nat.pow_add] at b1 b2
    rw [show m0.log2 + 1 + g = 55 + n0.log2 by omega] at b1
    omega
  rw [refRound_eq _ _ _ (by omega) hhi (fun _ => le_log2 (Nat.le_trans (by decide) hlo)), decide_toNat, ite_not_nat]
  congr 2; omega
end FM
