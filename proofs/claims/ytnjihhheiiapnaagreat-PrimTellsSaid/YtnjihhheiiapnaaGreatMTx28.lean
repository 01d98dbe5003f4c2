/- What the statements' walks need. -/
import Derived.Test.YtnjihhheiiapnaaGreatMTa4
import Derived.Test.YtnjihhheiiapnaaGreatMTx22
import Derived.Test.YtnjihhheiiapnaaGreatMTx27
set_option linter.unusedVariables false
set_option linter.unusedSimpArgs false
set_option maxRecDepth 100000
namespace Go.Proofs.YtnjihhheiiapnaaGreat
open Go Go.RowKit Go.Proofs FM
theorem u64 {n : Int} (h1 : 0 ≤ n) (h2 : n < 18446744073709551616) : IntKind.u64.wrap n = n := by
  simp only [IntKind.wrap, IntKind.bits, IntKind.signed, Bool.false_and, Bool.false_eq_true, if_false]; omega
theorem split (a : Int) (h : (Lit.int .i64 a).wf = true) : ∃ (s : Bool) (p : Nat), p < 2 ^ 63 ∧ a = toI s p := by
  simp only [Lit.wf, IntKind.min, IntKind.max, IntKind.signed, IntKind.bits, Bool.and_eq_true, decide_eq_true_eq, if_true] at h
  by_cases h0 : a < 0
  · exact ⟨true, (a + 9223372036854775808).toNat, by omega, by unfold toI; rw [if_pos rfl]; omega⟩
  · exact ⟨false, a.toNat, by omega, by unfold toI; rw [if_neg (by decide)]; omega⟩
theorem toI_lt (s : Bool) (p : Nat) (h : p < 2 ^ 63) : (toI s p < 0) ↔ s = true := by
  unfold toI
  cases s
  · simp only [if_false, Bool.false_eq_true, iff_false]; omega
  · simp only [if_true, iff_true]; omega
theorem toI_mod (s : Bool) (p : Nat) (h : p < 2 ^ 63) : toI s p % 18446744073709551616 = (Ieee.double.word s p : Int) := by
  unfold toI Ieee.Format.word
  rw [sw_double]
  cases s
  · simp only [Bool.false_eq_true, if_false]; omega
  · simp only [if_true]; omega
theorem fbits_toI (s : Bool) (p : Nat) (h : p < 2 ^ 63) : fbits (toI s p) = Ieee.double.word s p := by
  unfold fbits
  have := toI_mod s p h
  simp only [IntKind.wrap, IntKind.bits, IntKind.signed, Bool.false_and, Bool.false_eq_true, if_false]
  rw [show ((2 : Int) ^ 64) = 18446744073709551616 by decide, this]; rfl
theorem read_toI (s : Bool) (p : Nat) (h : p < 2 ^ 63) : Ieee.double.read (fbits (toI s p)) = dat s p := by
  rw [fbits_toI s p h, read_word s p h]
theorem toI_inj (s t : Bool) (p q : Nat) (hp : p < 2 ^ 63) (hq : q < 2 ^ 63) : toI s p = toI t q ↔ s = t ∧ p = q := by
  unfold toI
  cases s <;> cases t <;> simp only [if_true, if_false, Bool.false_eq_true]
  · constructor
    · intro h; exact ⟨trivial, by omega⟩
    · intro h; have := h.2; omega
  · constructor
    · intro h; omega
    · rintro ⟨h, _⟩; cases h
  · constructor
    · intro h; omega
    · rintro ⟨h, _⟩; cases h
  · constructor
    · intro h; exact ⟨trivial, by omega⟩
    · intro h; have := h.2; omega
theorem rung_dat (s : Bool) (p : Nat) (h : p < 2047 * 2 ^ 52) : told (some (dat s p)) = toI s p := by
  unfold dat
  by_cases h1 : p < 2 ^ 52
  · rw [if_pos h1, told_number]
    by_cases h0 : p = 0
    · rw [if_pos h0, h0]
    · rw [if_neg h0]
      congr 1
      unfold rung
      have : p.log2 < 52 := (Nat.log2_lt h0).2 h1
      rw [show max (-1074 + (p.log2 : Int) - 52) (-1074) = -1074 by omega]
      simp only [show (-1074 - (-1074 : Int)).toNat = 0 by decide, show (-1074 + (1074 : Int)).toNat = 0 by decide, Nat.pow_zero, Nat.mul_one, rne_one, Nat.zero_mul, Nat.zero_add]
      omega
  · rw [if_neg h1, if_pos h, told_number, if_neg (by omega)]
    congr 1
    unfold rung
    have : (2 ^ 52 + p % 2 ^ 52).log2 = 52 := (Nat.log2_eq_iff (by omega)).2 ⟨by omega, by omega⟩
    rw [this, show max (-1074 + ((p / 2 ^ 52 - 1 : Nat) : Int) + ((52 : Nat) : Int) - 52) (-1074) = -1074 + ((p / 2 ^ 52 - 1 : Nat) : Int) by omega]
    generalize hx : p / 2 ^ 52 - 1 = x
    simp only []
    rw [show (-1074 + (x : Int) + 1074).toNat = x by omega, show (-1074 + (x : Int) - (-1074 + (x : Int))).toNat = 0 by omega, Nat.pow_zero, Nat.mul_one, rne_one]
    omega
theorem cut_zero (neg : Bool) (n drop : Nat) : Ieee.Toward.zero.cut neg n drop = n / 2 ^ drop := by
  unfold Ieee.Toward.cut
  simp only [Nat.one_shiftLeft, Bool.toNat_false, Nat.add_zero]
  by_cases h : drop ≤ n.log2 + 2
  · rw [Nat.min_eq_left h]
  · rw [Nat.min_eq_right (by omega)]
    have hn : n < 2 ^ (n.log2 + 1) := Nat.lt_log2_self
    have hd : 2 ^ (n.log2 + 2) ≤ 2 ^ drop := Nat.pow_le_pow_right (by omega) (by omega)
    have e1 : 2 ^ (n.log2 + 2) = 2 * 2 ^ (n.log2 + 1) := by rw [Nat.pow_succ]; omega
    rw [Nat.div_eq_of_lt (by omega), Nat.div_eq_of_lt (by omega)]
def huge : Nat := 2 ^ 1074
theorem whole_dat (t : Nat) (h0 : t ≠ 0) (h1 : t < 2 ^ 53) : ∃ k : Nat, k ≤ 52 ∧ (∀ s, dat s (rung t 0) = .number s (t * 2 ^ k) (-(k : Int))) ∧ rung t 0 < 2047 * 2 ^ 52 ∧ val (rung t 0) = t * huge := by
  have hl := (Nat.log2_eq_iff (k := t.log2) h0).1 rfl
  have hlog : t.log2 ≤ 52 := by have := (Nat.log2_lt h0).2 h1; omega
  have lo : 2 ^ 52 ≤ t * 2 ^ (52 - t.log2) := by
    calc 2 ^ 52 = 2 ^ t.log2 * 2 ^ (52 - t.log2) := by rw [← Nat.pow_add]; congr 1; omega
      _ ≤ _ := Nat.mul_le_mul_right _ hl.1
  have hi : t * 2 ^ (52 - t.log2) < 2 ^ 53 := by
    calc t * 2 ^ (52 - t.log2) < 2 ^ (t.log2 + 1) * 2 ^ (52 - t.log2) := Nat.mul_lt_mul_of_pos_right hl.2 (Nat.two_pow_pos _)
      _ = 2 ^ 53 := by rw [← Nat.pow_add]; congr 1; omega
  generalize hk : 52 - t.log2 = k at *
  have hk52 : k ≤ 52 := by omega
  have e0 : rung t 0 = rung (t * 2 ^ k) (-(k : Int)) := by
    have := rung_scale t k 0 h0
    rw [show (0 : Int) - k = -(k : Int) by omega] at this
    exact this.symm
  have hd : ∀ s, dat s ((1074 - k) * 2 ^ 52 + t * 2 ^ k) = .number s (t * 2 ^ k) (-(k : Int)) := by
    intro s
    unfold dat
    rw [if_neg (by omega), if_pos (by omega)]
    congr 1
    · omega
    · omega
  have hr : rung (t * 2 ^ k) (-(k : Int)) = (1074 - k) * 2 ^ 52 + t * 2 ^ k := by
    have := rung_dat false ((1074 - k) * 2 ^ 52 + t * 2 ^ k) (by omega)
    rw [hd, told_number, if_neg (by omega)] at this
    unfold toI at this
    rw [if_neg (by decide), if_neg (by decide)] at this
    omega
  refine ⟨k, hk52, ?_, by rw [e0, hr]; omega, ?_⟩
  · intro s; rw [e0, hr, hd]
  · rw [e0, hr]
    obtain ⟨m, j, e1, e2, _⟩ := dat_fin false ((1074 - k) * 2 ^ 52 + t * 2 ^ k) (by omega)
    rw [hd] at e1
    injection e1 with _ a b
    rw [← e2, ← a, Nat.mul_assoc, ← Nat.pow_add]
    unfold huge
    congr 2; omega
theorem order_words (s t : Bool) (p q : Nat) (hp : p ≤ 2047 * 2 ^ 52) (hq : q ≤ 2047 * 2 ^ 52) : Ieee.double.order (Ieee.double.word s p) (Ieee.double.word t q) = some (compare (place s p) (place t q)) := by
  unfold Ieee.Format.order
  rw [read_word s p (by omega), read_word t q (by omega), order_dat s t p q hp hq]
theorem val_c : val 4742290407621132288 = 2 ^ 30 * huge := by decide +kernel
theorem rung_cmp (t : Nat) (h0 : t ≠ 0) (h1 : t < 2 ^ 53) : (rung t 0 < 4742290407621132288 ↔ t < 2 ^ 30) ∧ (rung t 0 ≤ 4742290407621132288 ↔ t ≤ 2 ^ 30) := by
  obtain ⟨k, _, _, _, hv⟩ := whole_dat t h0 h1
  have hp : 0 < huge := by decide +kernel
  have a1 := val_lt (rung t 0) 4742290407621132288
  have a2 := val_lt 4742290407621132288 (rung t 0)
  have a3 : rung t 0 = 4742290407621132288 → val (rung t 0) = val 4742290407621132288 := fun h => by rw [h]
  rw [hv, val_c] at a1 a2 a3
  have b1 : t * huge < 2 ^ 30 * huge → t < 2 ^ 30 := fun h => Nat.lt_of_mul_lt_mul_right h
  have b2 : 2 ^ 30 * huge < t * huge → 2 ^ 30 < t := fun h => Nat.lt_of_mul_lt_mul_right h
  have b3 : t * huge = 2 ^ 30 * huge → t = 2 ^ 30 := fun h => Nat.eq_of_mul_eq_mul_right hp h
  generalize t * huge = T at *
  generalize 2 ^ 30 * huge = U at *
  generalize rung t 0 = R at *
  omega
theorem trunc_of (s : Bool) (p t : Nat) (hp : p ≤ 2047 * 2 ^ 52) (ht : t < 2 ^ 53) (hc : fcut (Ieee.double.word s p) = Ieee.double.word s (if t = 0 then 0 else rung t 0)) :
    flt_Trunc.f (toI s p) = some (if (if s then -(t : Int) else t) < -1073741824 ∨ 1073741824 ≤ (if s then -(t : Int) else (t : Int)) then (0, false) else ((if s then -(t : Int) else (t : Int)), true)) := by
  unfold flt_Trunc.f
  rw [read_toI s p (by omega), fbits_toI s p (by omega), hc]
  have hnan : ¬ (dat s p).isNaN = true := by
    unfold dat
    split
    · simp [Ieee.Datum.isNaN]
    split
    · simp [Ieee.Datum.isNaN]
    rw [if_pos (by omega)]; simp [Ieee.Datum.isNaN]
  rw [if_neg hnan]
  have w1 : (13965662444475908096 : Nat) = Ieee.double.word true 4742290407621132288 := by decide
  have w2 : (4742290407621132288 : Nat) = Ieee.double.word false 4742290407621132288 := by decide
  have hR : (if t = 0 then 0 else rung t 0) < 2047 * 2 ^ 52 ∧ ((if t = 0 then 0 else rung t 0) < 4742290407621132288 ↔ t < 2 ^ 30) ∧ ((if t = 0 then 0 else rung t 0) ≤ 4742290407621132288 ↔ t ≤ 2 ^ 30) ∧
      floatToIntVal .f64 (Ieee.double.word s (if t = 0 then 0 else rung t 0)) .i64 = some (if s then -(t : Int) else (t : Int)) := by
    by_cases h0 : t = 0
    · subst h0
      refine ⟨by decide, by decide, by decide, ?_⟩
      unfold floatToIntVal
      cases s <;> decide +kernel
    · rw [if_neg h0]
      obtain ⟨k, hk, hd, hlt, hv⟩ := whole_dat t h0 ht
      have hcmp := rung_cmp t h0 ht
      refine ⟨hlt, hcmp.1, hcmp.2, ?_⟩
      unfold floatToIntVal FloatKind.decode
      rw [show FloatKind.f64.format = Ieee.double from rfl, read_word s _ (by omega), hd s]
      have e1 : (Ieee.Datum.number s (t * 2 ^ k) (-(k : Int))).toInt .zero = some (if s then -(t : Int) else (t : Int)) := by
        show some (Ieee.signed s (Ieee.Toward.zero.cut s ((t * 2 ^ k) <<< (-(k : Int)).toNat) (-(-(k : Int))).toNat) 0) = _
        rw [cut_zero, show (-(k : Int)).toNat = 0 by omega, show (-(-(k : Int))).toNat = k by omega, Nat.shiftLeft_zero, Nat.mul_div_cancel _ (Nat.two_pow_pos k), signed_shift, Nat.pow_zero, Nat.mul_one]
      rw [e1]
      have hb : IntKind.i64.min ≤ (if s then -(t : Int) else (t : Int)) ∧ (if s then -(t : Int) else (t : Int)) ≤ IntKind.i64.max := by
        show -(2 ^ 63) ≤ _ ∧ _ ≤ 2 ^ 63 - 1
        split <;> omega
      simp only [if_pos hb]
  obtain ⟨hR1, hR2, hR3, hR4⟩ := hR
  generalize (if t = 0 then 0 else rung t 0) = R at *
  rw [hR4, w1, order_words s true R _ (by omega) (by omega)]
  have w2' : Ieee.double.order (Ieee.double.word s R) 4742290407621132288 = some (compare (place s R) (place false 4742290407621132288)) := by
    rw [w2]; exact order_words s false R _ (by omega) (by omega)
  rw [w2']
  simp only [Option.some.injEq, Int.compare_eq_eq, Int.compare_eq_gt, Int.compare_eq_lt, Option.map_some]
  unfold place
  simp only [if_true, Bool.false_eq_true, if_false]
  cases s
  · simp only [if_false, Bool.false_eq_true]
    rw [if_pos (by omega)]
    by_cases h : t < 2 ^ 30
    · rw [if_pos (by omega), if_neg (by omega)]
    · rw [if_neg (by omega), if_pos (by omega)]
  · simp only [if_true]
    by_cases h : t ≤ 2 ^ 30
    · rw [if_pos (by omega), if_pos (by omega), if_neg (by omega)]
    · rw [if_neg (by omega), if_pos (by omega)]
theorem fcut_of (s : Bool) (p : Nat) (hp : p < 2 ^ 63) (m : Nat) (i : Int) (hd : dat s p = .number s m i) : fcut (Ieee.double.word s p) = Ieee.double.word s (if m * 2 ^ i.toNat / 2 ^ (-i).toNat = 0 then 0 else rung (m * 2 ^ i.toNat / 2 ^ (-i).toNat) 0) := by
  unfold fcut
  rw [read_word s p hp, hd]
  show Ieee.double.nearest s (Ieee.Toward.zero.cut s (m <<< i.toNat) (-i).toNat) 0 = _
  rw [nearest_eq, cut_zero, Nat.shiftLeft_eq]
theorem trunc_to (a : Int) (s : Bool) (t : Nat) (h : flt_Trunc.f a = some (if (if s then -(t : Int) else t) < -1073741824 ∨ 1073741824 ≤ (if s then -(t : Int) else (t : Int)) then (0, false) else ((if s then -(t : Int) else (t : Int)), true))) :
    ∃ n b, flt_Trunc.f a = some (n, b) ∧ (b = true → -1073741824 ≤ n ∧ n ≤ 1073741823) := by
  rw [h]
  generalize (if s then -(t : Int) else (t : Int)) = x
  by_cases hx : x < -1073741824 ∨ 1073741824 ≤ x
  · rw [if_pos hx]; exact ⟨0, false, rfl, fun h => by cases h⟩
  · rw [if_neg hx]; exact ⟨x, true, rfl, fun _ => by omega⟩
theorem trunc_total (a : Int) (ha : In64 a) : ∃ n b, flt_Trunc.f a = some (n, b) ∧ (b = true → -1073741824 ≤ n ∧ n ≤ 1073741823) := by
  obtain ⟨s, p, hp, rfl⟩ := split a (by obtain ⟨h1, h2⟩ := ha; simp only [Lit.wf, IntKind.min, IntKind.max, IntKind.signed, IntKind.bits, Bool.and_eq_true, decide_eq_true_eq, if_true]; omega)
  by_cases h1 : 2047 * 2 ^ 52 < p
  · refine ⟨0, false, ?_, fun h => by cases h⟩
    unfold flt_Trunc.f
    rw [read_toI s p hp, dat_nan s p h1, if_pos (show (Ieee.Datum.nan s (p - 2047 * 2 ^ 52)).isNaN = true from rfl)]
  by_cases h2 : p = 2047 * 2 ^ 52
  · refine ⟨0, false, ?_, fun h => by cases h⟩
    subst h2
    unfold flt_Trunc.f
    rw [read_toI s _ hp, fbits_toI s _ hp, dat_inf, if_neg (by simp [Ieee.Datum.isNaN])]
    unfold fcut
    rw [read_word s _ hp, dat_inf]
    cases s <;> decide +kernel
  by_cases h3 : p < 2 ^ 52
  · have hd : dat s p = .number s p (-1074) := by unfold dat; rw [if_pos h3]
    have hz : p * 2 ^ (-1074 : Int).toNat / 2 ^ (- (-1074 : Int)).toNat = 0 := by
      apply Nat.div_eq_of_lt
      rw [show (-1074 : Int).toNat = 0 by decide, Nat.pow_zero, Nat.mul_one]
      generalize hE : (- (-1074 : Int)).toNat = E
      exact Nat.lt_of_lt_of_le h3 (Nat.pow_le_pow_right (by omega) (by omega))
    exact trunc_to _ s 0 (trunc_of s p 0 (by omega) (by omega) (by rw [fcut_of s p hp p (-1074) hd, hz]))
  · have hd : dat s p = .number s (2 ^ 52 + p % 2 ^ 52) (-1074 + ((p / 2 ^ 52 - 1 : Nat) : Int)) := by unfold dat; rw [if_neg h3, if_pos (by omega)]
    have hfc := fcut_of s p hp _ _ hd
    have hm : 2 ^ 52 + p % 2 ^ 52 < 2 ^ 53 := by omega
    have hm0 : 2 ^ 52 + p % 2 ^ 52 ≠ 0 := by omega
    by_cases h4 : 0 < (-1074 + ((p / 2 ^ 52 - 1 : Nat) : Int))
    · have hbig : 4742290407621132288 < p := by omega
      have hp2 : p < 2047 * 2 ^ 52 := by omega
      generalize 2 ^ 52 + p % 2 ^ 52 = m0 at *
      generalize (-1074 + ((p / 2 ^ 52 - 1 : Nat) : Int)) = e at *
      obtain ⟨j, hj⟩ : ∃ j : Nat, e = j := ⟨e.toNat, by omega⟩
      rw [hj, show ((j : Int)).toNat = j by omega, show (-(j : Int)).toNat = 0 by omega, Nat.pow_zero, Nat.div_one] at hfc
      have hne : m0 * 2 ^ j ≠ 0 := by have := Nat.two_pow_pos j; exact Nat.mul_ne_zero (by omega) (by omega)
      have hr : rung (m0 * 2 ^ j) 0 = p := by
        rw [rung_up _ _ _ (by omega), show (0 : Int) + j = e by omega]
        have := rung_dat s p hp2
        rw [hd, told_number, if_neg (by omega)] at this
        exact ((toI_inj s s _ _ (by have : rung m0 e ≤ 2047 * 2 ^ 52 := Nat.min_le_right _ _; omega) hp).1 this).2
      rw [if_neg hne, hr] at hfc
      refine ⟨0, false, ?_, fun h => by cases h⟩
      unfold flt_Trunc.f
      rw [read_toI s p hp, fbits_toI s p hp, hfc, hd, if_neg (by simp [Ieee.Datum.isNaN])]
      have w1 : (13965662444475908096 : Nat) = Ieee.double.word true 4742290407621132288 := by decide
      have w2' : Ieee.double.order (Ieee.double.word s p) 4742290407621132288 = some (compare (place s p) (place false 4742290407621132288)) := by
        exact order_words s false p 4742290407621132288 (by omega) (by omega)
      rw [w2', w1, order_words s true p _ (by omega) (by omega)]
      simp only [Option.some.injEq, Int.compare_eq_eq, Int.compare_eq_gt, Int.compare_eq_lt]
      unfold place
      simp only [if_true, Bool.false_eq_true, if_false]
      clear hd hfc hj hr
      cases s
      · simp only [if_false, Bool.false_eq_true]
        rw [if_pos (by omega), if_neg (by omega)]
      · simp only [if_true]
        rw [if_neg (by omega)]
    · generalize 2 ^ 52 + p % 2 ^ 52 = m0 at *
      generalize (-1074 + ((p / 2 ^ 52 - 1 : Nat) : Int)) = e at *
      obtain ⟨j, hj⟩ : ∃ j : Nat, e = -(j : Int) := ⟨(-e).toNat, by omega⟩
      subst hj
      rw [show (-(j : Int)).toNat = 0 by omega, show (-(-(j : Int))).toNat = j by omega, Nat.pow_zero, Nat.mul_one] at hfc
      have ht : m0 / 2 ^ j ≤ m0 := Nat.div_le_self _ _
      exact trunc_to _ s _ (trunc_of s p (m0 / 2 ^ j) (by omega) (by omega) hfc)
end Go.Proofs.YtnjihhheiiapnaaGreat
