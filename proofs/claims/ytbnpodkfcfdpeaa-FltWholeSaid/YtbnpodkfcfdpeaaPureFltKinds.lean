/- What any bits are, their canonical ones, their text, the whole number towards 0, and the float of any whole number, as the program tells them, are exactly the reference's answers. No condition. -/
import Derived.Test.YtbnpodkfcfdpeaaPureFltTurned
namespace Go.Proofs.Ytbnpodkfcfdpeaa.FA
open Go.RowKit Go.Proofs.Ytbnpodkfcfdpeaa.PFlt Go.Proofs.YtbnpodkfcfdpeaaW.PrintWords Go.Proofs.YtbnpodkfcfdpeaaW.PrintLast Go.Proofs.YtbnpodkfcfdpeaaW.PrintMore FM

theorem fabs_word (s : Bool) (p : Nat) (hp : p < 2 ^ 63) : fabs (Ieee.double.word s p) = p := by
  unfold fabs Go.bits
  simp only [BitVec.toNat_and, BitVec.toNat_not, BitVec.toNat_ofInt, show IntKind.u64.bits = 64 from rfl]
  have e2 : 2 ^ 64 - 1 - (9223372036854775808 % ((2 ^ 64 : Nat) : Int)).toNat = 2 ^ 63 - 1 := by decide
  rw [e2, Nat.and_two_pow_sub_one_eq_mod]
  have : ((Ieee.double.word s p : Int) % ((2 ^ 64 : Nat) : Int)).toNat % 2 ^ 63 = p := by
    unfold Ieee.Format.word; rw [sw_double]
    cases s
    · rw [if_neg (by decide)]; omega
    · rw [if_pos rfl]; omega
  rw [this, u64 (by omega) (by omega)]; rfl
theorem order_nat (p q : Nat) (hp : p < 2 ^ 63) (hq' : q < 2 ^ 63) (hq : p ≤ 2047 * 2 ^ 52 → q ≤ 2047 * 2 ^ 52) : Ieee.double.order p q = if p ≤ 2047 * 2 ^ 52 then some (compare (p : Int) (q : Int)) else none := by
  have e : ∀ x : Nat, x < 2 ^ 63 → Ieee.double.read x = dat false x := fun x hx => read_word false x hx
  unfold Ieee.Format.order
  rw [e p hp, e q hq']
  by_cases h : p ≤ 2047 * 2 ^ 52
  · rw [if_pos h, order_dat false false p q h (hq h)]; rfl
  · rw [if_neg h, dat_nan false p (by omega)]; rfl
theorem Kind_flt (s : Bool) (p : Nat) (hp : p < 2 ^ 63) : flt_Kind.f (toI s p) = some (kindOf p) := by
  have e0 : fabs p = p := fabs_word false p hp
  unfold flt_Kind.f kindOf
  rw [fbits_toI s p hp, fabs_word s p hp, e0, order_nat p p hp hp id, order_nat p 9218868437227405311 hp (by omega) (by omega), order_nat p 0 hp (by omega) (by omega), order_nat p 4503599627370496 hp (by omega) (by omega)]
  · congr 1
    by_cases h : p ≤ 2047 * 2 ^ 52
    · simp only [if_pos h, Option.some.injEq, Int.compare_eq_eq, Int.compare_eq_gt, Int.compare_eq_lt, if_true]
      by_cases h1 : p < 2047 * 2 ^ 52
      · rw [if_neg (by omega), if_pos h1]
        by_cases h2 : p = 0
        · rw [if_pos (by omega), if_pos h2]
        · rw [if_neg (by omega), if_neg h2]
          by_cases h3 : p < 2 ^ 52
          · rw [if_pos (by omega), if_pos h3]
          · rw [if_neg (by omega), if_neg h3]
      · rw [if_pos (by omega), if_neg h1, if_pos (by omega)]
    · simp only [if_neg h]
      rw [if_neg (by simp), if_neg (by omega), if_neg (by omega)]
theorem Canon_flt (s : Bool) (p : Nat) (hp : p < 2 ^ 63) : flt_Canon.f (toI s p) = some (if p ≤ 2047 * 2 ^ 52 then toI s p else 9221120237041090561) := by
  unfold flt_Canon.f
  rw [fbits_toI s p hp]
  by_cases h : p ≤ 2047 * 2 ^ 52
  · rw [if_pos h, fcan_word s p h]
  · rw [if_neg h]
    unfold fcan
    have : Ieee.double.order (Ieee.double.word s p) (Ieee.double.word s p) = none := by
      unfold Ieee.Format.order
      rw [read_word s p hp, dat_nan s p (by omega)]; rfl
    rw [if_neg (by rw [this]; simp)]
theorem Canon_ref (s : Bool) (p : Nat) (hp : p < 2 ^ 63) : anamnesisref02_Canon.f (toI s p) = some (if p ≤ 2047 * 2 ^ 52 then toI s p else 9221120237041090561) := by
  unfold anamnesisref02_Canon.f
  rw [Kind_eq s p hp, Option.bind_some]
  have := kind_pos p hp
  have k0 := FA.ways p hp
  by_cases h : p ≤ 2047 * 2 ^ 52
  · rw [if_pos h, if_neg (by omega)]
  · rw [if_neg h, if_pos (by omega)]; rfl

theorem Of_flt (n : Int) (h1 : -9007199254740992 ≤ n) (h2 : n ≤ 9007199254740992) : flt_Of.f n = some (toI (decide (n < 0)) (if n.natAbs = 0 then 0 else rung n.natAbs 0)) := by
  unfold flt_Of.f
  rw [if_neg (by omega), if_neg (by omega)]
  show some (fres (some (Ieee.double.write (.number (n < 0) n.natAbs 0)))) = _
  have := fres_told (some (.number (decide (n < 0)) n.natAbs 0)) (by intro s t h; cases h)
  rw [Option.map_some] at this
  rw [this]; rfl
theorem Of_ref (k : Nat) (hk : 90 ≤ k) (n : Int) : anamnesisref02_Of.f k n = flt_Of.f n := by
  unfold anamnesisref02_Of.f
  have nan : anamnesisref02_NaN.f = some 9221120237041090561 := rfl
  obtain ⟨k, rfl⟩ : ∃ x, k = x + 1 := ⟨k - 1, by omega⟩
  by_cases h1 : n < -9007199254740992
  · rw [if_pos h1, anamnesisref02_Of.j0, if_pos rfl, nan, Option.bind_some]
    unfold flt_Of.f
    rw [if_pos h1]
  rw [if_neg h1, anamnesisref02_Of.j0]
  by_cases h2 : n > 9007199254740992
  · rw [decide_eq_true h2, if_pos rfl, nan, Option.bind_some]
    unfold flt_Of.f
    rw [if_neg h1, if_pos h2]
  rw [decide_eq_false h2, if_neg (by decide), Of_flt n (by omega) (by omega)]
  have two : ∀ m : Nat, m ≠ 0 → m < 2 ^ 62 → refRound m 0 false = rung m 0 := by
    intro m hm hm2
    rw [refRound_eq m 0 false hm hm2 (by intro h; cases h), Bool.toNat_false, Nat.add_zero]
    have := rung_scale m 1 0 hm
    rw [Nat.pow_one, Nat.mul_comm] at this
    exact this
  by_cases h3 : n = 0
  · subst h3; rfl
  rw [if_neg h3, if_neg (by omega : ¬ n.natAbs = 0)]
  have hb := rung_le n.natAbs 0
  by_cases h4 : n < 0
  · rw [if_pos h4, w64 (by omega) (by omega), show -n = ((n.natAbs : Nat) : Int) by omega, round_eq k _ _ _ (by omega) (by omega) (by omega) (by omega) (by omega), two _ (by omega) (by omega), Option.bind_some, with_eq true _ (by omega), decide_eq_true h4]
    rfl
  · have : n = ((n.natAbs : Nat) : Int) := by omega
    rw [if_neg h4, decide_eq_false h4]
    rw [show anamnesisref02_round.f k n 0 false = anamnesisref02_round.f k ((n.natAbs : Nat) : Int) 0 false by rw [← this], round_eq k _ _ _ (by omega) (by omega) (by omega) (by omega) (by omega), two _ (by omega) (by omega)]
    rfl

/-- The digit of four bits. -/
def hexd (x : Int) : Int := bt (⟨#[48, 49, 50, 51, 52, 53, 54, 55, 56, 57, 97, 98, 99, 100, 101, 102]⟩ : ByteArray) (x % 16)
theorem and15_u (x : Int) : Go.bits .and .u64 x 15 = x % 16 := by
  unfold Go.bits
  simp only [BitVec.toNat_and, BitVec.toNat_ofInt, show IntKind.u64.bits = 64 from rfl]
  have e2 : (15 % ((2 ^ 64 : Nat) : Int)).toNat = 2 ^ 4 - 1 := by decide
  rw [e2, Nat.and_two_pow_sub_one_eq_mod, u64 (by omega) (by omega)]
  omega
theorem and15_i (x : Int) : Go.bits .and .i64 x 15 = x % 16 := by
  unfold Go.bits
  simp only [BitVec.toNat_and, BitVec.toNat_ofInt, show IntKind.i64.bits = 64 from rfl]
  have e2 : (15 % ((2 ^ 64 : Nat) : Int)).toNat = 2 ^ 4 - 1 := by decide
  rw [e2, Nat.and_two_pow_sub_one_eq_mod, i64_w, w64 (by omega) (by omega)]
  omega
/-- The lowest digits, the highest of them first. -/
def hexs (a : Int) : Nat → List Int
  | 0 => []
  | i + 1 => hexd (a / 16 ^ i) :: hexs a i
theorem hexs_len (a : Int) (i : Nat) : (hexs a i).length = i := by
  induction i with
  | zero => rfl
  | succ i ih => simp [hexs, ih]
theorem Text_ref_loop (a : Int) (d : Nat) : ∀ (k i : Nat), i + d = 16 → d < k → anamnesisref02_Text.l0 k (a / 16 ^ i) (strOfNums (hexs a i)) (i : Int) = some (strOfNums (hexs a 16)) := by
  induction d with
  | zero =>
    intro k i hi hk
    obtain ⟨k, rfl⟩ : ∃ x, k = x + 1 := ⟨k - 1, by omega⟩
    obtain rfl : i = 16 := by omega
    rw [anamnesisref02_Text.l0, if_neg (by omega)]
  | succ d ih =>
    intro k i hi hk
    obtain ⟨k, rfl⟩ : ∃ x, k = x + 1 := ⟨k - 1, by omega⟩
    rw [anamnesisref02_Text.l0, if_pos (by omega), and15_i, if_pos (by omega), if_pos (by omega), Option.bind_some, if_pos (by rw [strOfNums_size, strOfNums_size, hexs_len]; simp only [List.length_cons, List.length_nil]; omega), w64 (by omega) (by omega)]
    have e1 : strOfNums [bt (⟨#[48, 49, 50, 51, 52, 53, 54, 55, 56, 57, 97, 98, 99, 100, 101, 102]⟩ : ByteArray) (a / 16 ^ i % 16)] ++ strOfNums (hexs a i) = strOfNums (hexs a (i + 1)) := by
      apply ByteArray.ext
      rw [ByteArray.data_append]
      simp [strOfNums, hexs, hexd]
    have e2 : a / 16 ^ i / 16 = a / 16 ^ (i + 1) := by
      rw [Int.pow_succ, Int.ediv_ediv_of_nonneg (Int.pow_nonneg (by omega))]
    rw [e1, e2]
    exact ih k (i + 1) (by omega) (by omega)
theorem Text_ref (k : Nat) (hk : 17 ≤ k) (a : Int) : anamnesisref02_Text.f k a = some (strOfNums (hexs a 16)) := by
  unfold anamnesisref02_Text.f
  have := Text_ref_loop a 16 k 0 rfl (by omega)
  rw [Int.pow_zero, Int.ediv_one] at this
  exact this
theorem Text_flt_loop (a : Int) (d : Nat) : ∀ (k i : Nat), i + d = 16 → d < k → flt_Text.l0 k a (List.replicate d 0 ++ hexs a i) 16 (i : Int) = some (strOfNums (hexs a 16)) := by
  induction d with
  | zero =>
    intro k i hi hk
    obtain ⟨k, rfl⟩ : ∃ x, k = x + 1 := ⟨k - 1, by omega⟩
    obtain rfl : i = 16 := by omega
    rw [flt_Text.l0, if_neg (by omega)]; rfl
  | succ d ih =>
    intro k i hi hk
    obtain ⟨k, rfl⟩ : ∃ x, k = x + 1 := ⟨k - 1, by omega⟩
    have e4 : wrap64 (4 * (i : Int)) = 4 * (i : Int) := w64 (by omega) (by omega)
    have e5 : wrap64 (15 - (i : Int)) = (d : Int) := by rw [w64 (by omega) (by omega)]; omega
    rw [flt_Text.l0, e4, e5, if_pos (by omega), if_pos (by omega), and15_u, if_pos (by omega), if_pos (by omega), if_pos (by omega), if_pos (by simp [hexs_len]; omega), w64 (by omega) (by omega)]
    have e1 : shr .u64 (IntKind.u64.wrap a) (4 * (i : Int)) % 16 = a / 16 ^ i % 16 := by
      unfold shr
      rw [show min (4 * (i : Int)).toNat IntKind.u64.bits = 4 * i by show min _ 64 = _; omega, Int.pow_mul]
      simp only [IntKind.wrap, IntKind.bits, IntKind.signed, Bool.false_and, Bool.false_eq_true, if_false]
      have hx : ∃ c : Int, (2 : Int) ^ 64 = 16 ^ i * (16 * c) := ⟨16 ^ d, by
        rw [show (16 : Int) ^ i * (16 * 16 ^ d) = 16 ^ (i + (d + 1)) by rw [Int.pow_add, Int.pow_succ, Int.mul_comm 16], hi]; decide⟩
      obtain ⟨c, hc⟩ := hx
      have hpos : (0 : Int) < 16 ^ i := Int.pow_pos (by omega)
      show a % 2 ^ 64 / 16 ^ i % 16 = _
      have em : a % 2 ^ 64 = a + 16 ^ i * (16 * (-(c * (a / 2 ^ 64)))) := by
        have := Int.emod_def a (2 ^ 64)
        rw [this]
        conv => lhs; arg 2; lhs; rw [hc]
        simp only [Int.mul_neg, Int.mul_assoc]
        rfl
      rw [em, Int.add_mul_ediv_left _ _ (by omega), Int.add_mul_emod_self_left]
    rw [e1]
    have e2 : (List.replicate (d + 1) 0 ++ hexs a i).set ((d : Int)).toNat (bt (⟨#[48, 49, 50, 51, 52, 53, 54, 55, 56, 57, 97, 98, 99, 100, 101, 102]⟩ : ByteArray) (a / 16 ^ i % 16)) = List.replicate d 0 ++ hexs a (i + 1) := by
      rw [show ((d : Int)).toNat = d by omega, List.replicate_succ', List.append_assoc, List.set_append_right _ _ (by simp)]
      simp [hexs, hexd]
    rw [e2]
    exact ih k (i + 1) (by omega) (by omega)
theorem Text_flt (k : Nat) (hk : 17 ≤ k) (a : Int) : flt_Text.f k a = some (strOfNums (hexs a 16)) := by
  unfold flt_Text.f
  rw [if_pos (by omega), Option.bind_some]
  have := Text_flt_loop a 16 k 0 rfl (by omega)
  rw [show hexs a 0 = [] from rfl, List.append_nil] at this
  exact this

theorem cut_zero (neg : Bool) (n drop : Nat) : Ieee.Toward.zero.cut neg n drop = n / 2 ^ drop := by
  unfold Ieee.Toward.cut
  simp only [Nat.one_shiftLeft, Bool.toNat_false, Nat.add_zero]
  by_cases h : drop ≤ n.log2 + 2
  · rw [Nat.min_eq_left h]
  · rw [Nat.min_eq_right (by omega)]
    have hn : n < 2 ^ (n.log2 + 1) := Nat.lt_log2_self
    have hd : 2 ^ (n.log2 + 2) ≤ 2 ^ drop := Nat.pow_le_pow_right (by omega) (by omega)
    have e1 : 2 ^ (n.log2 + 2) = 2 * 2 ^ (n.log2 + 1) := by rw [Nat.pow_succ]; omega
    rw [Nat.div_eq_of_lt (by omega), Nat.div_eq_of_lt (by omega)]

def huge : Nat := 2 ^ 1074
/-- A whole number of at most 53 bits is a float. -/
theorem whole_dat (t : Nat) (h0 : t ≠ 0) (h1 : t < 2 ^ 53) : ∃ k : Nat, k ≤ 52 ∧ (∀ s, dat s (rung t 0) = .number s (t * 2 ^ k) (-(k : Int))) ∧ rung t 0 < 2047 * 2 ^ 52 ∧ val (rung t 0) = t * huge := by
  have hl := (Nat.log2_eq_iff (k := t.log2) h0).1 rfl
  have hlog : t.log2 ≤ 52 := by have := (Nat.log2_lt h0).2 h1; omega
  have lo : 2 ^ 52 ≤ t * 2 ^ (52 - t.log2) := by
    calc 2 ^ 52 = 2 ^ t.log2 * 2 ^ (52 - t.log2) := by rw [← Nat.pow_add]; congr 1; omega
      _ ≤ _ := Nat.mul_le_mul_right _ hl.1
  have hi : t * 2 ^ (52 - t.log2) < 2 ^ 53 := by
    calc t * 2 ^ (52 - t.log2) < 2 ^ (t.log2 + 1) * 2 ^ (52 - t.log2) := Nat.mul_lt_mul_of_pos_right hl.2 (Nat.two_pow_pos _)
      _ = 2 ^ 53 := by rw [← Nat.pow_add]; congr 1; omega
  generalize hk : 52 - t.log2 = k at *
  have hk52 : k ≤ 52 := by omega
  have e0 : rung t 0 = rung (t * 2 ^ k) (-(k : Int)) := by
    have := rung_scale t k 0 h0
    rw [show (0 : Int) - k = -(k : Int) by omega] at this
    exact this.symm
  have hd : ∀ s, dat s ((1074 - k) * 2 ^ 52 + t * 2 ^ k) = .number s (t * 2 ^ k) (-(k : Int)) := by
    intro s
    unfold dat
    rw [if_neg (by omega), if_pos (by omega)]
    congr 1
    · omega
    · omega
  have hr : rung (t * 2 ^ k) (-(k : Int)) = (1074 - k) * 2 ^ 52 + t * 2 ^ k := by
    have := rung_dat false ((1074 - k) * 2 ^ 52 + t * 2 ^ k) (by omega)
    rw [hd, told_number, if_neg (by omega)] at this
    unfold toI at this
    rw [if_neg (by decide), if_neg (by decide)] at this
    omega
  refine ⟨k, hk52, ?_, by rw [e0, hr]; omega, ?_⟩
  · intro s; rw [e0, hr, hd]
  · rw [e0, hr]
    obtain ⟨m, j, e1, e2, _⟩ := dat_fin false ((1074 - k) * 2 ^ 52 + t * 2 ^ k) (by omega)
    rw [hd] at e1
    injection e1 with _ a b
    rw [← e2, ← a, Nat.mul_assoc, ← Nat.pow_add]
    unfold huge
    congr 2; omega

theorem order_words (s t : Bool) (p q : Nat) (hp : p ≤ 2047 * 2 ^ 52) (hq : q ≤ 2047 * 2 ^ 52) : Ieee.double.order (Ieee.double.word s p) (Ieee.double.word t q) = some (compare (place s p) (place t q)) := by
  unfold Ieee.Format.order
  rw [read_word s p (by omega), read_word t q (by omega), order_dat s t p q hp hq]
theorem val_c : val 4742290407621132288 = 2 ^ 30 * huge := by decide +kernel
theorem rung_cmp (t : Nat) (h0 : t ≠ 0) (h1 : t < 2 ^ 53) : (rung t 0 < 4742290407621132288 ↔ t < 2 ^ 30) ∧ (rung t 0 ≤ 4742290407621132288 ↔ t ≤ 2 ^ 30) := by
  obtain ⟨k, _, _, _, hv⟩ := whole_dat t h0 h1
  have hp : 0 < huge := by decide +kernel
  have a1 := val_lt (rung t 0) 4742290407621132288
  have a2 := val_lt 4742290407621132288 (rung t 0)
  have a3 : rung t 0 = 4742290407621132288 → val (rung t 0) = val 4742290407621132288 := fun h => by rw [h]
  rw [hv, val_c] at a1 a2 a3
  have b1 : t * huge < 2 ^ 30 * huge → t < 2 ^ 30 := fun h => Nat.lt_of_mul_lt_mul_right h
  have b2 : 2 ^ 30 * huge < t * huge → 2 ^ 30 < t := fun h => Nat.lt_of_mul_lt_mul_right h
  have b3 : t * huge = 2 ^ 30 * huge → t = 2 ^ 30 := fun h => Nat.eq_of_mul_eq_mul_right hp h
  generalize t * huge = T at *
  generalize 2 ^ 30 * huge = U at *
  generalize rung t 0 = R at *
  omega

/-- The program's truncation, once the whole number t that is cut is known. -/
theorem trunc_of (s : Bool) (p t : Nat) (hp : p ≤ 2047 * 2 ^ 52) (ht : t < 2 ^ 53) (hc : fcut (Ieee.double.word s p) = Ieee.double.word s (if t = 0 then 0 else rung t 0)) :
    flt_Trunc.f (toI s p) = some (if (if s then -(t : Int) else t) < -1073741824 ∨ 1073741824 ≤ (if s then -(t : Int) else (t : Int)) then (0, false) else ((if s then -(t : Int) else (t : Int)), true)) := by
  unfold flt_Trunc.f
  rw [read_toI s p (by omega), fbits_toI s p (by omega), hc]
  have hnan : ¬ (dat s p).isNaN = true := by
    unfold dat
    split
    · simp [Ieee.Datum.isNaN]
    split
    · simp [Ieee.Datum.isNaN]
    rw [if_pos (by omega)]; simp [Ieee.Datum.isNaN]
  rw [if_neg hnan]
  have w1 : (13965662444475908096 : Nat) = Ieee.double.word true 4742290407621132288 := by decide
  have w2 : (4742290407621132288 : Nat) = Ieee.double.word false 4742290407621132288 := by decide
  have hR : (if t = 0 then 0 else rung t 0) < 2047 * 2 ^ 52 ∧ ((if t = 0 then 0 else rung t 0) < 4742290407621132288 ↔ t < 2 ^ 30) ∧ ((if t = 0 then 0 else rung t 0) ≤ 4742290407621132288 ↔ t ≤ 2 ^ 30) ∧
      floatToIntVal .f64 (Ieee.double.word s (if t = 0 then 0 else rung t 0)) .i64 = some (if s then -(t : Int) else (t : Int)) := by
    by_cases h0 : t = 0
    · subst h0
      refine ⟨by decide, by decide, by decide, ?_⟩
      unfold floatToIntVal
      cases s <;> decide +kernel
    · rw [if_neg h0]
      obtain ⟨k, hk, hd, hlt, hv⟩ := whole_dat t h0 ht
      have hcmp := rung_cmp t h0 ht
      refine ⟨hlt, hcmp.1, hcmp.2, ?_⟩
      unfold floatToIntVal FloatKind.decode
      rw [show FloatKind.f64.format = Ieee.double from rfl, read_word s _ (by omega), hd s]
      have e1 : (Ieee.Datum.number s (t * 2 ^ k) (-(k : Int))).toInt .zero = some (if s then -(t : Int) else (t : Int)) := by
        show some (Ieee.signed s (Ieee.Toward.zero.cut s ((t * 2 ^ k) <<< (-(k : Int)).toNat) (-(-(k : Int))).toNat) 0) = _
        rw [cut_zero, show (-(k : Int)).toNat = 0 by omega, show (-(-(k : Int))).toNat = k by omega, Nat.shiftLeft_zero, Nat.mul_div_cancel _ (Nat.two_pow_pos k), signed_shift, Nat.pow_zero, Nat.mul_one]
      rw [e1]
      have hb : IntKind.i64.min ≤ (if s then -(t : Int) else (t : Int)) ∧ (if s then -(t : Int) else (t : Int)) ≤ IntKind.i64.max := by
        show -(2 ^ 63) ≤ _ ∧ _ ≤ 2 ^ 63 - 1
        split <;> omega
      simp only [if_pos hb]
  obtain ⟨hR1, hR2, hR3, hR4⟩ := hR
  generalize (if t = 0 then 0 else rung t 0) = R at *
  rw [hR4, w1, order_words s true R _ (by omega) (by omega)]
  have w2' : Ieee.double.order (Ieee.double.word s R) 4742290407621132288 = some (compare (place s R) (place false 4742290407621132288)) := by
    rw [w2]; exact order_words s false R _ (by omega) (by omega)
  rw [w2']
  simp only [Option.some.injEq, Int.compare_eq_eq, Int.compare_eq_gt, Int.compare_eq_lt, Option.map_some]
  unfold place
  simp only [if_true, Bool.false_eq_true, if_false]
  cases s
  · simp only [if_false, Bool.false_eq_true]
    rw [if_pos (by omega)]
    by_cases h : t < 2 ^ 30
    · rw [if_pos (by omega), if_neg (by omega)]
    · rw [if_neg (by omega), if_pos (by omega)]
  · simp only [if_true]
    by_cases h : t ≤ 2 ^ 30
    · rw [if_pos (by omega), if_pos (by omega), if_neg (by omega)]
    · rw [if_neg (by omega), if_pos (by omega)]

theorem Trunc_some (k : Nat) (hk : 70 ≤ k) (s : Bool) (p : Nat) (hp : p < 2 ^ 63) : ∃ x, anamnesisref02_Trunc.f k (toI s p) = some x := by
  unfold anamnesisref02_Trunc.f
  rw [Kind_eq s p hp, Option.bind_some, Option.bind_some]
  by_cases h1 : kindOf p < 2
  · rw [if_pos h1]; exact ⟨_, rfl⟩
  rw [if_neg h1]
  by_cases h2 : kindOf p < 4
  · rw [if_pos h2]; exact ⟨_, rfl⟩
  rw [if_neg h2]
  have hw := FA.ways p hp
  obtain ⟨m0, l, e, _, hpart, _, _, _, he1, he2, _⟩ := part_eq s p (by omega) (by omega)
  rw [hpart k (by omega), Option.bind_some]
  dsimp only
  obtain ⟨k, rfl⟩ : ∃ x, k = x + 1 := ⟨k - 1, by omega⟩
  have hj : ∀ x, ∃ y, anamnesisref02_Trunc.j0 (k + 1) (toI s p) x = some y := by
    intro x
    rw [anamnesisref02_Trunc.j0, sign_eq s p hp, Option.bind_some]
    cases s
    · rw [if_neg (by decide)]
      by_cases a1 : x < -1073741824
      · rw [if_pos a1]; exact ⟨_, rfl⟩
      rw [if_neg a1]
      by_cases a2 : x ≥ 1073741824
      · rw [if_pos a2]; exact ⟨_, rfl⟩
      rw [if_neg a2]; exact ⟨_, rfl⟩
    · rw [if_pos rfl]
      by_cases a1 : wrap64 (-x) < -1073741824
      · rw [if_pos a1]; exact ⟨_, rfl⟩
      rw [if_neg a1]
      by_cases a2 : wrap64 (-x) ≥ 1073741824
      · rw [if_pos a2]; exact ⟨_, rfl⟩
      rw [if_neg a2]; exact ⟨_, rfl⟩
  by_cases h3 : e > 0
  · rw [if_pos h3]; exact ⟨_, rfl⟩
  rw [if_neg h3]
  by_cases h4 : e < -62
  · rw [if_pos h4]; exact hj _
  · rw [if_neg h4, w64 (n := -e) (by omega) (by omega), u64 (n := -e) (by omega) (by omega), if_pos (by omega)]; exact hj _
theorem Trunc_ref (k : Nat) (hk : 70 ≤ k) (s : Bool) (p : Nat) (hp : p < 2 ^ 63) : anamnesisref02_Trunc.f k (toI s p) = flt_Trunc.f (toI s p) := by
  unfold anamnesisref02_Trunc.f
  rw [Kind_eq s p hp, Option.bind_some, Option.bind_some]
  have fc : ∀ m i, dat s p = .number s m i → fcut (Ieee.double.word s p) = Ieee.double.word s (if m * 2 ^ i.toNat / 2 ^ (-i).toNat = 0 then 0 else rung (m * 2 ^ i.toNat / 2 ^ (-i).toNat) 0) := by
    intro m i hd
    unfold fcut
    rw [read_word s p hp, hd]
    show Ieee.double.nearest s (Ieee.Toward.zero.cut s (m <<< i.toNat) (-i).toNat) 0 = _
    rw [nearest_eq, cut_zero, Nat.shiftLeft_eq]
  rcases FA.ways p hp with ⟨h1, k1⟩ | ⟨h1, k1⟩ | ⟨h1, k1⟩ | ⟨h1, h1', k1⟩
  · rw [if_pos (by omega)]
    unfold flt_Trunc.f
    rw [read_toI s p hp, dat_nan s p h1, if_pos (show (Ieee.Datum.nan s (p - 2047 * 2 ^ 52)).isNaN = true from rfl)]
  · rw [if_pos (by omega)]
    subst h1
    unfold flt_Trunc.f
    rw [read_toI s _ hp, fbits_toI s _ hp, dat_inf, if_neg (by simp [Ieee.Datum.isNaN])]
    unfold fcut
    rw [read_word s _ hp, dat_inf]
    cases s <;> decide +kernel
  · rw [if_neg (by omega), if_pos (by omega)]
    subst h1
    have := trunc_of s 0 0 (by omega) (by omega) (by rw [fc 0 (-1074) rfl, Nat.zero_mul, Nat.zero_div])
    rw [this]
    cases s <;> rfl
  · by_cases h2 : p < 2 ^ 52
    · have k3 : kindOf p = 3 := by unfold kindOf; rw [if_pos h1', if_neg h1, if_pos h2]
      rw [if_neg (by omega), if_pos (by omega)]
      have hz : p * 2 ^ (-1074 : Int).toNat / 2 ^ (- (-1074 : Int)).toNat = 0 := by
        apply Nat.div_eq_of_lt
        rw [show (-1074 : Int).toNat = 0 by decide, Nat.pow_zero, Nat.mul_one]
        generalize hE : (- (-1074 : Int)).toNat = E
        exact Nat.lt_of_lt_of_le h2 (Nat.pow_le_pow_right (by omega) (by omega))
      have := trunc_of s p 0 (by omega) (by omega) (by rw [fc p (-1074) (by unfold dat; rw [if_pos h2]), hz])
      rw [this]
      cases s <;> rfl
    · have k4 : kindOf p = 4 := by unfold kindOf; rw [if_pos h1', if_neg h1, if_neg h2]
      rw [if_neg (by omega), if_neg (by omega)]
      obtain ⟨m0, l, e, hd, hpart, hm, hm2, hl, he1, he2, _, hz2⟩ := part_eq s p h1 h1'
      obtain ⟨rfl, hm0, he⟩ := hz2 (by omega)
      rw [hpart k (by omega), Option.bind_some]
      dsimp only
      simp only [Nat.pow_zero, Nat.mul_one] at hd hm hm2 ⊢
      rw [show e + ((0 : Nat) : Int) = e by omega] at hd
      have hfc := fc m0 e hd
      clear hpart fc hm0 k1 k4
      obtain ⟨k, rfl⟩ : ∃ x, k = x + 1 := ⟨k - 1, by omega⟩
      by_cases h3 : e > 0
      · rw [if_pos h3]
        -- too great
        obtain ⟨j, hj⟩ : ∃ j : Nat, e = j := ⟨e.toNat, by omega⟩
        rw [hj, show ((j : Int)).toNat = j by omega, show (-(j : Int)).toNat = 0 by omega, Nat.pow_zero, Nat.div_one] at hfc
        have hne : m0 * 2 ^ j ≠ 0 := by have := Nat.two_pow_pos j; exact Nat.mul_ne_zero (by omega) (by omega)
        have hr : rung (m0 * 2 ^ j) 0 = p := by
          rw [rung_up _ _ _ (by omega), show (0 : Int) + j = e by omega]
          have := rung_dat s p h1'
          rw [hd, told_number, if_neg (by omega)] at this
          exact ((toI_inj s s _ _ (by have := rung_le m0 e; omega) hp).1 this).2
        rw [if_neg hne, hr] at hfc
        unfold flt_Trunc.f
        rw [read_toI s p hp, fbits_toI s p hp, hfc, hd, if_neg (by simp [Ieee.Datum.isNaN])]
        have w1 : (13965662444475908096 : Nat) = Ieee.double.word true 4742290407621132288 := by decide
        have w2' : Ieee.double.order (Ieee.double.word s p) 4742290407621132288 = some (compare (place s p) (place false 4742290407621132288)) := by
          exact order_words s false p 4742290407621132288 (by omega) (by omega)
        rw [w2', w1, order_words s true p _ (by omega) (by omega)]
        simp only [Option.some.injEq, Int.compare_eq_eq, Int.compare_eq_gt, Int.compare_eq_lt]
        unfold place
        simp only [if_true, Bool.false_eq_true, if_false]
        have hbig : 4742290407621132288 < p := by omega
        clear hd hfc he hj hr
        cases s
        · simp only [if_false, Bool.false_eq_true]
          rw [if_pos (by omega), if_neg (by omega)]
        · simp only [if_true]
          rw [if_neg (by omega)]
      · rw [if_neg h3]
        obtain ⟨j, hj⟩ : ∃ j : Nat, e = -(j : Int) := ⟨(-e).toNat, by omega⟩
        subst hj
        rw [show (-(j : Int)).toNat = 0 by omega, show (-(-(j : Int))).toNat = j by omega, Nat.pow_zero, Nat.mul_one] at hfc
        have ht : m0 / 2 ^ j ≤ m0 := Nat.div_le_self _ _
        have := trunc_of s p (m0 / 2 ^ j) (by omega) (by omega) hfc
        rw [this]
        clear this hfc hd he
        have fin : ∀ x : Nat, x < 2 ^ 53 → anamnesisref02_Trunc.j0 (k + 1) (toI s p) (x : Int) = some (if (if s then -(x : Int) else x) < -1073741824 ∨ 1073741824 ≤ (if s then -(x : Int) else (x : Int)) then (0, false) else ((if s then -(x : Int) else (x : Int)), true)) := by
          intro x hx
          rw [anamnesisref02_Trunc.j0, sign_eq s p hp, Option.bind_some, w64 (n := -(x : Int)) (by omega) (by omega)]
          cases s
          · simp only [Bool.false_eq_true, if_false]
            rw [if_neg (by omega)]
            by_cases h : (x : Int) ≥ 1073741824
            · rw [if_pos h, if_pos (by omega)]
            · rw [if_neg h, if_neg (by omega)]
          · simp only [if_true]
            by_cases h : -(x : Int) < -1073741824
            · rw [if_pos h, if_pos (by omega)]
            · rw [if_neg h, if_neg (by omega), if_neg (by omega)]
        by_cases h4 : -(j : Int) < -62
        · rw [if_pos h4]
          have hz : m0 / 2 ^ j = 0 := Nat.div_eq_of_lt (Nat.lt_of_lt_of_le hm2 (Nat.pow_le_pow_right (by omega) (by omega)))
          rw [hz]
          exact fin 0 (by omega)
        · rw [if_neg h4, show -(-(j : Int)) = (j : Int) by omega, w64 (n := (j : Int)) (by omega) (by omega), u64 (n := (j : Int)) (by omega) (by omega), if_pos (by omega)]
          have e3 : shr .i64 (m0 : Int) (j : Int) = ((m0 / 2 ^ j : Nat) : Int) := by
            unfold shr
            rw [show min (j : Int).toNat IntKind.i64.bits = j by show min _ 64 = _; omega]
            push_cast; rfl
          rw [e3]
          exact fin _ (by omega)
end Go.Proofs.Ytbnpodkfcfdpeaa.FA
namespace Go.Proofs.Ytbnpodkfcfdpeaa.Pure
open Go.RowKit Go.Proofs.Ytbnpodkfcfdpeaa.PFlt Go.Proofs.YtbnpodkfcfdpeaaW.PrintWords Go.Proofs.YtbnpodkfcfdpeaaW.PrintLast FM Go.Proofs.Ytbnpodkfcfdpeaa.FA
theorem FltKinds : anamnesislaw02_FltKinds.Pure := by
  intro a ha
  refine ⟨200, ?_⟩
  unfold anamnesislaw02_FltKinds.f
  rw [Of_ref 200 (by omega) a, Text_ref 200 (by omega) a, Text_flt 200 (by omega) a]
  have hof : ∃ n, flt_Of.f a = some n := ⟨_, rfl⟩
  obtain ⟨n, hn⟩ := hof
  rw [hn]
  obtain ⟨s, p, hp, rfl⟩ := split a ha
  rw [Trunc_ref 200 (by omega) s p hp, Kind_eq s p hp, Kind_flt s p hp, Canon_flt s p hp, Canon_ref s p hp]
  have htr : ∃ x, flt_Trunc.f (toI s p) = some x := by
    rw [← Trunc_ref 200 (by omega) s p hp]
    exact Trunc_some 200 (by omega) s p hp
  obtain ⟨x, hx⟩ := htr
  rw [hx, show anamnesislaw02_fixed.f = some true from rfl]
  simp only [Option.bind_some, if_true, beq_self_eq_true]
end Go.Proofs.Ytbnpodkfcfdpeaa.Pure
