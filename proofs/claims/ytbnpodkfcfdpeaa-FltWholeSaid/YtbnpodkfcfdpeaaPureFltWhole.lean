/- Whole numbers of at most 2^26 add, take away, multiply, divide, and lie in their order, as floats as they do; a SmallInteger's float is truncated to it. Condition: only what the law itself asks. -/
import Derived.Test.YtbnpodkfcfdpeaaPureFltTwice
namespace Go.Proofs.Ytbnpodkfcfdpeaa.FA
open Go.RowKit Go.Proofs.Ytbnpodkfcfdpeaa.PFlt Go.Proofs.YtbnpodkfcfdpeaaW.PrintWords Go.Proofs.YtbnpodkfcfdpeaaW.PrintLast Go.Proofs.YtbnpodkfcfdpeaaW.PrintMore FM
open Ieee (Datum)

/-- The rung of a whole number's float. -/
def wr (n : Int) : Nat := if n.natAbs = 0 then 0 else rung n.natAbs 0
def ofv (n : Int) : Int := toI (decide (n < 0)) (wr n)
theorem Of_whole (n : Int) (h1 : -9007199254740992 ≤ n) (h2 : n ≤ 9007199254740992) : flt_Of.f n = some (ofv n) := Of_flt n h1 h2
theorem wr_lt (n : Int) : wr n ≤ 2047 * 2 ^ 52 := by
  unfold wr; split
  · omega
  · exact rung_le _ _
theorem wr_val (n : Int) (h : n.natAbs < 2 ^ 53) : val (wr n) = n.natAbs * huge ∧ wr n < 2047 * 2 ^ 52 := by
  unfold wr
  by_cases h0 : n.natAbs = 0
  · rw [if_pos h0, h0, Nat.zero_mul]; exact ⟨rfl, by omega⟩
  · rw [if_neg h0]
    obtain ⟨_, _, _, hlt, hv⟩ := whole_dat n.natAbs h0 h
    exact ⟨hv, hlt⟩
theorem wr_dat (n : Int) (h : n.natAbs < 2 ^ 53) : ∃ K : Nat, dat (decide (n < 0)) (wr n) = .number (decide (n < 0)) (n.natAbs * 2 ^ K) (-(K : Int)) ∧
    (n ≠ 0 → K ≤ 52 ∧ 2 ^ 52 ≤ n.natAbs * 2 ^ K ∧ n.natAbs * 2 ^ K < 2 ^ 53) := by
  unfold wr
  by_cases h0 : n.natAbs = 0
  · rw [if_pos h0, h0]
    obtain ⟨K, hK⟩ : ∃ K : Nat, (K : Int) = 1074 := ⟨1074, rfl⟩
    refine ⟨K, ?_, fun h => by omega⟩
    rw [Nat.zero_mul, hK]; rfl
  · rw [if_neg h0]
    obtain ⟨k, hk, hd, hlt, _⟩ := whole_dat n.natAbs h0 h
    refine ⟨k, hd _, fun _ => ⟨hk, ?_⟩⟩
    obtain ⟨m, j, e, _, _, hm2, _, hm3⟩ := dat_fin (decide (n < 0)) (rung n.natAbs 0) hlt
    rw [hd] at e
    injection e with _ e1 e2
    rw [e1]
    exact ⟨by rcases hm3 with h | h <;> omega, hm2⟩
theorem sg_int (n : Int) (K B : Nat) (h : K ≤ B) : Ieee.signed (decide (n < 0)) (n.natAbs * 2 ^ K) (B - K) = n * 2 ^ B := by
  rw [signed_shift, Nat.mul_assoc, ← Nat.pow_add, Nat.add_sub_cancel' h]
  by_cases hn : n < 0
  · rw [decide_eq_true hn, if_pos rfl]
    push_cast
    rw [← Int.neg_mul]; congr 1; omega
  · rw [decide_eq_false hn, if_neg (by decide)]
    push_cast
    congr 1; omega
theorem told_total (x : Int) (B : Nat) (c : Bool) (hc : x = 0 → c = false) :
    told (some (Datum.number (if x * 2 ^ B = 0 then c else decide (x * 2 ^ B < 0)) (x * 2 ^ B).natAbs (-(B : Int)))) = ofv x := by
  have hp : (0 : Int) < 2 ^ B := Int.pow_pos (by omega)
  unfold ofv wr
  have hna : (x * 2 ^ B).natAbs = x.natAbs * 2 ^ B := by
    rw [Int.natAbs_mul]; congr 1
  rw [told_number, hna]
  by_cases h0 : x = 0
  · subst h0
    rw [Int.zero_mul, if_pos rfl, hc rfl]; simp
  · have hne : x * 2 ^ B ≠ 0 := Int.mul_ne_zero h0 (by omega)
    have hp2 := Nat.two_pow_pos B
    have hne2 : x.natAbs * 2 ^ B ≠ 0 := Nat.mul_ne_zero (by omega) (by omega)
    rw [if_neg hne, if_neg hne2, if_neg (by omega), rung_up _ _ _ (by omega : x.natAbs ≠ 0), show -(B : Int) + B = 0 by omega]
    congr 1
    by_cases h1 : x < 0
    · rw [decide_eq_true h1, decide_eq_true (Int.mul_neg_of_neg_of_pos h1 hp)]
    · rw [decide_eq_false h1, decide_eq_false (by have := Int.mul_nonneg (show 0 ≤ x by omega) (Int.le_of_lt hp); omega)]
theorem whole_sum (m n : Int) (hm : m.natAbs < 2 ^ 53) (hn : n.natAbs < 2 ^ 53) :
    told ((dat (decide (m < 0)) (wr m)).sum (dat (decide (n < 0)) (wr n))) = ofv (m + n) ∧
    told ((dat (decide (m < 0)) (wr m)).sum (dat (decide (n < 0)) (wr n)).opposite) = ofv (m - n) := by
  obtain ⟨K, e1, _⟩ := wr_dat m hm
  obtain ⟨L, e2, _⟩ := wr_dat n hn
  rw [e1, e2]
  obtain ⟨B, hB⟩ : ∃ B : Nat, min (-(K : Int)) (-(L : Int)) = -(B : Int) ∧ K ≤ B ∧ L ≤ B := ⟨max K L, by omega, by omega, by omega⟩
  obtain ⟨hB, hK, hL⟩ := hB
  constructor
  · show told (some (.number (if Ieee.signed _ _ (-(K : Int) - min (-(K : Int)) (-(L : Int))).toNat + Ieee.signed _ _ (-(L : Int) - min (-(K : Int)) (-(L : Int))).toNat = 0 then _ else _) _ (min (-(K : Int)) (-(L : Int))))) = _
    rw [hB, show (-(K : Int) - -(B : Int)).toNat = B - K by omega, show (-(L : Int) - -(B : Int)).toNat = B - L by omega, sg_int m K B hK, sg_int n L B hL, ← Int.add_mul]
    refine told_total (m + n) B _ (fun h => ?_)
    by_cases h1 : m < 0
    · rw [decide_eq_false (show ¬ n < 0 by omega), Bool.and_false]
    · rw [decide_eq_false h1, Bool.false_and]
  · show told (some (.number (if Ieee.signed _ _ (-(K : Int) - min (-(K : Int)) (-(L : Int))).toNat + Ieee.signed (!_) _ (-(L : Int) - min (-(K : Int)) (-(L : Int))).toNat = 0 then _ else _) _ (min (-(K : Int)) (-(L : Int))))) = _
    rw [hB, show (-(K : Int) - -(B : Int)).toNat = B - K by omega, show (-(L : Int) - -(B : Int)).toNat = B - L by omega, signed_not, sg_int m K B hK, sg_int n L B hL, ← Int.sub_eq_add_neg, ← Int.sub_mul]
    refine told_total (m - n) B _ (fun h => ?_)
    by_cases h1 : m < 0
    · rw [decide_eq_true (show n < 0 by omega), Bool.not_true, Bool.and_false]
    · rw [decide_eq_false h1, Bool.false_and]
theorem whole_product (m n : Int) (hm0 : m ≠ 0) (hn0 : n ≠ 0) (hm : m.natAbs < 2 ^ 53) (hn : n.natAbs < 2 ^ 53) :
    told ((dat (decide (m < 0)) (wr m)).product (dat (decide (n < 0)) (wr n))) = ofv (m * n) := by
  obtain ⟨K, e1, _⟩ := wr_dat m hm
  obtain ⟨L, e2, _⟩ := wr_dat n hn
  rw [e1, e2]
  show toI (decide (m < 0) ^^ decide (n < 0)) (if m.natAbs * 2 ^ K * (n.natAbs * 2 ^ L) = 0 then 0 else rung (m.natAbs * 2 ^ K * (n.natAbs * 2 ^ L)) (-(K : Int) + -(L : Int))) = _
  have hx : m.natAbs * 2 ^ K * (n.natAbs * 2 ^ L) = (m * n).natAbs * 2 ^ (K + L) := by
    rw [Int.natAbs_mul, Nat.pow_add]; simp only [Nat.mul_left_comm, Nat.mul_assoc]
  have hne : (m * n).natAbs ≠ 0 := by rw [Int.natAbs_mul]; exact Nat.mul_ne_zero (by omega) (by omega)
  have hp2 := Nat.two_pow_pos (K + L)
  unfold ofv wr
  rw [hx, if_neg (Nat.mul_ne_zero hne (by omega)), if_neg hne, rung_up _ _ _ hne, show -(K : Int) + -(L : Int) + ((K + L : Nat) : Int) = 0 by omega]
  congr 1
  by_cases h1 : m < 0
  · by_cases h2 : n < 0
    · rw [decide_eq_true h1, decide_eq_true h2, decide_eq_false (by have := Int.mul_pos_of_neg_of_neg h1 h2; omega)]; rfl
    · rw [decide_eq_true h1, decide_eq_false h2, decide_eq_true (Int.mul_neg_of_neg_of_pos h1 (by omega))]; rfl
  · by_cases h2 : n < 0
    · rw [decide_eq_false h1, decide_eq_true h2, decide_eq_true (Int.mul_neg_of_pos_of_neg (by omega) h2)]; rfl
    · rw [decide_eq_false h1, decide_eq_false h2, decide_eq_false (by have := Int.mul_pos (show 0 < m by omega) (show 0 < n by omega); omega)]; rfl
theorem sval_whole (n : Int) (h : n.natAbs < 2 ^ 53) : (if decide (n < 0) then -(val (wr n) : Int) else val (wr n)) = n * (huge : Int) := by
  rw [(wr_val n h).1]
  by_cases h1 : n < 0
  · rw [decide_eq_true h1, if_pos rfl]; push_cast; rw [← Int.neg_mul]; congr 1; omega
  · rw [decide_eq_false h1, if_neg (by decide)]; push_cast; congr 1; omega
theorem huge_pos : (0 : Int) < (huge : Int) := by have : 0 < huge := by decide +kernel
                                                  omega
theorem whole_places (m n : Int) (hm : m.natAbs < 2 ^ 53) (hn : n.natAbs < 2 ^ 53) :
    (place (decide (m < 0)) (wr m) < place (decide (n < 0)) (wr n) ↔ m < n) ∧ (place (decide (m < 0)) (wr m) = place (decide (n < 0)) (wr n) ↔ m = n) := by
  rw [← sval_lt, ← sval_eq, sval_whole m hm, sval_whole n hn]
  refine ⟨⟨fun h => Int.lt_of_mul_lt_mul_right h (Int.le_of_lt huge_pos), fun h => Int.mul_lt_mul_of_pos_right h huge_pos⟩, ⟨fun h => Int.eq_of_mul_eq_mul_right (by have := huge_pos; omega) h, fun h => by rw [h]⟩⟩
theorem fcut_of (s : Bool) (p m : Nat) (i : Int) (hp : p < 2 ^ 63) (hd : dat s p = .number s m i) :
    fcut (Ieee.double.word s p) = Ieee.double.word s (if m * 2 ^ i.toNat / 2 ^ (-i).toNat = 0 then 0 else rung (m * 2 ^ i.toNat / 2 ^ (-i).toNat) 0) := by
  unfold fcut
  rw [read_word s p hp, hd]
  show Ieee.double.nearest s (Ieee.Toward.zero.cut s (m <<< i.toNat) (-i).toNat) 0 = _
  rw [nearest_eq, cut_zero, Nat.shiftLeft_eq]
theorem whole_trunc (n : Int) (h : n.natAbs ≤ 67108864) : flt_Trunc.f (ofv n) = some (n, true) := by
  obtain ⟨K, e, _⟩ := wr_dat n (by omega)
  have hlt := wr_val n (by omega)
  have hc := fcut_of _ _ _ _ (by omega) e
  rw [show (-(K : Int)).toNat = 0 by omega, show (-(-(K : Int))).toNat = K by omega, Nat.pow_zero, Nat.mul_one, Nat.mul_div_cancel _ (Nat.two_pow_pos K)] at hc
  have := trunc_of (decide (n < 0)) (wr n) n.natAbs (by omega) (by omega) hc
  unfold ofv
  rw [this]
  have hv : (if decide (n < 0) then -((n.natAbs : Nat) : Int) else ((n.natAbs : Nat) : Int)) = n := by
    by_cases h1 : n < 0
    · rw [decide_eq_true h1, if_pos rfl]; omega
    · rw [decide_eq_false h1, if_neg (by decide)]; omega
  rw [hv, if_neg (by omega)]

theorem rne_bounds (n d x y : Nat) (hd : 0 < d) (h1 : x * d ≤ n) (h2 : n ≤ y * d) : x ≤ rne n d ∧ rne n d ≤ y := by
  have a1 : x ≤ n / d := (Nat.le_div_iff_mul_le hd).2 h1
  have a2 : n / d ≤ y := Nat.div_le_of_le_mul (by rw [Nat.mul_comm]; exact h2)
  unfold rne
  refine ⟨by omega, ?_⟩
  by_cases h : n / d = y
  · have hm : n % d = 0 := by
      have := Nat.div_add_mod n d
      rw [h, Nat.mul_comm] at this
      omega
    rw [hm, if_neg (by omega)]; omega
  · split <;> omega
/-- What a number of at least 53 bits is rounded to. -/
theorem rung_rep (u : Bool) (mag : Nat) (pl : Int) (h0 : mag ≠ 0) (hl : 52 ≤ mag.log2) (h1 : -1074 ≤ pl + mag.log2 - 52) (h2 : pl + mag.log2 - 52 ≤ 900) :
    ∃ M I, dat u (rung mag pl) = .number u M I ∧ rung mag pl < 2047 * 2 ^ 52 ∧
      ((M = rne mag (2 ^ (mag.log2 - 52)) ∧ I = pl + (mag.log2 - 52 : Nat)) ∨ (rne mag (2 ^ (mag.log2 - 52)) = 2 ^ 53 ∧ M = 2 ^ 52 ∧ I = pl + (mag.log2 - 52 : Nat) + 1)) := by
  have hlog := (Nat.log2_eq_iff (k := mag.log2) h0).1 rfl
  obtain ⟨d, hd⟩ : ∃ d, mag.log2 = 52 + d := ⟨mag.log2 - 52, by omega⟩
  rw [hd] at hlog
  have hp := Nat.two_pow_pos d
  have hb := rne_bounds mag (2 ^ d) (2 ^ 52) (2 ^ 53) hp (by rw [← Nat.pow_add]; exact hlog.1) (by rw [← Nat.pow_add, show 53 + d = 52 + d + 1 by omega]; omega)
  have hr : rung mag pl = (pl + d + 1074).toNat * 2 ^ 52 + rne mag (2 ^ d) := by
    unfold rung
    rw [hd, show max (pl + ((52 + d : Nat) : Int) - 52) (-1074) = pl + d by omega]
    simp only []
    rw [show (pl - (pl + (d : Int))).toNat = 0 by omega, show (pl + (d : Int) - pl).toNat = d by omega, Nat.pow_zero, Nat.mul_one]
    omega
  rw [hr, hd, show 52 + d - 52 = d by omega]
  generalize rne mag (2 ^ d) = kept at *
  obtain ⟨x, hx⟩ : ∃ x : Nat, pl + d = x - 1074 := ⟨(pl + d + 1074).toNat, by omega⟩
  rw [hx, show ((x : Int) - 1074 + 1074).toNat = x by omega]
  obtain ⟨q, hq⟩ : ∃ q, q = x * 2 ^ 52 + kept := ⟨_, rfl⟩
  rw [← hq]
  by_cases hk : kept = 2 ^ 53
  · subst hk
    refine ⟨2 ^ 52, (x : Int) - 1074 + 1, ?_, by omega, .inr ⟨rfl, rfl, rfl⟩⟩
    unfold dat
    rw [if_neg (by omega), if_pos (by omega)]
    congr 1
    · omega
    · omega
  · refine ⟨kept, (x : Int) - 1074, ?_, by omega, .inl ⟨rfl, rfl⟩⟩
    unfold dat
    rw [if_neg (by omega), if_pos (by omega)]
    congr 1
    · omega
    · omega

theorem whole_quot (m n : Int) (hm : m.natAbs ≤ 67108864) (hn : n.natAbs ≤ 67108864) (hn0 : n ≠ 0) :
    flt_Trunc.f (told ((dat (decide (m < 0)) (wr m)).quotient 54 (dat (decide (n < 0)) (wr n)))) = some (Int.tdiv m n, true) := by
  obtain ⟨K, e1, hK⟩ := wr_dat m (by omega)
  obtain ⟨L, e2, hL⟩ := wr_dat n (by omega)
  obtain ⟨hL1, hL2, hL3⟩ := hL hn0
  have fin : ∀ R, R ≤ 2047 * 2 ^ 52 → fcut (Ieee.double.word (decide (m < 0) ^^ decide (n < 0)) R) = Ieee.double.word (decide (m < 0) ^^ decide (n < 0)) (if m.natAbs / n.natAbs = 0 then 0 else rung (m.natAbs / n.natAbs) 0) →
      flt_Trunc.f (toI (decide (m < 0) ^^ decide (n < 0)) R) = some (Int.tdiv m n, true) := by
    intro R hR hc
    have hdl : m.natAbs / n.natAbs ≤ m.natAbs := Nat.div_le_self _ _
    rw [trunc_of _ R (m.natAbs / n.natAbs) hR (by omega) hc]
    have hv : (if (decide (m < 0) ^^ decide (n < 0)) = true then -((m.natAbs / n.natAbs : Nat) : Int) else ((m.natAbs / n.natAbs : Nat) : Int)) = Int.tdiv m n := by
      obtain ⟨a, ha⟩ : ∃ a : Nat, m.natAbs = a := ⟨_, rfl⟩
      obtain ⟨b, hb⟩ : ∃ b : Nat, n.natAbs = b := ⟨_, rfl⟩
      rw [ha, hb]
      by_cases h1 : m < 0
      · have hma : m = -(a : Int) := by omega
        by_cases h2 : n < 0
        · have hnb : n = -(b : Int) := by omega
          rw [decide_eq_true h1, decide_eq_true h2, hma, hnb, Int.neg_tdiv, Int.tdiv_neg, Int.neg_neg]; rfl
        · have hnb : n = (b : Int) := by omega
          rw [decide_eq_true h1, decide_eq_false h2, hma, hnb, Int.neg_tdiv]; rfl
      · have hma : m = (a : Int) := by omega
        by_cases h2 : n < 0
        · have hnb : n = -(b : Int) := by omega
          rw [decide_eq_false h1, decide_eq_true h2, hma, hnb, Int.tdiv_neg]; rfl
        · have hnb : n = (b : Int) := by omega
          rw [decide_eq_false h1, decide_eq_false h2, hma, hnb]; rfl
    generalize m.natAbs / n.natAbs = q at *
    have hnot : ¬ ((if (decide (m < 0) ^^ decide (n < 0)) = true then -(q : Int) else (q : Int)) < -1073741824 ∨ 1073741824 ≤ (if (decide (m < 0) ^^ decide (n < 0)) = true then -(q : Int) else (q : Int))) := by
      clear hv hc hK hL e1 e2
      split <;> omega
    rw [if_neg hnot, hv]
  rw [e1, e2]
  have hbl := Nat.two_pow_pos L
  have hne2 : n.natAbs * 2 ^ L ≠ 0 := Nat.mul_ne_zero (by omega) (by omega)
  have hq : (Datum.number (decide (m < 0)) (m.natAbs * 2 ^ K) (-(K : Int))).quotient 54 (.number (decide (n < 0)) (n.natAbs * 2 ^ L) (-(L : Int))) =
      some (.number (decide (m < 0) ^^ decide (n < 0)) (2 * (((m.natAbs * 2 ^ K) <<< (54 + (n.natAbs * 2 ^ L).log2 - (m.natAbs * 2 ^ K).log2)) / (n.natAbs * 2 ^ L)) + (((m.natAbs * 2 ^ K) <<< (54 + (n.natAbs * 2 ^ L).log2 - (m.natAbs * 2 ^ K).log2)) % (n.natAbs * 2 ^ L) != 0).toNat) (-(K : Int) - -(L : Int) - (54 + (n.natAbs * 2 ^ L).log2 - (m.natAbs * 2 ^ K).log2 : Nat) - 1)) := by
    unfold Datum.quotient
    simp only [if_neg hne2]
  rw [hq]
  by_cases hm0 : m = 0
  · rw [told_number]
    have z : m.natAbs = 0 := by omega
    rw [z, Nat.zero_mul, Nat.zero_shiftLeft, Nat.zero_div, Nat.zero_mod]
    have hz : ((0 : Nat) != 0).toNat = 0 := rfl
    rw [hz, if_pos (by omega)]
    refine fin 0 (by omega) ?_
    rw [z, Nat.zero_div, if_pos rfl]
    have := fcut_of (decide (m < 0) ^^ decide (n < 0)) 0 0 (-1074) (by omega) rfl
    rw [Nat.zero_mul, Nat.zero_div, if_pos rfl] at this
    exact this
  obtain ⟨hK1, hK2, hK3⟩ := hK hm0
  have lm : (m.natAbs * 2 ^ K).log2 = 52 := (Nat.log2_eq_iff (by omega)).2 ⟨hK2, hK3⟩
  have ln : (n.natAbs * 2 ^ L).log2 = 52 := (Nat.log2_eq_iff (by omega)).2 ⟨hL2, hL3⟩
  rw [lm, ln, show 54 + 52 - 52 = 54 by decide, Nat.shiftLeft_eq]
  have ha : m.natAbs ≠ 0 := by omega
  have hb : 0 < n.natAbs := by omega
  generalize hA : m.natAbs = a at *
  generalize hB : n.natAbs = b at *
  have K26 : 26 ≤ K := by
    apply Classical.byContradiction; intro hc
    have h1 : 2 ^ K ≤ 2 ^ 25 := Nat.pow_le_pow_right (by omega) (by omega)
    have h2 := Nat.mul_le_mul hm h1
    omega
  obtain ⟨h, hh⟩ : ∃ h, K + 54 = h + L := ⟨K + 54 - L, by omega⟩
  have h28 : 28 ≤ h := by omega
  have ex : a * 2 ^ K * 2 ^ 54 = a * 2 ^ h * 2 ^ L := by
    rw [Nat.mul_assoc, ← Nat.pow_add, hh, Nat.pow_add, Nat.mul_assoc]
  rw [ex, Nat.mul_div_mul_right _ _ hbl, Nat.mul_mod_mul_right]
  have hst : (a * 2 ^ h % b * 2 ^ L != 0).toNat = if a * 2 ^ h % b = 0 then 0 else 1 := by
    by_cases hz : a * 2 ^ h % b = 0
    · rw [if_pos hz, hz, Nat.zero_mul]; rfl
    · rw [if_neg hz, bne_iff_ne.2 (Nat.mul_ne_zero hz (by omega))]; rfl
  rw [hst, show -(K : Int) - -(L : Int) - ((54 : Nat) : Int) - 1 = -((h : Int) + 1) by omega]
  clear hq hst ex lm ln hK hL e1 e2 hne2
  -- the bits before rounding
  have hph := Nat.two_pow_pos h
  have hdm := Nat.div_add_mod (a * 2 ^ h) b
  have hdmf := Nat.div_add_mod a b
  have hmodf := Nat.mod_lt a hb
  have hmodQ := Nat.mod_lt (a * 2 ^ h) hb
  have flo : a / b * 2 ^ h ≤ a * 2 ^ h / b := by
    rw [Nat.le_div_iff_mul_le hb, Nat.mul_right_comm]
    exact Nat.mul_le_mul_right _ (Nat.div_mul_le_self a b)
  have Qlo : 2 ^ 53 ≤ a * 2 ^ h / b := by
    rw [Nat.le_div_iff_mul_le hb]
    have x1 : 2 ^ 53 * (b * 2 ^ L) ≤ 2 ^ 54 * (a * 2 ^ K) := by omega
    rw [show 2 ^ 54 * (a * 2 ^ K) = a * 2 ^ h * 2 ^ L by rw [Nat.mul_left_comm, Nat.mul_comm (2 ^ 54), ← Nat.pow_add, hh, Nat.pow_add, Nat.mul_assoc], ← Nat.mul_assoc] at x1
    exact Nat.le_of_mul_le_mul_right x1 hbl
  generalize hQ : a * 2 ^ h / b = Q at *
  have stle : (if a * 2 ^ h % b = 0 then 0 else 1) ≤ 1 := by split <;> omega
  obtain ⟨mag, hmag⟩ : ∃ mag, mag = 2 * Q + (if a * 2 ^ h % b = 0 then 0 else 1) := ⟨_, rfl⟩
  rw [← hmag, told_number, if_neg (by omega)]
  have hmag0 : mag ≠ 0 := by omega
  have hl53 : 54 ≤ mag.log2 := le_log2 (by omega)
  have hlog := (Nat.log2_eq_iff (k := mag.log2) hmag0).1 rfl
  obtain ⟨d, hd⟩ : ∃ d, mag.log2 = 52 + d := ⟨mag.log2 - 52, by omega⟩
  rw [hd] at hlog
  have hpd := Nat.two_pow_pos d
  have Qup : b * Q ≤ a * 2 ^ h := by omega
  -- how great the last digit is
  have small : b * 2 ^ d * 2 ^ 52 ≤ 2 * (a * 2 ^ h) + b := by
    have x1 : 2 ^ (52 + d) ≤ 2 * Q + 1 := by omega
    have x2 := Nat.mul_le_mul_left b x1
    rw [Nat.pow_add] at x2
    have x3 : b * (2 * Q + 1) = 2 * (b * Q) + b := by rw [Nat.mul_add, Nat.mul_left_comm]; omega
    have x4 : b * (2 ^ 52 * 2 ^ d) = b * 2 ^ d * 2 ^ 52 := by rw [Nat.mul_comm (2 ^ 52), Nat.mul_assoc]
    omega
  have hah : a * 2 ^ h ≤ 67108864 * 2 ^ h := Nat.mul_le_mul_right _ hm
  have hd2 : b * 2 ^ d + b ≤ 2 * 2 ^ h := by
    have : 2 ^ 28 ≤ 2 ^ h := Nat.pow_le_pow_right (by omega) h28
    omega
  have dle : d ≤ h := by
    apply Classical.byContradiction; intro hc
    have x1 : 2 * 2 ^ h ≤ 2 ^ d := by rw [Nat.mul_comm, ← Nat.pow_succ]; exact Nat.pow_le_pow_right (by omega) (by omega)
    have x2 : 2 ^ d ≤ b * 2 ^ d := Nat.le_mul_of_pos_left _ hb
    omega
  obtain ⟨v, hv⟩ : ∃ v, h + 1 = v + 1 + d := ⟨h - d, by omega⟩
  have hp1 : 2 ^ (h + 1) = 2 ^ (v + 1) * 2 ^ d := by rw [hv, Nat.pow_add]
  have hp2 : 2 ^ (h + 1) = 2 * 2 ^ h := by rw [Nat.pow_succ]; omega
  have lo : a / b * 2 ^ (v + 1) * 2 ^ d ≤ mag := by
    rw [Nat.mul_assoc, ← hp1, hp2, Nat.mul_left_comm]; omega
  have up : mag ≤ (((a / b + 1) * 2 ^ (v + 1)) - 1) * 2 ^ d := by
    rw [Nat.sub_mul, Nat.mul_assoc, ← hp1, hp2, Nat.one_mul]
    have key : mag + 2 ^ d ≤ (a / b + 1) * (2 * 2 ^ h) := by
      apply Nat.le_of_mul_le_mul_left _ hb
      have y1 : b * ((a / b + 1) * (2 * 2 ^ h)) = 2 * ((b * (a / b) + b) * 2 ^ h) := by
        rw [← Nat.mul_assoc, Nat.mul_add, Nat.mul_one, Nat.mul_left_comm]
      have y2 : b * (mag + 2 ^ d) = b * mag + b * 2 ^ d := Nat.mul_add _ _ _
      by_cases hz : a * 2 ^ h % b = 0
      · rw [if_pos hz, Nat.add_zero] at hmag
        have y3 : b * mag = 2 * (b * Q) := by rw [hmag, Nat.mul_left_comm]
        have y4 : (a + 1) * 2 ^ h ≤ (b * (a / b) + b) * 2 ^ h := Nat.mul_le_mul_right _ (by omega)
        rw [Nat.add_mul, Nat.one_mul] at y4
        omega
      · rw [if_neg hz] at hmag
        have y3 : b * mag = 2 * (b * Q) + b := by rw [hmag, Nat.mul_add, Nat.mul_left_comm]; omega
        have y4 : (a + 1) * 2 ^ h ≤ (b * (a / b) + b) * 2 ^ h := Nat.mul_le_mul_right _ (by omega)
        rw [Nat.add_mul, Nat.one_mul] at y4
        omega
    omega
  have hkept := rne_bounds mag (2 ^ d) _ _ hpd lo up
  have hhi : h ≤ 106 := by omega
  obtain ⟨M, I, hdat, hRlt, hMI⟩ := rung_rep (decide (m < 0) ^^ decide (n < 0)) mag (-((h : Int) + 1)) hmag0 (by omega) (by omega) (by omega)
  rw [hd, show 52 + d - 52 = d by omega] at hMI
  refine fin _ (Nat.le_of_lt hRlt) ?_
  have hc := fcut_of _ _ _ _ (by omega) hdat
  rw [hc]
  have hpv := Nat.two_pow_pos v
  have hpos : 0 < (a / b + 1) * 2 ^ (v + 1) := Nat.mul_pos (Nat.succ_pos _) (Nat.two_pow_pos _)
  have fl : rne mag (2 ^ d) / 2 ^ (v + 1) = a / b := Nat.div_eq_of_lt_le hkept.1 (Nat.lt_of_le_of_lt hkept.2 (Nat.sub_lt hpos (by omega)))
  have : M * 2 ^ I.toNat / 2 ^ (-I).toNat = a / b := by
    rcases hMI with ⟨rfl, rfl⟩ | ⟨h1, rfl, rfl⟩
    · rw [show (-((h : Int) + 1) + ((d : Nat) : Int)).toNat = 0 by omega, show (-(-((h : Int) + 1) + ((d : Nat) : Int))).toNat = v + 1 by omega, Nat.pow_zero, Nat.mul_one]
      exact fl
    · rw [show (-((h : Int) + 1) + ((d : Nat) : Int) + 1).toNat = 0 by omega, show (-(-((h : Int) + 1) + ((d : Nat) : Int) + 1)).toNat = v by omega, Nat.pow_zero, Nat.mul_one]
      rw [h1, Nat.pow_succ 2 52, Nat.pow_succ 2 v, Nat.mul_div_mul_right _ _ (by omega)] at fl
      exact fl
  rw [this]
end Go.Proofs.Ytbnpodkfcfdpeaa.FA
namespace Go.Proofs.Ytbnpodkfcfdpeaa.Pure
open Go.RowKit Go.Proofs.Ytbnpodkfcfdpeaa.PFlt Go.Proofs.YtbnpodkfcfdpeaaW.PrintWords Go.Proofs.YtbnpodkfcfdpeaaW.PrintLast FM Go.Proofs.Ytbnpodkfcfdpeaa.FA
theorem FltWhole : anamnesislaw02_FltWhole.Pure := by
  intro m n hm hn
  refine ⟨10, ?_⟩
  unfold anamnesislaw02_FltWhole.f
  have hf : anamnesislaw02_fixed.f = some true := rfl
  have ff : ¬ (false = true) := by decide
  rw [hf, Option.bind_some]
  have out : anamnesislaw02_FltWhole.j0 10 m n true = some true := by
    rw [anamnesislaw02_FltWhole.j0, if_pos rfl, hf, Option.bind_some]
  by_cases h1 : m < -67108864
  · rw [if_pos h1, out]
  rw [if_neg h1]
  by_cases h2 : m > 67108864
  · rw [if_pos h2, out]
  rw [if_neg h2]
  by_cases h3 : n < -67108864
  · rw [if_pos h3, out]
  rw [if_neg h3]
  by_cases h4 : n > 67108864
  · rw [decide_eq_true h4, out]
  rw [decide_eq_false h4]
  clear out
  have hmn : m * n ≤ 4503599627370496 ∧ -4503599627370496 ≤ m * n := by
    have := Int.natAbs_mul m n
    have h5 : m.natAbs * n.natAbs ≤ 67108864 * 67108864 := Nat.mul_le_mul (by omega) (by omega)
    omega
  have pm := wr_lt m
  have pn := wr_lt n
  have opf : ∀ o, 0 ≤ o → o < 4 → flt_Op.f o (ofv m) (ofv n) = some (told (opd o (dat (decide (m < 0)) (wr m)) (dat (decide (n < 0)) (wr n)))) := fun o a b => Op_flt o a b _ _ _ _ (by omega) (by omega)
  have o0 : ∀ d e, opd 0 d e = d.sum e := fun d e => rfl
  have o1 : ∀ d e, opd 1 d e = d.sum e.opposite := fun d e => rfl
  have o2 : ∀ d e, opd 2 d e = d.product e := fun d e => rfl
  have o3 : ∀ d e, opd 3 d e = d.quotient 54 e := fun d e => rfl
  have hs := whole_sum m n (by omega) (by omega)
  have pl := whole_places m n (by omega) (by omega)
  have nb : ∀ x : Bool, (!x == x) = false := by decide
  have hless : flt_Less.f (ofv m) (ofv n) = some (decide (m < n)) := by
    unfold ofv
    rw [less_toI _ _ _ _ (by omega) (by omega)]
    congr 1
    apply decide_eq_decide.2
    rw [pl.1]
    exact ⟨fun h => h.2.2, fun h => ⟨pm, pn, h⟩⟩
  have hequal : flt_Equal.f (ofv m) (ofv n) = some (m == n) := by
    unfold ofv
    rw [equal_toI _ _ _ _ (by omega) (by omega)]
    congr 1
    rw [Bool.eq_iff_iff, decide_eq_true_eq, beq_iff_eq, pl.2]
    exact ⟨fun h => h.2.2, fun h => ⟨pm, pn, h⟩⟩
  rw [anamnesislaw02_FltWhole.j0, if_neg ff, Of_whole m (by omega) (by omega), Of_whole n (by omega) (by omega), Option.bind_some, Option.bind_some, whole_trunc m (by omega), Option.bind_some]
  dsimp only
  rw [if_pos rfl, if_pos rfl, opf 0 (by omega) (by omega), Option.bind_some, w64 (n := m + n) (by omega) (by omega), Of_whole (m + n) (by omega) (by omega), Option.bind_some, o0, hs.1, if_pos rfl,
    opf 1 (by omega) (by omega), Option.bind_some, w64 (n := m - n) (by omega) (by omega), Of_whole (m - n) (by omega) (by omega), Option.bind_some, o1, hs.2, if_pos rfl, hless, Option.bind_some, nb, if_neg ff, hequal, Option.bind_some, nb,
    anamnesislaw02_FltWhole.j1, if_neg ff]
  have last : anamnesislaw02_FltWhole.j2 8 m n (ofv m) (ofv n) false = some true := by
    rw [anamnesislaw02_FltWhole.j2, if_neg ff]
    by_cases hn0 : n = 0
    · rw [if_pos hn0]
    rw [if_neg hn0, opf 3 (by omega) (by omega), Option.bind_some, o3, whole_quot m n (by omega) (by omega) hn0, Option.bind_some]
    dsimp only
    have hq : (Int.tdiv m n).natAbs ≤ m.natAbs := by rw [Int.natAbs_tdiv]; exact Nat.div_le_self _ _
    have hw : wrap64 (Int.tdiv m n) = Int.tdiv m n := by
      generalize Int.tdiv m n = q at hq ⊢
      exact w64 (by omega) (by omega)
    rw [if_pos rfl, hw, beq_self_eq_true]
  by_cases hm0 : m = 0
  · rw [if_pos hm0]; exact last
  rw [if_neg hm0]
  by_cases hn0 : n = 0
  · rw [if_pos hn0]; exact last
  rw [if_neg hn0, opf 2 (by omega) (by omega), Option.bind_some, w64 (n := m * n) (by omega) (by omega), Of_whole (m * n) (by omega) (by omega), Option.bind_some, o2, whole_product m n hm0 hn0 (by omega) (by omega), bne_self_eq_false]
  exact last
end Go.Proofs.Ytbnpodkfcfdpeaa.Pure
