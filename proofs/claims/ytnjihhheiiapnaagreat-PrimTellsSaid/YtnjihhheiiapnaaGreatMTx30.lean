/- What the statements' walks need. -/
import Derived.Test.YtnjihhheiiapnaaGreatMTa4
import Derived.Test.YtnjihhheiiapnaaGreatMTx29
import Derived.Test.YtnjihhheiiapnaaGreatMTx21
set_option linter.unusedVariables false
set_option linter.unusedSimpArgs false
set_option maxRecDepth 100000
namespace Go.Proofs.YtnjihhheiiapnaaGreat
open Go Go.RowKit Go.Proofs FM
set_option maxHeartbeats 4000000
structure Aside0 (p : Prop) : Prop where
  out : p
theorem w64i {n : Int} (h1 : -9223372036854775808 ≤ n) (h2 : n ≤ 9223372036854775807) : IntKind.i64.wrap n = n := by rw [IntKind.wrap_i64]; omega
theorem i64_w (n : Int) : IntKind.i64.wrap n = IntKind.i64.wrap n := rfl
def flt_Op.f (a0 a1 a2 : Int) : Option Int := some (
  if a0 = 0 then fres (Ieee.double.add (fbits a1) (fbits a2)) else if a0 = 1 then fres (Ieee.double.sub (fbits a1) (fbits a2))
  else if a0 = 2 then fres (Ieee.double.mul (fbits a1) (fbits a2)) else if a0 = 3 then fres (Ieee.double.div (fbits a1) (fbits a2)) else 9221120237041090561)
def flt_Of.f (a0 : Int) : Option Int := .some (if a0 < -9007199254740992 then 9221120237041090561 else if 9007199254740992 < a0 then 9221120237041090561 else fcan (floatOfInt .f64 a0))
theorem sign_eq (s : Bool) (p : Nat) (h : p < 2 ^ 63) : anamnesisref02_sign.f (toI s p) = some s := by
  unfold anamnesisref02_sign.f
  have := toI_lt s p h
  cases s
  · rw [decide_eq_false (by simpa using this)]
  · rw [decide_eq_true (by simpa using this)]
theorem and_mask (a : Int) : Go.bits .and .i64 a 9223372036854775807 = a % 9223372036854775808 := by
  unfold Go.bits
  simp only [BitVec.toNat_and, BitVec.toNat_ofInt, show IntKind.i64.bits = 64 from rfl]
  have e2 : (9223372036854775807 % ((2 ^ 64 : Nat) : Int)).toNat = 2 ^ 63 - 1 := by decide
  rw [e2, Nat.and_two_pow_sub_one_eq_mod]
  have : ((a % ((2 ^ 64 : Nat) : Int)).toNat % 2 ^ 63 : Nat) = (a % 9223372036854775808).toNat := by omega
  rw [this, i64_w, w64i (by omega) (by omega)]
  omega
theorem plain_eq (s : Bool) (p : Nat) (h : p < 2 ^ 63) : anamnesisref02_plain.f (toI s p) = some (p : Int) := by
  unfold anamnesisref02_plain.f anamnesisref02_most.f
  rw [Option.bind_some, and_mask]
  unfold toI
  congr 1
  cases s
  · rw [if_neg (by decide)]; omega
  · rw [if_pos rfl]; omega
def kindOf (p : Nat) : Int := if p < 2047 * 2 ^ 52 then (if p = 0 then 2 else if p < 2 ^ 52 then 3 else 4) else if p = 2047 * 2 ^ 52 then 1 else 0
theorem Kind_eq (s : Bool) (p : Nat) (h : p < 2 ^ 63) : anamnesisref02_Kind.f (toI s p) = some (kindOf p) := by
  unfold anamnesisref02_Kind.f
  rw [plain_eq s p h]
  simp only [Option.bind_some]
  unfold kindOf
  have ht : Int.tmod (p : Int) 4503599627370496 = (p : Int) % 4503599627370496 := Int.tmod_eq_emod_of_nonneg (by omega)
  rw [ht]
  by_cases h1 : p < 2047 * 2 ^ 52
  · rw [if_pos h1, if_neg (by omega)]
    by_cases h2 : p = 0
    · subst h2; rfl
    rw [if_neg h2]
    by_cases h3 : p < 2 ^ 52
    · rw [if_neg (by omega), if_pos (by omega), if_pos h3]
    · rw [if_pos (by omega), if_neg h3]
  · rw [if_neg h1, if_pos (by omega)]
    by_cases h2 : p = 2047 * 2 ^ 52
    · rw [if_pos (by omega), if_pos h2]
    · rw [if_neg (by omega), if_neg h2]
theorem with_eq (s : Bool) (p : Nat) (h : p < 2 ^ 63) : anamnesisref02_with.f s (p : Int) = some (toI s p) := by
  unfold anamnesisref02_with.f anamnesisref02_most.f toI
  cases s
  · rw [if_neg (by decide), if_neg (by decide)]
  · rw [if_pos rfl, if_pos rfl, Option.bind_some, w64i (n := (p : Int) - 9223372036854775807) (by omega) (by omega), w64i (by omega) (by omega)]
    congr 1; omega
theorem part_loop (l : Nat) : ∀ (k f : Nat) (e : Int), l < k → 2 ^ 52 ≤ f * 2 ^ l → f * 2 ^ l < 2 ^ 53 → (l = 0 ∨ f * 2 ^ (l - 1) < 2 ^ 52) → -3000 ≤ e - l → e ≤ 3000 →
    anamnesisref02_part.l0 k (f : Int) e = some (((f * 2 ^ l : Nat) : Int), e - l) := by
  induction l with
  | zero =>
    intro k f e hk h1 h2 _ _ _
    obtain ⟨k, rfl⟩ : ∃ m, k = m + 1 := ⟨k - 1, by omega⟩
    simp only [anamnesisref02_part.l0]
    rw [if_neg (by omega)]; simp
  | succ l ih =>
    intro k f e hk h1 h2 h3 h4 h5
    obtain ⟨k, rfl⟩ : ∃ m, k = m + 1 := ⟨k - 1, by omega⟩
    simp only [anamnesisref02_part.l0]
    have hp := Nat.two_pow_pos l
    have h3 : f * 2 ^ l < 2 ^ 52 := by
      rcases h3 with h | h
      · omega
      · exact h
    have hf : f ≤ f * 2 ^ l := Nat.le_mul_of_pos_right _ hp
    rw [if_pos (by omega), w64i (by omega) (by omega), w64i (by omega) (by omega)]
    have e1 : 2 * f * 2 ^ l = f * 2 ^ (l + 1) := by rw [Nat.pow_succ, Nat.mul_comm 2 f, Nat.mul_assoc, Nat.mul_comm 2]
    have := ih k (2 * f) (e - 1) (by omega) (by rw [e1]; exact h1) (by rw [e1]; exact h2) (by
      cases l with
      | zero => left; rfl
      | succ l => right; rw [show l + 1 - 1 = l by omega]; rw [Nat.pow_succ] at h3; rw [Nat.mul_comm 2, Nat.mul_assoc, Nat.mul_comm 2]; exact h3) (by omega) (by omega)
    rw [e1] at this
    rw [show (2 : Int) * (f : Int) = ((2 * f : Nat) : Int) by omega, this]
    congr 2; omega
theorem part_eq (s : Bool) (p : Nat) (h0 : p ≠ 0) (h1 : p < 2047 * 2 ^ 52) : ∃ (m0 l : Nat) (e : Int),
    dat s p = .number s m0 (e + l) ∧ (∀ k, 60 ≤ k → anamnesisref02_part.f k (toI s p) = some (((m0 * 2 ^ l : Nat) : Int), e)) ∧
    2 ^ 52 ≤ m0 * 2 ^ l ∧ m0 * 2 ^ l < 2 ^ 53 ∧ l ≤ 52 ∧ -1126 ≤ e ∧ e ≤ 971 ∧ (p < 2 ^ 52 → m0 = p ∧ e = -1074 - l) ∧ (2 ^ 52 ≤ p → l = 0 ∧ m0 = 2 ^ 52 + p % 2 ^ 52 ∧ e = (p / 2 ^ 52 : Nat) - 1075) := by
  unfold dat
  by_cases h2 : p < 2 ^ 52
  · have hlog : p.log2 ≤ 51 := by have := (Nat.log2_lt h0).2 h2; omega
    have hl := (Nat.log2_eq_iff (k := p.log2) h0).1 rfl
    refine ⟨p, 52 - p.log2, -1074 - (52 - p.log2 : Nat), ?_, ?_, ?_, ?_, by omega, by omega, by omega, fun _ => ⟨rfl, rfl⟩, fun h => by omega⟩
    · rw [if_pos h2]; congr 1; omega
    · intro k hk
      unfold anamnesisref02_part.f
      rw [plain_eq s p (by omega)]
      simp only [Option.bind_some]
      rw [if_neg (by omega)]
      have ht : Int.tmod (p : Int) 4503599627370496 = (p : Int) := by rw [Int.tmod_eq_emod_of_nonneg (by omega)]; omega
      rw [ht]
      refine part_loop (52 - p.log2) k p (-1074) (by omega) ?_ ?_ ?_ (by omega) (by omega)
      · calc 2 ^ 52 = 2 ^ p.log2 * 2 ^ (52 - p.log2) := by rw [← Nat.pow_add]; congr 1; omega
          _ ≤ _ := Nat.mul_le_mul_right _ hl.1
      · calc p * 2 ^ (52 - p.log2) < 2 ^ (p.log2 + 1) * 2 ^ (52 - p.log2) := Nat.mul_lt_mul_of_pos_right hl.2 (Nat.two_pow_pos _)
          _ = 2 ^ 53 := by rw [← Nat.pow_add]; congr 1; omega
      · right
        calc p * 2 ^ (52 - p.log2 - 1) < 2 ^ (p.log2 + 1) * 2 ^ (52 - p.log2 - 1) := Nat.mul_lt_mul_of_pos_right hl.2 (Nat.two_pow_pos _)
          _ = 2 ^ 52 := by rw [← Nat.pow_add]; congr 1; omega
    · calc 2 ^ 52 = 2 ^ p.log2 * 2 ^ (52 - p.log2) := by rw [← Nat.pow_add]; congr 1; omega
        _ ≤ _ := Nat.mul_le_mul_right _ hl.1
    · calc p * 2 ^ (52 - p.log2) < 2 ^ (p.log2 + 1) * 2 ^ (52 - p.log2) := Nat.mul_lt_mul_of_pos_right hl.2 (Nat.two_pow_pos _)
        _ = 2 ^ 53 := by rw [← Nat.pow_add]; congr 1; omega
  · refine ⟨2 ^ 52 + p % 2 ^ 52, 0, (p / 2 ^ 52 : Nat) - 1075, ?_, ?_, by omega, by omega, by omega, by omega, by omega, fun h => absurd h h2, fun _ => ⟨rfl, rfl, rfl⟩⟩
    · rw [if_neg h2, if_pos h1]; congr 1; omega
    · intro k hk
      unfold anamnesisref02_part.f
      rw [plain_eq s p (by omega)]
      simp only [Option.bind_some]
      rw [if_pos (by omega)]
      have ht : Int.tmod (p : Int) 4503599627370496 = (p : Int) % 4503599627370496 := Int.tmod_eq_emod_of_nonneg (by omega)
      rw [ht, w64i (by omega) (by omega), w64i (by omega) (by omega)]
      simp only [Nat.pow_zero, Nat.mul_one]
      congr 2; omega
theorem top_loop (n : Nat) : ∀ (k m : Nat) (x : Int), n < k → m ≠ 0 → m.log2 = n → m < 2 ^ 63 → 0 ≤ x → x + n ≤ 1000 → anamnesisref02_top.l0 k (m : Int) x = some (x + n) := by
  induction n with
  | zero =>
    intro k m x hk h0 hn _ _ _
    obtain ⟨k, rfl⟩ : ∃ m, k = m + 1 := ⟨k - 1, by omega⟩
    have := ((Nat.log2_eq_iff h0).1 hn).2
    simp only [anamnesisref02_top.l0]
    rw [if_neg (by omega)]; simp
  | succ n ih =>
    intro k m x hk h0 hn hm hx hx2
    obtain ⟨k, rfl⟩ : ∃ m, k = m + 1 := ⟨k - 1, by omega⟩
    have hl := (Nat.log2_eq_iff h0).1 hn
    have hp := Nat.two_pow_pos n
    rw [Nat.pow_succ, Nat.pow_succ] at hl
    rw [Nat.pow_succ] at hl
    simp only [anamnesisref02_top.l0]
    have hd : Int.tdiv (m : Int) 2 = ((m / 2 : Nat) : Int) := by rw [Int.tdiv_eq_ediv_of_nonneg (by omega)]; omega
    rw [if_pos (by omega), hd, w64i (by omega) (by omega), w64i (by omega) (by omega)]
    have h2 : (m / 2).log2 = n := (Nat.log2_eq_iff (by omega)).2 ⟨by omega, by rw [Nat.pow_succ]; omega⟩
    rw [ih k (m / 2) (x + 1) (by omega) (by omega) h2 (by omega) (by omega) (by omega)]
    congr 1; omega
theorem top_eq (k m : Nat) (hk : 70 ≤ k) (h0 : m ≠ 0) (hm : m < 2 ^ 63) : anamnesisref02_top.f k (m : Int) = some (m.log2 : Int) := by
  unfold anamnesisref02_top.f
  have : m.log2 < 63 := (Nat.log2_lt h0).2 hm
  rw [top_loop m.log2 k m 0 (by omega) h0 rfl hm (by omega) (by omega)]
  congr 1; omega
theorem mx_max (a b : Int) : mxI a b = max a b := by unfold mxI; split <;> omega
theorem round_j (k : Nat) (hk : 3 ≤ k) (x : Nat) (e s : Int) (hx : x ≤ 2 * 2 ^ 52) (h1 : -5000 ≤ e + s) (h2 : e + s ≤ 5000) :
    anamnesisref02_round.j0 k (x : Int) e s = some (((if x < 2 ^ 52 then x else if x = 2 * 2 ^ 52 then (if 970 < e + s then 2047 * 2 ^ 52 else (e + s + 1076).toNat * 2 ^ 52) else if 971 < e + s then 2047 * 2 ^ 52 else (e + s + 1075).toNat * 2 ^ 52 + x - 2 ^ 52 : Nat)) : Int) ∨ ¬ (x < 2 ^ 52 ∨ -1074 ≤ e + s) := by
  by_cases hg : x < 2 ^ 52 ∨ -1074 ≤ e + s
  · left
    obtain ⟨k, rfl⟩ : ∃ m, k = m + 1 := ⟨k - 1, by omega⟩
    simp only [anamnesisref02_round.j0]
    obtain ⟨k, rfl⟩ : ∃ m, k = m + 1 := ⟨k - 1, by omega⟩
    by_cases h5 : x = 2 * 2 ^ 52
    · rw [if_pos (by omega), w64i (n := e + s) (by omega) (by omega), w64i (n := e + s + 1) (by omega) (by omega)]
      simp only [anamnesisref02_round.j1]
      rw [if_neg (by omega), if_neg (by omega : ¬ x < 2 ^ 52), if_pos h5]
      by_cases h6 : 970 < e + s
      · rw [if_pos (by omega), if_pos h6]
        rfl
      · rw [if_neg (by omega), if_neg h6, w64i (n := e + s + 1 + 1075) (by omega) (by omega), w64i (n := (e + s + 1 + 1075) * 4503599627370496) (by omega) (by omega), w64i (n := (e + s + 1 + 1075) * 4503599627370496 + 4503599627370496) (by omega) (by omega), w64i (by omega) (by omega)]
        congr 1; omega
    · rw [if_neg (by omega), w64i (n := e + s) (by omega) (by omega)]
      simp only [anamnesisref02_round.j1]
      by_cases h6 : x < 2 ^ 52
      · rw [if_pos (by omega), if_pos h6]
      · rw [if_neg (by omega), if_neg h6, if_neg h5]
        by_cases h7 : 971 < e + s
        · rw [if_pos (by omega), if_pos h7]
          rfl
        · rw [if_neg (by omega), if_neg h7, w64i (n := e + s + 1075) (by omega) (by omega), w64i (n := (e + s + 1075) * 4503599627370496) (by omega) (by omega), w64i (n := (e + s + 1075) * 4503599627370496 + (x : Int)) (by omega) (by omega), w64i (by omega) (by omega)]
          congr 1; omega
  · right; exact hg
theorem round_eq (k m : Nat) (e : Int) (more : Bool) (hk : 80 ≤ k) (h0 : m ≠ 0) (h1 : m < 2 ^ 62) (he1 : -4000 ≤ e) (he2 : e ≤ 4000) :
    anamnesisref02_round.f k (m : Int) e more = some ((refRound m e more : Nat) : Int) := by
  have h3 := (Nat.log2_eq_iff (k := m.log2) h0).1 rfl
  have hlog : m.log2 < 62 := (Nat.log2_lt h0).2 h1
  unfold anamnesisref02_round.f anamnesisref02_most.f refRound
  rw [top_eq k m (by omega) h0 (by omega)]
  simp only [Option.bind_some]
  rw [w64i (n := (m.log2 : Int) - 52) (by omega) (by omega), w64i (n := -1074 - e) (by omega) (by omega), mx_max]
  have hs1 : (m.log2 : Int) - 52 ≤ max ((m.log2 : Int) - 52) (-1074 - e) := Int.le_max_left _ _
  have hs2 : -1074 - e ≤ max ((m.log2 : Int) - 52) (-1074 - e) := Int.le_max_right _ _
  have hs3 : max ((m.log2 : Int) - 52) (-1074 - e) = (m.log2 : Int) - 52 ∨ max ((m.log2 : Int) - 52) (-1074 - e) = -1074 - e := by omega
  generalize max ((m.log2 : Int) - 52) (-1074 - e) = sh at *
  have fin : ∀ x : Nat, x ≤ 2 * 2 ^ 52 → anamnesisref02_round.j0 k (x : Int) e sh = some (((if x < 2 ^ 52 then x else if x = 2 * 2 ^ 52 then (if 970 < e + sh then 2047 * 2 ^ 52 else (e + sh + 1076).toNat * 2 ^ 52) else if 971 < e + sh then 2047 * 2 ^ 52 else (e + sh + 1075).toNat * 2 ^ 52 + x - 2 ^ 52 : Nat)) : Int) := by
    intro x hx
    rcases round_j k (by omega) x e sh hx (by omega) (by omega) with h | h
    · exact h
    · exact absurd (Or.inr (by omega)) h
  by_cases c1 : sh ≤ 0
  · rw [if_pos c1, if_pos c1]
    obtain ⟨u, hu⟩ : ∃ u : Nat, sh = -u := ⟨(-sh).toNat, by omega⟩
    subst hu
    have hu2 : u ≤ 52 := by omega
    rw [show (- -(u : Int)) = (u : Int) by omega, w64i (n := (u : Int)) (by omega) (by omega), u64 (n := (u : Int)) (by omega) (by omega), if_pos (by omega)]
    have hb : m * 2 ^ u < 2 ^ (m.log2 + 1) * 2 ^ u := Nat.mul_lt_mul_of_pos_right h3.2 (Nat.two_pow_pos _)
    rw [← Nat.pow_add] at hb
    have hb2 : 2 ^ (m.log2 + 1 + u) ≤ 2 * 2 ^ 52 := by rw [show 2 * 2 ^ 52 = 2 ^ 53 by decide]; exact Nat.pow_le_pow_right (by omega) (by omega)
    have hsh : shl .i64 (m : Int) (u : Int) = ((m * 2 ^ u : Nat) : Int) := by
      unfold shl
      rw [i64_w, show min (u : Int).toNat IntKind.i64.bits = u by show min _ 64 = _; omega]
      have : (m : Int) * 2 ^ u = ((m * 2 ^ u : Nat) : Int) := by push_cast; rfl
      rw [this, w64i (by omega) (by omega)]
    rw [hsh]
    exact fin _ (by omega)
  · rw [if_neg c1, if_neg c1]
    by_cases c2 : sh < 63
    · rw [if_pos c2, if_pos c2]
      obtain ⟨s, hs⟩ : ∃ s : Nat, sh = s + 1 := ⟨(sh - 1).toNat, by omega⟩
      subst hs
      have hp := Nat.two_pow_pos s
      have hps : 2 ^ (s + 1) = 2 * 2 ^ s := by rw [Nat.pow_succ]; omega
      have hs61 : s ≤ 61 := by omega
      have hpb : 2 ^ (s + 1) ≤ 2 ^ 62 := Nat.pow_le_pow_right (by omega) (by omega)
      rw [u64 (n := (s : Int) + 1) (by omega) (by omega), if_pos (by omega), show (s : Int) + 1 - 1 = s by omega, w64i (n := (s : Int)) (by omega) (by omega), u64 (n := (s : Int)) (by omega) (by omega)]
      have e1 : shl .i64 1 ((s : Int) + 1) = ((2 ^ (s + 1) : Nat) : Int) := by
        unfold shl
        rw [i64_w, show min ((s : Int) + 1).toNat IntKind.i64.bits = s + 1 by show min _ 64 = _; omega]
        have : (1 : Int) * 2 ^ (s + 1) = ((2 ^ (s + 1) : Nat) : Int) := by push_cast; omega
        rw [this, w64i (by omega) (by omega)]
      have e2 : shl .i64 1 (s : Int) = ((2 ^ s : Nat) : Int) := by
        unfold shl
        rw [i64_w, show min (s : Int).toNat IntKind.i64.bits = s by show min _ 64 = _; omega]
        have : (1 : Int) * 2 ^ s = ((2 ^ s : Nat) : Int) := by push_cast; omega
        rw [this, w64i (by omega) (by omega)]
      have e3 : shr .i64 (m : Int) ((s : Int) + 1) = ((m / 2 ^ (s + 1) : Nat) : Int) := by
        unfold shr
        rw [show min ((s : Int) + 1).toNat IntKind.i64.bits = s + 1 by show min _ 64 = _; omega]
        push_cast; rfl
      have e4 : Int.tmod (m : Int) ((2 ^ (s + 1) : Nat) : Int) = ((m % 2 ^ (s + 1) : Nat) : Int) := by
        rw [Int.tmod_eq_emod_of_nonneg (by omega)]; push_cast; rfl
      rw [e1, e2, e3, e4, if_neg (by omega), if_pos (by omega)]
      rw [show ((s : Int) + 1).toNat = s + 1 by omega, show s + 1 - 1 = s by omega]
      have hq : m / 2 ^ (s + 1) < 2 * 2 ^ 52 := by
        rw [Nat.div_lt_iff_lt_mul (Nat.two_pow_pos _), show 2 * 2 ^ 52 = 2 ^ 53 by decide, ← Nat.pow_add]
        exact Nat.lt_of_lt_of_le h3.2 (Nat.pow_le_pow_right (by omega) (by omega))
      generalize m / 2 ^ (s + 1) = q at *
      generalize m % 2 ^ (s + 1) = r at *
      have e5 : Int.tmod (q : Int) 2 = ((q % 2 : Nat) : Int) := by
        rw [Int.tmod_eq_emod_of_nonneg (by omega)]; push_cast; rfl
      rw [e5, w64i (n := (q : Int) + 1) (by omega) (by omega)]
      have hup := fin (q + 1) (by omega)
      have hlow := fin q (by omega)
      rw [show ((q + 1 : Nat) : Int) = (q : Int) + 1 by omega] at hup
      have up : (2 ^ s < r ∨ r = 2 ^ s ∧ (more = true ∨ q % 2 = 1)) → (if 2 ^ s < r ∨ r = 2 ^ s ∧ (more = true ∨ q % 2 = 1) then 1 else 0 : Nat) = 1 := fun h => if_pos h
      have dn : ¬ (2 ^ s < r ∨ r = 2 ^ s ∧ (more = true ∨ q % 2 = 1)) → (if 2 ^ s < r ∨ r = 2 ^ s ∧ (more = true ∨ q % 2 = 1) then 1 else 0 : Nat) = 0 := fun h => if_neg h
      by_cases g1 : 2 ^ s < r
      · rw [if_pos (show (r : Int) > ((2 ^ s : Nat) : Int) by omega), up (Or.inl g1)]; exact hup
      rw [if_neg (show ¬ (r : Int) > ((2 ^ s : Nat) : Int) by omega)]
      by_cases g2 : r = 2 ^ s
      · rw [if_pos (show (r : Int) = ((2 ^ s : Nat) : Int) by omega)]
        by_cases g4 : more = true
        · rw [if_pos g4, up (Or.inr ⟨g2, Or.inl g4⟩)]; exact hup
        · rw [if_neg g4]
          by_cases g3 : q % 2 = 1
          · rw [if_pos (show ((q % 2 : Nat) : Int) = 1 by omega), up (Or.inr ⟨g2, Or.inr g3⟩)]; exact hup
          · rw [if_neg (show ¬ ((q % 2 : Nat) : Int) = 1 by omega), dn (by rintro (h | ⟨_, h | h⟩) <;> contradiction), Nat.add_zero]; exact hlow
      · rw [if_neg (show ¬ (r : Int) = ((2 ^ s : Nat) : Int) by omega), dn (by rintro (h | ⟨h, _⟩) <;> contradiction), Nat.add_zero]; exact hlow
    · rw [if_neg c2, if_neg c2, if_neg (by omega), if_neg (by omega)]
      exact fin 0 (by omega)
end Go.Proofs.YtnjihhheiiapnaaGreat
namespace Go.Proofs.YtnjihhheiiapnaaGreat
open Go Go.RowKit Go.Proofs FM
set_option maxHeartbeats 4000000
theorem fcan_word (s : Bool) (p : Nat) (h : p ≤ 2047 * 2 ^ 52) : fcan (Ieee.double.word s p) = toI s p := by
  unfold fcan Ieee.Format.word toI
  rw [sw_double]
  cases s
  · simp only [Bool.false_eq_true, if_false]
    rw [if_pos (by omega), IntKind.wrap_i64]; omega
  · simp only [if_true]
    rw [if_pos (by omega), IntKind.wrap_i64]; omega
theorem rung_le (m : Nat) (e : Int) : rung m e ≤ 2047 * 2 ^ 52 := by unfold rung; exact Nat.min_le_right _ _
theorem fres_told (o : Option Ieee.Datum) (h : ∀ s t, o ≠ some (.nan s t)) : fres (o.map Ieee.double.write) = told o := by
  cases o with
  | none => rfl
  | some d =>
    cases d with
    | nan s t => exact absurd rfl (h s t)
    | infinity s => exact fcan_word s _ (Nat.le_refl _)
    | number s m e =>
      show fcan (Ieee.double.nearest s m e) = _
      rw [nearest_eq, fcan_word]
      · rfl
      · split
        · omega
        · exact rung_le _ _
theorem val_part {s : Bool} {p m0 l : Nat} {e : Int} (h1 : p < 2047 * 2 ^ 52) (hd : dat s p = .number s m0 (e + l)) (he : -1126 ≤ e) : val p * 2 ^ 52 = m0 * 2 ^ l * 2 ^ (e + 1126).toNat := by
  obtain ⟨m, k, hm, hv, _⟩ := dat_fin s p h1
  rw [hd] at hm
  injection hm with _ e1 e2
  subst e1
  rw [← hv, Nat.mul_assoc, Nat.mul_assoc, ← Nat.pow_add, ← Nat.pow_add]
  congr 2; omega
theorem val_le {p q : Nat} (h : q ≤ p) : val q ≤ val p := by
  rcases Nat.lt_or_eq_of_le h with h | h
  · exact Nat.le_of_lt (val_lt _ _ h)
  · rw [h]; exact Nat.le_refl _
theorem parts_le {m n : Nat} {e f : Int} {x y : Nat} (hx : x = m * 2 ^ (e + 1126).toNat) (hy : y = n * 2 ^ (f + 1126).toNat) (hle : y ≤ x) (he : -1126 ≤ e) (hf : -1126 ≤ f)
    (hm2 : m < 2 ^ 53) (hn : 2 ^ 52 ≤ n) : f ≤ e ∧ n ≤ m * 2 ^ (e - f).toNat := by
  have hfe : f ≤ e := by
    apply Classical.byContradiction; intro hn'
    have a1 : 2 * 2 ^ (e + 1126).toNat ≤ 2 ^ (f + 1126).toNat := by
      rw [Nat.mul_comm, ← Nat.pow_succ]; exact Nat.pow_le_pow_right (by omega) (by omega)
    have a2 : 2 ^ 52 * (2 * 2 ^ (e + 1126).toNat) ≤ 2 ^ 52 * 2 ^ (f + 1126).toNat := Nat.mul_le_mul_left _ a1
    have a3 : 2 ^ 52 * 2 ^ (f + 1126).toNat ≤ n * 2 ^ (f + 1126).toNat := Nat.mul_le_mul_right _ hn
    have a4 : m * 2 ^ (e + 1126).toNat < 2 ^ 53 * 2 ^ (e + 1126).toNat := Nat.mul_lt_mul_of_pos_right hm2 (Nat.two_pow_pos _)
    rw [← Nat.mul_assoc] at a2
    omega
  refine ⟨hfe, ?_⟩
  have e1 : (e + 1126).toNat = (e - f).toNat + (f + 1126).toNat := by omega
  rw [hx, hy, e1, Nat.pow_add, ← Nat.mul_assoc] at hle
  exact Nat.le_of_mul_le_mul_right hle (Nat.two_pow_pos _)
theorem sum_comm (s t : Bool) (m n : Nat) (i j : Int) : (Ieee.Datum.number s m i).sum (.number t n j) = (Ieee.Datum.number t n j).sum (.number s m i) := by
  show some (Ieee.Datum.number _ _ _) = some (.number _ _ _)
  rw [show min j i = min i j by omega, Int.add_comm (Ieee.signed t n _) (Ieee.signed s m _), Bool.and_comm t s]
theorem refRound_le (m : Nat) (e : Int) (more : Bool) (h0 : m ≠ 0) (h1 : m < 2 ^ 62) (hm : more = true → 54 ≤ m.log2) : refRound m e more ≤ 2047 * 2 ^ 52 := by
  rw [refRound_eq m e more h0 h1 hm]; exact rung_le _ _
theorem add_big (k : Nat) (s t : Bool) (p q : Nat) (hk : 100 ≤ k) (hp0 : p ≠ 0) (hq0 : q ≠ 0) (hp : p < 2047 * 2 ^ 52) (hq : q < 2047 * 2 ^ 52) (hle : q ≤ p) :
    anamnesisref02_add.f k (toI s p) (toI t q) = some (told ((dat s p).sum (dat t q))) := by
  obtain ⟨m0, l, e, hd, hpart, hm, hm2, hl, he1, he2, _⟩ := part_eq s p hp0 hp
  obtain ⟨n0, l', f, hd', hpart', hn, hn2, hl', hf1, hf2, _⟩ := part_eq t q hq0 hq
  have hv := val_part hp hd he1
  have hv' := val_part hq hd' hf1
  obtain ⟨hfe, hnm⟩ := parts_le hv hv' (Nat.mul_le_mul_right _ (val_le hle)) he1 hf1 hm2 hn
  rw [hd, hd', sum_eq s t m0 n0 l l' e f hm hm2 hn hn2 hfe hnm]
  clear hd hd' hv hv'
  obtain ⟨k, rfl⟩ : ∃ x, k = x + 1 := ⟨k - 1, by omega⟩
  simp only [anamnesisref02_add.f]
  rw [plain_eq s p (by omega), plain_eq t q (by omega)]
  simp only [Option.bind_some]
  rw [if_neg (by omega), hpart k (by omega), hpart' k (by omega)]
  simp only [Option.bind_some]
  clear hpart hpart'
  generalize m0 * 2 ^ l = m at *
  generalize n0 * 2 ^ l' = n at *
  obtain ⟨d, hdd⟩ : ∃ d : Nat, e - f = d := ⟨(e - f).toNat, by omega⟩
  have hdt : (e - f).toNat = d := by omega
  rw [hdt] at hnm
  unfold refAdd
  simp only [hdd]
  rw [w64i (n := (d : Int)) (by omega) (by omega), w64i (n := (m : Int) * 256) (by omega) (by omega), w64i (n := (n : Int) * 256) (by omega) (by omega)]
  have hN : 256 * n / 2 ^ d ≤ 256 * n := Nat.div_le_self _ _
  have hmod : 256 * n % 2 ^ d ≤ 256 * n := Nat.mod_le _ _
  have sub := sub_round (256 * m) n d 0 (by omega) (by omega) (by omega) (by rw [Nat.mul_assoc]; exact Nat.mul_le_mul_left _ hnm)
  -- behind the alignment
  have tail : ∀ (n' : Nat) (more : Bool), n' = 256 * n / 2 ^ d → more = decide (256 * n % 2 ^ d ≠ 0) →
      anamnesisref02_add.j0 k (toI s p) (toI t q) ((m : Int) * 256) e (n' : Int) more = some (
        if s = t then toI s (refRound (256 * m + 256 * n / 2 ^ d) (e - 8) (decide (256 * n % 2 ^ d ≠ 0)))
        else if 256 * m - 256 * n / 2 ^ d - (decide (256 * n % 2 ^ d ≠ 0)).toNat = 0 then 0
        else toI s (refRound (256 * m - 256 * n / 2 ^ d - (decide (256 * n % 2 ^ d ≠ 0)).toNat) (e - 8) (decide (256 * n % 2 ^ d ≠ 0)))) := by
    intro n' more hn' hmore
    rw [← hn', ← hmore] at sub ⊢
    obtain ⟨k, rfl⟩ : ∃ x, k = x + 1 := ⟨k - 1, by omega⟩
    simp only [anamnesisref02_add.j0]
    rw [sign_eq s p (by omega), sign_eq t q (by omega)]
    simp only [Option.bind_some]
    have hn'le : n' ≤ 256 * m := by
      apply Classical.byContradiction; intro hc
      have hz : 256 * m - n' - more.toNat = 0 := by omega
      have hz2 := sub.1.1 hz
      have e1 : 256 * n ≤ 256 * m * 2 ^ d := by rw [Nat.mul_assoc]; exact Nat.mul_le_mul_left _ hnm
      have e2 : 256 * n = 256 * m * 2 ^ d := by omega
      rw [e2, Nat.mul_div_cancel _ (Nat.two_pow_pos d)] at hn'
      omega
    by_cases hst : s = t
    · subst hst
      rw [if_pos (by simp), if_pos rfl]
      rw [w64i (n := (m : Int) * 256 + (n' : Int)) (by omega) (by omega), w64i (n := e - 8) (by omega) (by omega), show (m : Int) * 256 + (n' : Int) = ((256 * m + n' : Nat) : Int) by omega]
      rw [round_eq k _ _ _ (by omega) (by omega) (by omega) (by omega) (by omega)]
      simp only [Option.bind_some]
      have hb := refRound_le (256 * m + n') (e - 8) more (by omega) (by omega) (fun _ => le_log2 (by omega))
      rw [with_eq s _ (by omega)]
      rfl
    · rw [if_neg (by simpa using hst), if_neg hst]
      have fin : ∀ x : Nat, x = 256 * m - n' - more.toNat → anamnesisref02_add.j1 k (toI s p) (x : Int) e more =
          some (if 256 * m - n' - more.toNat = 0 then 0 else toI s (refRound (256 * m - n' - more.toNat) (e - 8) more)) := by
        intro x hx
        rw [← hx]
        obtain ⟨k, rfl⟩ : ∃ y, k = y + 1 := ⟨k - 1, by omega⟩
        simp only [anamnesisref02_add.j1]
        by_cases hx0 : x = 0
        · rw [if_pos (by omega), if_pos hx0]
        · rw [if_neg (by omega), if_neg hx0, sign_eq s p (by omega)]
          simp only [Option.bind_some]
          rw [w64i (n := e - 8) (by omega) (by omega), round_eq k _ _ _ (by omega) hx0 (by omega) (by omega) (by omega)]
          simp only [Option.bind_some]
          have hb : refRound x (e - 8) more ≤ 2047 * 2 ^ 52 := by
            have hne : 256 * m * 2 ^ d - 256 * n ≠ 0 := fun h => hx0 (by rw [hx]; exact sub.1.2 h)
            have := sub_round (256 * m) n d (e - 8 - d) (by omega) (by omega) (by omega) (by rw [Nat.mul_assoc]; exact Nat.mul_le_mul_left _ hnm)
            have := this.2 hne
            rw [← hn', ← hmore, ← hx, show e - 8 - (d : Int) + d = e - 8 by omega] at this
            rw [← this]; exact rung_le _ _
          rw [with_eq s _ (by omega)]
          rfl
      rw [w64i (n := (m : Int) * 256 - (n' : Int)) (by omega) (by omega)]
      cases more with
      | true =>
        rw [if_pos rfl]
        by_cases hz : n' = 256 * m
        · exfalso
          have hz2 := sub.1.1 (by rw [hz]; simp)
          have e1 : 256 * n ≤ 256 * m * 2 ^ d := by rw [Nat.mul_assoc]; exact Nat.mul_le_mul_left _ hnm
          have e2 : 256 * n = 256 * m * 2 ^ d := by omega
          rw [e2, Nat.mul_mod_left] at hmore
          simp at hmore
        · rw [w64i (n := (m : Int) * 256 - (n' : Int) - 1) (by omega) (by omega), show (m : Int) * 256 - (n' : Int) - 1 = ((256 * m - n' - true.toNat : Nat) : Int) by rw [Bool.toNat_true]; omega]
          exact fin _ rfl
      | false =>
        rw [if_neg (by decide), show (m : Int) * 256 - (n' : Int) = ((256 * m - n' - false.toNat : Nat) : Int) by rw [Bool.toNat_false]; omega]
        exact fin _ rfl
  by_cases hd62 : 62 < d
  · rw [if_pos (by omega)]
    have hbig : 256 * n < 2 ^ d := Nat.lt_of_lt_of_le (by omega : 256 * n < 2 ^ 62) (Nat.pow_le_pow_right (by omega) (by omega))
    have := tail 0 true (Nat.div_eq_of_lt hbig).symm (by rw [Nat.mod_eq_of_lt hbig]; exact (decide_eq_true (by omega)).symm)
    exact this
  · have hp := Nat.two_pow_pos d
    have hpd : 2 ^ d ≤ 2 ^ 62 := Nat.pow_le_pow_right (by omega) (by omega)
    rw [if_neg (by omega), u64 (n := (d : Int)) (by omega) (by omega), if_pos (by omega)]
    have e1 : shl .i64 1 (d : Int) = ((2 ^ d : Nat) : Int) := by
      unfold shl
      rw [i64_w, show min (d : Int).toNat IntKind.i64.bits = d by show min _ 64 = _; omega]
      have : (1 : Int) * 2 ^ d = ((2 ^ d : Nat) : Int) := by push_cast; omega
      rw [this, w64i (by omega) (by omega)]
    have e3 : shr .i64 ((n : Int) * 256) (d : Int) = ((256 * n / 2 ^ d : Nat) : Int) := by
      unfold shr
      rw [show min (d : Int).toNat IntKind.i64.bits = d by show min _ 64 = _; omega]
      push_cast; rw [Int.mul_comm]
    have e4 : Int.tmod ((n : Int) * 256) ((2 ^ d : Nat) : Int) = ((256 * n % 2 ^ d : Nat) : Int) := by
      rw [Int.tmod_eq_emod_of_nonneg (by omega)]; push_cast; rw [Int.mul_comm]
    rw [e1, e3, e4, if_neg (by omega)]
    refine tail _ _ rfl ?_
    by_cases h : 256 * n % 2 ^ d = 0
    · rw [h]; rfl
    · rw [decide_eq_true h]; exact bne_iff_ne.2 (by omega)
theorem add_eq (k : Nat) (s t : Bool) (p q : Nat) (hk : 101 ≤ k) (hp0 : p ≠ 0) (hq0 : q ≠ 0) (hp : p < 2047 * 2 ^ 52) (hq : q < 2047 * 2 ^ 52) :
    anamnesisref02_add.f k (toI s p) (toI t q) = some (told ((dat s p).sum (dat t q))) := by
  by_cases hle : q ≤ p
  · exact add_big k s t p q (by omega) hp0 hq0 hp hq hle
  · obtain ⟨k, rfl⟩ : ∃ x, k = x + 1 := ⟨k - 1, by omega⟩
    simp only [anamnesisref02_add.f]
    rw [plain_eq s p (by omega), plain_eq t q (by omega)]
    simp only [Option.bind_some]
    rw [if_pos (by omega), add_big k t s q p (by omega) hq0 hp0 hq hp (by omega)]
    simp only [Option.bind_some]
    obtain ⟨m, i, e1, _⟩ := dat_fin s p hp
    obtain ⟨n, j, e2, _⟩ := dat_fin t q hq
    rw [e1, e2, sum_comm]
end Go.Proofs.YtnjihhheiiapnaaGreat
