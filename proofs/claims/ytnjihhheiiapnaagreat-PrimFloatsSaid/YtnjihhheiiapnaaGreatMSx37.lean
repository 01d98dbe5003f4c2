/- What the statements' walks need. -/
import Derived.Test.YtnjihhheiiapnaaGreatMSa4
import Derived.Test.YtnjihhheiiapnaaGreatMSx36
import Derived.Test.YtnjihhheiiapnaaGreatMSx31
set_option linter.unusedVariables false
set_option linter.unusedSimpArgs false
set_option maxRecDepth 100000
namespace Go.Proofs.YtnjihhheiiapnaaGreat
open Go Go.RowKit Go.Proofs FM
set_option maxHeartbeats 4000000
structure Aside0 (p : Prop) : Prop where
  out : p
theorem w64i {n : Int} (h1 : -9223372036854775808 ≤ n) (h2 : n ≤ 9223372036854775807) : IntKind.i64.wrap n = n := by rw [IntKind.wrap_i64]; omega
theorem i64_w (n : Int) : IntKind.i64.wrap n = IntKind.i64.wrap n := rfl
def flt_Op.f (a0 a1 a2 : Int) : Option Int := some (
  if a0 = 0 then fres (Ieee.double.add (fbits a1) (fbits a2)) else if a0 = 1 then fres (Ieee.double.sub (fbits a1) (fbits a2))
  else if a0 = 2 then fres (Ieee.double.mul (fbits a1) (fbits a2)) else if a0 = 3 then fres (Ieee.double.div (fbits a1) (fbits a2)) else 9221120237041090561)
def flt_Of.f (a0 : Int) : Option Int := .some (if a0 < -9007199254740992 then 9221120237041090561 else if 9007199254740992 < a0 then 9221120237041090561 else fcan (floatOfInt .f64 a0))
theorem sign_eq (s : Bool) (p : Nat) (h : p < 2 ^ 63) : anamnesisref02_sign.f (toI s p) = some s := by
  unfold anamnesisref02_sign.f
  have := toI_lt s p h
  cases s
  · rw [decide_eq_false (by simpa using this)]
  · rw [decide_eq_true (by simpa using this)]
theorem and_mask (a : Int) : Go.bits .and .i64 a 9223372036854775807 = a % 9223372036854775808 := by
  unfold Go.bits
  simp only [BitVec.toNat_and, BitVec.toNat_ofInt, show IntKind.i64.bits = 64 from rfl]
  have e2 : (9223372036854775807 % ((2 ^ 64 : Nat) : Int)).toNat = 2 ^ 63 - 1 := by decide
  rw [e2, Nat.and_two_pow_sub_one_eq_mod]
  have : ((a % ((2 ^ 64 : Nat) : Int)).toNat % 2 ^ 63 : Nat) = (a % 9223372036854775808).toNat := by omega
  rw [this, i64_w, w64i (by omega) (by omega)]
  omega
theorem plain_eq (s : Bool) (p : Nat) (h : p < 2 ^ 63) : anamnesisref02_plain.f (toI s p) = some (p : Int) := by
  unfold anamnesisref02_plain.f anamnesisref02_most.f
  rw [Option.bind_some, and_mask]
  unfold toI
  congr 1
  cases s
  · rw [if_neg (by decide)]; omega
  · rw [if_pos rfl]; omega
def kindOf (p : Nat) : Int := if p < 2047 * 2 ^ 52 then (if p = 0 then 2 else if p < 2 ^ 52 then 3 else 4) else if p = 2047 * 2 ^ 52 then 1 else 0
theorem Kind_eq (s : Bool) (p : Nat) (h : p < 2 ^ 63) : anamnesisref02_Kind.f (toI s p) = some (kindOf p) := by
  unfold anamnesisref02_Kind.f
  rw [plain_eq s p h]
  simp only [Option.bind_some]
  unfold kindOf
  have ht : Int.tmod (p : Int) 4503599627370496 = (p : Int) % 4503599627370496 := Int.tmod_eq_emod_of_nonneg (by omega)
  rw [ht]
  by_cases h1 : p < 2047 * 2 ^ 52
  · rw [if_pos h1, if_neg (by omega)]
    by_cases h2 : p = 0
    · subst h2; rfl
    rw [if_neg h2]
    by_cases h3 : p < 2 ^ 52
    · rw [if_neg (by omega), if_pos (by omega), if_pos h3]
    · rw [if_pos (by omega), if_neg h3]
  · rw [if_neg h1, if_pos (by omega)]
    by_cases h2 : p = 2047 * 2 ^ 52
    · rw [if_pos (by omega), if_pos h2]
    · rw [if_neg (by omega), if_neg h2]
theorem with_eq (s : Bool) (p : Nat) (h : p < 2 ^ 63) : anamnesisref02_with.f s (p : Int) = some (toI s p) := by
  unfold anamnesisref02_with.f anamnesisref02_most.f toI
  cases s
  · rw [if_neg (by decide), if_neg (by decide)]
  · rw [if_pos rfl, if_pos rfl, Option.bind_some, w64i (n := (p : Int) - 9223372036854775807) (by omega) (by omega), w64i (by omega) (by omega)]
    congr 1; omega
theorem part_loop (l : Nat) : ∀ (k f : Nat) (e : Int), l < k → 2 ^ 52 ≤ f * 2 ^ l → f * 2 ^ l < 2 ^ 53 → (l = 0 ∨ f * 2 ^ (l - 1) < 2 ^ 52) → -3000 ≤ e - l → e ≤ 3000 →
    anamnesisref02_part.l0 k (f : Int) e = some (((f * 2 ^ l : Nat) : Int), e - l) := by
  induction l with
  | zero =>
    intro k f e hk h1 h2 _ _ _
    obtain ⟨k, rfl⟩ : ∃ m, k = m + 1 := ⟨k - 1, by omega⟩
    simp only [anamnesisref02_part.l0]
    rw [if_neg (by omega)]; simp
  | succ l ih =>
    intro k f e hk h1 h2 h3 h4 h5
    obtain ⟨k, rfl⟩ : ∃ m, k = m + 1 := ⟨k - 1, by omega⟩
    simp only [anamnesisref02_part.l0]
    have hp := Nat.two_pow_pos l
    have h3 : f * 2 ^ l < 2 ^ 52 := by
      rcases h3 with h | h
      · omega
      · exact h
    have hf : f ≤ f * 2 ^ l := Nat.le_mul_of_pos_right _ hp
    rw [if_pos (by omega), w64i (by omega) (by omega), w64i (by omega) (by omega)]
    have e1 : 2 * f * 2 ^ l = f * 2 ^ (l + 1) := by rw [Nat.pow_succ, Nat.mul_comm 2 f, Nat.mul_assoc, Nat.mul_comm 2]
    have := ih k (2 * f) (e - 1) (by omega) (by rw [e1]; exact h1) (by rw [e1]; exact h2) (by
      cases l with
      | zero => left; rfl
      | succ l => right; rw [show l + 1 - 1 = l by omega]; rw [Nat.pow_succ] at h3; rw [Nat.mul_comm 2, Nat.mul_assoc, Nat.mul_comm 2]; exact h3) (by omega) (by omega)
    rw [e1] at this
    rw [show (2 : Int) * (f : Int) = ((2 * f : Nat) : Int) by omega, this]
    congr 2; omega
theorem part_eq (s : Bool) (p : Nat) (h0 : p ≠ 0) (h1 : p < 2047 * 2 ^ 52) : ∃ (m0 l : Nat) (e : Int),
    dat s p = .number s m0 (e + l) ∧ (∀ k, 60 ≤ k → anamnesisref02_part.f k (toI s p) = some (((m0 * 2 ^ l : Nat) : Int), e)) ∧
    2 ^ 52 ≤ m0 * 2 ^ l ∧ m0 * 2 ^ l < 2 ^ 53 ∧ l ≤ 52 ∧ -1126 ≤ e ∧ e ≤ 971 ∧ (p < 2 ^ 52 → m0 = p ∧ e = -1074 - l) ∧ (2 ^ 52 ≤ p → l = 0 ∧ m0 = 2 ^ 52 + p % 2 ^ 52 ∧ e = (p / 2 ^ 52 : Nat) - 1075) := by
  unfold dat
  by_cases h2 : p < 2 ^ 52
  · have hlog : p.log2 ≤ 51 := by have := (Nat.log2_lt h0).2 h2; omega
    have hl := (Nat.log2_eq_iff (k := p.log2) h0).1 rfl
    refine ⟨p, 52 - p.log2, -1074 - (52 - p.log2 : Nat), ?_, ?_, ?_, ?_, by omega, by omega, by omega, fun _ => ⟨rfl, rfl⟩, fun h => by omega⟩
    · rw [if_pos h2]; congr 1; omega
    · intro k hk
      unfold anamnesisref02_part.f
      rw [plain_eq s p (by omega)]
      simp only [Option.bind_some]
      rw [if_neg (by omega)]
      have ht : Int.tmod (p : Int) 4503599627370496 = (p : Int) := by rw [Int.tmod_eq_emod_of_nonneg (by omega)]; omega
      rw [ht]
      refine part_loop (52 - p.log2) k p (-1074) (by omega) ?_ ?_ ?_ (by omega) (by omega)
      · calc 2 ^ 52 = 2 ^ p.log2 * 2 ^ (52 - p.log2) := by rw [← Nat.pow_add]; congr 1; omega
          _ ≤ _ := Nat.mul_le_mul_right _ hl.1
      · calc p * 2 ^ (52 - p.log2) < 2 ^ (p.log2 + 1) * 2 ^ (52 - p.log2) := Nat.mul_lt_mul_of_pos_right hl.2 (Nat.two_pow_pos _)
          _ = 2 ^ 53 := by rw [← Nat.pow_add]; congr 1; omega
      · right
        calc p * 2 ^ (52 - p.log2 - 1) < 2 ^ (p.log2 + 1) * 2 ^ (52 - p.log2 - 1) := Nat.mul_lt_mul_of_pos_right hl.2 (Nat.two_pow_pos _)
          _ = 2 ^ 52 := by rw [← Nat.pow_add]; congr 1; omega
    · calc 2 ^ 52 = 2 ^ p.log2 * 2 ^ (52 - p.log2) := by rw [← Nat.pow_add]; congr 1; omega
        _ ≤ _ := Nat.mul_le_mul_right _ hl.1
    · calc p * 2 ^ (52 - p.log2) < 2 ^ (p.log2 + 1) * 2 ^ (52 - p.log2) := Nat.mul_lt_mul_of_pos_right hl.2 (Nat.two_pow_pos _)
        _ = 2 ^ 53 := by rw [← Nat.pow_add]; congr 1; omega
  · refine ⟨2 ^ 52 + p % 2 ^ 52, 0, (p / 2 ^ 52 : Nat) - 1075, ?_, ?_, by omega, by omega, by omega, by omega, by omega, fun h => absurd h h2, fun _ => ⟨rfl, rfl, rfl⟩⟩
    · rw [if_neg h2, if_pos h1]; congr 1; omega
    · intro k hk
      unfold anamnesisref02_part.f
      rw [plain_eq s p (by omega)]
      simp only [Option.bind_some]
      rw [if_pos (by omega)]
      have ht : Int.tmod (p : Int) 4503599627370496 = (p : Int) % 4503599627370496 := Int.tmod_eq_emod_of_nonneg (by omega)
      rw [ht, w64i (by omega) (by omega), w64i (by omega) (by omega)]
      simp only [Nat.pow_zero, Nat.mul_one]
      congr 2; omega
theorem top_loop (n : Nat) : ∀ (k m : Nat) (x : Int), n < k → m ≠ 0 → m.log2 = n → m < 2 ^ 63 → 0 ≤ x → x + n ≤ 1000 → anamnesisref02_top.l0 k (m : Int) x = some (x + n) := by
  induction n with
  | zero =>
    intro k m x hk h0 hn _ _ _
    obtain ⟨k, rfl⟩ : ∃ m, k = m + 1 := ⟨k - 1, by omega⟩
    have := ((Nat.log2_eq_iff h0).1 hn).2
    simp only [anamnesisref02_top.l0]
    rw [if_neg (by omega)]; simp
  | succ n ih =>
    intro k m x hk h0 hn hm hx hx2
    obtain ⟨k, rfl⟩ : ∃ m, k = m + 1 := ⟨k - 1, by omega⟩
    have hl := (Nat.log2_eq_iff h0).1 hn
    have hp := Nat.two_pow_pos n
    rw [Nat.pow_succ, Nat.pow_succ] at hl
    rw [Nat.pow_succ] at hl
    simp only [anamnesisref02_top.l0]
    have hd : Int.tdiv (m : Int) 2 = ((m / 2 : Nat) : Int) := by rw [Int.tdiv_eq_ediv_of_nonneg (by omega)]; omega
    rw [if_pos (by omega), hd, w64i (by omega) (by omega), w64i (by omega) (by omega)]
    have h2 : (m / 2).log2 = n := (Nat.log2_eq_iff (by omega)).2 ⟨by omega, by rw [Nat.pow_succ]; omega⟩
    rw [ih k (m / 2) (x + 1) (by omega) (by omega) h2 (by omega) (by omega) (by omega)]
    congr 1; omega
theorem top_eq (k m : Nat) (hk : 70 ≤ k) (h0 : m ≠ 0) (hm : m < 2 ^ 63) : anamnesisref02_top.f k (m : Int) = some (m.log2 : Int) := by
  unfold anamnesisref02_top.f
  have : m.log2 < 63 := (Nat.log2_lt h0).2 hm
  rw [top_loop m.log2 k m 0 (by omega) h0 rfl hm (by omega) (by omega)]
  congr 1; omega
theorem mx_max (a b : Int) : mxI a b = max a b := by unfold mxI; split <;> omega
theorem round_j (k : Nat) (hk : 3 ≤ k) (x : Nat) (e s : Int) (hx : x ≤ 2 * 2 ^ 52) (h1 : -5000 ≤ e + s) (h2 : e + s ≤ 5000) :
    anamnesisref02_round.j0 k (x : Int) e s = some (((if x < 2 ^ 52 then x else if x = 2 * 2 ^ 52 then (if 970 < e + s then 2047 * 2 ^ 52 else (e + s + 1076).toNat * 2 ^ 52) else if 971 < e + s then 2047 * 2 ^ 52 else (e + s + 1075).toNat * 2 ^ 52 + x - 2 ^ 52 : Nat)) : Int) ∨ ¬ (x < 2 ^ 52 ∨ -1074 ≤ e + s) := by
  by_cases hg : x < 2 ^ 52 ∨ -1074 ≤ e + s
  · left
    obtain ⟨k, rfl⟩ : ∃ m, k = m + 1 := ⟨k - 1, by omega⟩
    simp only [anamnesisref02_round.j0]
    obtain ⟨k, rfl⟩ : ∃ m, k = m + 1 := ⟨k - 1, by omega⟩
    by_cases h5 : x = 2 * 2 ^ 52
    · rw [if_pos (by omega), w64i (n := e + s) (by omega) (by omega), w64i (n := e + s + 1) (by omega) (by omega)]
      simp only [anamnesisref02_round.j1]
      rw [if_neg (by omega), if_neg (by omega : ¬ x < 2 ^ 52), if_pos h5]
      by_cases h6 : 970 < e + s
      · rw [if_pos (by omega), if_pos h6]
        rfl
      · rw [if_neg (by omega), if_neg h6, w64i (n := e + s + 1 + 1075) (by omega) (by omega), w64i (n := (e + s + 1 + 1075) * 4503599627370496) (by omega) (by omega), w64i (n := (e + s + 1 + 1075) * 4503599627370496 + 4503599627370496) (by omega) (by omega), w64i (by omega) (by omega)]
        congr 1; omega
    · rw [if_neg (by omega), w64i (n := e + s) (by omega) (by omega)]
      simp only [anamnesisref02_round.j1]
      by_cases h6 : x < 2 ^ 52
      · rw [if_pos (by omega), if_pos h6]
      · rw [if_neg (by omega), if_neg h6, if_neg h5]
        by_cases h7 : 971 < e + s
        · rw [if_pos (by omega), if_pos h7]
          rfl
        · rw [if_neg (by omega), if_neg h7, w64i (n := e + s + 1075) (by omega) (by omega), w64i (n := (e + s + 1075) * 4503599627370496) (by omega) (by omega), w64i (n := (e + s + 1075) * 4503599627370496 + (x : Int)) (by omega) (by omega), w64i (by omega) (by omega)]
          congr 1; omega
  · right; exact hg
theorem round_eq (k m : Nat) (e : Int) (more : Bool) (hk : 80 ≤ k) (h0 : m ≠ 0) (h1 : m < 2 ^ 62) (he1 : -4000 ≤ e) (he2 : e ≤ 4000) :
    anamnesisref02_round.f k (m : Int) e more = some ((refRound m e more : Nat) : Int) := by
  have h3 := (Nat.log2_eq_iff (k := m.log2) h0).1 rfl
  have hlog : m.log2 < 62 := (Nat.log2_lt h0).2 h1
  unfold anamnesisref02_round.f anamnesisref02_most.f refRound
  rw [top_eq k m (by omega) h0 (by omega)]
  simp only [Option.bind_some]
  rw [w64i (n := (m.log2 : Int) - 52) (by omega) (by omega), w64i (n := -1074 - e) (by omega) (by omega), mx_max]
  have hs1 : (m.log2 : Int) - 52 ≤ max ((m.log2 : Int) - 52) (-1074 - e) := Int.le_max_left _ _
  have hs2 : -1074 - e ≤ max ((m.log2 : Int) - 52) (-1074 - e) := Int.le_max_right _ _
  have hs3 : max ((m.log2 : Int) - 52) (-1074 - e) = (m.log2 : Int) - 52 ∨ max ((m.log2 : Int) - 52) (-1074 - e) = -1074 - e := by omega
  generalize max ((m.log2 : Int) - 52) (-1074 - e) = sh at *
  have fin : ∀ x : Nat, x ≤ 2 * 2 ^ 52 → anamnesisref02_round.j0 k (x : Int) e sh = some (((if x < 2 ^ 52 then x else if x = 2 * 2 ^ 52 then (if 970 < e + sh then 2047 * 2 ^ 52 else (e + sh + 1076).toNat * 2 ^ 52) else if 971 < e + sh then 2047 * 2 ^ 52 else (e + sh + 1075).toNat * 2 ^ 52 + x - 2 ^ 52 : Nat)) : Int) := by
    intro x hx
    rcases round_j k (by omega) x e sh hx (by omega) (by omega) with h | h
    · exact h
    · exact absurd (Or.inr (by omega)) h
  by_cases c1 : sh ≤ 0
  · rw [if_pos c1, if_pos c1]
    obtain ⟨u, hu⟩ : ∃ u : Nat, sh = -u := ⟨(-sh).toNat, by omega⟩
    subst hu
    have hu2 : u ≤ 52 := by omega
    rw [show (- -(u : Int)) = (u : Int) by omega, w64i (n := (u : Int)) (by omega) (by omega), u64 (n := (u : Int)) (by omega) (by omega), if_pos (by omega)]
    have hb : m * 2 ^ u < 2 ^ (m.log2 + 1) * 2 ^ u := Nat.mul_lt_mul_of_pos_right h3.2 (Nat.two_pow_pos _)
    rw [← Nat.pow_add] at hb
    have hb2 : 2 ^ (m.log2 + 1 + u) ≤ 2 * 2 ^ 52 := by rw [show 2 * 2 ^ 52 = 2 ^ 53 by decide]; exact Nat.pow_le_pow_right (by omega) (by omega)
    have hsh : shl .i64 (m : Int) (u : Int) = ((m * 2 ^ u : Nat) : Int) := by
      unfold shl
      rw [i64_w, show min (u : Int).toNat IntKind.i64.bits = u by show min _ 64 = _; omega]
      have : (m : Int) * 2 ^ u = ((m * 2 ^ u : Nat) : Int) := by push_cast; rfl
      rw [this, w64i (by omega) (by omega)]
    rw [hsh]
    exact fin _ (by omega)
  · rw [if_neg c1, if_neg c1]
    by_cases c2 : sh < 63
    · rw [if_pos c2, if_pos c2]
      obtain ⟨s, hs⟩ : ∃ s : Nat, sh = s + 1 := ⟨(sh - 1).toNat, by omega⟩
      subst hs
      have hp := Nat.two_pow_pos s
      have hps : 2 ^ (s + 1) = 2 * 2 ^ s := by rw [Nat.pow_succ]; omega
      have hs61 : s ≤ 61 := by omega
      have hpb : 2 ^ (s + 1) ≤ 2 ^ 62 := Nat.pow_le_pow_right (by omega) (by omega)
      rw [u64 (n := (s : Int) + 1) (by omega) (by omega), if_pos (by omega), show (s : Int) + 1 - 1 = s by omega, w64i (n := (s : Int)) (by omega) (by omega), u64 (n := (s : Int)) (by omega) (by omega)]
      have e1 : shl .i64 1 ((s : Int) + 1) = ((2 ^ (s + 1) : Nat) : Int) := by
        unfold shl
        rw [i64_w, show min ((s : Int) + 1).toNat IntKind.i64.bits = s + 1 by show min _ 64 = _; omega]
        have : (1 : Int) * 2 ^ (s + 1) = ((2 ^ (s + 1) : Nat) : Int) := by push_cast; omega
        rw [this, w64i (by omega) (by omega)]
      have e2 : shl .i64 1 (s : Int) = ((2 ^ s : Nat) : Int) := by
        unfold shl
        rw [i64_w, show min (s : Int).toNat IntKind.i64.bits = s by show min _ 64 = _; omega]
        have : (1 : Int) * 2 ^ s = ((2 ^ s : Nat) : Int) := by push_cast; omega
        rw [this, w64i (by omega) (by omega)]
      have e3 : shr .i64 (m : Int) ((s : Int) + 1) = ((m / 2 ^ (s + 1) : Nat) : Int) := by
        unfold shr
        rw [show min ((s : Int) + 1).toNat IntKind.i64.bits = s + 1 by show min _ 64 = _; omega]
        push_cast; rfl
      have e4 : Int.tmod (m : Int) ((2 ^ (s + 1) : Nat) : Int) = ((m % 2 ^ (s + 1) : Nat) : Int) := by
        rw [Int.tmod_eq_emod_of_nonneg (by omega)]; push_cast; rfl
      rw [e1, e2, e3, e4, if_neg (by omega), if_pos (by omega)]
      rw [show ((s : Int) + 1).toNat = s + 1 by omega, show s + 1 - 1 = s by omega]
      have hq : m / 2 ^ (s + 1) < 2 * 2 ^ 52 := by
        rw [Nat.div_lt_iff_lt_mul (Nat.two_pow_pos _), show 2 * 2 ^ 52 = 2 ^ 53 by decide, ← Nat.pow_add]
        exact Nat.lt_of_lt_of_le h3.2 (Nat.pow_le_pow_right (by omega) (by omega))
      generalize m / 2 ^ (s + 1) = q at *
      generalize m % 2 ^ (s + 1) = r at *
      have e5 : Int.tmod (q : Int) 2 = ((q % 2 : Nat) : Int) := by
        rw [Int.tmod_eq_emod_of_nonneg (by omega)]; push_cast; rfl
      rw [e5, w64i (n := (q : Int) + 1) (by omega) (by omega)]
      have hup := fin (q + 1) (by omega)
      have hlow := fin q (by omega)
      rw [show ((q + 1 : Nat) : Int) = (q : Int) + 1 by omega] at hup
      have up : (2 ^ s < r ∨ r = 2 ^ s ∧ (more = true ∨ q % 2 = 1)) → (if 2 ^ s < r ∨ r = 2 ^ s ∧ (more = true ∨ q % 2 = 1) then 1 else 0 : Nat) = 1 := fun h => if_pos h
      have dn : ¬ (2 ^ s < r ∨ r = 2 ^ s ∧ (more = true ∨ q % 2 = 1)) → (if 2 ^ s < r ∨ r = 2 ^ s ∧ (more = true ∨ q % 2 = 1) then 1 else 0 : Nat) = 0 := fun h => if_neg h
      by_cases g1 : 2 ^ s < r
      · rw [if_pos (show (r : Int) > ((2 ^ s : Nat) : Int) by omega), up (Or.inl g1)]; exact hup
      rw [if_neg (show ¬ (r : Int) > ((2 ^ s : Nat) : Int) by omega)]
      by_cases g2 : r = 2 ^ s
      · rw [if_pos (show (r : Int) = ((2 ^ s : Nat) : Int) by omega)]
        by_cases g4 : more = true
        · rw [if_pos g4, up (Or.inr ⟨g2, Or.inl g4⟩)]; exact hup
        · rw [if_neg g4]
          by_cases g3 : q % 2 = 1
          · rw [if_pos (show ((q % 2 : Nat) : Int) = 1 by omega), up (Or.inr ⟨g2, Or.inr g3⟩)]; exact hup
          · rw [if_neg (show ¬ ((q % 2 : Nat) : Int) = 1 by omega), dn (by rintro (h | ⟨_, h | h⟩) <;> contradiction), Nat.add_zero]; exact hlow
      · rw [if_neg (show ¬ (r : Int) = ((2 ^ s : Nat) : Int) by omega), dn (by rintro (h | ⟨h, _⟩) <;> contradiction), Nat.add_zero]; exact hlow
    · rw [if_neg c2, if_neg c2, if_neg (by omega), if_neg (by omega)]
      exact fin 0 (by omega)
end Go.Proofs.YtnjihhheiiapnaaGreat
