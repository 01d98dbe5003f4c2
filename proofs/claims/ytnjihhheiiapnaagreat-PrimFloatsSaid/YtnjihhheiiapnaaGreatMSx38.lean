/- What the statements' walks need. -/
import Derived.Test.YtnjihhheiiapnaaGreatMSa4
import Derived.Test.YtnjihhheiiapnaaGreatMSx37
set_option linter.unusedVariables false
set_option linter.unusedSimpArgs false
set_option maxRecDepth 100000
namespace Go.Proofs.YtnjihhheiiapnaaGreat
open Go Go.RowKit Go.Proofs FM
set_option maxHeartbeats 4000000
theorem fcan_word (s : Bool) (p : Nat) (h : p ≤ 2047 * 2 ^ 52) : fcan (Ieee.double.word s p) = toI s p := by
  unfold fcan Ieee.Format.word toI
  rw [sw_double]
  cases s
  · simp only [Bool.false_eq_true, if_false]
    rw [if_pos (by omega), IntKind.wrap_i64]; omega
  · simp only [if_true]
    rw [if_pos (by omega), IntKind.wrap_i64]; omega
theorem rung_le (m : Nat) (e : Int) : rung m e ≤ 2047 * 2 ^ 52 := by unfold rung; exact Nat.min_le_right _ _
theorem fres_told (o : Option Ieee.Datum) (h : ∀ s t, o ≠ some (.nan s t)) : fres (o.map Ieee.double.write) = told o := by
  cases o with
  | none => rfl
  | some d =>
    cases d with
    | nan s t => exact absurd rfl (h s t)
    | infinity s => exact fcan_word s _ (Nat.le_refl _)
    | number s m e =>
      show fcan (Ieee.double.nearest s m e) = _
      rw [nearest_eq, fcan_word]
      · rfl
      · split
        · omega
        · exact rung_le _ _
theorem val_part {s : Bool} {p m0 l : Nat} {e : Int} (h1 : p < 2047 * 2 ^ 52) (hd : dat s p = .number s m0 (e + l)) (he : -1126 ≤ e) : val p * 2 ^ 52 = m0 * 2 ^ l * 2 ^ (e + 1126).toNat := by
  obtain ⟨m, k, hm, hv, _⟩ := dat_fin s p h1
  rw [hd] at hm
  injection hm with _ e1 e2
  subst e1
  rw [← hv, Nat.mul_assoc, Nat.mul_assoc, ← Nat.pow_add, ← Nat.pow_add]
  congr 2; omega
theorem val_le {p q : Nat} (h : q ≤ p) : val q ≤ val p := by
  rcases Nat.lt_or_eq_of_le h with h | h
  · exact Nat.le_of_lt (val_lt _ _ h)
  · rw [h]; exact Nat.le_refl _
theorem parts_le {m n : Nat} {e f : Int} {x y : Nat} (hx : x = m * 2 ^ (e + 1126).toNat) (hy : y = n * 2 ^ (f + 1126).toNat) (hle : y ≤ x) (he : -1126 ≤ e) (hf : -1126 ≤ f)
    (hm2 : m < 2 ^ 53) (hn : 2 ^ 52 ≤ n) : f ≤ e ∧ n ≤ m * 2 ^ (e - f).toNat := by
  have hfe : f ≤ e := by
    apply Classical.byContradiction; intro hn'
    have a1 : 2 * 2 ^ (e + 1126).toNat ≤ 2 ^ (f + 1126).toNat := by
      rw [Nat.mul_comm, ← Nat.pow_succ]; exact Nat.pow_le_pow_right (by omega) (by omega)
    have a2 : 2 ^ 52 * (2 * 2 ^ (e + 1126).toNat) ≤ 2 ^ 52 * 2 ^ (f + 1126).toNat := Nat.mul_le_mul_left _ a1
    have a3 : 2 ^ 52 * 2 ^ (f + 1126).toNat ≤ n * 2 ^ (f + 1126).toNat := Nat.mul_le_mul_right _ hn
    have a4 : m * 2 ^ (e + 1126).toNat < 2 ^ 53 * 2 ^ (e + 1126).toNat := Nat.mul_lt_mul_of_pos_right hm2 (Nat.two_pow_pos _)
    rw [← Nat.mul_assoc] at a2
    omega
  refine ⟨hfe, ?_⟩
  have e1 : (e + 1126).toNat = (e - f).toNat + (f + 1126).toNat := by omega
  rw [hx, hy, e1, Nat.pow_add, ← Nat.mul_assoc] at hle
  exact Nat.le_of_mul_le_mul_right hle (Nat.two_pow_pos _)
theorem sum_comm (s t : Bool) (m n : Nat) (i j : Int) : (Ieee.Datum.number s m i).sum (.number t n j) = (Ieee.Datum.number t n j).sum (.number s m i) := by
  show some (Ieee.Datum.number _ _ _) = some (.number _ _ _)
  rw [show min j i = min i j by omega, Int.add_comm (Ieee.signed t n _) (Ieee.signed s m _), Bool.and_comm t s]
theorem refRound_le (m : Nat) (e : Int) (more : Bool) (h0 : m ≠ 0) (h1 : m < 2 ^ 62) (hm : more = true → 54 ≤ m.log2) : refRound m e more ≤ 2047 * 2 ^ 52 := by
  rw [refRound_eq m e more h0 h1 hm]; exact rung_le _ _
theorem add_big (k : Nat) (s t : Bool) (p q : Nat) (hk : 100 ≤ k) (hp0 : p ≠ 0) (hq0 : q ≠ 0) (hp : p < 2047 * 2 ^ 52) (hq : q < 2047 * 2 ^ 52) (hle : q ≤ p) :
    anamnesisref02_add.f k (toI s p) (toI t q) = some (told ((dat s p).sum (dat t q))) := by
  obtain ⟨m0, l, e, hd, hpart, hm, hm2, hl, he1, he2, _⟩ := part_eq s p hp0 hp
  obtain ⟨n0, l', f, hd', hpart', hn, hn2, hl', hf1, hf2, _⟩ := part_eq t q hq0 hq
  have hv := val_part hp hd he1
  have hv' := val_part hq hd' hf1
  obtain ⟨hfe, hnm⟩ := parts_le hv hv' (Nat.mul_le_mul_right _ (val_le hle)) he1 hf1 hm2 hn
  rw [hd, hd', sum_eq s t m0 n0 l l' e f hm hm2 hn hn2 hfe hnm]
  clear hd hd' hv hv'
  obtain ⟨k, rfl⟩ : ∃ x, k = x + 1 := ⟨k - 1, by omega⟩
  simp only [anamnesisref02_add.f]
  rw [plain_eq s p (by omega), plain_eq t q (by omega)]
  simp only [Option.bind_some]
  rw [if_neg (by omega), hpart k (by omega), hpart' k (by omega)]
  simp only [Option.bind_some]
  clear hpart hpart'
  generalize m0 * 2 ^ l = m at *
  generalize n0 * 2 ^ l' = n at *
  obtain ⟨d, hdd⟩ : ∃ d : Nat, e - f = d := ⟨(e - f).toNat, by omega⟩
  have hdt : (e - f).toNat = d := by omega
  rw [hdt] at hnm
  unfold refAdd
  simp only [hdd]
  rw [w64i (n := (d : Int)) (by omega) (by omega), w64i (n := (m : Int) * 256) (by omega) (by omega), w64i (n := (n : Int) * 256) (by omega) (by omega)]
  have hN : 256 * n / 2 ^ d ≤ 256 * n := Nat.div_le_self _ _
  have hmod : 256 * n % 2 ^ d ≤ 256 * n := Nat.mod_le _ _
  have sub := sub_round (256 * m) n d 0 (by omega) (by omega) (by omega) (by rw [Nat.mul_assoc]; exact Nat.mul_le_mul_left _ hnm)
  -- behind the alignment
  have tail : ∀ (n' : Nat) (more : Bool), n' = 256 * n / 2 ^ d → more = decide (256 * n % 2 ^ d ≠ 0) →
      anamnesisref02_add.j0 k (toI s p) (toI t q) ((m : Int) * 256) e (n' : Int) more = some (
        if s = t then toI s (refRound (256 * m + 256 * n / 2 ^ d) (e - 8) (decide (256 * n % 2 ^ d ≠ 0)))
        else if 256 * m - 256 * n / 2 ^ d - (decide (256 * n % 2 ^ d ≠ 0)).toNat = 0 then 0
        else toI s (refRound (256 * m - 256 * n / 2 ^ d - (decide (256 * n % 2 ^ d ≠ 0)).toNat) (e - 8) (decide (256 * n % 2 ^ d ≠ 0)))) := by
    intro n' more hn' hmore
    rw [← hn', ← hmore] at sub ⊢
    obtain ⟨k, rfl⟩ : ∃ x, k = x + 1 := ⟨k - 1, by omega⟩
    simp only [anamnesisref02_add.j0]
    rw [sign_eq s p (by omega), sign_eq t q (by omega)]
    simp only [Option.bind_some]
    have hn'le : n' ≤ 256 * m := by
      apply Classical.byContradiction; intro hc
      have hz : 256 * m - n' - more.toNat = 0 := by omega
      have hz2 := sub.1.1 hz
      have e1 : 256 * n ≤ 256 * m * 2 ^ d := by rw [Nat.mul_assoc]; exact Nat.mul_le_mul_left _ hnm
      have e2 : 256 * n = 256 * m * 2 ^ d := by omega
      rw [e2, Nat.mul_div_cancel _ (Nat.two_pow_pos d)] at hn'
      omega
    by_cases hst : s = t
    · subst hst
      rw [if_pos (by simp), if_pos rfl]
      rw [w64i (n := (m : Int) * 256 + (n' : Int)) (by omega) (by omega), w64i (n := e - 8) (by omega) (by omega), show (m : Int) * 256 + (n' : Int) = ((256 * m + n' : Nat) : Int) by omega]
      rw [round_eq k _ _ _ (by omega) (by omega) (by omega) (by omega) (by omega)]
      simp only [Option.bind_some]
      have hb := refRound_le (256 * m + n') (e - 8) more (by omega) (by omega) (fun _ => le_log2 (by omega))
      rw [with_eq s _ (by omega)]
      rfl
    · rw [if_neg (by simpa using hst), if_neg hst]
      have fin : ∀ x : Nat, x = 256 * m - n' - more.toNat → anamnesisref02_add.j1 k (toI s p) (x : Int) e more =
          some (if 256 * m - n' - more.toNat = 0 then 0 else toI s (refRound (256 * m - n' - more.toNat) (e - 8) more)) := by
        intro x hx
        rw [← hx]
        obtain ⟨k, rfl⟩ : ∃ y, k = y + 1 := ⟨k - 1, by omega⟩
        simp only [anamnesisref02_add.j1]
        by_cases hx0 : x = 0
        · rw [if_pos (by omega), if_pos hx0]
        · rw [if_neg (by omega), if_neg hx0, sign_eq s p (by omega)]
          simp only [Option.bind_some]
          rw [w64i (n := e - 8) (by omega) (by omega), round_eq k _ _ _ (by omega) hx0 (by omega) (by omega) (by omega)]
          simp only [Option.bind_some]
          have hb : refRound x (e - 8) more ≤ 2047 * 2 ^ 52 := by
            have hne : 256 * m * 2 ^ d - 256 * n ≠ 0 := fun h => hx0 (by rw [hx]; exact sub.1.2 h)
            have := sub_round (256 * m) n d (e - 8 - d) (by omega) (by omega) (by omega) (by rw [Nat.mul_assoc]; exact Nat.mul_le_mul_left _ hnm)
            have := this.2 hne
            rw [← hn', ← hmore, ← hx, show e - 8 - (d : Int) + d = e - 8 by omega] at this
            rw [← this]; exact rung_le _ _
          rw [with_eq s _ (by omega)]
          rfl
      rw [w64i (n := (m : Int) * 256 - (n' : Int)) (by omega) (by omega)]
      cases more with
      | true =>
        rw [if_pos rfl]
        by_cases hz : n' = 256 * m
        · exfalso
          have hz2 := sub.1.1 (by rw [hz]; simp)
          have e1 : 256 * n ≤ 256 * m * 2 ^ d := by rw [Nat.mul_assoc]; exact Nat.mul_le_mul_left _ hnm
          have e2 : 256 * n = 256 * m * 2 ^ d := by omega
          rw [e2, Nat.mul_mod_left] at hmore
          simp at hmore
        · rw [w64i (n := (m : Int) * 256 - (n' : Int) - 1) (by omega) (by omega), show (m : Int) * 256 - (n' : Int) - 1 = ((256 * m - n' - true.toNat : Nat) : Int) by rw [Bool.toNat_true]; omega]
          exact fin _ rfl
      | false =>
        rw [if_neg (by decide), show (m : Int) * 256 - (n' : Int) = ((256 * m - n' - false.toNat : Nat) : Int) by rw [Bool.toNat_false]; omega]
        exact fin _ rfl
  by_cases hd62 : 62 < d
  · rw [if_pos (by omega)]
    have hbig : 256 * n < 2 ^ d := Nat.lt_of_lt_of_le (by omega : 256 * n < 2 ^ 62) (Nat.pow_le_pow_right (by omega) (by omega))
    have := tail 0 true (Nat.div_eq_of_lt hbig).symm (by rw [Nat.mod_eq_of_lt hbig]; exact (decide_eq_true (by omega)).symm)
    exact this
  · have hp := Nat.two_pow_pos d
    have hpd : 2 ^ d ≤ 2 ^ 62 := Nat.pow_le_pow_right (by omega) (by omega)
    rw [if_neg (by omega), u64 (n := (d : Int)) (by omega) (by omega), if_pos (by omega)]
    have e1 : shl .i64 1 (d : Int) = ((2 ^ d : Nat) : Int) := by
      unfold shl
      rw [i64_w, show min (d : Int).toNat IntKind.i64.bits = d by show min _ 64 = _; omega]
      have : (1 : Int) * 2 ^ d = ((2 ^ d : Nat) : Int) := by push_cast; omega
      rw [this, w64i (by omega) (by omega)]
    have e3 : shr .i64 ((n : Int) * 256) (d : Int) = ((256 * n / 2 ^ d : Nat) : Int) := by
      unfold shr
      rw [show min (d : Int).toNat IntKind.i64.bits = d by show min _ 64 = _; omega]
      push_cast; rw [Int.mul_comm]
    have e4 : Int.tmod ((n : Int) * 256) ((2 ^ d : Nat) : Int) = ((256 * n % 2 ^ d : Nat) : Int) := by
      rw [Int.tmod_eq_emod_of_nonneg (by omega)]; push_cast; rw [Int.mul_comm]
    rw [e1, e3, e4, if_neg (by omega)]
    refine tail _ _ rfl ?_
    by_cases h : 256 * n % 2 ^ d = 0
    · rw [h]; rfl
    · rw [decide_eq_true h]; exact bne_iff_ne.2 (by omega)
theorem add_eq (k : Nat) (s t : Bool) (p q : Nat) (hk : 101 ≤ k) (hp0 : p ≠ 0) (hq0 : q ≠ 0) (hp : p < 2047 * 2 ^ 52) (hq : q < 2047 * 2 ^ 52) :
    anamnesisref02_add.f k (toI s p) (toI t q) = some (told ((dat s p).sum (dat t q))) := by
  by_cases hle : q ≤ p
  · exact add_big k s t p q (by omega) hp0 hq0 hp hq hle
  · obtain ⟨k, rfl⟩ : ∃ x, k = x + 1 := ⟨k - 1, by omega⟩
    simp only [anamnesisref02_add.f]
    rw [plain_eq s p (by omega), plain_eq t q (by omega)]
    simp only [Option.bind_some]
    rw [if_pos (by omega), add_big k t s q p (by omega) hq0 hp0 hq hp (by omega)]
    simp only [Option.bind_some]
    obtain ⟨m, i, e1, _⟩ := dat_fin s p hp
    obtain ⟨n, j, e2, _⟩ := dat_fin t q hq
    rw [e1, e2, sum_comm]
end Go.Proofs.YtnjihhheiiapnaaGreat
