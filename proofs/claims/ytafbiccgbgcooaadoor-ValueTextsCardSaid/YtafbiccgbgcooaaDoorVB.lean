import Derived.Test.YtafbiccgbgcooaaDoorVA
namespace Go.Proofs.YtafbiccgbgcooaaDoor.VA
open Go Go.RowKit Go.Proofs.YtafbiccgbgcooaaDoor.PVal Go.Proofs.YtafbiccgbgcooaaDoorW.PrintWords Go.Proofs.YtafbiccgbgcooaaDoorW.PrintLast

def itoaB (n : Int) : ByteArray := ⟨(Lib.itoa n).toArray⟩
theorem app (x y : List UInt8) : (⟨x.toArray⟩ : ByteArray) ++ ⟨y.toArray⟩ = ⟨(x ++ y).toArray⟩ := by
  apply ByteArray.ext
  show (ByteArray.append _ _).data = _
  simp [ByteArray.append_eq, ByteArray.data_append]
theorem sz (x : List UInt8) : (⟨x.toArray⟩ : ByteArray).size = x.length := by
  show x.toArray.size = _; simp
theorem nd_le (u : Nat) (h : u < 10 ^ 12) : Lib.nDigits u ≤ 12 := by
  by_cases h0 : Lib.nDigits u ≤ 12
  · exact h0
  · have hk : ∀ (k u : Nat), u < 10 ^ k → 1 ≤ k → Lib.nDigits u ≤ k := by
      intro k
      induction k with
      | zero => intro u _ h; omega
      | succ k ih =>
        intro u hu _
        by_cases hs : u < 10
        · rw [Lib.nDigits_small hs]; omega
        · rw [Lib.nDigits_big hs]
          have hk1 : 1 ≤ k := by
            rcases k with _ | k
            · simp at hu; omega
            · omega
          have := ih (u / 10) (by rw [Nat.pow_succ] at hu; omega) hk1
          omega
    exact hk 12 u h (by decide)
theorem dl (u : Nat) (h : u < 10 ^ 12) : (Lib.decDigits u).length ≤ 12 := by rw [Lib.decDigits_length]; exact nd_le u h
theorem one (d : Nat) (h : d < 10) : strOfNums ([(wrap64 (48 + (d : Int))) % 256] : List Int) = ⟨([UInt8.ofNat (48 + d)] : List UInt8).toArray⟩ := by
  have e : (wrap64 (48 + (d : Int))) % 256 = ((48 + d : Nat) : Int) := by rw [w_id _ (by omega) (by omega)]; omega
  rw [e]; unfold strOfNums; rw [List.map_cons, List.map_nil, Int.toNat_natCast]
/-- The digits of what is not negative. -/
theorem dig_pos : ∀ (k u : Nat), u < 10 ^ (k + 1) → u < 10 ^ 12 → anamnesisref01_Digits.f (k + 1) (u : Int) = some ⟨(Lib.decDigits u).toArray⟩ := by
  intro k
  induction k with
  | zero =>
    intro u h _
    have h9 : u < 10 := by simpa using h
    unfold anamnesisref01_Digits.f
    have e : Int.tmod (u : Int) 10 = ((u : Nat) : Int) := by rw [Int.tmod_eq_emod_of_nonneg (by omega)]; omega
    rw [if_neg (by omega), e, Option.bind_some, if_neg (by omega), one u h9, Lib.decDigits_one h9]
  | succ k ih =>
    intro u h h12
    unfold anamnesisref01_Digits.f
    have e : Int.tmod (u : Int) 10 = ((u % 10 : Nat) : Int) := by rw [Int.tmod_eq_emod_of_nonneg (by omega)]; omega
    have e2 : Int.tdiv (u : Int) 10 = ((u / 10 : Nat) : Int) := by rw [Int.tdiv_eq_ediv_of_nonneg (by omega)]; omega
    rw [if_neg (by omega), e, e2, Option.bind_some, one _ (by omega)]
    by_cases h9 : u < 10
    · rw [if_neg (by omega), Lib.decDigits_one h9, show u % 10 = u by omega]
    · have hp : u / 10 < 10 ^ (k + 1) := by rw [Nat.pow_succ] at h; omega
      rw [if_pos (by omega), w_id _ (by omega) (by omega), ih _ hp (by omega), Option.bind_some, sz, sz, if_pos (by have := dl (u / 10) (by omega); simp; omega), app]
      conv => rhs; rw [Lib.decDigits, dif_neg h9]
theorem dig (n : Int) (h0 : -1000000000000 < n) (h1 : n < 1000000000000) : anamnesisref01_Digits.f 13 n = some (itoaB n) := by
  unfold itoaB
  by_cases hn : 0 ≤ n
  · obtain ⟨u, rfl⟩ := Int.eq_ofNat_of_zero_le hn
    rw [dig_pos 12 u (by simp; omega) (by simp; omega)]
    unfold Lib.itoa; rw [if_neg (by omega)]; rfl
  · obtain ⟨u, rfl⟩ : ∃ u : Nat, n = -(u : Int) := ⟨n.natAbs, by omega⟩
    unfold anamnesisref01_Digits.f
    have e : Int.tmod (-(u : Int)) 10 = -((u % 10 : Nat) : Int) := by rw [Int.neg_tmod, Int.tmod_eq_emod_of_nonneg (by omega)]; omega
    have e2 : Int.tdiv (-(u : Int)) 10 = -((u / 10 : Nat) : Int) := by rw [Int.neg_tdiv, Int.tdiv_eq_ediv_of_nonneg (by omega)]; omega
    have i : Lib.itoa (-(u : Int)) = 45 :: Lib.decDigits u := by
      unfold Lib.itoa; rw [if_pos (by omega), Int.natAbs_neg, Int.natAbs_natCast]
    rw [if_pos (by omega), i, e, e2]
    by_cases h9 : u < 10
    · rw [if_neg (by omega), Int.neg_neg, w_id _ (by omega) (by omega), dig_pos 11 u (by simp; omega) (by simp; omega), Option.bind_some, sz, if_pos (by have := dl u (by simp; omega); omega)]
      exact congrArg some (app [45] _)
    · rw [if_pos (by omega), w_id (-((u / 10 : Nat) : Int)) (by omega) (by omega), Int.neg_neg, w_id _ (by omega) (by omega), Int.neg_neg, w_id _ (by omega) (by omega),
        dig_pos 11 (u / 10) (by simp; omega) (by simp; omega), dig_pos 11 (u % 10) (by simp; omega) (by simp; omega), Option.bind_some, Option.bind_some, sz, sz,
        if_pos (by have := dl (u / 10) (by simp; omega); omega), if_pos (by have := dl (u / 10) (by simp; omega); have := dl (u % 10) (by simp; omega); omega)]
      have a1 := app [45] (Lib.decDigits (u / 10))
      rw [show ((⟨#[45]⟩ : ByteArray)) = ⟨([45] : List UInt8).toArray⟩ from rfl, a1, app]
      conv => rhs; rw [Lib.decDigits, dif_neg h9]
      rw [Lib.decDigits_one (show u % 10 < 10 by omega)]; simp
def textOf (a : Int) : ByteArray := if (nOf a).2 = true then itoaB (nOf a).1 else if (atOf a).2 = true then (⟨#[64]⟩ : ByteArray) ++ itoaB (atOf a).1 else ⟨#[]⟩
theorem nOf_b (a : Int) : -1073741824 ≤ (nOf a).1 ∧ (nOf a).1 ≤ 1073741823 := by
  unfold nOf; split
  · rename_i h; exact h.2
  · simp
theorem atOf_b (a : Int) : 0 ≤ (atOf a).1 ∧ (atOf a).1 < 1048576 := by
  unfold atOf; split
  · rename_i h; exact h.2
  · simp
theorem itoa_eq (n : Int) (h0 : -1000000000000 < n) (h1 : n < 1000000000000) : strconv_Itoa.f n = some (itoaB n) := by
  unfold strconv_Itoa.f; rw [if_pos (by omega)]; rfl
theorem itoaB_sz (n : Int) (h0 : -1000000000000 < n) (h1 : n < 1000000000000) : (itoaB n).size ≤ 13 := by
  unfold itoaB; rw [sz]; unfold Lib.itoa; split
  · rw [List.length_cons]; have := dl n.natAbs (by simp; omega); omega
  · have := dl n.toNat (by simp; omega); omega
theorem text_eq (a : Int) : value_Text.f a = some (textOf a) := by
  unfold value_Text.f textOf
  have b1 := nOf_b a; have b2 := atOf_b a
  rw [n_eq, Option.bind_some, at_eq, Option.bind_some, itoa_eq _ (by omega) (by omega), itoa_eq _ (by omega) (by omega), Option.bind_some, Option.bind_some]
  have := itoaB_sz (atOf a).1 (by omega) (by omega)
  by_cases c1 : (nOf a).2 = true
  · rw [if_pos c1, if_pos c1]
  · rw [if_neg c1, if_neg c1]
    by_cases c2 : (atOf a).2 = true
    · rw [if_pos c2, if_pos c2, if_pos (by omega)]
    · rw [if_neg c2, if_neg c2]
theorem text_ref (a : Int) (hw : -9223372036854775808 ≤ a ∧ a ≤ 9223372036854775807) : anamnesisref01_Text.f 13 a = some (textOf a) := by
  unfold anamnesisref01_Text.f textOf
  have b1 := nOf_b a; have b2 := atOf_b a
  rw [n_ref a hw, Option.bind_some, at_ref, Option.bind_some, dig _ (by omega) (by omega), dig _ (by omega) (by omega), Option.bind_some, Option.bind_some]
  have := itoaB_sz (atOf a).1 (by omega) (by omega)
  by_cases c1 : (nOf a).2 = true
  · rw [if_pos c1, if_pos c1]
  · rw [if_neg c1, if_neg c1]
    by_cases c2 : (atOf a).2 = true
    · rw [if_pos c2, if_pos c2, if_pos (by omega)]
    · rw [if_neg c2, if_neg c2]
end Go.Proofs.YtafbiccgbgcooaaDoor.VA
