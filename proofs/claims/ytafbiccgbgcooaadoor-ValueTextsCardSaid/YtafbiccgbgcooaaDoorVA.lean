import Derived.Test.YtafbiccgbgcooaaDoorPValx2
namespace Go.Proofs.YtafbiccgbgcooaaDoor.VA
open Go Go.RowKit Go.Proofs.YtafbiccgbgcooaaDoor.PVal Go.Proofs.YtafbiccgbgcooaaDoorW.PrintWords Go.Proofs.YtafbiccgbgcooaaDoorW.PrintLast

theorem w_id (n : Int) (h0 : -9223372036854775808 ≤ n) (h1 : n ≤ 9223372036854775807) : wrap64 n = n := by
  unfold wrap64; omega
theorem wf64 {a : Int} (h : (Lit.int .i64 a).wf = true) : -9223372036854775808 ≤ a ∧ a ≤ 9223372036854775807 := by
  simp only [Lit.wf, IntKind.min, IntKind.max, IntKind.signed, IntKind.bits, Bool.and_eq_true, decide_eq_true_eq, if_true] at h
  omega
theorem and1 (a : Int) : Go.bits .and .i64 a 1 = a % 2 := by
  unfold Go.bits
  have e : (BitVec.ofInt 64 a &&& BitVec.ofInt 64 1).toNat = (a % 2).toNat := by
    rw [BitVec.toNat_and, BitVec.toNat_ofInt, show (BitVec.ofInt 64 1).toNat = 1 from rfl, Nat.and_one_is_mod]
    omega
  show IntKind.i64.wrap (((BitVec.ofInt 64 a &&& BitVec.ofInt 64 1).toNat : Nat) : Int) = _
  rw [e]
  have h := Int.emod_two_eq a
  rcases h with h | h <;> rw [h] <;> rfl
theorem or1 (a : Int) (h0 : -1073741824 ≤ a) (h1 : a ≤ 1073741823) : Go.bits .or .i64 (wrap64 (a * 2)) 1 = 2 * a + 1 := by
  rw [w_id _ (by omega) (by omega)]
  unfold Go.bits
  have e : (BitVec.ofInt 64 (a * 2) ||| BitVec.ofInt 64 1).toNat = ((a * 2) % 18446744073709551616).toNat + 1 := by
    rw [BitVec.toNat_or, BitVec.toNat_ofInt, show (BitVec.ofInt 64 1).toNat = 1 from rfl]
    obtain ⟨k, hk⟩ : ∃ k : Nat, ((a * 2) % ((2 ^ 64 : Nat) : Int)).toNat = k <<< 1 := ⟨((a * 2) % 18446744073709551616).toNat / 2, by rw [Nat.shiftLeft_eq]; omega⟩
    have h2 := Nat.shiftLeft_add_eq_or_of_lt (a := k) (b := 1) (i := 1) (by decide)
    have h3 : ((a * 2) % 18446744073709551616).toNat = k <<< 1 := hk
    rw [hk, h3, h2]
  show IntKind.i64.wrap (((BitVec.ofInt 64 (a * 2) ||| BitVec.ofInt 64 1).toNat : Nat) : Int) = _
  rw [e]
  simp only [IntKind.wrap, IntKind.bits, IntKind.signed, Bool.true_and]
  split <;> simp at * <;> omega

def intOf (a : Int) : Int × Bool := if -1073741824 ≤ a ∧ a ≤ 1073741823 then (2 * a + 1, true) else (0, false)
def refOf (a : Int) : Int × Bool := if 0 ≤ a ∧ a < 1048576 then (2 * a, true) else (0, false)
def nOf (a : Int) : Int × Bool := if a % 2 = 1 ∧ -1073741824 ≤ a / 2 ∧ a / 2 ≤ 1073741823 then (a / 2, true) else (0, false)
def atOf (a : Int) : Int × Bool := if a % 2 = 0 ∧ 0 ≤ a / 2 ∧ a / 2 < 1048576 then (a / 2, true) else (0, false)
theorem small_eq (a : Int) : value_small.f a = some (decide (-1073741824 ≤ a ∧ a ≤ 1073741823)) := by
  unfold value_small.f
  by_cases h : a ≥ -1073741824
  · rw [if_pos h]; simp [h]
  · rw [if_neg h]; simp; omega
theorem object_eq (a : Int) : value_object.f a = some (decide (0 ≤ a ∧ a < 1048576)) := by
  unfold value_object.f
  by_cases h : a ≥ 0
  · rw [if_pos h]; simp [h]
  · rw [if_neg h]; simp; omega
theorem int_eq (a : Int) : value_Int.f a = some (intOf a) := by
  unfold value_Int.f intOf
  rw [small_eq, Option.bind_some]
  by_cases h : -1073741824 ≤ a ∧ a ≤ 1073741823
  · rw [if_pos h, if_pos (by simpa using h), or1 a h.1 h.2]
  · rw [if_neg h, if_neg (by simpa using h)]
theorem int_ref (a : Int) : anamnesisref01_Int.f a = some (intOf a) := by
  unfold anamnesisref01_Int.f intOf
  by_cases h : -1073741824 ≤ a ∧ a ≤ 1073741823
  · rw [if_pos h, if_neg (by omega), if_neg (by omega), w_id (2 * a) (by omega) (by omega), w_id _ (by omega) (by omega)]
  · rw [if_neg h]
    by_cases h1 : a < -1073741824
    · rw [if_pos h1]
    · rw [if_neg h1, if_pos (by omega)]
theorem ref_eq (a : Int) : value_Ref.f a = some (refOf a) := by
  unfold value_Ref.f refOf
  rw [object_eq, Option.bind_some]
  by_cases h : 0 ≤ a ∧ a < 1048576
  · rw [if_pos h, if_pos (by simpa using h), w_id _ (by omega) (by omega), Int.mul_comm]
  · rw [if_neg h, if_neg (by simpa using h)]
theorem ref_ref (a : Int) : anamnesisref01_Ref.f a = some (refOf a) := by
  unfold anamnesisref01_Ref.f refOf
  by_cases h : 0 ≤ a ∧ a < 1048576
  · rw [if_pos h, if_neg (by omega), if_neg (by omega), w_id (2 * a) (by omega) (by omega)]
  · rw [if_neg h]
    by_cases h1 : a < 0
    · rw [if_pos h1]
    · rw [if_neg h1, if_pos (by omega)]
theorem n_eq (a : Int) : value_N.f a = some (nOf a) := by
  unfold value_N.f nOf
  rw [and1, small_eq, Option.bind_some]
  by_cases h : a % 2 = 1
  · rw [if_pos h]
    by_cases h2 : -1073741824 ≤ a / 2 ∧ a / 2 ≤ 1073741823
    · rw [if_pos (by simpa using h2), if_pos ⟨h, h2⟩]
    · rw [if_neg (by simpa using h2), if_neg (fun z => h2 z.2)]
  · rw [if_neg h, if_neg (fun z => h z.1)]
theorem at_eq (a : Int) : value_At.f a = some (atOf a) := by
  unfold value_At.f atOf
  rw [and1, object_eq, Option.bind_some]
  by_cases h : a % 2 = 0
  · rw [if_pos h]
    by_cases h2 : 0 ≤ a / 2 ∧ a / 2 < 1048576
    · rw [if_pos (by simpa using h2), if_pos ⟨h, h2⟩]
    · rw [if_neg (by simpa using h2), if_neg (fun z => h2 z.2)]
  · rw [if_neg h, if_neg (fun z => h z.1)]
theorem tm0 (a : Int) : (Int.tmod a 2 = 0) = (a % 2 = 0) := by
  have h : Int.tmod a 2 = a % 2 ∨ Int.tmod a 2 = a % 2 - 2 ∧ a % 2 ≠ 0 := by
    have := Int.tmod_eq_emod (a := a) (b := 2); rw [this]
    by_cases h : 0 ≤ a ∨ (2:Int) ∣ a
    · left; rw [if_pos h]; omega
    · right; rw [if_neg h]; simp; omega
  apply propext; omega
theorem n_ref (a : Int) (hw : -9223372036854775808 ≤ a ∧ a ≤ 9223372036854775807) : anamnesisref01_N.f a = some (nOf a) := by
  unfold anamnesisref01_N.f nOf
  simp only [tm0]
  by_cases h : a % 2 = 0
  · rw [if_pos h, if_neg (by omega)]
  · rw [if_neg h]
    by_cases h1 : a < -2147483647
    · rw [if_pos h1, if_neg (by omega)]
    · rw [if_neg h1]
      by_cases h2 : a > 2147483647
      · rw [if_pos h2, if_neg (by omega)]
      · have e : Int.tdiv (a - 1) 2 = a / 2 := by
          have hd : (2 : Int) ∣ a - 1 := by omega
          rw [Int.tdiv_eq_ediv_of_dvd hd]; omega
        rw [if_neg h2, w_id (a - 1) (by omega) (by omega), e, w_id _ (by omega) (by omega), if_pos (by omega)]
theorem at_ref (a : Int) : anamnesisref01_At.f a = some (atOf a) := by
  unfold anamnesisref01_At.f atOf
  simp only [tm0]
  by_cases h : a % 2 = 0
  · rw [if_pos h]
    by_cases h1 : a < 0
    · rw [if_pos h1, if_neg (by omega)]
    · rw [if_neg h1]
      by_cases h2 : a > 2097150
      · rw [if_pos h2, if_neg (by omega)]
      · have e : Int.tdiv a 2 = a / 2 := Int.tdiv_eq_ediv_of_nonneg (by omega)
        rw [if_neg h2, e, w_id _ (by omega) (by omega), if_pos (by omega)]
  · rw [if_neg h, if_neg (fun z => h z.1)]
theorem may_eq (a : Int) : value_May.f a = some ((nOf a).2 || (atOf a).2) := by
  unfold value_May.f
  rw [n_eq, at_eq, Option.bind_some, Option.bind_some]
  cases (nOf a).2 <;> simp
theorem may_ref (a : Int) (hw : -9223372036854775808 ≤ a ∧ a ≤ 9223372036854775807) : anamnesisref01_May.f a = some ((nOf a).2 || (atOf a).2) := by
  unfold anamnesisref01_May.f
  rw [n_ref a hw, at_ref, Option.bind_some, Option.bind_some]
  cases (nOf a).2 <;> simp
end Go.Proofs.YtafbiccgbgcooaaDoor.VA
