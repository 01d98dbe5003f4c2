import Derived.Test.YtafbiccgbgcooaaDoorPValx3
import Derived.Test.YtafbiccgbgcooaaDoorVB
namespace Go.Proofs.YtafbiccgbgcooaaDoor.Pure
open Go.RowKit Go.Proofs.YtafbiccgbgcooaaDoor.PVal Go.Proofs.YtafbiccgbgcooaaDoorW.PrintWords Go.Proofs.YtafbiccgbgcooaaDoorW.PrintLast
open Go.Proofs.YtafbiccgbgcooaaDoor.VA
theorem toList_loop (b : ByteArray) : ∀ (n i : Nat) (r : List UInt8), b.size - i = n → ByteArray.toList.loop b i r = r.reverse ++ b.data.toList.drop i := by
  intro n
  induction n with
  | zero =>
    intro i r h
    unfold ByteArray.toList.loop
    rw [if_neg (by omega), List.drop_eq_nil_of_le (by rw [Array.length_toList]; exact (show b.size ≤ i by omega)), List.append_nil]
  | succ n ih =>
    intro i r h
    unfold ByteArray.toList.loop
    rw [if_pos (by omega), ih (i + 1) _ (by omega)]
    have hi : i < b.data.toList.length := by rw [Array.length_toList]; exact (show i < b.size by omega)
    rw [List.drop_eq_getElem_cons hi, List.reverse_cons, List.append_assoc]
    congr 1
    show [b.get! i] ++ _ = _
    rw [List.singleton_append]
    congr 1
    show b.data[i]! = _
    rw [getElem!_pos b.data i (by rw [← Array.length_toList]; exact hi)]
    simp
theorem toListL (l : List UInt8) : (⟨l.toArray⟩ : ByteArray).toList = l := by
  unfold ByteArray.toList
  rw [toList_loop _ _ 0 [] rfl]; simp
def readDigits (l : List UInt8) : Nat := l.foldl (fun s b => s * 10 + (b.toNat - 48)) 0
theorem u8dig (d : Nat) (h : d < 10) : (UInt8.ofNat (48 + d)).toNat = 48 + d := by
  rw [UInt8.toNat_ofNat']; omega
theorem read_dec (u : Nat) : readDigits (Lib.decDigits u) = u := by
  induction u using Nat.strongRecOn with
  | _ u ih =>
    by_cases h : u < 10
    · rw [Lib.decDigits_one h]; unfold readDigits
      rw [List.foldl_cons, List.foldl_nil, u8dig u h]; omega
    · rw [Lib.decDigits, dif_neg h]
      have := ih (u / 10) (by omega)
      unfold readDigits at *
      rw [List.foldl_append, this, List.foldl_cons, List.foldl_nil, u8dig _ (by omega)]; omega
theorem dec_all (u : Nat) : ∀ b ∈ Lib.decDigits u, 48 ≤ b.toNat ∧ b.toNat ≤ 57 := by
  induction u using Nat.strongRecOn with
  | _ u ih =>
    intro b hb
    by_cases h : u < 10
    · rw [Lib.decDigits_one h] at hb
      rw [List.mem_singleton.mp hb, u8dig u h]; omega
    · rw [Lib.decDigits, dif_neg h] at hb
      rcases List.mem_append.mp hb with hb | hb
      · exact ih (u / 10) (by omega) b hb
      · rw [List.mem_singleton.mp hb, u8dig _ (by omega)]; omega
theorem dec_ne (u : Nat) : ∃ b l, Lib.decDigits u = b :: l ∧ 48 ≤ b.toNat ∧ b.toNat ≤ 57 := by
  cases e : Lib.decDigits u with
  | nil =>
    have := Lib.decDigits_length u; rw [e] at this
    have := Lib.nDigits_pos u; simp at *; omega
  | cons b l => exact ⟨b, l, rfl, dec_all u b (by rw [e]; exact List.mem_cons_self)⟩
theorem itoa_inj {m n : Int} (h : Lib.itoa m = Lib.itoa n) : m = n := by
  unfold Lib.itoa at h
  have d : ∀ u v, (45 : UInt8) :: Lib.decDigits u ≠ Lib.decDigits v := by
    intro u v e
    obtain ⟨b, l, h1, h2, _⟩ := dec_ne v
    rw [h1] at e
    obtain ⟨rfl, _⟩ := List.cons.inj e
    revert h2; decide
  by_cases h1 : m < 0
  · by_cases h2 : n < 0
    · rw [if_pos h1, if_pos h2] at h
      have := congrArg readDigits (List.cons.inj h).2
      rw [read_dec, read_dec] at this; omega
    · rw [if_pos h1, if_neg h2] at h; exact absurd h (d _ _)
  · by_cases h2 : n < 0
    · rw [if_neg h1, if_pos h2] at h; exact absurd h.symm (d _ _)
    · rw [if_neg h1, if_neg h2] at h
      have := congrArg readDigits h
      rw [read_dec, read_dec] at this; omega
theorem itoa_head (n : Int) : ∃ b l, Lib.itoa n = b :: l ∧ b ≠ 64 := by
  unfold Lib.itoa
  split
  · exact ⟨_, _, rfl, by decide⟩
  · obtain ⟨b, l, h1, h2, h3⟩ := dec_ne n.toNat
    exact ⟨b, l, h1, by rintro rfl; revert h3; decide⟩
/-- The bytes of a text. -/
theorem textL (a : Int) : (textOf a).toList = if (nOf a).2 = true then Lib.itoa (nOf a).1 else if (atOf a).2 = true then 64 :: Lib.itoa (atOf a).1 else [] := by
  have t : ∀ l : List UInt8, (⟨l.toArray⟩ : ByteArray).toList = l := toListL
  unfold textOf
  split
  · exact t _
  · split
    · rw [show ((⟨#[64]⟩ : ByteArray)) = ⟨([64] : List UInt8).toArray⟩ from rfl]; unfold itoaB; rw [app, t]; rfl
    · exact t []
theorem nOf_t {a : Int} (h : (nOf a).2 = true) : a = 2 * (nOf a).1 + 1 := by
  unfold nOf at *
  by_cases z : a % 2 = 1 ∧ -1073741824 ≤ a / 2 ∧ a / 2 ≤ 1073741823
  · rw [if_pos z]; show a = 2 * (a / 2) + 1; omega
  · rw [if_neg z] at h; cases h
theorem atOf_t {a : Int} (h : (atOf a).2 = true) : a = 2 * (atOf a).1 := by
  unfold atOf at *
  by_cases z : a % 2 = 0 ∧ 0 ≤ a / 2 ∧ a / 2 < 1048576
  · rw [if_pos z]; show a = 2 * (a / 2); omega
  · rw [if_neg z] at h; cases h
theorem text_may (a : Int) : ((textOf a).toList = []) ↔ ((nOf a).2 || (atOf a).2) = false := by
  rw [textL]
  cases h1 : (nOf a).2
  · cases h2 : (atOf a).2 <;> simp
  · obtain ⟨b, l, e, _⟩ := itoa_head (nOf a).1
    simp [e]
theorem text_inj {a b : Int} (ha : ((nOf a).2 || (atOf a).2) = true) (hb : ((nOf b).2 || (atOf b).2) = true) (h : (textOf a).toList = (textOf b).toList) : a = b := by
  rw [textL, textL] at h
  by_cases h1 : (nOf a).2 = true
  · by_cases h2 : (nOf b).2 = true
    · rw [if_pos h1, if_pos h2] at h
      have := itoa_inj h; rw [nOf_t h1, nOf_t h2, this]
    · have h3 : (atOf b).2 = true := by simpa [h2] using hb
      rw [if_pos h1, if_neg h2, if_pos h3] at h
      obtain ⟨x, l, e, e2⟩ := itoa_head (nOf a).1
      rw [e] at h; exact absurd (List.cons.inj h).1 e2
  · have h4 : (atOf a).2 = true := by simpa [h1] using ha
    by_cases h2 : (nOf b).2 = true
    · rw [if_neg h1, if_pos h4, if_pos h2] at h
      obtain ⟨x, l, e, e2⟩ := itoa_head (nOf b).1
      rw [e] at h; exact absurd (List.cons.inj h).1.symm e2
    · have h3 : (atOf b).2 = true := by simpa [h2] using hb
      rw [if_neg h1, if_pos h4, if_neg h2, if_pos h3] at h
      have := itoa_inj (List.cons.inj h).2; rw [atOf_t h4, atOf_t h3, this]
theorem ValueTexts : anamnesislaw01_ValueTexts.Pure := by
  intro a b _ _
  unfold anamnesislaw01_ValueTexts.f
  simp only [text_eq, may_eq, Option.bind_some, anamnesislaw01_fixed.f]
  cases ha : ((nOf a).2 || (atOf a).2) with
  | true =>
    have e1 : ¬ (textOf a).toList = [] := fun z => by have := (text_may a).1 z; rw [ha] at this; cases this
    cases hb : ((nOf b).2 || (atOf b).2) with
    | true =>
      have e2 : ¬ (textOf b).toList = [] := fun z => by have := (text_may b).1 z; rw [hb] at this; cases this
      rw [if_pos rfl, if_neg e1, if_pos rfl, if_neg e2]
      by_cases h : a = b
      · subst h; simp
      · have : ¬ (textOf a).toList = (textOf b).toList := fun z => h (text_inj ha hb z)
        rw [beq_eq_false_iff_ne.mpr this, beq_eq_false_iff_ne.mpr h]; rfl
    | false =>
      have e2 : (textOf b).toList = [] := (text_may b).2 hb
      rw [if_pos rfl, if_neg e1, if_neg (by simp), if_pos e2, if_pos e2]
  | false =>
    have e1 : (textOf a).toList = [] := (text_may a).2 ha
    rw [if_neg (by simp), if_pos e1]
    cases hb : ((nOf b).2 || (atOf b).2) with
    | true =>
      have e2 : ¬ (textOf b).toList = [] := fun z => by have := (text_may b).1 z; rw [hb] at this; cases this
      rw [if_pos rfl, if_neg e2, if_pos e1]
    | false =>
      have e2 : (textOf b).toList = [] := (text_may b).2 hb
      rw [if_neg (by simp), if_pos e2, if_pos e1]
end Go.Proofs.YtafbiccgbgcooaaDoor.Pure
