/- Whether a float is below another one, or the same number, as the program tells it, is exactly the reference's answer. No condition. -/
import Derived.Test.YtbnpodkfcfdpeaaFltD
namespace Go.Proofs.Ytbnpodkfcfdpeaa.FA
open Go.RowKit Go.Proofs.Ytbnpodkfcfdpeaa.PFlt Go.Proofs.YtbnpodkfcfdpeaaW.PrintWords Go.Proofs.YtbnpodkfcfdpeaaW.PrintLast FM

theorem order_place (s : Bool) (p : Nat) (hp : p < 2 ^ 63) : anamnesisref02_order.f (toI s p) = some (place s p) := by
  unfold anamnesisref02_order.f
  rw [sign_eq s p hp, Option.bind_some]
  unfold place
  cases s
  · rw [if_neg (by decide), if_neg (by decide)]; rfl
  · rw [if_pos rfl, if_pos rfl, plain_eq true p hp, Option.bind_some, w64 (by omega) (by omega)]
theorem kind_pos (p : Nat) (hp : p < 2 ^ 63) : (kindOf p > 0 ↔ p ≤ 2047 * 2 ^ 52) := by
  rcases ways p hp with ⟨h, k⟩ | ⟨h, k⟩ | ⟨h, k⟩ | ⟨h, h', k⟩ <;> omega
theorem order_toI (s t : Bool) (p q : Nat) (hp : p < 2 ^ 63) (hq : q < 2 ^ 63) :
    Ieee.double.order (fbits (toI s p)) (fbits (toI t q)) = if p ≤ 2047 * 2 ^ 52 ∧ q ≤ 2047 * 2 ^ 52 then some (compare (place s p) (place t q)) else none := by
  unfold Ieee.Format.order
  rw [read_toI s p hp, read_toI t q hq]
  by_cases h : p ≤ 2047 * 2 ^ 52 ∧ q ≤ 2047 * 2 ^ 52
  · rw [if_pos h, order_dat s t p q h.1 h.2]
  · rw [if_neg h]
    by_cases h1 : p ≤ 2047 * 2 ^ 52
    · rw [dat_nan t q (by omega)]
      unfold Ieee.Datum.order; cases dat s p <;> rfl
    · rw [dat_nan s p (by omega)]
      rfl
theorem less_toI (s t : Bool) (p q : Nat) (hp : p < 2 ^ 63) (hq : q < 2 ^ 63) :
    flt_Less.f (toI s p) (toI t q) = some (decide (p ≤ 2047 * 2 ^ 52 ∧ q ≤ 2047 * 2 ^ 52 ∧ place s p < place t q)) := by
  unfold flt_Less.f
  rw [order_toI s t p q hp hq]
  by_cases h : p ≤ 2047 * 2 ^ 52 ∧ q ≤ 2047 * 2 ^ 52
  · rw [if_pos h]
    by_cases h2 : place s p < place t q
    · rw [Int.compare_eq_lt.2 h2, decide_eq_true ⟨h.1, h.2, h2⟩]; rfl
    · rw [decide_eq_false (fun x => h2 x.2.2)]
      have : ¬ compare (place s p) (place t q) = .lt := fun e => h2 (Int.compare_eq_lt.1 e)
      rw [show (some (compare (place s p) (place t q)) == some Ordering.lt) = false from beq_eq_false_iff_ne.2 (fun e => this (Option.some.inj e))]
  · rw [if_neg h, decide_eq_false (fun x => h ⟨x.1, x.2.1⟩)]; rfl
theorem equal_toI (s t : Bool) (p q : Nat) (hp : p < 2 ^ 63) (hq : q < 2 ^ 63) :
    flt_Equal.f (toI s p) (toI t q) = some (decide (p ≤ 2047 * 2 ^ 52 ∧ q ≤ 2047 * 2 ^ 52 ∧ place s p = place t q)) := by
  unfold flt_Equal.f
  rw [order_toI s t p q hp hq]
  by_cases h : p ≤ 2047 * 2 ^ 52 ∧ q ≤ 2047 * 2 ^ 52
  · rw [if_pos h]
    by_cases h2 : place s p = place t q
    · rw [Int.compare_eq_eq.2 h2, decide_eq_true ⟨h.1, h.2, h2⟩]; rfl
    · rw [decide_eq_false (fun x => h2 x.2.2)]
      have : ¬ compare (place s p) (place t q) = .eq := fun e => h2 (Int.compare_eq_eq.1 e)
      rw [show (some (compare (place s p) (place t q)) == some Ordering.eq) = false from beq_eq_false_iff_ne.2 (fun e => this (Option.some.inj e))]
  · rw [if_neg h, decide_eq_false (fun x => h ⟨x.1, x.2.1⟩)]; rfl
end Go.Proofs.Ytbnpodkfcfdpeaa.FA
namespace Go.Proofs.Ytbnpodkfcfdpeaa.Pure
open Go.RowKit Go.Proofs.Ytbnpodkfcfdpeaa.PFlt Go.Proofs.YtbnpodkfcfdpeaaW.PrintWords Go.Proofs.YtbnpodkfcfdpeaaW.PrintLast FM Go.Proofs.Ytbnpodkfcfdpeaa.FA
theorem FltOrder : anamnesislaw02_FltOrder.Pure := by
  intro a b ha hb
  obtain ⟨s, p, hp, rfl⟩ := split a ha
  obtain ⟨t, q, hq, rfl⟩ := split b hb
  unfold anamnesislaw02_FltOrder.f anamnesisref02_Less.f anamnesisref02_Equal.f
  rw [show anamnesislaw02_fixed.f = some true from rfl, Option.bind_some, less_toI s t p q hp hq, equal_toI s t p q hp hq, Kind_eq s p hp, Kind_eq t q hq, order_place s p hp, order_place t q hq]
  simp only [Option.bind_some]
  have k1 := kind_pos p hp
  have k2 := kind_pos q hq
  by_cases h1 : p ≤ 2047 * 2 ^ 52
  · rw [if_pos (k1.2 h1), if_pos (k1.2 h1)]
    by_cases h2 : q ≤ 2047 * 2 ^ 52
    · rw [if_pos (k2.2 h2), if_pos (k2.2 h2)]
      simp only [Option.bind_some, h1, h2, true_and, beq_self_eq_true, if_true]
      congr 1
      by_cases h3 : place s p = place t q
      · rw [decide_eq_true h3, beq_iff_eq.2 h3]; rfl
      · rw [decide_eq_false h3, beq_eq_false_iff_ne.2 h3]; rfl
    · rw [if_neg (fun h => h2 (k2.1 h)), if_neg (fun h => h2 (k2.1 h))]
      simp [h2]
  · rw [if_neg (fun h => h1 (k1.1 h)), if_neg (fun h => h1 (k1.1 h))]
    simp [h1]
end Go.Proofs.Ytbnpodkfcfdpeaa.Pure
