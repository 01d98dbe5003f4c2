/- What the statements' walks need. -/
import Derived.Test.YtemcemimipagoaaMVa4
import Derived.Test.YtemcemimipagoaaMVx1
import Derived.Test.YtemcemimipagoaaMVa2
import Ieee.Arith
import Derived.Laws.Externs
set_option linter.unusedVariables false
set_option linter.unusedSimpArgs false
set_option maxRecDepth 100000
namespace Go.Proofs.Ytemcemimipagoaa
open Go Go.Proofs AW
theorem order_self (x : Nat) : Ieee.double.order x x = if x % 2 ^ 63 ≤ 2047 * 2 ^ 52 then some .eq else none := by
  unfold Ieee.Format.order Ieee.Format.read
  simp only [show Ieee.double.signWeight = 2 ^ 63 from rfl, show Ieee.double.binade = 2 ^ 52 from rfl, show Ieee.double.infRung = 2047 * 2 ^ 52 from rfl]
  have hc : ∀ n : Nat, compare n n = Ordering.eq := fun n => by simp [compare, compareOfLessAndEq]
  have hi : ∀ n : Int, compare n n = Ordering.eq := fun n => by simp [compare, compareOfLessAndEq]
  by_cases h1 : x % 2 ^ 63 < 2 ^ 52
  · rw [if_pos h1, if_pos (by omega)]; simp [Ieee.Datum.order, hi]
  · rw [if_neg h1]
    by_cases h2 : x % 2 ^ 63 < 2047 * 2 ^ 52
    · rw [if_pos h2, if_pos (by omega)]; simp [Ieee.Datum.order, hi]
    · rw [if_neg h2]
      by_cases h3 : x % 2 ^ 63 = 2047 * 2 ^ 52
      · rw [if_pos h3, if_pos (by omega)]; simp [Ieee.Datum.order, hc]
      · rw [if_neg h3, if_neg (by omega)]; rfl
def In64 (a : Int) : Prop := -9223372036854775808 ≤ a ∧ a ≤ 9223372036854775807
def canI (a : Int) : Int := if a % 9223372036854775808 ≤ 9218868437227405312 then a else 9221120237041090561
def fbits (a : Int) : Nat := (IntKind.u64.wrap a).toNat
theorem fbits_eq (a : Int) : fbits a = (a % 18446744073709551616).toNat := by
  simp [fbits, IntKind.wrap, IntKind.bits, IntKind.signed]
theorem frombits_run (n : Int) (w : World) : (callFunc 84 #[.int .u64 n]).run Try.prog w = .ok (.value (.float .f64 n.toNat)) w := by
  rw [run_callFunc_extern (e := Extern.MathFloatBits.float64frombits) Try.func84 (by kernel_rfl) (by kernel_rfl) (by kernel_rfl) (by kernel_rfl)]
  rfl
theorem bits_run (b : Nat) (w : World) : (callFunc 83 #[.float .f64 b]).run Try.prog w = .ok (.value (.int .u64 b)) w := by
  rw [run_callFunc_extern (e := Extern.MathFloatBits.float64bits) Try.func83 (by kernel_rfl) (by kernel_rfl) (by kernel_rfl) (by kernel_rfl)]
  rfl
theorem number_ok (a : Int) : Gives Try.prog 80 [iv a] (.v (.float .f64 (fbits a))) := by
  refine gives_of Try.func80 rfl (Nat.le_of_ble_eq_true rfl) ?_
  (repeat' (first | refine mv ?_ | refine asg ?_ | refine cv' ?_ | refine aops_nil ?_ | refine aw_seq ?_ | refine aw_region ?_ | fail))
  refine xt (frombits_run _) ?_
  (repeat' (first | refine asg ?_ | refine aops_nil ?_ | refine aw_ret ?_ | fail))
  exact fin (.same _ (.v _))
def fcan (b : Nat) : Int := if b % 2 ^ 63 ≤ 2047 * 2 ^ 52 then IntKind.i64.wrap (b : Int) else 9221120237041090561
theorem bits_ok (b : Nat) : Gives Try.prog 79 [.v (.float .f64 b)] (iv (fcan b)) := by
  have e : (FloatKind.f64.format.order b b != some .eq) = !decide (b % 2 ^ 63 ≤ 2047 * 2 ^ 52) := by
    rw [show FloatKind.f64.format = Ieee.double from rfl, order_self b]
    by_cases h : b % 2 ^ 63 ≤ 2047 * 2 ^ 52
    · rw [if_pos h]; simp [h]
    · rw [if_neg h]; simp [h]
  refine gives_of Try.func79 rfl (Nat.le_of_ble_eq_true rfl) ?_
  (repeat' (first | refine mv ?_ | refine asg ?_ | refine bi ?_ | refine aops_nil ?_ | refine aw_seq ?_ | refine aw_region ?_ | fail))
  refine aw_cond (b := FloatKind.f64.format.order b b != some .eq) rfl (fun h => ?_) (fun h => ?_) <;> rw [e] at h <;> (repeat' (first | refine mv ?_ | refine asg ?_ | refine aops_nil ?_ | refine aw_seq ?_ | refine aw_region ?_ | refine aw_skip ?_ | refine aw_ret ?_ | fail))
  · exact fin (sh_iv (by simp at h; unfold fcan; rw [if_neg (by omega)]))
  · refine xt (bits_run _) ?_
    (repeat' (first | refine asg ?_ | refine cv' ?_ | refine aops_nil ?_ | refine aw_ret ?_ | fail))
    exact fin (sh_iv (by simp at h; unfold fcan; rw [if_pos (by omega)]))
theorem fcan_can (a : Int) (h : In64 a) : fcan (fbits a) = canI a := by
  obtain ⟨h1, h2⟩ := h
  rw [fbits_eq]
  unfold fcan canI
  by_cases hc : a % 9223372036854775808 ≤ 9218868437227405312
  · rw [if_pos hc, if_pos (by omega), IntKind.wrap_i64]
    omega
  · rw [if_neg hc, if_neg (by omega)]
theorem canon_ok (a : Int) (h : In64 a) : Gives Try.prog 71 [iv a] (iv (canI a)) := by
  refine gives_of Try.func71 rfl (Nat.le_of_ble_eq_true rfl) ?_
  (repeat' (first | refine mv ?_ | refine asg ?_ | refine aops_nil ?_ | refine aw_seq ?_ | refine aw_region ?_ | fail))
  refine cl (number_ok _) ?_
  (repeat' (fail))
  refine cl (bits_ok _) ?_
  (repeat' (first | refine asg ?_ | refine aops_nil ?_ | refine aw_ret ?_ | fail))
  exact fin (sh_iv (fcan_can a h))
end Go.Proofs.Ytemcemimipagoaa
