/- What the statements' walks need. -/
import Derived.Test.YtemcemimipagoaaMVa4
import Derived.Test.YtemcemimipagoaaMVa2
import Derived.Test.YtemcemimipagoaaChecked
set_option linter.unusedVariables false
set_option linter.unusedSimpArgs false
set_option maxRecDepth 100000
namespace Go.Proofs.Ytemcemimipagoaa
open Go Go.Proofs AW
abbrev iv (n : Int) : AV := .v (.int .i64 n)
abbrev bv (b : Bool) : AV := .v (.bool b)
theorem sh_iv {T : Nat → Ob} {x y : Int} (h : x = y) : Sh T (iv x) (iv y) := h ▸ .same _ (.v _)
theorem sh_bv {T : Nat → Ob} {x y : Bool} (h : x = y) : Sh T (bv x) (bv y) := h ▸ .same _ (.v _)
theorem sh_ib {T : Nat → Ob} {x x' : Int} {y y' : Bool} (h : x = x') (k : y = y') : Sh T (.tup [iv x, bv y]) (.tup [iv x', bv y']) := sh_tup ⟨sh_iv h, sh_bv k, trivial⟩
def isAt (v : Int) : Bool := decide (v % 2 = 0 ∧ 0 ≤ v ∧ v ≤ 2097150)
def atI (v : Int) : Int := if isAt v = true then v / 2 else 0
def isN (v : Int) : Bool := decide (v % 2 = 1 ∧ -2147483647 ≤ v ∧ v ≤ 2147483647)
def nI (v : Int) : Int := if isN v = true then v / 2 else 0
theorem in_ok (n m : Int) : Gives Try.prog 51 [iv n, iv m] (bv (decide (0 ≤ n ∧ n ≤ m))) := by
  refine gives_of Try.func51 rfl (Nat.le_of_ble_eq_true rfl) ?_
  (repeat' (first | refine mv ?_ | refine asg ?_ | refine bi ?_ | refine aops_nil ?_ | refine aw_seq ?_ | refine aw_region ?_ | fail))
  refine gs (fun h => ?_) (fun h => ?_) <;> (repeat' (first | refine sk ?_ | refine mv ?_ | refine asg ?_ | refine bi ?_ | refine pt ?_ | refine pf ?_ | refine aops_nil ?_ | refine aw_ret ?_ | fail)) <;> refine fin (sh_bv ?_) <;> simp at h <;> simp <;> omega
theorem object_ok (n : Int) : Gives Try.prog 74 [iv n] (bv (decide (0 ≤ n ∧ n < 1048576))) := by
  refine gives_of Try.func74 rfl (Nat.le_of_ble_eq_true rfl) ?_
  (repeat' (first | refine mv ?_ | refine asg ?_ | refine bi ?_ | refine aops_nil ?_ | refine aw_seq ?_ | refine aw_region ?_ | fail))
  refine gs (fun h => ?_) (fun h => ?_) <;> (repeat' (first | refine sk ?_ | refine mv ?_ | refine asg ?_ | refine bi ?_ | refine pt ?_ | refine pf ?_ | refine aops_nil ?_ | refine aw_ret ?_ | fail)) <;> refine fin (sh_bv ?_) <;> simp at h <;> simp <;> omega
theorem small_ok (n : Int) : Gives Try.prog 59 [iv n] (bv (decide (-1073741824 ≤ n ∧ n ≤ 1073741823))) := by
  refine gives_of Try.func59 rfl (Nat.le_of_ble_eq_true rfl) ?_
  (repeat' (first | refine mv ?_ | refine asg ?_ | refine bi ?_ | refine aops_nil ?_ | refine aw_seq ?_ | refine aw_region ?_ | fail))
  refine gs (fun h => ?_) (fun h => ?_) <;> (repeat' (first | refine sk ?_ | refine mv ?_ | refine asg ?_ | refine bi ?_ | refine pt ?_ | refine pf ?_ | refine aops_nil ?_ | refine aw_ret ?_ | fail)) <;> refine fin (sh_bv ?_) <;> simp at h <;> simp <;> omega
theorem At_ok (v : Int) : Gives Try.prog 57 [iv v] (.tup [iv (atI v), bv (isAt v)]) := by
  refine gives_of Try.func57 rfl (Nat.le_of_ble_eq_true rfl) ?_
  (repeat' (first | refine mv ?_ | refine asg ?_ | refine ms 1 ?_ | refine sr (c := 2) ?_ | refine bi ?_ | refine aops_nil ?_ | refine aw_seq ?_ | refine aw_region ?_ | fail))
  refine gs (fun h => ?_) (fun h => ?_) <;> (repeat' (first | refine sk ?_ | refine mv ?_ | refine asg ?_ | refine pf ?_ | refine aops_nil ?_ | refine aw_seq ?_ | refine aw_region ?_ | refine aw_cond_f rfl ?_ | refine aw_skip ?_ | refine aw_ret ?_ | fail))
  · refine cl (object_ok _) ?_
    (repeat' (first | refine pt ?_ | refine aops_nil ?_ | fail))
    refine aw_cond rfl (fun h2 => ?_) (fun h2 => ?_) <;> (repeat' (first | refine mv ?_ | refine asg ?_ | refine aops_nil ?_ | refine aw_seq ?_ | refine aw_region ?_ | refine aw_skip ?_ | refine aw_ret ?_ | fail)) <;> refine fin (sh_ib ?_ ?_) <;> simp [IntKind.bits] at h h2 <;> simp [atI, isAt, IntKind.bits] <;> grind
  · refine fin (sh_ib ?_ ?_) <;> simp at h <;> simp [atI, isAt] <;> omega
theorem N_ok (v : Int) : Gives Try.prog 42 [iv v] (.tup [iv (nI v), bv (isN v)]) := by
  refine gives_of Try.func42 rfl (Nat.le_of_ble_eq_true rfl) ?_
  (repeat' (first | refine mv ?_ | refine asg ?_ | refine ms 1 ?_ | refine sr (c := 2) ?_ | refine bi ?_ | refine aops_nil ?_ | refine aw_seq ?_ | refine aw_region ?_ | fail))
  refine gs (fun h => ?_) (fun h => ?_) <;> (repeat' (first | refine sk ?_ | refine mv ?_ | refine asg ?_ | refine pf ?_ | refine aops_nil ?_ | refine aw_seq ?_ | refine aw_region ?_ | refine aw_cond_f rfl ?_ | refine aw_skip ?_ | refine aw_ret ?_ | fail))
  · refine cl (small_ok _) ?_
    (repeat' (first | refine pt ?_ | refine aops_nil ?_ | fail))
    refine aw_cond rfl (fun h2 => ?_) (fun h2 => ?_) <;> (repeat' (first | refine mv ?_ | refine asg ?_ | refine aops_nil ?_ | refine aw_seq ?_ | refine aw_region ?_ | refine aw_skip ?_ | refine aw_ret ?_ | fail)) <;> refine fin (sh_ib ?_ ?_) <;> simp [IntKind.bits] at h h2 <;> simp [nI, isN, IntKind.bits] <;> grind
  · refine fin (sh_ib ?_ ?_) <;> simp at h <;> simp [nI, isN] <;> omega
def refI (n v : Int) : Int := if isAt v = true ∧ v / 2 < n then v / 2 else -1
def hasB (n v : Int) : Bool := isN v || decide (0 ≤ refI n v)
theorem ref_ok (n v : Int) : Gives Try.prog 70 [iv n, iv v] (iv (refI n v)) := by
  refine gives_of Try.func70 rfl (Nat.le_of_ble_eq_true rfl) ?_
  (repeat' (first | refine mv ?_ | refine asg ?_ | refine aops_nil ?_ | refine aw_seq ?_ | refine aw_region ?_ | fail))
  refine cl (At_ok _) ?_
  (repeat' (first | refine mv ?_ | refine asg ?_ | refine ex ?_ | refine aops_nil ?_ | refine aw_seq ?_ | refine aw_region ?_ | fail))
  refine gs (fun h => ?_) (fun h => ?_) <;> (repeat' (first | refine sk ?_ | refine mv ?_ | refine asg ?_ | refine bi ?_ | refine pt ?_ | refine pf ?_ | refine aops_nil ?_ | refine aw_seq ?_ | refine aw_region ?_ | refine aw_cond_f rfl ?_ | refine aw_skip ?_ | refine aw_ret ?_ | fail))
  · refine aw_cond rfl (fun h2 => ?_) (fun h2 => ?_) <;> (repeat' (first | refine mv ?_ | refine asg ?_ | refine aops_nil ?_ | refine aw_seq ?_ | refine aw_region ?_ | refine aw_skip ?_ | refine aw_ret ?_ | fail)) <;> refine fin (sh_iv ?_) <;> simp at h2 <;> simp_all [refI, atI] <;> omega
  · refine fin (sh_iv ?_); simp [refI, h]
theorem has_ok (n v : Int) : Gives Try.prog 65 [iv n, iv v] (bv (hasB n v)) := by
  refine gives_of Try.func65 rfl (Nat.le_of_ble_eq_true rfl) ?_
  (repeat' (first | refine mv ?_ | refine asg ?_ | refine aops_nil ?_ | refine aw_seq ?_ | refine aw_region ?_ | fail))
  refine cl (N_ok _) ?_
  (repeat' (first | refine mv ?_ | refine asg ?_ | refine ex ?_ | refine aops_nil ?_ | refine aw_seq ?_ | refine aw_region ?_ | fail))
  refine gs (fun h => ?_) (fun h => ?_) <;> (repeat' (first | refine sk ?_ | refine mv ?_ | refine asg ?_ | refine pt ?_ | refine aops_nil ?_ | refine aw_ret ?_ | fail))
  · refine fin (sh_bv ?_); simp [hasB, h]
  · refine cl (ref_ok _ _) ?_
    (repeat' (first | refine asg ?_ | refine bi ?_ | refine pf ?_ | refine aops_nil ?_ | refine aw_ret ?_ | fail))
    refine fin (sh_bv ?_); simp [hasB, h]
end Go.Proofs.Ytemcemimipagoaa
