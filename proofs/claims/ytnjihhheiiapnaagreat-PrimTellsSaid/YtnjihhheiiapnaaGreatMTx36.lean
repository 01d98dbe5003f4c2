/- What the statements' walks need. -/
import Derived.Test.YtnjihhheiiapnaaGreatMTa4
import Derived.Test.YtnjihhheiiapnaaGreatMTx35
set_option linter.unusedVariables false
set_option linter.unusedSimpArgs false
set_option maxRecDepth 100000
namespace Go.Proofs.YtnjihhheiiapnaaGreat
open Go Go.Proofs AW Go.RowKit
set_option maxRecDepth 100000 in
set_option maxHeartbeats 16000000 in
theorem rproduct_ok (k : Nat) (a b r : Int) (h : anamnesisref02_product.f (k + 3) a b = some r) : Gives Tryz.prog 43 [iv a, iv b] (iv r) := by
  have main : ¬ kindI a = 0 → ¬ kindI b = 0 → ¬ kindI a = 1 → ¬ kindI b = 1 → ¬ kindI a = 2 → ¬ kindI b = 2 → Gives Tryz.prog 43 [iv a, iv b] (iv r) := fun x0 y0 x1 y1 x2 y2 => rproduct_m k a b r x0 y0 x1 y1 x2 y2 h
  have k1 := rKind_ok a
  have k2 := rKind_ok b
  have s1 := rsign_ok a
  have s2 := rsign_ok b
  have cn := rNaN_ok
  unfold anamnesisref02_product.f at h
  rw [Kind_f, Kind_f, Option.bind_some, Option.bind_some] at h
  simp only [anamnesisref02_sign.f, anamnesisref02_product.j0, anamnesisref02_product.j1, anamnesisref02_product.j2, anamnesisref02_NaN.f, Option.bind_some, neq_eq] at h
  generalize kindI a = x at *
  generalize kindI b = y at *
  generalize decide (a < 0) = sa at *
  generalize decide (b < 0) = sb at *
  generalize hsg : (sa != sb) = sg at h
  subst hsg
  by_cases x0 : x = 0
  · simp [x0] at h
    subst h
    refine gives_of Tryz.func43 rfl (Nat.le_of_ble_eq_true rfl) ?_
    (repeat' (first | refine sk ?_ | refine mv ?_ | refine asg ?_ | refine bt ?_ | refine bi ?_ | refine pt ?_ | refine aops_nil ?_ | refine aw_seq ?_ | refine aw_region ?_ | refine aw_cond_t rfl ?_ | refine aw_ret ?_ | refine cl k1 ?_ | refine cl k2 ?_ | refine cl s1 ?_ | refine cl s2 ?_ | refine cl cn ?_ | fail))
    exact fin (sh_iv rfl)
  by_cases y0 : y = 0
  · simp [x0, y0] at h
    subst h
    refine gives_of Tryz.func43 rfl (Nat.le_of_ble_eq_true rfl) ?_
    (repeat' (first | refine sk ?_ | refine mv ?_ | refine asg ?_ | refine bt ?_ | refine bf ?_ | refine bi ?_ | refine pt ?_ | refine pf ?_ | refine aops_nil ?_ | refine aw_seq ?_ | refine aw_region ?_ | refine aw_cond_t rfl ?_ | refine aw_ret ?_ | refine cl k1 ?_ | refine cl k2 ?_ | refine cl s1 ?_ | refine cl s2 ?_ | refine cl cn ?_ | fail))
    exact fin (sh_iv rfl)
  by_cases x1 : x = 1
  · by_cases y2 : y = 2
    · simp [x0, y0, x1, y2] at h
      subst h
      refine gives_of Tryz.func43 rfl (Nat.le_of_ble_eq_true rfl) ?_
      (repeat' (first | refine sk ?_ | refine mv ?_ | refine asg ?_ | refine bt ?_ | refine bf ?_ | refine bi ?_ | refine pt ?_ | refine pf ?_ | refine aops_nil ?_ | refine aw_seq ?_ | refine aw_region ?_ | refine aw_cond_t rfl ?_ | refine aw_ret ?_ | refine cl k1 ?_ | refine cl k2 ?_ | refine cl s1 ?_ | refine cl s2 ?_ | refine cl cn ?_ | fail))
      exact fin (sh_iv rfl)
    · simp [x0, y0, x1, y2] at h
      have cw := rwith_ok _ _ _ h
      refine gives_of Tryz.func43 rfl (Nat.le_of_ble_eq_true rfl) ?_
      (repeat' (first | refine sk ?_ | refine mv ?_ | refine asg ?_ | refine bt ?_ | refine bf ?_ | refine bi ?_ | refine pt ?_ | refine pf ?_ | refine aops_nil ?_ | refine aw_seq ?_ | refine aw_region ?_ | refine aw_cond_t rfl ?_ | refine aw_cond_f rfl ?_ | refine aw_skip ?_ | refine aw_ret ?_ | refine cl k1 ?_ | refine cl k2 ?_ | refine cl s1 ?_ | refine cl s2 ?_ | refine cl cw ?_ | fail))
      exact fin (sh_iv rfl)
  by_cases y1 : y = 1
  · by_cases x2 : x = 2
    · simp [x0, y0, x1, y1, x2] at h
      subst h
      refine gives_of Tryz.func43 rfl (Nat.le_of_ble_eq_true rfl) ?_
      (repeat' (first | refine sk ?_ | refine mv ?_ | refine asg ?_ | refine bt ?_ | refine bf ?_ | refine bi ?_ | refine pt ?_ | refine pf ?_ | refine aops_nil ?_ | refine aw_seq ?_ | refine aw_region ?_ | refine aw_cond_t rfl ?_ | refine aw_ret ?_ | refine cl k1 ?_ | refine cl k2 ?_ | refine cl s1 ?_ | refine cl s2 ?_ | refine cl cn ?_ | fail))
      exact fin (sh_iv rfl)
    · simp [x0, y0, x1, y1, x2] at h
      have cw := rwith_ok _ _ _ h
      refine gives_of Tryz.func43 rfl (Nat.le_of_ble_eq_true rfl) ?_
      (repeat' (first | refine sk ?_ | refine mv ?_ | refine asg ?_ | refine bt ?_ | refine bf ?_ | refine bi ?_ | refine pf ?_ | refine aops_nil ?_ | refine aw_seq ?_ | refine aw_region ?_ | refine aw_cond_t rfl ?_ | refine aw_cond_f rfl ?_ | refine aw_skip ?_ | refine aw_ret ?_ | refine cl k1 ?_ | refine cl k2 ?_ | refine cl s1 ?_ | refine cl s2 ?_ | refine cl cw ?_ | fail))
      exact fin (sh_iv rfl)
  by_cases x2 : x = 2
  · simp [x0, y0, x1, y1, x2] at h
    have cw := rwith_ok _ _ _ h
    refine gives_of Tryz.func43 rfl (Nat.le_of_ble_eq_true rfl) ?_
    (repeat' (first | refine sk ?_ | refine mv ?_ | refine asg ?_ | refine bt ?_ | refine bf ?_ | refine bi ?_ | refine pt ?_ | refine pf ?_ | refine aops_nil ?_ | refine aw_seq ?_ | refine aw_region ?_ | refine aw_cond_t rfl ?_ | refine aw_cond_f rfl ?_ | refine aw_skip ?_ | refine aw_ret ?_ | refine cl k1 ?_ | refine cl k2 ?_ | refine cl s1 ?_ | refine cl s2 ?_ | refine cl cw ?_ | fail))
    exact fin (sh_iv rfl)
  by_cases y2 : y = 2
  · simp [x0, y0, x1, y1, x2, y2] at h
    have cw := rwith_ok _ _ _ h
    refine gives_of Tryz.func43 rfl (Nat.le_of_ble_eq_true rfl) ?_
    (repeat' (first | refine sk ?_ | refine mv ?_ | refine asg ?_ | refine bt ?_ | refine bf ?_ | refine bi ?_ | refine pf ?_ | refine aops_nil ?_ | refine aw_seq ?_ | refine aw_region ?_ | refine aw_cond_t rfl ?_ | refine aw_cond_f rfl ?_ | refine aw_skip ?_ | refine aw_ret ?_ | refine cl k1 ?_ | refine cl k2 ?_ | refine cl s1 ?_ | refine cl s2 ?_ | refine cl cw ?_ | fail))
    exact fin (sh_iv rfl)
  exact main x0 y0 x1 y1 x2 y2
end Go.Proofs.YtnjihhheiiapnaaGreat
namespace Go.Proofs.YtnjihhheiiapnaaGreat
open Go Go.Proofs AW Go.RowKit
set_option maxRecDepth 100000 in
set_option maxHeartbeats 16000000 in
theorem rquotient_ok (k : Nat) (a b r : Int) (h : anamnesisref02_quotient.f (k + 3) a b = some r) : Gives Tryz.prog 44 [iv a, iv b] (iv r) := by
  have main : ¬ kindI a = 0 → ¬ kindI b = 0 → ¬ kindI a = 1 → ¬ kindI b = 1 → ¬ kindI a = 2 → ¬ kindI b = 2 → Gives Tryz.prog 44 [iv a, iv b] (iv r) := fun x0 y0 x1 y1 x2 y2 => rquotient_m k a b r x0 y0 x1 y1 x2 y2 h
  have k1 := rKind_ok a
  have k2 := rKind_ok b
  have s1 := rsign_ok a
  have s2 := rsign_ok b
  have cn := rNaN_ok
  unfold anamnesisref02_quotient.f at h
  rw [Kind_f, Kind_f, Option.bind_some, Option.bind_some] at h
  simp only [anamnesisref02_sign.f, anamnesisref02_quotient.j0, anamnesisref02_quotient.j1, anamnesisref02_quotient.j2, anamnesisref02_NaN.f, Option.bind_some, neq_eq] at h
  generalize kindI a = x at *
  generalize kindI b = y at *
  generalize decide (a < 0) = sa at *
  generalize decide (b < 0) = sb at *
  generalize hsg : (sa != sb) = sg at h
  subst hsg
  by_cases x0 : x = 0
  · simp [x0] at h
    subst h
    refine gives_of Tryz.func44 rfl (Nat.le_of_ble_eq_true rfl) ?_
    (repeat' (first | refine sk ?_ | refine mv ?_ | refine asg ?_ | refine bt ?_ | refine bi ?_ | refine pt ?_ | refine aops_nil ?_ | refine aw_seq ?_ | refine aw_region ?_ | refine aw_cond_t rfl ?_ | refine aw_ret ?_ | refine cl k1 ?_ | refine cl k2 ?_ | refine cl s1 ?_ | refine cl s2 ?_ | refine cl cn ?_ | fail))
    exact fin (sh_iv rfl)
  by_cases y0 : y = 0
  · simp [x0, y0] at h
    subst h
    refine gives_of Tryz.func44 rfl (Nat.le_of_ble_eq_true rfl) ?_
    (repeat' (first | refine sk ?_ | refine mv ?_ | refine asg ?_ | refine bt ?_ | refine bf ?_ | refine bi ?_ | refine pt ?_ | refine pf ?_ | refine aops_nil ?_ | refine aw_seq ?_ | refine aw_region ?_ | refine aw_cond_t rfl ?_ | refine aw_ret ?_ | refine cl k1 ?_ | refine cl k2 ?_ | refine cl s1 ?_ | refine cl s2 ?_ | refine cl cn ?_ | fail))
    exact fin (sh_iv rfl)
  by_cases x1 : x = 1
  · by_cases y1 : y = 1
    · simp [x0, y0, x1, y1] at h
      subst h
      refine gives_of Tryz.func44 rfl (Nat.le_of_ble_eq_true rfl) ?_
      (repeat' (first | refine sk ?_ | refine mv ?_ | refine asg ?_ | refine bt ?_ | refine bf ?_ | refine bi ?_ | refine pt ?_ | refine pf ?_ | refine aops_nil ?_ | refine aw_seq ?_ | refine aw_region ?_ | refine aw_cond_t rfl ?_ | refine aw_ret ?_ | refine cl k1 ?_ | refine cl k2 ?_ | refine cl s1 ?_ | refine cl s2 ?_ | refine cl cn ?_ | fail))
      exact fin (sh_iv rfl)
    · simp [x0, y0, x1, y1] at h
      have cw := rwith_ok _ _ _ h
      refine gives_of Tryz.func44 rfl (Nat.le_of_ble_eq_true rfl) ?_
      (repeat' (first | refine sk ?_ | refine mv ?_ | refine asg ?_ | refine bt ?_ | refine bf ?_ | refine bi ?_ | refine pt ?_ | refine pf ?_ | refine aops_nil ?_ | refine aw_seq ?_ | refine aw_region ?_ | refine aw_cond_t rfl ?_ | refine aw_cond_f rfl ?_ | refine aw_skip ?_ | refine aw_ret ?_ | refine cl k1 ?_ | refine cl k2 ?_ | refine cl s1 ?_ | refine cl s2 ?_ | refine cl cw ?_ | fail))
      exact fin (sh_iv rfl)
  by_cases y2 : y = 2
  · by_cases x2 : x = 2
    · simp [x0, y0, x1, y2, x2] at h
      subst h
      refine gives_of Tryz.func44 rfl (Nat.le_of_ble_eq_true rfl) ?_
      (repeat' (first | refine sk ?_ | refine mv ?_ | refine asg ?_ | refine bt ?_ | refine bf ?_ | refine bi ?_ | refine pt ?_ | refine pf ?_ | refine aops_nil ?_ | refine aw_seq ?_ | refine aw_region ?_ | refine aw_cond_t rfl ?_ | refine aw_ret ?_ | refine cl k1 ?_ | refine cl k2 ?_ | refine cl s1 ?_ | refine cl s2 ?_ | refine cl cn ?_ | fail))
      exact fin (sh_iv rfl)
    · simp [x0, y0, x1, y2, x2] at h
      have cw := rwith_ok _ _ _ h
      refine gives_of Tryz.func44 rfl (Nat.le_of_ble_eq_true rfl) ?_
      (repeat' (first | refine sk ?_ | refine mv ?_ | refine asg ?_ | refine bt ?_ | refine bf ?_ | refine bi ?_ | refine pf ?_ | refine aops_nil ?_ | refine aw_seq ?_ | refine aw_region ?_ | refine aw_cond_t rfl ?_ | refine aw_cond_f rfl ?_ | refine aw_skip ?_ | refine aw_ret ?_ | refine cl k1 ?_ | refine cl k2 ?_ | refine cl s1 ?_ | refine cl s2 ?_ | refine cl cw ?_ | fail))
      exact fin (sh_iv rfl)
  by_cases x2 : x = 2
  · simp [x0, y0, x1, y2, x2] at h
    have cw := rwith_ok _ _ _ h
    refine gives_of Tryz.func44 rfl (Nat.le_of_ble_eq_true rfl) ?_
    (repeat' (first | refine sk ?_ | refine mv ?_ | refine asg ?_ | refine bt ?_ | refine bf ?_ | refine bi ?_ | refine pt ?_ | refine pf ?_ | refine aops_nil ?_ | refine aw_seq ?_ | refine aw_region ?_ | refine aw_cond_t rfl ?_ | refine aw_cond_f rfl ?_ | refine aw_skip ?_ | refine aw_ret ?_ | refine cl k1 ?_ | refine cl k2 ?_ | refine cl s1 ?_ | refine cl s2 ?_ | refine cl cw ?_ | fail))
    exact fin (sh_iv rfl)
  by_cases y1 : y = 1
  · simp [x0, y0, x1, y2, x2, y1] at h
    have cw := rwith_ok _ _ _ h
    refine gives_of Tryz.func44 rfl (Nat.le_of_ble_eq_true rfl) ?_
    (repeat' (first | refine sk ?_ | refine mv ?_ | refine asg ?_ | refine bt ?_ | refine bf ?_ | refine bi ?_ | refine pf ?_ | refine aops_nil ?_ | refine aw_seq ?_ | refine aw_region ?_ | refine aw_cond_t rfl ?_ | refine aw_cond_f rfl ?_ | refine aw_skip ?_ | refine aw_ret ?_ | refine cl k1 ?_ | refine cl k2 ?_ | refine cl s1 ?_ | refine cl s2 ?_ | refine cl cw ?_ | fail))
    exact fin (sh_iv rfl)
  exact main x0 y0 x1 y1 x2 y2
end Go.Proofs.YtnjihhheiiapnaaGreat
namespace Go.Proofs.YtnjihhheiiapnaaGreat
open Go Go.Proofs AW Go.RowKit
set_option maxHeartbeats 8000000 in
theorem rOp_ok (k : Nat) (o a b r : Int) (h : anamnesisref02_Op.f (k + 3) o a b = some r) : Gives Tryz.prog 20 [iv o, iv a, iv b] (iv r) := by
  have k2 := rKind_ok b
  have s2 := rsign_ok b
  have p2 := rplain_ok b
  have cn := rNaN_ok
  unfold anamnesisref02_Op.f at h
  by_cases o0 : o = 0
  · rw [if_pos o0] at h
    have cs1 := rsum_ok k a b r (wth_get h)
    refine gives_of Tryz.func20 rfl (Nat.le_of_ble_eq_true rfl) ?_
    (repeat' (first | refine mv ?_ | refine asg ?_ | refine bt ?_ | refine aops_nil ?_ | refine aw_seq ?_ | refine aw_region ?_ | refine aw_cond_t rfl ?_ | refine aw_block ?_ | refine aw_ret ?_ | refine cl cs1 ?_ | fail))
    exact fin (sh_iv rfl)
  rw [if_neg o0] at h
  by_cases o1 : o = 1
  · rw [if_pos o1, Kind_f, Option.bind_some] at h
    simp only [anamnesisref02_sign.f, anamnesisref02_NaN.f, Option.bind_some] at h
    rw [plain_f, Option.bind_some] at h
    generalize kindI b = y at *
    generalize decide (b < 0) = sb at *
    by_cases y0 : y = 0
    · rw [if_pos y0] at h
      obtain rfl := Option.some.inj h
      refine gives_of Tryz.func20 rfl (Nat.le_of_ble_eq_true rfl) ?_
      (repeat' (first | refine mv ?_ | refine asg ?_ | refine bt ?_ | refine bf ?_ | refine aops_nil ?_ | refine aw_seq ?_ | refine aw_region ?_ | refine aw_cond_t rfl ?_ | refine aw_cond_f rfl ?_ | refine aw_block ?_ | refine aw_ret ?_ | refine cl k2 ?_ | refine cl cn ?_ | fail))
      exact fin (sh_iv rfl)
    · rw [if_neg y0] at h
      obtain ⟨t, h1, h⟩ := bind_get h
      have cw := rwith_ok _ _ _ h1
      have cs1 := rsum_ok k a t r (wth_get h)
      refine gives_of Tryz.func20 rfl (Nat.le_of_ble_eq_true rfl) ?_
      (repeat' (first | refine mv ?_ | refine asg ?_ | refine bt ?_ | refine bf ?_ | refine un ?_ | refine aops_nil ?_ | refine aw_seq ?_ | refine aw_region ?_ | refine aw_cond_t rfl ?_ | refine aw_cond_f rfl ?_ | refine aw_block ?_ | refine aw_skip ?_ | refine aw_ret ?_ | refine cl k2 ?_ | refine cl s2 ?_ | refine cl p2 ?_ | refine cl cw ?_ | refine cl cs1 ?_ | fail))
      exact fin (sh_iv rfl)
  rw [if_neg o1] at h
  by_cases o2 : o = 2
  · rw [if_pos o2] at h
    have cp := rproduct_ok k a b r (wth_get h)
    refine gives_of Tryz.func20 rfl (Nat.le_of_ble_eq_true rfl) ?_
    (repeat' (first | refine mv ?_ | refine asg ?_ | refine bt ?_ | refine bf ?_ | refine aops_nil ?_ | refine aw_seq ?_ | refine aw_region ?_ | refine aw_cond_t rfl ?_ | refine aw_cond_f rfl ?_ | refine aw_block ?_ | refine aw_ret ?_ | refine cl cp ?_ | fail))
    exact fin (sh_iv rfl)
  rw [if_neg o2] at h
  by_cases o3 : o = 3
  · rw [if_pos o3] at h
    have cq := rquotient_ok k a b r (wth_get h)
    refine gives_of Tryz.func20 rfl (Nat.le_of_ble_eq_true rfl) ?_
    (repeat' (first | refine mv ?_ | refine asg ?_ | refine bt ?_ | refine bf ?_ | refine aops_nil ?_ | refine aw_seq ?_ | refine aw_region ?_ | refine aw_cond_t rfl ?_ | refine aw_cond_f rfl ?_ | refine aw_block ?_ | refine aw_ret ?_ | refine cl cq ?_ | fail))
    exact fin (sh_iv rfl)
  rw [if_neg o3] at h
  simp only [anamnesisref02_NaN.f, Option.bind_some] at h
  obtain rfl := Option.some.inj h
  refine gives_of Tryz.func20 rfl (Nat.le_of_ble_eq_true rfl) ?_
  (repeat' (first | refine mv ?_ | refine asg ?_ | refine bf ?_ | refine aops_nil ?_ | refine aw_seq ?_ | refine aw_region ?_ | refine aw_cond_f rfl ?_ | refine aw_block ?_ | refine aw_skip ?_ | refine aw_ret ?_ | refine cl cn ?_ | fail))
  exact fin (sh_iv rfl)
set_option maxHeartbeats 8000000 in
theorem rOf_ok (k : Nat) (a r : Int) (h : anamnesisref02_Of.f (k + 1) a = some r) : Gives Tryz.prog 21 [iv a] (iv r) := by
  have cn := rNaN_ok
  unfold anamnesisref02_Of.f at h
  simp only [anamnesisref02_Of.j0, anamnesisref02_NaN.f, Option.bind_some] at h
  have e : ∀ n : Int, -n = 0 - n := fun n => (Int.zero_sub n).symm
  by_cases c1 : a < -9007199254740992
  · rw [if_pos c1] at h
    have h : (9221120237041090561 : Int) = r := by simpa using h
    subst h
    refine gives_of Tryz.func21 rfl (Nat.le_of_ble_eq_true rfl) ?_
    (repeat' (first | refine sk ?_ | refine mv ?_ | refine asg ?_ | refine bt ?_ | refine pt ?_ | refine aops_nil ?_ | refine aw_seq ?_ | refine aw_region ?_ | refine aw_cond_t rfl ?_ | refine aw_ret ?_ | refine cl cn ?_ | fail))
    exact fin (sh_iv rfl)
  rw [if_neg c1] at h
  by_cases c2 : a > 9007199254740992
  · rw [if_pos (decide_eq_true c2)] at h
    obtain rfl := Option.some.inj h
    refine gives_of Tryz.func21 rfl (Nat.le_of_ble_eq_true rfl) ?_
    (repeat' (first | refine mv ?_ | refine asg ?_ | refine bt ?_ | refine bf ?_ | refine pf ?_ | refine aops_nil ?_ | refine aw_seq ?_ | refine aw_region ?_ | refine aw_cond_t rfl ?_ | refine aw_ret ?_ | refine cl cn ?_ | fail))
    exact fin (sh_iv rfl)
  rw [if_neg (fun h => c2 (of_decide_eq_true h))] at h
  by_cases c3 : a = 0
  · rw [if_pos c3] at h
    obtain rfl := Option.some.inj h
    refine gives_of Tryz.func21 rfl (Nat.le_of_ble_eq_true rfl) ?_
    (repeat' (first | refine mv ?_ | refine asg ?_ | refine bt ?_ | refine bf ?_ | refine pf ?_ | refine aops_nil ?_ | refine aw_seq ?_ | refine aw_region ?_ | refine aw_cond_t rfl ?_ | refine aw_cond_f rfl ?_ | refine aw_skip ?_ | refine aw_ret ?_ | fail))
    exact fin (sh_iv rfl)
  rw [if_neg c3] at h
  by_cases c4 : a < 0
  · rw [if_pos c4] at h
    obtain ⟨t, h3, h4⟩ := told_w h
    have ew : IntKind.i64.wrap (-a) = 0 - a := by rw [IntKind.wrap_i64]; omega
    have ew2 : IntKind.i64.wrap (0 - a) = 0 - a := by rw [IntKind.wrap_i64]; omega
    rw [ew] at h3
    have cr := rround_ok _ _ _ _ _ h3
    have cw := rwith_ok _ _ _ h4
    rw [← ew2] at cr
    refine gives_of Tryz.func21 rfl (Nat.le_of_ble_eq_true rfl) ?_
    (repeat' (first | refine mv ?_ | refine asg ?_ | refine bt ?_ | refine bf ?_ | refine un ?_ | refine pf ?_ | refine aops_nil ?_ | refine aw_seq ?_ | refine aw_region ?_ | refine aw_cond_t rfl ?_ | refine aw_cond_f rfl ?_ | refine aw_skip ?_ | refine aw_ret ?_ | refine cl cr ?_ | refine cl cw ?_ | fail))
    exact fin (sh_iv rfl)
  rw [if_neg c4] at h
  have cr := rround_ok _ _ _ _ _ (wth_get h)
  refine gives_of Tryz.func21 rfl (Nat.le_of_ble_eq_true rfl) ?_
  (repeat' (first | refine mv ?_ | refine asg ?_ | refine bf ?_ | refine pf ?_ | refine aops_nil ?_ | refine aw_seq ?_ | refine aw_region ?_ | refine aw_cond_f rfl ?_ | refine aw_skip ?_ | refine aw_ret ?_ | refine cl cr ?_ | fail))
  exact fin (sh_iv rfl)
theorem rorder_ok (a r : Int) (h : anamnesisref02_order.f a = some r) : Gives Tryz.prog 141 [iv a] (iv r) := by
  have s1 := rsign_ok a
  have p1 := rplain_ok a
  have e : ∀ n : Int, -n = 0 - n := fun n => (Int.zero_sub n).symm
  unfold anamnesisref02_order.f at h
  simp only [anamnesisref02_sign.f, Option.bind_some] at h
  rw [plain_f, Option.bind_some, e] at h
  have hb : 0 ≤ a % 9223372036854775808 ∧ a % 9223372036854775808 < 9223372036854775808 := by omega
  have ew : IntKind.i64.wrap (0 - a % 9223372036854775808) = 0 - a % 9223372036854775808 := by rw [IntKind.wrap_i64]; omega
  by_cases c : a < 0
  · rw [decide_eq_true c] at s1 h
    rw [if_pos rfl] at h
    obtain rfl := Option.some.inj h
    refine gives_of Tryz.func141 rfl (Nat.le_of_ble_eq_true rfl) ?_
    (repeat' (first | refine mv ?_ | refine asg ?_ | refine un ?_ | refine aops_nil ?_ | refine aw_seq ?_ | refine aw_region ?_ | refine aw_cond_t rfl ?_ | refine aw_ret ?_ | refine cl s1 ?_ | refine cl p1 ?_ | fail))
    first | exact fin (sh_iv rfl) | exact fin (sh_iv ew.symm)
  · rw [decide_eq_false c] at s1 h
    rw [if_neg (by simp)] at h
    obtain rfl := Option.some.inj h
    refine gives_of Tryz.func141 rfl (Nat.le_of_ble_eq_true rfl) ?_
    (repeat' (first | refine mv ?_ | refine asg ?_ | refine aops_nil ?_ | refine aw_seq ?_ | refine aw_region ?_ | refine aw_cond_f rfl ?_ | refine aw_skip ?_ | refine aw_ret ?_ | refine cl s1 ?_ | fail))
    exact fin (sh_iv rfl)
theorem rLess_ok (a b : Int) (r : Bool) (h : anamnesisref02_Less.f a b = some r) : Gives Tryz.prog 102 [iv a, iv b] (bv r) := by
  have k1 := rKind_ok a
  have k2 := rKind_ok b
  unfold anamnesisref02_Less.f at h
  rw [Kind_f, Kind_f, Option.bind_some, Option.bind_some] at h
  generalize kindI a = x at *
  generalize kindI b = y at *
  by_cases c1 : x > 0
  · rw [if_pos c1] at h
    by_cases c2 : y > 0
    · rw [if_pos c2] at h
      obtain ⟨u, h1, h⟩ := bind_get h
      obtain ⟨v, h2, h⟩ := bind_get h
      obtain rfl := Option.some.inj h
      have o1 := rorder_ok _ _ h1
      have o2 := rorder_ok _ _ h2
      refine gives_of Tryz.func102 rfl (Nat.le_of_ble_eq_true rfl) ?_
      (repeat' (first | refine mv ?_ | refine asg ?_ | refine bt ?_ | refine bi ?_ | refine pt ?_ | refine aops_nil ?_ | refine aw_seq ?_ | refine aw_region ?_ | refine aw_ret ?_ | refine cl k1 ?_ | refine cl k2 ?_ | refine cl o1 ?_ | refine cl o2 ?_ | fail))
      exact fin (sh_bv rfl)
    · rw [if_neg c2] at h
      obtain rfl := Option.some.inj h
      refine gives_of Tryz.func102 rfl (Nat.le_of_ble_eq_true rfl) ?_
      (repeat' (first | refine sk ?_ | refine mv ?_ | refine asg ?_ | refine bt ?_ | refine bf ?_ | refine pt ?_ | refine pf ?_ | refine aops_nil ?_ | refine aw_seq ?_ | refine aw_region ?_ | refine aw_ret ?_ | refine cl k1 ?_ | refine cl k2 ?_ | fail))
      exact fin (sh_bv rfl)
  · rw [if_neg c1] at h
    obtain rfl := Option.some.inj h
    refine gives_of Tryz.func102 rfl (Nat.le_of_ble_eq_true rfl) ?_
    (repeat' (first | refine sk ?_ | refine mv ?_ | refine asg ?_ | refine bf ?_ | refine pf ?_ | refine aops_nil ?_ | refine aw_seq ?_ | refine aw_region ?_ | refine aw_ret ?_ | refine cl k1 ?_ | fail))
    exact fin (sh_bv rfl)
theorem rEqual_ok (a b : Int) (r : Bool) (h : anamnesisref02_Equal.f a b = some r) : Gives Tryz.prog 103 [iv a, iv b] (bv r) := by
  have k1 := rKind_ok a
  have k2 := rKind_ok b
  unfold anamnesisref02_Equal.f at h
  rw [Kind_f, Kind_f, Option.bind_some, Option.bind_some] at h
  generalize kindI a = x at *
  generalize kindI b = y at *
  by_cases c1 : x > 0
  · rw [if_pos c1] at h
    by_cases c2 : y > 0
    · rw [if_pos c2] at h
      obtain ⟨u, h1, h⟩ := bind_get h
      obtain ⟨v, h2, h⟩ := bind_get h
      obtain rfl := Option.some.inj h
      have o1 := rorder_ok _ _ h1
      have o2 := rorder_ok _ _ h2
      refine gives_of Tryz.func103 rfl (Nat.le_of_ble_eq_true rfl) ?_
      (repeat' (first | refine mv ?_ | refine asg ?_ | refine bt ?_ | refine bi ?_ | refine pt ?_ | refine aops_nil ?_ | refine aw_seq ?_ | refine aw_region ?_ | refine aw_ret ?_ | refine cl k1 ?_ | refine cl k2 ?_ | refine cl o1 ?_ | refine cl o2 ?_ | fail))
      exact fin (sh_bv rfl)
    · rw [if_neg c2] at h
      obtain rfl := Option.some.inj h
      refine gives_of Tryz.func103 rfl (Nat.le_of_ble_eq_true rfl) ?_
      (repeat' (first | refine sk ?_ | refine mv ?_ | refine asg ?_ | refine bt ?_ | refine bf ?_ | refine pt ?_ | refine pf ?_ | refine aops_nil ?_ | refine aw_seq ?_ | refine aw_region ?_ | refine aw_ret ?_ | refine cl k1 ?_ | refine cl k2 ?_ | fail))
      exact fin (sh_bv rfl)
  · rw [if_neg c1] at h
    obtain rfl := Option.some.inj h
    refine gives_of Tryz.func103 rfl (Nat.le_of_ble_eq_true rfl) ?_
    (repeat' (first | refine sk ?_ | refine mv ?_ | refine asg ?_ | refine bf ?_ | refine pf ?_ | refine aops_nil ?_ | refine aw_seq ?_ | refine aw_region ?_ | refine aw_ret ?_ | refine cl k1 ?_ | fail))
    exact fin (sh_bv rfl)
end Go.Proofs.YtnjihhheiiapnaaGreat
