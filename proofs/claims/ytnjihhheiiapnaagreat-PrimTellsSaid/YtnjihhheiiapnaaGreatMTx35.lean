/- What the statements' walks need. -/
import Derived.Test.YtnjihhheiiapnaaGreatMTa4
import Derived.Test.YtnjihhheiiapnaaGreatMTx34
set_option linter.unusedVariables false
set_option linter.unusedSimpArgs false
set_option maxRecDepth 100000
namespace Go.Proofs.YtnjihhheiiapnaaGreat
open Go Go.Proofs AW Go.RowKit
theorem Kind_f (a : Int) : anamnesisref02_Kind.f a = some (kindI a) := by
  unfold anamnesisref02_Kind.f
  rw [plain_f, Option.bind_some, Option.bind_some]
  have e : (a % 9223372036854775808).tmod 4503599627370496 = a % 9223372036854775808 % 4503599627370496 := Int.tmod_eq_emod_of_nonneg (Int.emod_nonneg _ (by decide))
  rw [e]
  unfold kindI
  simp only
  repeat' split
  all_goals first | rfl | omega
theorem wth_get {o : Option Int} {r : Int} (h : (o.bind fun t => some t) = some r) : o = some r := by
  obtain ⟨t, h1, h2⟩ := bind_get h; cases h2; exact h1
set_option maxHeartbeats 8000000 in
theorem rsum_ok (k : Nat) (a b r : Int) (h : anamnesisref02_sum.f (k + 3) a b = some r) : Gives Tryz.prog 37 [iv a, iv b] (iv r) := by
  have k1 := rKind_ok a
  have k2 := rKind_ok b
  have s1 := rsign_ok a
  have s2 := rsign_ok b
  have cn := rNaN_ok
  unfold anamnesisref02_sum.f at h
  rw [Kind_f, Kind_f, Option.bind_some, Option.bind_some] at h
  simp only [anamnesisref02_sign.f, anamnesisref02_sum.j0, anamnesisref02_sum.j1, anamnesisref02_sum.j2, anamnesisref02_NaN.f, Option.bind_some] at h
  generalize kindI a = x at *
  generalize kindI b = y at *
  generalize decide (a < 0) = sa at *
  generalize decide (b < 0) = sb at *
  by_cases x0 : x = 0
  · simp [x0] at h
    subst h
    refine gives_of Tryz.func37 rfl (Nat.le_of_ble_eq_true rfl) ?_
    (repeat' (first | refine sk ?_ | refine mv ?_ | refine asg ?_ | refine bt ?_ | refine pt ?_ | refine aops_nil ?_ | refine aw_seq ?_ | refine aw_region ?_ | refine aw_cond_t rfl ?_ | refine aw_ret ?_ | refine cl k1 ?_ | refine cl k2 ?_ | refine cl cn ?_ | fail))
    exact fin (sh_iv rfl)
  by_cases y0 : y = 0
  · simp [x0, y0] at h
    subst h
    refine gives_of Tryz.func37 rfl (Nat.le_of_ble_eq_true rfl) ?_
    (repeat' (first | refine sk ?_ | refine mv ?_ | refine asg ?_ | refine bt ?_ | refine bf ?_ | refine pt ?_ | refine pf ?_ | refine aops_nil ?_ | refine aw_seq ?_ | refine aw_region ?_ | refine aw_cond_t rfl ?_ | refine aw_ret ?_ | refine cl k1 ?_ | refine cl k2 ?_ | refine cl cn ?_ | fail))
    exact fin (sh_iv rfl)
  by_cases x1 : x = 1
  · by_cases y1 : y = 1
    · cases sa <;> cases sb <;> simp [x0, y0, x1, y1] at h
      all_goals subst h
      all_goals refine gives_of Tryz.func37 rfl (Nat.le_of_ble_eq_true rfl) ?_
      all_goals (repeat' (first | refine sk ?_ | refine mv ?_ | refine asg ?_ | refine bt ?_ | refine bf ?_ | refine pt ?_ | refine pf ?_ | refine aops_nil ?_ | refine aw_seq ?_ | refine aw_region ?_ | refine aw_cond_t rfl ?_ | refine aw_cond_f rfl ?_ | refine aw_skip ?_ | refine aw_ret ?_ | refine cl k1 ?_ | refine cl k2 ?_ | refine cl s1 ?_ | refine cl s2 ?_ | refine cl cn ?_ | fail))
      all_goals exact fin (sh_iv rfl)
    · simp [x0, y0, x1, y1] at h
      subst h
      refine gives_of Tryz.func37 rfl (Nat.le_of_ble_eq_true rfl) ?_
      (repeat' (first | refine sk ?_ | refine mv ?_ | refine asg ?_ | refine bt ?_ | refine bf ?_ | refine pt ?_ | refine pf ?_ | refine aops_nil ?_ | refine aw_seq ?_ | refine aw_region ?_ | refine aw_cond_t rfl ?_ | refine aw_cond_f rfl ?_ | refine aw_skip ?_ | refine aw_ret ?_ | refine cl k1 ?_ | refine cl k2 ?_ | fail))
      exact fin (sh_iv rfl)
  by_cases y2 : y = 2
  · by_cases x2 : x = 2
    · cases sa with
      | true =>
        simp [x0, y0, x1, y2, x2] at h
        have cw := rwith_ok _ _ _ h
        refine gives_of Tryz.func37 rfl (Nat.le_of_ble_eq_true rfl) ?_
        (repeat' (first | refine sk ?_ | refine mv ?_ | refine asg ?_ | refine bt ?_ | refine bf ?_ | refine pt ?_ | refine pf ?_ | refine aops_nil ?_ | refine aw_seq ?_ | refine aw_region ?_ | refine aw_cond_t rfl ?_ | refine aw_cond_f rfl ?_ | refine aw_skip ?_ | refine aw_ret ?_ | refine cl k1 ?_ | refine cl k2 ?_ | refine cl s1 ?_ | refine cl s2 ?_ | refine cl cw ?_ | fail))
        exact fin (sh_iv rfl)
      | false =>
        simp [x0, y0, x1, y2, x2] at h
        have cw := rwith_ok _ _ _ h
        refine gives_of Tryz.func37 rfl (Nat.le_of_ble_eq_true rfl) ?_
        (repeat' (first | refine sk ?_ | refine mv ?_ | refine asg ?_ | refine bt ?_ | refine bf ?_ | refine pt ?_ | refine pf ?_ | refine aops_nil ?_ | refine aw_seq ?_ | refine aw_region ?_ | refine aw_cond_t rfl ?_ | refine aw_cond_f rfl ?_ | refine aw_skip ?_ | refine aw_ret ?_ | refine cl k1 ?_ | refine cl k2 ?_ | refine cl s1 ?_ | refine cl cw ?_ | fail))
        exact fin (sh_iv rfl)
    · simp [x0, y0, x1, y2, x2] at h
      subst h
      refine gives_of Tryz.func37 rfl (Nat.le_of_ble_eq_true rfl) ?_
      (repeat' (first | refine sk ?_ | refine mv ?_ | refine asg ?_ | refine bt ?_ | refine bf ?_ | refine pt ?_ | refine pf ?_ | refine aops_nil ?_ | refine aw_seq ?_ | refine aw_region ?_ | refine aw_cond_t rfl ?_ | refine aw_cond_f rfl ?_ | refine aw_skip ?_ | refine aw_ret ?_ | refine cl k1 ?_ | refine cl k2 ?_ | fail))
      exact fin (sh_iv rfl)
  by_cases y1 : y = 1
  · simp [x0, y0, x1, y2, y1] at h
    subst h
    refine gives_of Tryz.func37 rfl (Nat.le_of_ble_eq_true rfl) ?_
    (repeat' (first | refine sk ?_ | refine mv ?_ | refine asg ?_ | refine bt ?_ | refine bf ?_ | refine pt ?_ | refine pf ?_ | refine aops_nil ?_ | refine aw_seq ?_ | refine aw_region ?_ | refine aw_cond_t rfl ?_ | refine aw_cond_f rfl ?_ | refine aw_skip ?_ | refine aw_ret ?_ | refine cl k1 ?_ | refine cl k2 ?_ | fail))
    exact fin (sh_iv rfl)
  by_cases x2 : x = 2
  · simp [x0, y0, x1, y2, y1, x2] at h
    subst h
    refine gives_of Tryz.func37 rfl (Nat.le_of_ble_eq_true rfl) ?_
    (repeat' (first | refine sk ?_ | refine mv ?_ | refine asg ?_ | refine bt ?_ | refine bf ?_ | refine pt ?_ | refine pf ?_ | refine aops_nil ?_ | refine aw_seq ?_ | refine aw_region ?_ | refine aw_cond_t rfl ?_ | refine aw_cond_f rfl ?_ | refine aw_skip ?_ | refine aw_ret ?_ | refine cl k1 ?_ | refine cl k2 ?_ | fail))
    exact fin (sh_iv rfl)
  simp [x0, y0, x1, y2, y1, x2] at h
  have ca := radd_ok _ _ _ _ h
  refine gives_of Tryz.func37 rfl (Nat.le_of_ble_eq_true rfl) ?_
  (repeat' (first | refine sk ?_ | refine mv ?_ | refine asg ?_ | refine bf ?_ | refine pf ?_ | refine aops_nil ?_ | refine aw_seq ?_ | refine aw_region ?_ | refine aw_cond_f rfl ?_ | refine aw_skip ?_ | refine aw_ret ?_ | refine cl k1 ?_ | refine cl k2 ?_ | refine cl ca ?_ | fail))
  exact fin (sh_iv rfl)
end Go.Proofs.YtnjihhheiiapnaaGreat
namespace Go.Proofs.YtnjihhheiiapnaaGreat
open Go Go.Proofs AW Go.RowKit
theorem neq_eq (sa sb : Bool) : (!sa == sb) = (sa != sb) := by cases sa <;> cases sb <;> rfl
set_option maxRecDepth 100000 in
set_option maxHeartbeats 16000000 in
theorem rproduct_m (k : Nat) (a b r : Int) (x0 : ¬ kindI a = 0) (y0 : ¬ kindI b = 0) (x1 : ¬ kindI a = 1) (y1 : ¬ kindI b = 1) (x2 : ¬ kindI a = 2) (y2 : ¬ kindI b = 2) (h : anamnesisref02_product.f (k + 3) a b = some r) : Gives Tryz.prog 43 [iv a, iv b] (iv r) := by
  have k1 := rKind_ok a
  have k2 := rKind_ok b
  have s1 := rsign_ok a
  have s2 := rsign_ok b
  have cn := rNaN_ok
  unfold anamnesisref02_product.f at h
  rw [Kind_f, Kind_f, Option.bind_some, Option.bind_some] at h
  simp only [anamnesisref02_sign.f, anamnesisref02_product.j0, anamnesisref02_product.j1, anamnesisref02_product.j2, anamnesisref02_NaN.f, Option.bind_some, neq_eq] at h
  generalize kindI a = x at *
  generalize kindI b = y at *
  generalize decide (a < 0) = sa at *
  generalize decide (b < 0) = sb at *
  generalize hsg : (sa != sb) = sg at h
  simp only [x0, y0, x1, y1, x2, y2, if_false, if_true, beq_iff_eq, Bool.false_eq_true, eq_self_iff_true, show (y == 1) = false from by simp [y1], show (y == 2) = false from by simp [y2]] at h
  obtain ⟨⟨m, e⟩, h1, h⟩ := bind_get h
  obtain ⟨⟨n, f⟩, h2, h⟩ := bind_get h
  dsimp only at h
  have q1 := rpart_ok _ a m e h1
  have q2 := rpart_ok _ b n f h2
  subst hsg
  refine gives_of Tryz.func43 rfl (Nat.le_of_ble_eq_true rfl) ?_
  (repeat' (first | refine sk ?_ | refine mv ?_ | refine asg ?_ | refine bf ?_ | refine bi ?_ | refine pf ?_ | refine ex ?_ | refine aops_nil ?_ | refine aw_seq ?_ | refine aw_region ?_ | refine aw_cond_f rfl ?_ | refine aw_skip ?_ | refine cl k1 ?_ | refine cl k2 ?_ | refine cl s1 ?_ | refine cl s2 ?_ | refine cl q1 ?_ | refine cl q2 ?_ | fail))
  refine aw_drawP 7 [] ?_
  (repeat' (first | refine dPn ?_ | refine dP (fun _ => y_move) ?_ | refine dP (fun _ => y_bin) ?_ | fail))
  (repeat' (first | refine asg ?_ | refine aops_nil ?_ | refine aw_seq ?_ | fail))
  refine aw_drawP 19 [] ?_
  (repeat' (first | refine dPn ?_ | refine dP (fun _ => y_move) ?_ | refine dP (fun _ => y_bin) ?_ | fail))
  (repeat' (first | refine asg ?_ | refine aops_nil ?_ | refine aw_seq ?_ | fail))
  refine aw_drawP 11 [] ?_
  (repeat' (first | refine dPn ?_ | refine dP (fun _ => y_move) ?_ | refine dP (fun _ => y_bin) ?_ | fail))
  split at h
  · rename_i z
    obtain ⟨t, h3, h4⟩ := told_w h
    have cr := rround_ok _ _ _ _ _ h3
    have cw := rwith_ok _ _ _ h4
    (repeat' (first | refine mv ?_ | refine asg ?_ | refine sr ?_ | refine rm ?_ | refine bf ?_ | refine bi ?_ | refine pf ?_ | refine aops_nil ?_ | refine aw_seq ?_ | refine aw_region ?_ | refine aw_ret ?_ | refine cl cr ?_ | refine cl cw ?_ | fail))
    exact fin (sh_iv rfl)
  · rename_i z
    obtain ⟨t, h3, h4⟩ := told_w h
    have cr := rround_ok _ _ _ _ _ h3
    have cw := rwith_ok _ _ _ h4
    (repeat' (first | refine sk ?_ | refine mv ?_ | refine asg ?_ | refine sr ?_ | refine rm ?_ | refine bt ?_ | refine bi ?_ | refine pt ?_ | refine aops_nil ?_ | refine aw_seq ?_ | refine aw_region ?_ | refine aw_ret ?_ | refine cl cr ?_ | refine cl cw ?_ | fail))
    exact fin (sh_iv rfl)
end Go.Proofs.YtnjihhheiiapnaaGreat
namespace Go.Proofs.YtnjihhheiiapnaaGreat
open Go Go.Proofs AW Go.RowKit
set_option maxRecDepth 100000 in
set_option maxHeartbeats 16000000 in
theorem rquotient_m (k : Nat) (a b r : Int) (x0 : ¬ kindI a = 0) (y0 : ¬ kindI b = 0) (x1 : ¬ kindI a = 1) (y1 : ¬ kindI b = 1) (x2 : ¬ kindI a = 2) (y2 : ¬ kindI b = 2) (h : anamnesisref02_quotient.f (k + 3) a b = some r) : Gives Tryz.prog 44 [iv a, iv b] (iv r) := by
  have k1 := rKind_ok a
  have k2 := rKind_ok b
  have s1 := rsign_ok a
  have s2 := rsign_ok b
  have cn := rNaN_ok
  unfold anamnesisref02_quotient.f at h
  rw [Kind_f, Kind_f, Option.bind_some, Option.bind_some] at h
  simp only [anamnesisref02_sign.f, anamnesisref02_quotient.j0, anamnesisref02_quotient.j1, anamnesisref02_quotient.j2, anamnesisref02_NaN.f, Option.bind_some, neq_eq] at h
  generalize kindI a = x at *
  generalize kindI b = y at *
  generalize decide (a < 0) = sa at *
  generalize decide (b < 0) = sb at *
  generalize hsg : (sa != sb) = sg at h
  simp only [x0, y0, x1, y1, x2, y2, if_false, if_true, beq_iff_eq, Bool.false_eq_true, eq_self_iff_true, show (y == 1) = false from by simp [y1], show (y == 2) = false from by simp [y2]] at h
  obtain ⟨⟨m, e⟩, h1, h⟩ := bind_get h
  obtain ⟨⟨n, f⟩, h2, h⟩ := bind_get h
  dsimp only at h
  have q1 := rpart_ok _ a m e h1
  have q2 := rpart_ok _ b n f h2
  have hn : n ≠ 0 := by
    intro hn; rw [if_pos hn] at h; cases h
  rw [if_neg hn] at h
  subst hsg
  refine gives_of Tryz.func44 rfl (Nat.le_of_ble_eq_true rfl) ?_
  (repeat' (first | refine sk ?_ | refine mv ?_ | refine asg ?_ | refine bf ?_ | refine bi ?_ | refine pf ?_ | refine ex ?_ | refine aops_nil ?_ | refine aw_seq ?_ | refine aw_region ?_ | refine aw_cond_f rfl ?_ | refine aw_skip ?_ | refine cl k1 ?_ | refine cl k2 ?_ | refine cl s1 ?_ | refine cl s2 ?_ | refine cl q1 ?_ | refine cl q2 ?_ | fail))
  refine aw_drawP 8 [] ?_
  (repeat' (first | refine dPn ?_ | refine dP (fun _ => y_move) ?_ | refine dP (fun _ => y_assign) ?_ | refine dP (fun _ => (y_quo hn)) ?_ | refine dP (fun _ => (y_rem hn)) ?_ | fail))
  (repeat' (first | refine asg ?_ | refine aops_nil ?_ | refine aw_seq ?_ | refine aw_region ?_ | refine aw_block ?_ | fail))
  refine aw_loop (ι := {i : Nat × Int × Int × Int // anamnesisref02_quotient.l0 i.1 (sa != sb) e n f i.2.1 i.2.2.1 i.2.2.2 = some r}) (fun i => ⟨[(7, bv (sa != sb)), (9, iv e), (10, iv n), (11, iv f), (12, iv i.1.2.1), (13, iv i.1.2.2.1), (14, iv i.1.2.2.2)], noT⟩) (fun i => i.1.1) ⟨(_, _, _, _), h⟩ (ent_env ⟨rfl, rfl, rfl, rfl, rfl, rfl, rfl, trivial⟩) ?_
  rintro ⟨⟨k, q, m', j⟩, h⟩
  show AWp _ _ _ _ ⟨[(7, bv (sa != sb)), (9, iv e), (10, iv n), (11, iv f), (12, iv q), (13, iv m'), (14, iv j)], noT⟩
  cases k with
  | zero => cases h
  | succ k =>
    simp only [anamnesisref02_quotient.l0] at h
    by_cases hj : j < 60
    · rw [if_pos hj] at h
      by_cases hg : IntKind.i64.wrap (2 * m') ≥ n
      · rw [if_pos hg] at h
        (repeat' (first | refine mv ?_ | refine asg ?_ | refine bt ?_ | refine bi ?_ | refine aops_nil ?_ | refine aw_seq ?_ | refine aw_region ?_ | refine aw_cond_t rfl ?_ | refine aw_block ?_ | refine aw_skip ?_ | fail))
        exact ⟨⟨(k, _, _, _), h⟩, Nat.lt_succ_self k, ent_env ⟨rfl, rfl, rfl, rfl, rfl, rfl, rfl, trivial⟩⟩
      · rw [if_neg hg] at h
        (repeat' (first | refine mv ?_ | refine asg ?_ | refine bt ?_ | refine bf ?_ | refine bi ?_ | refine aops_nil ?_ | refine aw_seq ?_ | refine aw_region ?_ | refine aw_cond_t rfl ?_ | refine aw_cond_f rfl ?_ | refine aw_block ?_ | refine aw_skip ?_ | fail))
        exact ⟨⟨(k, _, _, _), h⟩, Nat.lt_succ_self k, ent_env ⟨rfl, rfl, rfl, rfl, rfl, rfl, rfl, trivial⟩⟩
    · rw [if_neg hj] at h
      obtain ⟨t, h3, h4⟩ := told_w h
      have cr := rround_ok _ _ _ _ _ h3
      have cw := rwith_ok _ _ _ h4
      cases hz : (m' != 0) with
      | true =>
        rw [hz] at cr
        have hz : ¬ m' = 0 := by simpa using hz
        (repeat' (first | refine mv ?_ | refine asg ?_ | refine bt ?_ | refine bf ?_ | refine bi ?_ | refine aops_nil ?_ | refine aw_seq ?_ | refine aw_region ?_ | refine aw_cond_f rfl ?_ | refine aw_exit ?_ | refine aw_ret ?_ | refine cl cr ?_ | refine cl cw ?_ | fail))
        exact fin (sh_iv rfl)
      | false =>
        rw [hz] at cr
        have hz : m' = 0 := by simpa using hz
        (repeat' (first | refine mv ?_ | refine asg ?_ | refine bf ?_ | refine bi ?_ | refine aops_nil ?_ | refine aw_seq ?_ | refine aw_region ?_ | refine aw_cond_f rfl ?_ | refine aw_exit ?_ | refine aw_ret ?_ | refine cl cr ?_ | refine cl cw ?_ | fail))
        exact fin (sh_iv rfl)
end Go.Proofs.YtnjihhheiiapnaaGreat
