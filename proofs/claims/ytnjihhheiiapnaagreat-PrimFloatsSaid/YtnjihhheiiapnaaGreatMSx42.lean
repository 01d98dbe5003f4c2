/- What the statements' walks need. -/
import Derived.Test.YtnjihhheiiapnaaGreatMSa4
import Derived.Test.YtnjihhheiiapnaaGreatMSx41
set_option linter.unusedVariables false
set_option linter.unusedSimpArgs false
set_option maxRecDepth 100000
namespace Go.Proofs.YtnjihhheiiapnaaGreat
open Go Go.Proofs AW Go.RowKit
theorem hs8 (y : Int) : shl .i64 y 8 = IntKind.i64.wrap (y * 256) := rfl
theorem told_w {k : Nat} {m e r : Int} {b n : Bool} (h : ((anamnesisref02_round.f k m e b).bind fun t => ((anamnesisref02_with.f n t).bind fun u => (some u))) = some r) :
    ∃ t, anamnesisref02_round.f k m e b = some t ∧ anamnesisref02_with.f n t = some r := by
  obtain ⟨t, h1, h2⟩ := bind_get h
  obtain ⟨u, h3, h4⟩ := bind_get h2
  cases h4
  exact ⟨t, h1, h3⟩
theorem add_tail {k : Nat} {a b M e n r : Int} {more : Bool} (h : anamnesisref02_add.j0 k a b M e n more = some r) :
    ((decide (a < 0) == decide (b < 0)) = true ∧ ∃ k' t, anamnesisref02_round.f k' (IntKind.i64.wrap (M + n)) (IntKind.i64.wrap (e - 8)) more = some t ∧ anamnesisref02_with.f (decide (a < 0)) t = some r) ∨
    ((decide (a < 0) == decide (b < 0)) = false ∧ ∃ X, (if more = true then IntKind.i64.wrap ((IntKind.i64.wrap (M - n)) - 1) else IntKind.i64.wrap (M - n)) = X ∧ ((X = 0 ∧ r = 0) ∨ (¬ X = 0 ∧ ∃ k' t, anamnesisref02_round.f k' X (IntKind.i64.wrap (e - 8)) more = some t ∧ anamnesisref02_with.f (decide (a < 0)) t = some r))) := by
  have hj : ∀ k X, anamnesisref02_add.j1 k a X e more = some r → (X = 0 ∧ r = 0) ∨ (¬ X = 0 ∧ ∃ k' t, anamnesisref02_round.f k' X (IntKind.i64.wrap (e - 8)) more = some t ∧ anamnesisref02_with.f (decide (a < 0)) t = some r) := by
    intro k X h
    cases k with
    | zero => cases h
    | succ k =>
      simp only [anamnesisref02_add.j1, anamnesisref02_sign.f, Option.bind_some] at h
      by_cases hX : X = 0
      · rw [if_pos hX] at h; exact .inl ⟨hX, (Option.some.inj h).symm⟩
      · rw [if_neg hX] at h; exact .inr ⟨hX, k, told_w h⟩
  cases k with
  | zero => cases h
  | succ k =>
    simp only [anamnesisref02_add.j0, anamnesisref02_sign.f, Option.bind_some] at h
    by_cases hs : (decide (a < 0) == decide (b < 0)) = true
    · rw [if_pos hs] at h; exact .inl ⟨hs, k, told_w h⟩
    · rw [if_neg hs] at h
      refine .inr ⟨eq_false_of_ne_true hs, _, rfl, ?_⟩
      cases more with
      | true => rw [if_pos rfl] at h; rw [if_pos rfl]; exact hj _ _ h
      | false => rw [if_neg (by simp)] at h; rw [if_neg (by simp)]; exact hj _ _ h
set_option maxHeartbeats 8000000 in
theorem radd_ok : ∀ (k : Nat) (a b r : Int), anamnesisref02_add.f k a b = some r → Gives Tryz.prog 105 [iv a, iv b] (iv r)
  | 0, a, b, r, h => by cases h
  | k + 1, a, b, r, h => by
    simp only [anamnesisref02_add.f] at h
    rw [plain_f, plain_f, Option.bind_some, Option.bind_some] at h
    have p1 := rplain_ok a
    have p2 := rplain_ok b
    by_cases c0 : a % 9223372036854775808 < b % 9223372036854775808
    · rw [if_pos c0] at h
      obtain ⟨t, h1, h2⟩ := bind_get h
      cases h2
      have ca := radd_ok k b a r h1
      refine gives_of Tryz.func105 rfl (Nat.le_of_ble_eq_true rfl) ?_
      (repeat' (first | refine mv ?_ | refine asg ?_ | refine bt ?_ | refine aops_nil ?_ | refine aw_seq ?_ | refine aw_region ?_ | refine aw_cond_t rfl ?_ | refine aw_ret ?_ | refine cl p1 ?_ | refine cl p2 ?_ | refine cl ca ?_ | fail))
      exact fin (sh_iv rfl)
    rw [if_neg c0] at h
    obtain ⟨⟨m, e⟩, h1, h⟩ := bind_get h
    obtain ⟨⟨n, f⟩, h2, h⟩ := bind_get h
    dsimp only at h
    have q1 := rpart_ok k a m e h1
    have q2 := rpart_ok k b n f h2
    generalize hM : IntKind.i64.wrap (m * 256) = M at h
    generalize hNN : IntKind.i64.wrap (n * 256) = NN at h
    refine gives_of Tryz.func105 rfl (Nat.le_of_ble_eq_true rfl) ?_
    refine aw_seq ?_
    refine aw_region ?_
    refine asg ?_
    refine aops_nil ?_
    iterate 3 (first | refine aw_seq ?_ | refine aw_region ?_)
    refine mv ?_
    refine cl p1 ?_
    refine mv ?_
    refine cl p2 ?_
    refine bf ?_
    refine aops_nil ?_
    refine aw_cond_f rfl ?_
    refine aw_skip ?_
    refine aw_seq ?_
    refine aw_region ?_
    (repeat' (first | refine mv ?_ | refine asg ?_ | refine ex ?_ | refine aops_nil ?_ | refine cl q1 ?_ | fail))
    refine aw_seq ?_
    refine aw_region ?_
    (repeat' (first | refine mv ?_ | refine asg ?_ | refine ex ?_ | refine aops_nil ?_ | refine cl q2 ?_ | fail))
    refine aw_seq ?_
    refine aw_region ?_
    refine mv ?_
    refine shv M ?_ ((hs8 m).trans hM) ?_
    · decide
    refine asg ?_
    refine aops_nil ?_
    refine aw_seq ?_
    refine aw_region ?_
    refine mv ?_
    refine shv NN ?_ ((hs8 n).trans hNN) ?_
    · decide
    refine asg ?_
    refine aops_nil ?_
    refine aw_seq ?_
    refine aw_region ?_
    (repeat' (first | refine mv ?_ | refine asg ?_ | refine bi ?_ | refine aops_nil ?_ | fail))
    refine aw_seq ?_
    refine aw_region ?_
    (repeat' (first | refine asg ?_ | refine aops_nil ?_ | fail))
    refine aw_cutE (ι := {x : Int × Bool // anamnesisref02_add.j0 k a b M e x.1 x.2 = some r}) (fun i => [(0, iv a), (1, iv b), (5, iv M), (6, iv e), (7, iv i.1.1), (10, bv i.1.2)]) ?_ ?_
    · by_cases c1 : IntKind.i64.wrap (e - f) > 62
      · rw [if_pos c1] at h
        (repeat' (first | refine mv ?_ | refine asg ?_ | refine bt ?_ | refine aops_nil ?_ | refine aw_seq ?_ | refine aw_region ?_ | refine aw_cond_t rfl ?_ | fail))
        exact ⟨⟨(0, true), h⟩, rfl, rfl, rfl, rfl, rfl, rfl, rfl, trivial⟩
      · rw [if_neg c1] at h
        have hu : 0 ≤ IntKind.u64.wrap (IntKind.i64.wrap (e - f)) := by
          by_cases hu : 0 ≤ IntKind.u64.wrap (IntKind.i64.wrap (e - f))
          · exact hu
          · rw [if_neg hu] at h; cases h
        rw [if_pos hu] at h
        generalize hS : shl .i64 1 (IntKind.u64.wrap (IntKind.i64.wrap (e - f))) = S at h
        have hS0 : ¬ S = 0 := by
          intro hS0; rw [if_pos hS0] at h; cases h
        rw [if_neg hS0] at h
        iterate 2 (first | refine aw_seq ?_ | refine aw_region ?_)
        refine mv ?_
        refine bf ?_
        refine aops_nil ?_
        refine aw_cond_f rfl ?_
        refine aw_seq ?_
        refine aw_region ?_
        refine mv ?_
        refine mv ?_
        refine cv' ?_
        refine shv S hu hS ?_
        refine rm ?_
        refine bi ?_
        refine asg ?_
        refine aops_nil ?_
        refine aw_region ?_
        refine mv ?_
        refine mv ?_
        refine cv' ?_
        refine srv _ hu rfl ?_
        refine asg ?_
        refine aops_nil ?_
        exact ⟨⟨(_, _), h⟩, rfl, rfl, rfl, rfl, rfl, rfl, rfl, trivial⟩
    · rintro ⟨⟨n', more⟩, h⟩
      show AWp _ _ _ _ ⟨[(0, iv a), (1, iv b), (5, iv M), (6, iv e), (7, iv n'), (10, bv more)], noT⟩
      have ht := add_tail h
      have s1 := rsign_ok a
      have s2 := rsign_ok b
      clear h h1 h2 q1 q2 p1 p2 hM hNN
      generalize decide (a < 0) = sa at *
      generalize decide (b < 0) = sb at *
      rcases ht with ⟨hs, k', t, h1, h2⟩ | ⟨hs, X, hX, ht⟩
      · have cr := rround_ok k' _ _ _ _ h1
        have cw := rwith_ok _ _ _ h2
        have e1 : sb = sa := by cases sa <;> cases sb <;> first | rfl | cases hs
        subst e1
        cases sb
        all_goals (repeat' (first | refine mv ?_ | refine asg ?_ | refine bt ?_ | refine bi ?_ | refine aops_nil ?_ | refine aw_seq ?_ | refine aw_region ?_ | refine aw_cond_t rfl ?_ | refine aw_ret ?_ | refine cl s1 ?_ | refine cl s2 ?_ | refine cl cr ?_ | refine cl cw ?_ | fail))
        all_goals exact fin (sh_iv rfl)
      · cases more with
        | true =>
          rw [if_pos rfl] at hX
          rcases ht with ⟨h0, rfl⟩ | ⟨h0, k', t, h1, h2⟩
          · rw [h0] at hX
            cases sa <;> cases sb <;> first | (cases hs; done) | skip
            all_goals (repeat' (first | refine mv ?_ | refine asg ?_ | refine bt ?_ | refine bf ?_ | refine bi ?_ | refine aops_nil ?_ | refine aw_seq ?_ | refine aw_region ?_ | refine aw_cond_t rfl ?_ | refine aw_cond_f rfl ?_ | refine aw_skip ?_ | refine aw_ret ?_ | refine cl s1 ?_ | refine cl s2 ?_ | fail))
            all_goals exact fin (sh_iv rfl)
          · have cr := rround_ok k' _ _ _ _ h1
            have cw := rwith_ok _ _ _ h2
            subst hX
            cases sa <;> cases sb <;> first | (cases hs; done) | skip
            all_goals (repeat' (first | refine mv ?_ | refine asg ?_ | refine bf ?_ | refine bi ?_ | refine aops_nil ?_ | refine aw_seq ?_ | refine aw_region ?_ | refine aw_cond_t rfl ?_ | refine aw_cond_f rfl ?_ | refine aw_skip ?_ | refine aw_ret ?_ | refine cl s1 ?_ | refine cl s2 ?_ | refine cl cr ?_ | refine cl cw ?_ | fail))
            all_goals exact fin (sh_iv rfl)
        | false =>
          rw [if_neg (by simp)] at hX
          rcases ht with ⟨h0, rfl⟩ | ⟨h0, k', t, h1, h2⟩
          · rw [h0] at hX
            cases sa <;> cases sb <;> first | (cases hs; done) | skip
            all_goals (repeat' (first | refine mv ?_ | refine asg ?_ | refine bt ?_ | refine bf ?_ | refine bi ?_ | refine aops_nil ?_ | refine aw_seq ?_ | refine aw_region ?_ | refine aw_cond_t rfl ?_ | refine aw_cond_f rfl ?_ | refine aw_skip ?_ | refine aw_ret ?_ | refine cl s1 ?_ | refine cl s2 ?_ | fail))
            all_goals exact fin (sh_iv rfl)
          · have cr := rround_ok k' _ _ _ _ h1
            have cw := rwith_ok _ _ _ h2
            subst hX
            cases sa <;> cases sb <;> first | (cases hs; done) | skip
            all_goals (repeat' (first | refine mv ?_ | refine asg ?_ | refine bf ?_ | refine bi ?_ | refine aops_nil ?_ | refine aw_seq ?_ | refine aw_region ?_ | refine aw_cond_f rfl ?_ | refine aw_skip ?_ | refine aw_ret ?_ | refine cl s1 ?_ | refine cl s2 ?_ | refine cl cr ?_ | refine cl cw ?_ | fail))
            all_goals exact fin (sh_iv rfl)
end Go.Proofs.YtnjihhheiiapnaaGreat
