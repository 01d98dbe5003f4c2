/- What the statements' walks need. -/
import Derived.Test.YtnjihhheiiapnaaGreatMTa4
import Derived.Test.YtnjihhheiiapnaaGreatMTx29
set_option linter.unusedVariables false
set_option linter.unusedSimpArgs false
set_option maxRecDepth 100000
namespace Go.Proofs.YtnjihhheiiapnaaGreat
open Go Go.Proofs AW Go.RowKit
theorem y_shv {P : Program} {N : Fr} {Q : Exit → ASt → Prop} {st : ASt} {o : Oper} {t t' : TypeId} {p q : Operand} {kk : IntKind} {v n c : Int} (hc : shl .i64 v n = c) (hn : 0 ≤ n) (ho : o.op = .binOp .shl t p q t') (hp : ev st p = some (iv v)) (hq : ev st q = some (.v (.int kk n))) : AYield P N Q o st (iv c) :=
  y_bin (r := .int .i64 c) ho hp hq fun w => by
    have h0 : ¬ n < 0 := by omega
    subst hc
    simp only [eqGuard_shl, binOp, Op.shift, h0, if_false]
    rfl
theorem shv {P : Program} {N : Fr} {Q : Exit → ASt → Prop} {st : ASt} {ops : Array Oper} {i : Nat} {l : List Nat} {d : Nat} {t t' : TypeId} {p q : Operand} {kk : IntKind} {v n : Int} (c : Int) (hn : 0 ≤ n) (hc : shl .i64 v n = c) (k : AOps P N ops Q l (st.put d (iv c))) (ho : (ops.getD i default).op = .binOp .shl t p q t' := by rfl) (hp : ev st p = some (iv v) := by rfl) (hq : ev st q = some (.v (.int kk n)) := by rfl)
    (hi : Nat.blt i ops.size = true := by rfl) (hg : opAt N ops st i = true := by rfl) (hd : (ops.getD i default).dst = some d := by rfl) (hN : Nat.blt d N = true := by rfl) : AOps P N ops Q (i :: l) st := st1 (y_shv hc hn ho hp hq) k hi hg hd hN
theorem y_srv {P : Program} {N : Fr} {Q : Exit → ASt → Prop} {st : ASt} {o : Oper} {t t' : TypeId} {p q : Operand} {kk : IntKind} {v n c : Int} (hc : shr .i64 v n = c) (hn : 0 ≤ n) (ho : o.op = .binOp .shr t p q t') (hp : ev st p = some (iv v)) (hq : ev st q = some (.v (.int kk n))) : AYield P N Q o st (iv c) := by
  subst hc
  exact y_shr hn ho hp hq rfl
theorem srv {P : Program} {N : Fr} {Q : Exit → ASt → Prop} {st : ASt} {ops : Array Oper} {i : Nat} {l : List Nat} {d : Nat} {t t' : TypeId} {p q : Operand} {kk : IntKind} {v n : Int} (c : Int) (hn : 0 ≤ n) (hc : shr .i64 v n = c) (k : AOps P N ops Q l (st.put d (iv c))) (ho : (ops.getD i default).op = .binOp .shr t p q t' := by rfl) (hp : ev st p = some (iv v) := by rfl) (hq : ev st q = some (.v (.int kk n)) := by rfl)
    (hi : Nat.blt i ops.size = true := by rfl) (hg : opAt N ops st i = true := by rfl) (hd : (ops.getD i default).dst = some d := by rfl) (hN : Nat.blt d N = true := by rfl) : AOps P N ops Q (i :: l) st := st1 (y_srv hc hn ho hp hq) k hi hg hd hN
set_option maxHeartbeats 4000000 in
theorem rround_ok (k : Nat) (a e : Int) (b : Bool) (r : Int) (h : anamnesisref02_round.f k a e b = some r) : Gives Tryz.prog 45 [iv a, iv e, bv b] (iv r) := by
  unfold anamnesisref02_round.f at h
  obtain ⟨t, ht, h⟩ := bind_get h
  have ct := rtop_ok k a t ht
  have cm := rmost_ok
  generalize hsh : mxI (IntKind.i64.wrap (t - 52)) (IntKind.i64.wrap ((-1074) - e)) = sh at h
  refine gives_of Tryz.func45 rfl (Nat.le_of_ble_eq_true rfl) ?_
  iterate 6 (first | refine aw_seq ?_ | refine aw_region ?_ | refine asg ?_ | refine aops_nil ?_)
  refine mv ?_
  refine cl ct ?_
  refine bi ?_
  refine mv ?_
  refine bi ?_
  refine mx hsh ?_
  refine asg ?_
  refine aops_nil ?_
  refine aw_cutE (ι := {x : Int // anamnesisref02_round.j0 k x e sh = some r}) (fun i => [(0, iv i.1), (1, iv e), (7, iv sh)]) ?_ ?_
  · by_cases c1 : sh ≤ 0
    · rw [if_pos c1] at h
      have hu : 0 ≤ IntKind.u64.wrap (IntKind.i64.wrap (-sh)) := by
        by_cases hu : 0 ≤ IntKind.u64.wrap (IntKind.i64.wrap (-sh))
        · exact hu
        · rw [if_neg hu] at h; cases h
      rw [if_pos hu] at h
      iterate 2 (first | refine aw_seq ?_ | refine aw_region ?_)
      refine mv ?_
      refine bt ?_
      refine aops_nil ?_
      refine aw_cond_t rfl ?_
      refine aw_region ?_
      refine mv ?_
      refine mv ?_
      refine un ?_
      refine cv' ?_
      refine shv (shl .i64 a (IntKind.u64.wrap (IntKind.i64.wrap (-sh)))) ?_ ?_ ?_
      · rw [Int.zero_sub]; exact hu
      · rw [Int.zero_sub]
      refine asg ?_
      refine aops_nil ?_
      exact ⟨⟨_, h⟩, rfl, rfl, rfl, rfl, trivial⟩
    · rw [if_neg c1] at h
      iterate 2 (first | refine aw_seq ?_ | refine aw_region ?_)
      refine mv ?_
      refine bf ?_
      refine aops_nil ?_
      refine aw_cond_f rfl ?_
      by_cases c2 : sh < 63
      · rw [if_pos c2] at h
        have hu : 0 ≤ IntKind.u64.wrap sh := by
          by_cases hu : 0 ≤ IntKind.u64.wrap sh
          · exact hu
          · rw [if_neg hu] at h; cases h
        rw [if_pos hu] at h
        generalize hS : shl .i64 1 (IntKind.u64.wrap sh) = S at h
        have hS0 : ¬ S = 0 := by
          intro hS0; rw [if_pos hS0] at h; cases h
        rw [if_neg hS0] at h
        have hv : 0 ≤ IntKind.u64.wrap (IntKind.i64.wrap (sh - 1)) := by
          by_cases hv : 0 ≤ IntKind.u64.wrap (IntKind.i64.wrap (sh - 1))
          · exact hv
          · rw [if_neg hv] at h; cases h
        rw [if_pos hv] at h
        generalize hH : shl .i64 1 (IntKind.u64.wrap (IntKind.i64.wrap (sh - 1))) = F at h
        generalize hQ : shr .i64 a (IntKind.u64.wrap sh) = q at h
        iterate 2 (first | refine aw_seq ?_ | refine aw_region ?_)
        refine mv ?_
        refine asg ?_
        refine asg ?_
        refine aops_nil ?_
        iterate 3 (first | refine aw_seq ?_ | refine aw_region ?_)
        refine mv ?_
        refine bt ?_
        refine aops_nil ?_
        refine aw_cond_t rfl ?_
        iterate 2 (first | refine aw_seq ?_ | refine aw_region ?_)
        refine mv ?_
        refine mv ?_
        refine cv' ?_
        refine shv S hu hS ?_
        refine rm ?_
        refine asg ?_
        refine aops_nil ?_
        iterate 2 (first | refine aw_seq ?_ | refine aw_region ?_)
        refine mv ?_
        refine bi ?_
        refine cv' ?_
        refine shv F hv hH ?_
        refine asg ?_
        refine aops_nil ?_
        refine aw_region ?_
        refine mv ?_
        refine mv ?_
        refine cv' ?_
        refine srv q hu hQ ?_
        refine asg ?_
        refine aops_nil ?_
        generalize a.tmod S = R at *
        by_cases g1 : R > F
        · rw [if_pos g1] at h
          (repeat' (first | refine sk ?_ | refine mv ?_ | refine asg ?_ | refine bt ?_ | refine bi ?_ | refine pt ?_ | refine aops_nil ?_ | refine aw_seq ?_ | refine aw_region ?_ | refine aw_cond_t rfl ?_ | fail))
          exact ⟨⟨_, h⟩, rfl, rfl, rfl, rfl, trivial⟩
        rw [if_neg g1] at h
        by_cases g2 : R = F
        · rw [if_pos g2] at h
          cases b with
          | true =>
            rw [if_pos rfl] at h
            (repeat' (first | refine sk ?_ | refine mv ?_ | refine asg ?_ | refine bt ?_ | refine bf ?_ | refine bi ?_ | refine pt ?_ | refine pf ?_ | refine aops_nil ?_ | refine aw_seq ?_ | refine aw_region ?_ | refine aw_cond_t rfl ?_ | fail))
            exact ⟨⟨_, h⟩, rfl, rfl, rfl, rfl, trivial⟩
          | false =>
            rw [if_neg (by simp)] at h
            by_cases g3 : q.tmod 2 = 1
            · rw [if_pos g3] at h
              (repeat' (first | refine mv ?_ | refine asg ?_ | refine rm ?_ | refine bt ?_ | refine bf ?_ | refine bi ?_ | refine pt ?_ | refine pf ?_ | refine aops_nil ?_ | refine aw_seq ?_ | refine aw_region ?_ | refine aw_cond_t rfl ?_ | fail))
              exact ⟨⟨_, h⟩, rfl, rfl, rfl, rfl, trivial⟩
            · rw [if_neg g3] at h
              (repeat' (first | refine mv ?_ | refine rm ?_ | refine bt ?_ | refine bf ?_ | refine pt ?_ | refine pf ?_ | refine aops_nil ?_ | refine aw_seq ?_ | refine aw_region ?_ | refine aw_cond_f rfl ?_ | refine aw_skip ?_ | fail))
              exact ⟨⟨_, h⟩, rfl, rfl, rfl, rfl, trivial⟩
        · rw [if_neg g2] at h
          (repeat' (first | refine sk ?_ | refine mv ?_ | refine bf ?_ | refine pf ?_ | refine aops_nil ?_ | refine aw_seq ?_ | refine aw_region ?_ | refine aw_cond_f rfl ?_ | refine aw_skip ?_ | fail))
          exact ⟨⟨_, h⟩, rfl, rfl, rfl, rfl, trivial⟩
      · rw [if_neg c2] at h
        unfold anamnesisref02_most.f at h
        rw [Option.bind_some] at h
        have w1 : IntKind.i64.wrap (0 + 1) = 1 := rfl
        have w0 : Int.tmod 0 2 = 0 := rfl
        by_cases g1 : a > 9223372036854775807
        · rw [if_pos g1] at h
          (repeat' (first | refine sk ?_ | refine mv ?_ | refine asg ?_ | refine bt ?_ | refine bf ?_ | refine bw ?_ | refine pt ?_ | refine aops_nil ?_ | refine aw_seq ?_ | refine aw_region ?_ | refine aw_cond_t rfl ?_ | refine aw_cond_f rfl ?_ | refine cl cm ?_ | fail))
          exact ⟨⟨_, h⟩, rfl, rfl, rfl, rfl, trivial⟩
        rw [if_neg g1] at h
        by_cases g2 : a = 9223372036854775807
        · rw [if_pos g2] at h
          cases b with
          | true =>
            rw [if_pos rfl] at h
            (repeat' (first | refine sk ?_ | refine mv ?_ | refine asg ?_ | refine bt ?_ | refine bf ?_ | refine bw ?_ | refine pt ?_ | refine pf ?_ | refine aops_nil ?_ | refine aw_seq ?_ | refine aw_region ?_ | refine aw_cond_t rfl ?_ | refine aw_cond_f rfl ?_ | refine cl cm ?_ | fail))
            exact ⟨⟨_, h⟩, rfl, rfl, rfl, rfl, trivial⟩
          | false =>
            rw [if_neg (by simp)] at h
            (repeat' (first | refine mv ?_ | refine asg ?_ | refine rm ?_ | refine bt ?_ | refine bf ?_ | refine pt ?_ | refine pf ?_ | refine aops_nil ?_ | refine aw_seq ?_ | refine aw_region ?_ | refine aw_cond_f rfl ?_ | refine aw_skip ?_ | refine cl cm ?_ | fail))
            exact ⟨⟨_, h⟩, rfl, rfl, rfl, rfl, trivial⟩
        · rw [if_neg g2] at h
          (repeat' (first | refine sk ?_ | refine mv ?_ | refine asg ?_ | refine bf ?_ | refine pf ?_ | refine aops_nil ?_ | refine aw_seq ?_ | refine aw_region ?_ | refine aw_cond_f rfl ?_ | refine aw_skip ?_ | refine cl cm ?_ | fail))
          exact ⟨⟨_, h⟩, rfl, rfl, rfl, rfl, trivial⟩
  · rintro ⟨x, h⟩
    show AWp _ _ _ _ ⟨[(0, iv x), (1, iv e), (7, iv sh)], noT⟩
    cases k with
    | zero => cases h
    | succ k =>
      simp only [anamnesisref02_round.j0] at h
      have fin1 : ∀ x e', anamnesisref02_round.j1 k x e' = some r → x < 4503599627370496 ∧ r = x ∨ (¬ x < 4503599627370496 ∧ e' > 971 ∧ r = 9218868437227405312) ∨ (¬ x < 4503599627370496 ∧ ¬ e' > 971 ∧ r = IntKind.i64.wrap ((IntKind.i64.wrap ((IntKind.i64.wrap ((IntKind.i64.wrap (e' + 1075)) * 4503599627370496)) + x)) - 4503599627370496)) := by
        intro x e' h
        cases k with
        | zero => cases h
        | succ k =>
          simp only [anamnesisref02_round.j1] at h
          by_cases g1 : x < 4503599627370496
          · rw [if_pos g1] at h; exact .inl ⟨g1, (Option.some.inj h).symm⟩
          rw [if_neg g1] at h
          by_cases g2 : e' > 971
          · rw [if_pos g2] at h; exact .inr (.inl ⟨g1, g2, (Option.some.inj h).symm⟩)
          rw [if_neg g2] at h; exact .inr (.inr ⟨g1, g2, (Option.some.inj h).symm⟩)
      have hsl : ∀ y : Int, shl .i64 y 52 = IntKind.i64.wrap (y * 4503599627370496) := fun y => rfl
      by_cases g0 : x = 9007199254740992
      · rw [if_pos g0] at h
        have h := fin1 _ _ h
        generalize hE : IntKind.i64.wrap (IntKind.i64.wrap (e + sh) + 1) = E at h
        rcases h with ⟨g1, rfl⟩ | ⟨g1, g2, rfl⟩ | ⟨g1, g2, rfl⟩
        · exact absurd g1 (by decide)
        · rw [← hE] at g2
          (repeat' (first | refine mv ?_ | refine asg ?_ | refine bt ?_ | refine bf ?_ | refine bi ?_ | refine aops_nil ?_ | refine aw_seq ?_ | refine aw_region ?_ | refine aw_cond_t rfl ?_ | refine aw_cond_f rfl ?_ | refine aw_skip ?_ | refine aw_ret ?_ | fail))
          exact fin (sh_iv rfl)
        · rw [← hE] at g2
          (repeat' (first | refine mv ?_ | refine asg ?_ | refine bt ?_ | refine bf ?_ | refine bi ?_ | refine aops_nil ?_ | refine aw_seq ?_ | refine aw_region ?_ | refine aw_cond_t rfl ?_ | refine aw_cond_f rfl ?_ | refine aw_skip ?_ | refine aw_ret ?_ | fail))
          rw [← hE]
          exact fin (sh_iv rfl)
      · rw [if_neg g0] at h
        have h := fin1 _ _ h
        generalize hE : IntKind.i64.wrap (e + sh) = E at h
        rcases h with ⟨g1, rfl⟩ | ⟨g1, g2, rfl⟩ | ⟨g1, g2, rfl⟩
        · (repeat' (first | refine mv ?_ | refine asg ?_ | refine bt ?_ | refine bf ?_ | refine bi ?_ | refine aops_nil ?_ | refine aw_seq ?_ | refine aw_region ?_ | refine aw_cond_t rfl ?_ | refine aw_cond_f rfl ?_ | refine aw_skip ?_ | refine aw_ret ?_ | fail))
          exact fin (sh_iv rfl)
        · rw [← hE] at g2
          (repeat' (first | refine mv ?_ | refine asg ?_ | refine bt ?_ | refine bf ?_ | refine bi ?_ | refine aops_nil ?_ | refine aw_seq ?_ | refine aw_region ?_ | refine aw_cond_t rfl ?_ | refine aw_cond_f rfl ?_ | refine aw_skip ?_ | refine aw_ret ?_ | fail))
          exact fin (sh_iv rfl)
        · rw [← hE] at g2
          (repeat' (first | refine mv ?_ | refine asg ?_ | refine bf ?_ | refine bi ?_ | refine aops_nil ?_ | refine aw_seq ?_ | refine aw_region ?_ | refine aw_cond_f rfl ?_ | refine aw_skip ?_ | refine aw_ret ?_ | fail))
          rw [← hE]
          exact fin (sh_iv rfl)
end Go.Proofs.YtnjihhheiiapnaaGreat
namespace Go.Proofs.YtnjihhheiiapnaaGreat
open Go Go.Proofs AW Go.RowKit
theorem hs8 (y : Int) : shl .i64 y 8 = IntKind.i64.wrap (y * 256) := rfl
theorem told_w {k : Nat} {m e r : Int} {b n : Bool} (h : ((anamnesisref02_round.f k m e b).bind fun t => ((anamnesisref02_with.f n t).bind fun u => (some u))) = some r) :
    ∃ t, anamnesisref02_round.f k m e b = some t ∧ anamnesisref02_with.f n t = some r := by
  obtain ⟨t, h1, h2⟩ := bind_get h
  obtain ⟨u, h3, h4⟩ := bind_get h2
  cases h4
  exact ⟨t, h1, h3⟩
theorem add_tail {k : Nat} {a b M e n r : Int} {more : Bool} (h : anamnesisref02_add.j0 k a b M e n more = some r) :
    ((decide (a < 0) == decide (b < 0)) = true ∧ ∃ k' t, anamnesisref02_round.f k' (IntKind.i64.wrap (M + n)) (IntKind.i64.wrap (e - 8)) more = some t ∧ anamnesisref02_with.f (decide (a < 0)) t = some r) ∨
    ((decide (a < 0) == decide (b < 0)) = false ∧ ∃ X, (if more = true then IntKind.i64.wrap ((IntKind.i64.wrap (M - n)) - 1) else IntKind.i64.wrap (M - n)) = X ∧ ((X = 0 ∧ r = 0) ∨ (¬ X = 0 ∧ ∃ k' t, anamnesisref02_round.f k' X (IntKind.i64.wrap (e - 8)) more = some t ∧ anamnesisref02_with.f (decide (a < 0)) t = some r))) := by
  have hj : ∀ k X, anamnesisref02_add.j1 k a X e more = some r → (X = 0 ∧ r = 0) ∨ (¬ X = 0 ∧ ∃ k' t, anamnesisref02_round.f k' X (IntKind.i64.wrap (e - 8)) more = some t ∧ anamnesisref02_with.f (decide (a < 0)) t = some r) := by
    intro k X h
    cases k with
    | zero => cases h
    | succ k =>
      simp only [anamnesisref02_add.j1, anamnesisref02_sign.f, Option.bind_some] at h
      by_cases hX : X = 0
      · rw [if_pos hX] at h; exact .inl ⟨hX, (Option.some.inj h).symm⟩
      · rw [if_neg hX] at h; exact .inr ⟨hX, k, told_w h⟩
  cases k with
  | zero => cases h
  | succ k =>
    simp only [anamnesisref02_add.j0, anamnesisref02_sign.f, Option.bind_some] at h
    by_cases hs : (decide (a < 0) == decide (b < 0)) = true
    · rw [if_pos hs] at h; exact .inl ⟨hs, k, told_w h⟩
    · rw [if_neg hs] at h
      refine .inr ⟨eq_false_of_ne_true hs, _, rfl, ?_⟩
      cases more with
      | true => rw [if_pos rfl] at h; rw [if_pos rfl]; exact hj _ _ h
      | false => rw [if_neg (by simp)] at h; rw [if_neg (by simp)]; exact hj _ _ h
set_option maxHeartbeats 8000000 in
theorem radd_ok : ∀ (k : Nat) (a b r : Int), anamnesisref02_add.f k a b = some r → Gives Tryz.prog 105 [iv a, iv b] (iv r)
  | 0, a, b, r, h => by cases h
  | k + 1, a, b, r, h => by
    simp only [anamnesisref02_add.f] at h
    rw [plain_f, plain_f, Option.bind_some, Option.bind_some] at h
    have p1 := rplain_ok a
    have p2 := rplain_ok b
    by_cases c0 : a % 9223372036854775808 < b % 9223372036854775808
    · rw [if_pos c0] at h
      obtain ⟨t, h1, h2⟩ := bind_get h
      cases h2
      have ca := radd_ok k b a r h1
      refine gives_of Tryz.func105 rfl (Nat.le_of_ble_eq_true rfl) ?_
      (repeat' (first | refine mv ?_ | refine asg ?_ | refine bt ?_ | refine aops_nil ?_ | refine aw_seq ?_ | refine aw_region ?_ | refine aw_cond_t rfl ?_ | refine aw_ret ?_ | refine cl p1 ?_ | refine cl p2 ?_ | refine cl ca ?_ | fail))
      exact fin (sh_iv rfl)
    rw [if_neg c0] at h
    obtain ⟨⟨m, e⟩, h1, h⟩ := bind_get h
    obtain ⟨⟨n, f⟩, h2, h⟩ := bind_get h
    dsimp only at h
    have q1 := rpart_ok k a m e h1
    have q2 := rpart_ok k b n f h2
    generalize hM : IntKind.i64.wrap (m * 256) = M at h
    generalize hNN : IntKind.i64.wrap (n * 256) = NN at h
    refine gives_of Tryz.func105 rfl (Nat.le_of_ble_eq_true rfl) ?_
    refine aw_seq ?_
    refine aw_region ?_
    refine asg ?_
    refine aops_nil ?_
    iterate 3 (first | refine aw_seq ?_ | refine aw_region ?_)
    refine mv ?_
    refine cl p1 ?_
    refine mv ?_
    refine cl p2 ?_
    refine bf ?_
    refine aops_nil ?_
    refine aw_cond_f rfl ?_
    refine aw_skip ?_
    refine aw_seq ?_
    refine aw_region ?_
    (repeat' (first | refine mv ?_ | refine asg ?_ | refine ex ?_ | refine aops_nil ?_ | refine cl q1 ?_ | fail))
    refine aw_seq ?_
    refine aw_region ?_
    (repeat' (first | refine mv ?_ | refine asg ?_ | refine ex ?_ | refine aops_nil ?_ | refine cl q2 ?_ | fail))
    refine aw_seq ?_
    refine aw_region ?_
    refine mv ?_
    refine shv M ?_ ((hs8 m).trans hM) ?_
    · decide
    refine asg ?_
    refine aops_nil ?_
    refine aw_seq ?_
    refine aw_region ?_
    refine mv ?_
    refine shv NN ?_ ((hs8 n).trans hNN) ?_
    · decide
    refine asg ?_
    refine aops_nil ?_
    refine aw_seq ?_
    refine aw_region ?_
    (repeat' (first | refine mv ?_ | refine asg ?_ | refine bi ?_ | refine aops_nil ?_ | fail))
    refine aw_seq ?_
    refine aw_region ?_
    (repeat' (first | refine asg ?_ | refine aops_nil ?_ | fail))
    refine aw_cutE (ι := {x : Int × Bool // anamnesisref02_add.j0 k a b M e x.1 x.2 = some r}) (fun i => [(0, iv a), (1, iv b), (5, iv M), (6, iv e), (7, iv i.1.1), (10, bv i.1.2)]) ?_ ?_
    · by_cases c1 : IntKind.i64.wrap (e - f) > 62
      · rw [if_pos c1] at h
        (repeat' (first | refine mv ?_ | refine asg ?_ | refine bt ?_ | refine aops_nil ?_ | refine aw_seq ?_ | refine aw_region ?_ | refine aw_cond_t rfl ?_ | fail))
        exact ⟨⟨(0, true), h⟩, rfl, rfl, rfl, rfl, rfl, rfl, rfl, trivial⟩
      · rw [if_neg c1] at h
        have hu : 0 ≤ IntKind.u64.wrap (IntKind.i64.wrap (e - f)) := by
          by_cases hu : 0 ≤ IntKind.u64.wrap (IntKind.i64.wrap (e - f))
          · exact hu
          · rw [if_neg hu] at h; cases h
        rw [if_pos hu] at h
        generalize hS : shl .i64 1 (IntKind.u64.wrap (IntKind.i64.wrap (e - f))) = S at h
        have hS0 : ¬ S = 0 := by
          intro hS0; rw [if_pos hS0] at h; cases h
        rw [if_neg hS0] at h
        iterate 2 (first | refine aw_seq ?_ | refine aw_region ?_)
        refine mv ?_
        refine bf ?_
        refine aops_nil ?_
        refine aw_cond_f rfl ?_
        refine aw_seq ?_
        refine aw_region ?_
        refine mv ?_
        refine mv ?_
        refine cv' ?_
        refine shv S hu hS ?_
        refine rm ?_
        refine bi ?_
        refine asg ?_
        refine aops_nil ?_
        refine aw_region ?_
        refine mv ?_
        refine mv ?_
        refine cv' ?_
        refine srv _ hu rfl ?_
        refine asg ?_
        refine aops_nil ?_
        exact ⟨⟨(_, _), h⟩, rfl, rfl, rfl, rfl, rfl, rfl, rfl, trivial⟩
    · rintro ⟨⟨n', more⟩, h⟩
      show AWp _ _ _ _ ⟨[(0, iv a), (1, iv b), (5, iv M), (6, iv e), (7, iv n'), (10, bv more)], noT⟩
      have ht := add_tail h
      have s1 := rsign_ok a
      have s2 := rsign_ok b
      clear h h1 h2 q1 q2 p1 p2 hM hNN
      generalize decide (a < 0) = sa at *
      generalize decide (b < 0) = sb at *
      rcases ht with ⟨hs, k', t, h1, h2⟩ | ⟨hs, X, hX, ht⟩
      · have cr := rround_ok k' _ _ _ _ h1
        have cw := rwith_ok _ _ _ h2
        have e1 : sb = sa := by cases sa <;> cases sb <;> first | rfl | cases hs
        subst e1
        cases sb
        all_goals (repeat' (first | refine mv ?_ | refine asg ?_ | refine bt ?_ | refine bi ?_ | refine aops_nil ?_ | refine aw_seq ?_ | refine aw_region ?_ | refine aw_cond_t rfl ?_ | refine aw_ret ?_ | refine cl s1 ?_ | refine cl s2 ?_ | refine cl cr ?_ | refine cl cw ?_ | fail))
        all_goals exact fin (sh_iv rfl)
      · cases more with
        | true =>
          rw [if_pos rfl] at hX
          rcases ht with ⟨h0, rfl⟩ | ⟨h0, k', t, h1, h2⟩
          · rw [h0] at hX
            cases sa <;> cases sb <;> first | (cases hs; done) | skip
            all_goals (repeat' (first | refine mv ?_ | refine asg ?_ | refine bt ?_ | refine bf ?_ | refine bi ?_ | refine aops_nil ?_ | refine aw_seq ?_ | refine aw_region ?_ | refine aw_cond_t rfl ?_ | refine aw_cond_f rfl ?_ | refine aw_skip ?_ | refine aw_ret ?_ | refine cl s1 ?_ | refine cl s2 ?_ | fail))
            all_goals exact fin (sh_iv rfl)
          · have cr := rround_ok k' _ _ _ _ h1
            have cw := rwith_ok _ _ _ h2
            subst hX
            cases sa <;> cases sb <;> first | (cases hs; done) | skip
            all_goals (repeat' (first | refine mv ?_ | refine asg ?_ | refine bf ?_ | refine bi ?_ | refine aops_nil ?_ | refine aw_seq ?_ | refine aw_region ?_ | refine aw_cond_t rfl ?_ | refine aw_cond_f rfl ?_ | refine aw_skip ?_ | refine aw_ret ?_ | refine cl s1 ?_ | refine cl s2 ?_ | refine cl cr ?_ | refine cl cw ?_ | fail))
            all_goals exact fin (sh_iv rfl)
        | false =>
          rw [if_neg (by simp)] at hX
          rcases ht with ⟨h0, rfl⟩ | ⟨h0, k', t, h1, h2⟩
          · rw [h0] at hX
            cases sa <;> cases sb <;> first | (cases hs; done) | skip
            all_goals (repeat' (first | refine mv ?_ | refine asg ?_ | refine bt ?_ | refine bf ?_ | refine bi ?_ | refine aops_nil ?_ | refine aw_seq ?_ | refine aw_region ?_ | refine aw_cond_t rfl ?_ | refine aw_cond_f rfl ?_ | refine aw_skip ?_ | refine aw_ret ?_ | refine cl s1 ?_ | refine cl s2 ?_ | fail))
            all_goals exact fin (sh_iv rfl)
          · have cr := rround_ok k' _ _ _ _ h1
            have cw := rwith_ok _ _ _ h2
            subst hX
            cases sa <;> cases sb <;> first | (cases hs; done) | skip
            all_goals (repeat' (first | refine mv ?_ | refine asg ?_ | refine bf ?_ | refine bi ?_ | refine aops_nil ?_ | refine aw_seq ?_ | refine aw_region ?_ | refine aw_cond_f rfl ?_ | refine aw_skip ?_ | refine aw_ret ?_ | refine cl s1 ?_ | refine cl s2 ?_ | refine cl cr ?_ | refine cl cw ?_ | fail))
            all_goals exact fin (sh_iv rfl)
end Go.Proofs.YtnjihhheiiapnaaGreat
