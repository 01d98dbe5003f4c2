/- What the statements' walks need. -/
import Derived.Test.YtbmldjcddpblnaaMQa4
import Derived.Test.YtbmldjcddpblnaaMQx21
import Derived.Test.YtbmldjcddpblnaaMQx9
import Derived.Test.YtbmldjcddpblnaaMQx15
set_option linter.unusedVariables false
set_option linter.unusedSimpArgs false
set_option maxRecDepth 100000
namespace Go.Proofs.Ytbmldjcddpblnaa
open Go Go.Proofs AW
theorem none_arg : ∀ q : Nat, q < 19 → noneI (q : Int) = decide (argT q = 0) := by decide
theorem rmay_eq (x : HInstr) : rmayI x = mayI x := by
  by_cases h : 0 ≤ x.op ∧ x.op < 19
  · have h1 := none_arg x.op.toNat (by omega)
    have h2 : (x.op.toNat : Int) = x.op := by omega
    rw [h2] at h1
    simp only [rmayI, mayI, h1, argK]
    by_cases h3 : argT x.op.toNat = 0
    · simp only [h3, eq_self, decide_true, Bool.not_true, Bool.or_false]
      rw [Bool.eq_iff_iff]; simp only [Bool.and_eq_true, decide_eq_true_eq]; omega
    · simp only [h3, decide_false, Bool.not_false, Bool.or_true, Bool.and_true]
      rw [Bool.eq_iff_iff]; simp [h3]; omega
  · simp only [rmayI, mayI]
    rw [show decide (0 ≤ x.op ∧ x.op ≤ 18 ∧ 0 ≤ x.arg ∧ x.arg ≤ 255) = false by simp; omega]
    simp; omega
theorem rall_eq (l : List HInstr) : rallI l = allI l := by
  have : l.all rmayI = l.all mayI := by congr 1; funext x; exact rmay_eq x
  simp only [rallI, allI, this]
theorem else_arg : ∀ q : Nat, q < 19 → (q = 1 ∨ q = 13 ∨ q = 8 ∨ q = 9 ∨ q = 2 ∨ q = 4 ∨ q = 16 ∨ q = 17 ∨ q = 3 ∨ q = 5 ∨ q = 10 ∨ q = 11 ∨ q = 12 ∨ argT q = 0) := by decide
theorem op_cls {op : Int} (h : 0 ≤ op ∧ op < 19) : op = 1 ∨ op = 13 ∨ op = 8 ∨ op = 9 ∨ op = 2 ∨ op = 4 ∨ op = 16 ∨ op = 17 ∨ op = 3 ∨ op = 5 ∨ op = 10 ∨ op = 11 ∨ op = 12 ∨ (op ≠ 1 ∧ op ≠ 13 ∧ op ≠ 8 ∧ op ≠ 9 ∧ op ≠ 2 ∧ op ≠ 4 ∧ op ≠ 16 ∧ op ≠ 17 ∧ op ≠ 3 ∧ op ≠ 5 ∧ op ≠ 10 ∧ op ≠ 11 ∧ op ≠ 12) := by omega
theorem dec_lt (a b : Int) : decide (a < b) = !decide (b ≤ a) := by rw [Bool.eq_iff_iff]; simp
theorem fits_1 {n lits temps : Int} {x : HInstr} (h : x.op = 1 ∨ x.op = 13) : (!fitsI n lits temps x) = decide (x.arg ≥ lits) := by
  rcases h with h | h <;> (simp [fitsI, argK, h, argT, dec_lt])
theorem fits_8 {n lits temps : Int} {x : HInstr} (h : x.op = 8 ∨ x.op = 9) : (!fitsI n lits temps x) = (decide (x.arg / 8 ≥ lits) || decide (x.arg % 8 > 4)) := by
  rcases h with h | h <;> (simp [fitsI, argK, h, argT, dec_lt]) <;> (rw [Bool.eq_iff_iff]; simp)
theorem fits_2 {n lits temps : Int} {x : HInstr} (h : x.op = 2 ∨ x.op = 4) : (!fitsI n lits temps x) = decide (x.arg ≥ temps) := by
  rcases h with h | h <;> (simp [fitsI, argK, h, argT, dec_lt])
theorem fits_16 {n lits temps : Int} {x : HInstr} (h : x.op = 16 ∨ x.op = 17) : (!fitsI n lits temps x) = decide (x.arg ≥ 8) := by
  rcases h with h | h <;> (simp [fitsI, argK, h, argT, dec_lt])
theorem fits_3 {n lits temps : Int} {x : HInstr} (h : x.op = 3 ∨ x.op = 5) : (!fitsI n lits temps x) = decide (x.arg ≥ 64) := by
  rcases h with h | h <;> (simp [fitsI, argK, h, argT, dec_lt])
theorem fits_10 {n lits temps : Int} {x : HInstr} (h : x.op = 10 ∨ x.op = 11 ∨ x.op = 12) : (!fitsI n lits temps x) = decide (x.arg ≥ n) := by
  rcases h with h | h | h <;> (simp [fitsI, argK, h, argT, dec_lt])
theorem fits_no {n lits temps : Int} {x : HInstr} (hx : 0 ≤ x.op ∧ x.op < 19) (h : x.op ≠ 1 ∧ x.op ≠ 13 ∧ x.op ≠ 8 ∧ x.op ≠ 9 ∧ x.op ≠ 2 ∧ x.op ≠ 4 ∧ x.op ≠ 16 ∧ x.op ≠ 17 ∧ x.op ≠ 3 ∧ x.op ≠ 5 ∧ x.op ≠ 10 ∧ x.op ≠ 11 ∧ x.op ≠ 12) : (!fitsI n lits temps x) = false := by
  have := else_arg x.op.toNat (by omega)
  have h0 : argK x.op = 0 := by unfold argK; omega
  simp [fitsI, h0]
def rchE (l : List HInstr) (lits temps : Int) (k : Nat) : List (Nat × AV) := [(7, iv (k : Int)), (0, .sl 2 (encCode l)), (1, iv lits), (2, iv temps)]
set_option maxHeartbeats 8000000 in
theorem rCheck_ok (l : List HInstr) (hl : l.length < 1099511627776) (lits temps : Int) : Gives Try.prog 54 [.sl 2 (encCode l), iv lits, iv temps] (iv (checkE l lits temps)) := by
  have hle : (encCode l).length = l.length := len_code l
  have c1 := riall_ok l hl
  rw [rall_eq] at c1
  by_cases h0 : l.length = 0
  · have hnil : l = [] := List.eq_nil_of_length_eq_zero h0
    refine gives_of Try.func54 rfl (Nat.le_of_ble_eq_true rfl) ?_
    (repeat' (first | refine sk ?_ | refine mv ?_ | refine asg ?_ | refine bt ?_ | refine pt ?_ | refine ln ?_ | refine aops_nil ?_ | refine aw_seq ?_ | refine aw_region ?_ | refine aw_cond_t rfl ?_ | refine aw_ret ?_ | fail))
    refine fin (sh_iv ?_)
    simp [checkE, checkB, h0]
  have hne : ¬ l = [] := fun e => h0 (by rw [e]; rfl)
  by_cases hall : allI l = true
  rotate_left
  · simp only [Bool.not_eq_true] at hall
    rw [hall] at c1
    refine gives_of Try.func54 rfl (Nat.le_of_ble_eq_true rfl) ?_
    (repeat' (first | refine mv ?_ | refine asg ?_ | refine bf ?_ | refine un ?_ | refine pf ?_ | refine ln ?_ | refine aops_nil ?_ | refine aw_seq ?_ | refine aw_region ?_ | refine aw_cond_t rfl ?_ | refine aw_ret ?_ | refine cl c1 ?_ (hno := ⟨noOwn_code 2 l, trivial⟩) | fail))
    refine fin (sh_iv ?_)
    simp [checkE, checkB, hall]
  rw [hall] at c1
  refine gives_of Try.func54 rfl (Nat.le_of_ble_eq_true rfl) ?_
  (repeat' (first | refine mv ?_ | refine asg ?_ | refine bf ?_ | refine un ?_ | refine pf ?_ | refine ln ?_ | refine aops_nil ?_ | refine aw_seq ?_ | refine aw_region ?_ | refine aw_cond_f rfl ?_ | refine aw_block ?_ | refine aw_skip ?_ | refine cl c1 ?_ (hno := ⟨noOwn_code 2 l, trivial⟩) | fail))
  refine aw_forE l.length (fun k => k ≤ l.length ∧ ∀ (j : Nat) (x : HInstr), j < k → l[j]? = some x → fitsI l.length lits temps x = true) (rchE l lits temps) 0 ⟨by omega, by omega⟩ ⟨rfl, rfl, rfl, rfl, trivial⟩ ?_
  rintro k ⟨hk, hprev⟩
  (repeat' (first | refine mv ?_ | refine bi ?_ | refine ln ?_ | refine aops_nil ?_ | refine aw_seq ?_ | refine aw_region ?_ | fail))
  refine aw_cond rfl (fun h => ?_) (fun h => ?_) <;> simp at h
  · have g1 : l[k]? = some l[k] := List.getElem?_eq_getElem h
    generalize hx : l[k] = x at g1
    have hm : x ∈ l := List.mem_of_getElem? g1
    have hop := all_op hall hm
    have hmay : mayI x = true := by
      simp only [allI, Bool.and_eq_true, List.all_eq_true] at hall
      exact hall.2 x hm
    have harg : 0 ≤ x.arg ∧ x.arg ≤ 255 := by
      simp only [mayI, decide_eq_true_eq] at hmay; omega
    have q1 : IntKind.i64.wrap (x.arg.tdiv 8) = x.arg / 8 := by
      rw [Int.tdiv_eq_ediv_of_nonneg harg.1, wrap_id (by omega)]
    have q2 : x.arg.tmod 8 = x.arg % 8 := by rw [Int.tmod_eq_emod_of_nonneg harg.1]
    refine aw_skip (aw_seq (aw_block (aw_seq (aw_region ?_))))
    (repeat' (first | refine mv ?_ | refine asg ?_ | refine ld ?_ | refine fi ?_ | refine aops_nil ?_ | refine ia k (code_get g1) ?_ | fail))
    refine aw_seq (aw_region ?_)
    (repeat' (first | refine asg ?_ | refine aops_nil ?_ | fail))
    refine aw_cutE (ι := {b : Bool // b = !fitsI l.length lits temps x}) (fun b => (9, bv b.1) :: rchE l lits temps k) ?_ ?_
    · rcases op_cls hop with h1 | h1 | h1 | h1 | h1 | h1 | h1 | h1 | h1 | h1 | h1 | h1 | h1 | h1
      all_goals (repeat' (first | refine sk ?_ | refine mv ?_ | refine asg ?_ | refine ld ?_ | refine fi ?_ | refine rm ?_ | refine qu ?_ | refine bt ?_ | refine bf ?_ | refine bi ?_ | refine pt ?_ | refine pf ?_ | refine ln ?_ | refine aops_nil ?_ | refine aw_seq ?_ | refine aw_region ?_ | refine aw_cond_t rfl ?_ | refine aw_cond_f rfl ?_ | refine aw_block ?_ | refine aw_skip ?_ | refine ia k (code_get g1) ?_ | refine gs (fun h => ?_) (fun h => ?_) | fail))
      all_goals refine ⟨⟨!fitsI l.length lits temps x, rfl⟩, rfl, congrArg (fun b => some (bv b)) ?_, rfl, rfl, rfl, rfl, trivial⟩
      all_goals show _ = !fitsI l.length lits temps x
      all_goals first
        | rw [fits_1 (by omega)]
        | rw [fits_2 (by omega)]
        | rw [fits_16 (by omega)]
        | rw [fits_3 (by omega)]
        | (rw [fits_10 (by omega)]; rw [hle])
        | rw [fits_no hop (by omega)]
        | (rw [fits_8 (by omega)]; simp only [q1, q2] at *; simp at *; first | omega | grind)
    rintro ⟨b, hb⟩
    (repeat' (first | refine mv ?_ | refine aops_nil ?_ | refine aw_seq ?_ | refine aw_region ?_ | fail))
    refine aw_cond rfl (fun h2 => ?_) (fun h2 => ?_) <;> subst h2
    · (repeat' (first | refine asg ?_ | refine aops_nil ?_ | refine aw_seq ?_ | refine aw_region ?_ | refine aw_ret ?_ | fail))
      refine fin (sh_iv ?_)
      have hf : l.all (fitsI l.length lits temps) = false := List.all_eq_false.2 ⟨x, hm, by simpa using hb.symm⟩
      simp [checkE, checkB, hf]
    · (repeat' (first | refine mv ?_ | refine asg ?_ | refine bw ?_ | refine aops_nil ?_ | refine aw_region ?_ | refine aw_skip ?_ | fail))
      refine ⟨h, ⟨by omega, fun j y hj hjy => ?_⟩, rfl, rfl, rfl, rfl, rfl, trivial⟩
      by_cases hjk : j = k
      · subst hjk; rw [g1] at hjy; cases hjy; simpa using hb
      · exact hprev j y (by omega) hjy
  · have hf : l.all (fitsI l.length lits temps) = true := List.all_eq_true.2 fun x hx => by
      obtain ⟨j, hj, rfl⟩ := List.getElem_of_mem hx
      exact hprev j _ (by omega) (List.getElem?_eq_getElem hj)
    have hn : ((encCode l).length : Int) - 1 = ((l.length - 1 : Nat) : Int) := by rw [hle]; omega
    have hlt : l.length - 1 < l.length := by omega
    have g1 : l[l.length - 1]? = some l[l.length - 1] := List.getElem?_eq_getElem hlt
    have hlast : lastOp l = (l[l.length - 1]).op := by simp [lastOp, g1]
    (repeat' (first | refine sk ?_ | refine mv ?_ | refine asg ?_ | refine ld ?_ | refine fi ?_ | refine bw ?_ | refine bi ?_ | refine pt ?_ | refine pf ?_ | refine ln ?_ | refine aops_nil ?_ | refine aw_seq ?_ | refine aw_region ?_ | refine aw_cond_f rfl ?_ | refine aw_exit ?_ | refine aw_skip ?_ | refine aw_ret ?_ | refine ia (l.length - 1) (code_get g1) ?_ (hn := hn) | refine gs (fun h => ?_) (fun h => ?_) | refine aw_cond rfl (fun h => ?_) (fun h => ?_) | fail))
    all_goals refine fin (sh_iv ?_)
    all_goals simp [checkE, checkB, hf, hall, hne, hlast]
    all_goals (simp at *; omega)
end Go.Proofs.Ytbmldjcddpblnaa
