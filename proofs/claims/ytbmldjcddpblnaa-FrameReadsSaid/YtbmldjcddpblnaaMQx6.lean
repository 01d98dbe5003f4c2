/- What the statements' walks need. -/
import Derived.Test.YtbmldjcddpblnaaMQa4
import Derived.Test.YtbmldjcddpblnaaMQx2
import Derived.Test.YtbmldjcddpblnaaMQx5
set_option linter.unusedVariables false
set_option linter.unusedSimpArgs false
set_option maxRecDepth 100000
namespace Go.Proofs.Ytbmldjcddpblnaa
open Go Go.Proofs AW
theorem indexFunc_ins (xs : List HInstr) (g : Nat) (caps : List AV) (p : HInstr → Bool) (hg : goFn Try.prog g = true) (hcaps : NoOwnL caps) (hp : ∀ x ∈ xs, Gives Try.prog g (.agg (encInstr x) :: caps) (bv (p x))) (hlen : xs.length < 1099511627776) :
    Gives Try.prog 139 [.sl 2 (encCode xs), .clo g caps] (iv (findI p xs)) := by
  refine gives_of Try.func139 rfl (Nat.le_of_ble_eq_true rfl) ?_
  (repeat' (first | refine mv ?_ | refine asg ?_ | refine ln ?_ | refine aops_nil ?_ | refine aw_seq ?_ | refine aw_region ?_ | refine aw_block ?_ | fail))
  refine aw_for xs.length (fun k => k ≤ xs.length ∧ ∀ (j : Nat) (y : HInstr), j < k → xs[j]? = some y → p y = false) (fun k => ⟨[(8, iv (k : Int)), (7, iv ((encCode xs).length : Int)), (0, .sl 2 (encCode xs)), (1, .clo g caps)], noT⟩)
    0 ⟨by omega, by omega⟩ (ent_env ⟨rfl, rfl, rfl, rfl, trivial⟩) ?_
  rintro k ⟨hk, hprev⟩
  (repeat' (first | refine bi ?_ | refine aops_nil ?_ | refine aw_seq ?_ | refine aw_region ?_ | fail))
  refine aw_cond rfl (fun h => ?_) (fun h => ?_) <;> simp at h
  · (repeat' (first | refine mv ?_ | refine asg ?_ | refine aops_nil ?_ | refine aw_seq ?_ | refine aw_region ?_ | refine aw_block ?_ | refine aw_skip ?_ | fail))
    have hget : xs[k]? = some xs[k] := List.getElem?_eq_getElem h
    refine ia k (code_get hget) ?_
    (repeat' (first | refine la ?_ | fail))
    refine cl (hp xs[k] (List.getElem_mem h)) ?_ (hg' := hg) (hno := ⟨noOwn_instr _, hcaps⟩)
    (repeat' (first | refine aops_nil ?_ | fail))
    refine aw_cond rfl (fun h2 => ?_) (fun h2 => ?_)
    · (repeat' (first | refine mv ?_ | refine asg ?_ | refine aops_nil ?_ | refine aw_seq ?_ | refine aw_region ?_ | refine aw_ret ?_ | fail))
      refine fin (sh_iv ?_)
      rw [findI_at hget h2 hprev]
    · (repeat' (first | refine mv ?_ | refine bw ?_ | refine aops_nil ?_ | refine aw_region ?_ | refine aw_skip ?_ | fail))
      refine ⟨h, ⟨by omega, fun j y hj hy => ?_⟩, ent_env ⟨rfl, rfl, rfl, rfl, trivial⟩⟩
      by_cases hjk : j = k
      · subst hjk; rw [hget] at hy; cases hy; exact h2
      · exact hprev j y (by omega) hy
  · (repeat' (first | refine asg ?_ | refine aops_nil ?_ | refine aw_seq ?_ | refine aw_region ?_ | refine aw_exit ?_ | refine aw_ret ?_ | fail))
    refine fin (sh_iv ?_)
    rw [findI_none fun j y hy => hprev j y (by have := (List.getElem?_eq_some_iff.1 hy).1; omega) hy]
theorem containsFunc_ins (xs : List HInstr) (g : Nat) (caps : List AV) (p : HInstr → Bool) (hg : goFn Try.prog g = true) (hcaps : NoOwnL caps) (hp : ∀ x ∈ xs, Gives Try.prog g (.agg (encInstr x) :: caps) (bv (p x))) (hlen : xs.length < 1099511627776) :
    Gives Try.prog 123 [.sl 2 (encCode xs), .clo g caps] (bv (xs.any p)) := by
  refine gives_of Try.func123 rfl (Nat.le_of_ble_eq_true rfl) ?_
  (repeat' (first | refine mv ?_ | refine asg ?_ | refine aops_nil ?_ | refine aw_seq ?_ | refine aw_region ?_ | fail))
  refine cl (indexFunc_ins xs g caps p hg hcaps hp hlen) ?_ (hno := ⟨noOwn_code 2 xs, .clo _ _ hcaps.mem, trivial⟩)
  (repeat' (first | refine asg ?_ | refine bi ?_ | refine aops_nil ?_ | refine aw_ret ?_ | fail))
  exact fin (sh_bv (findI_any p xs))
end Go.Proofs.Ytbmldjcddpblnaa
namespace Go.Proofs.Ytbmldjcddpblnaa
open Go Go.Proofs AW
def argT : Nat → Int
  | 1 => 1 | 2 => 2 | 3 => 3 | 4 => 2 | 5 => 3 | 8 => 4 | 9 => 4 | 10 => 5 | 11 => 5 | 12 => 5 | 13 => 1 | 16 => 6 | 17 => 6 | _ => 0
def argK (op : Int) : Int := argT op.toNat
theorem words_arg : ∀ q : Nat, q < 19 → ((wordsA.drop (q * 2)).take 2)[1]? = some (iv (argT q))
  | 0, _ => rfl
  | 1, _ => rfl
  | 2, _ => rfl
  | 3, _ => rfl
  | 4, _ => rfl
  | 5, _ => rfl
  | 6, _ => rfl
  | 7, _ => rfl
  | 8, _ => rfl
  | 9, _ => rfl
  | 10, _ => rfl
  | 11, _ => rfl
  | 12, _ => rfl
  | 13, _ => rfl
  | 14, _ => rfl
  | 15, _ => rfl
  | 16, _ => rfl
  | 17, _ => rfl
  | 18, _ => rfl
  | q + 19, h => absurd h (by omega)
def mayI (x : HInstr) : Bool := decide (0 ≤ x.op ∧ x.op < 19 ∧ 0 ≤ x.arg ∧ x.arg ≤ 255 ∧ (x.arg = 0 ∨ argK x.op ≠ 0))
def allI (l : List HInstr) : Bool := decide (l.length ≤ 32) && l.all mayI
def fitsI (n lits temps : Int) (x : HInstr) : Bool :=
  if argK x.op = 1 then decide (x.arg < lits) else if argK x.op = 4 then decide (x.arg / 8 < lits ∧ x.arg % 8 ≤ 4) else if argK x.op = 2 then decide (x.arg < temps) else
  if argK x.op = 6 then decide (x.arg < 8) else if argK x.op = 3 then decide (x.arg < 64) else if argK x.op = 5 then decide (x.arg < n) else true
theorem words_len : wordsA.length = 38 := rfl
set_option maxHeartbeats 4000000 in
theorem imay_ok (x : HInstr) : Gives Try.prog 138 [.agg (encInstr x)] (bv (mayI x)) := by
  refine gives_of Try.func138 rfl (Nat.le_of_ble_eq_true rfl) ?_
  (repeat' (first | refine asg ?_ | refine aops_nil ?_ | refine aw_seq ?_ | refine aw_region ?_ | refine bx 0 ?_ | fail))
  by_cases hr : 0 ≤ x.op ∧ x.op < 19
  · have hq : x.op.toNat < 19 := by omega
    have hn : x.op = (x.op.toNat : Int) := by omega
    have hqs : x.op.toNat * 2 + 2 ≤ wordsA.length := by rw [words_len]; omega
    have hk := words_arg x.op.toNat hq
    refine aw_draw 31 none ?_
    (repeat' (first | refine dk ?_ | refine dn ?_ | refine ds y_move ?_ | refine ds y_load ?_ | refine ds (y_faddr_ptr (hs := Nat.le_of_ble_eq_true rfl)) ?_ | refine ds y_bt ?_ | refine ds y_bin ?_ | refine ds y_pick_t ?_ | refine ds y_pick_f ?_ | refine ds (y_call words_ok (hno := trivial)) ?_ | refine ds (y_idxA x.op.toNat hq hqs (hi := hn)) ?_ | refine ds (y_field (h0 := hk)) ?_ | refine dg (fun h => ?_) (fun h => ?_) | fail))
    all_goals (repeat' (first | refine asg ?_ | refine aops_nil ?_ | refine aw_ret ?_ | fail))
    all_goals refine fin (sh_bv ?_)
    all_goals (simp at *; simp [mayI, argK]; first | omega | grind)
  · by_cases h0 : x.op < 0
    · refine aw_draw 31 none ?_
      (repeat' (first | refine dk ?_ | refine dn ?_ | refine ds y_move ?_ | refine ds y_load ?_ | refine ds (y_faddr_ptr (hs := Nat.le_of_ble_eq_true rfl)) ?_ | refine ds y_bf ?_ | refine ds y_pick_f ?_ | fail))
      (repeat' (first | refine asg ?_ | refine aops_nil ?_ | refine aw_ret ?_ | fail))
      refine fin (sh_bv ?_)
      symm; simp only [mayI, decide_eq_false_iff_not]; omega
    · have h1 : 19 ≤ x.op := by omega
      refine aw_draw 31 none ?_
      (repeat' (first | refine dk ?_ | refine dn ?_ | refine ds y_move ?_ | refine ds y_load ?_ | refine ds (y_faddr_ptr (hs := Nat.le_of_ble_eq_true rfl)) ?_ | refine ds y_bt ?_ | refine ds y_bf ?_ | refine ds y_pick_t ?_ | refine ds y_pick_f ?_ | fail))
      (repeat' (first | refine asg ?_ | refine aops_nil ?_ | refine aw_ret ?_ | fail))
      refine fin (sh_bv ?_)
      symm; simp only [mayI, decide_eq_false_iff_not]; omega
theorem all1_ok (x : HInstr) : Gives Try.prog 137 [.agg (encInstr x)] (bv !(mayI x)) := by
  refine gives_of Try.func137 rfl (Nat.le_of_ble_eq_true rfl) ?_
  (repeat' (first | refine asg ?_ | refine un ?_ | refine la ?_ | refine aops_nil ?_ | refine aw_seq ?_ | refine aw_region ?_ | refine aw_ret ?_ | refine bx 0 ?_ | refine cl (imay_ok x) ?_ (hno := ⟨noOwn_instr x, trivial⟩) | fail))
  exact fin (sh_bv rfl)
theorem any_not {α : Type} (l : List α) (p : α → Bool) : (!(l.any fun x => !(p x))) = l.all p := by
  induction l with
  | nil => rfl
  | cons x l ih => rw [List.any_cons, List.all_cons, ← ih]; cases p x <;> simp
theorem iall_ok (l : List HInstr) (hl : l.length < 1099511627776) : Gives Try.prog 122 [.sl 2 (encCode l)] (bv (allI l)) := by
  have c1 := containsFunc_ins l 137 [] (fun x => !(mayI x)) rfl trivial (fun x _ => all1_ok x) hl
  refine gives_of Try.func122 rfl (Nat.le_of_ble_eq_true rfl) ?_
  (repeat' (first | refine sk ?_ | refine mv ?_ | refine asg ?_ | refine bi ?_ | refine un ?_ | refine pt ?_ | refine pf ?_ | refine ln ?_ | refine aops_nil ?_ | refine aw_seq ?_ | refine aw_region ?_ | refine aw_ret ?_ | refine cl c1 ?_ (hno := ⟨noOwn_code 2 l, .clo _ _ (by simp), trivial⟩) | refine gs (fun h => ?_) (fun h => ?_) | fail))
  all_goals refine fin (sh_bv ?_)
  · rw [any_not]; simp at *; simp [allI]; omega
  · simp at *; simp [allI]; omega
set_option maxHeartbeats 4000000 in
theorem fits_ok (x : HInstr) (n lits temps : Int) (hx : 0 ≤ x.op ∧ x.op < 19) : Gives Try.prog 125 [.agg (encInstr x), iv n, iv lits, iv temps] (bv (fitsI n lits temps x)) := by
  have hq : x.op.toNat < 19 := by omega
  have hn : x.op = (x.op.toNat : Int) := by omega
  have hqs : x.op.toNat * 2 + 2 ≤ wordsA.length := by rw [words_len]; omega
  have hk := words_arg x.op.toNat hq
  refine gives_of Try.func125 rfl (Nat.le_of_ble_eq_true rfl) ?_
  (repeat' (first | refine asg ?_ | refine aops_nil ?_ | refine aw_seq ?_ | refine aw_region ?_ | refine bx 0 ?_ | fail))
  refine aw_draw 5 none ?_
  (repeat' (first | refine dn ?_ | refine ds y_load ?_ | refine ds (y_faddr_ptr (hs := Nat.le_of_ble_eq_true rfl)) ?_ | refine ds (y_call words_ok (hno := trivial)) ?_ | refine ds (y_idxA x.op.toNat hq hqs (hi := hn)) ?_ | refine ds (y_field (h0 := hk)) ?_ | fail))
  generalize hK : argT x.op.toNat = K
  have hK' : argK x.op = K := hK
  (repeat' (first | refine sk ?_ | refine mv ?_ | refine asg ?_ | refine ld ?_ | refine fp ?_ | refine ms 3 ?_ | refine sr (c := 8) ?_ | refine bi ?_ | refine pt ?_ | refine pf ?_ | refine aops_nil ?_ | refine aw_seq ?_ | refine aw_region ?_ | refine aw_block ?_ | refine aw_skip ?_ | refine aw_ret ?_ | refine gs (fun h => ?_) (fun h => ?_) | refine aw_cond rfl (fun h => ?_) (fun h => ?_) | fail))
  all_goals refine fin (sh_bv ?_)
  all_goals (simp only [fitsI, hK']; clear hk hq hn hqs hK hK'; simp at *)
  all_goals first | done | grind
end Go.Proofs.Ytbmldjcddpblnaa
