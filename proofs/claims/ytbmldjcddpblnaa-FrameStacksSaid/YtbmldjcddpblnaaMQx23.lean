/- What the statements' walks need. -/
import Derived.Test.YtbmldjcddpblnaaMQa4
import Derived.Test.YtbmldjcddpblnaaMQx22
import Derived.Test.YtbmldjcddpblnaaMQa3
import Derived.Test.YtbmldjcddpblnaaMQx15
import Derived.Test.YtbmldjcddpblnaaMQx21
import Derived.Laws.StructEq
import Derived.ProofKit
set_option linter.unusedVariables false
set_option linter.unusedSimpArgs false
set_option maxRecDepth 100000
namespace Go.Proofs.Ytbmldjcddpblnaa
open Go Go.Proofs AW
theorem run_partI {xs : Array Value} {k : Nat} {a : Int} (h : xs[k]? = some (.int .i64 a)) (w : World) : (part 3 xs k).run Try.prog w = .ok (.int .i64 a) w := by
  have hs : szOf Try.prog 3 = some (1, false) := rfl
  have h2 := (szOf_run hs w).2
  simp only [part, Sem.run_bind, h2, Result.andThen_ok]
  simp [h]
theorem ins_eqIn (x y : HInstr) (w : World) : (Op.equalIn 10000 37 (.agg #[.int .i64 x.op, .int .i64 x.arg]) (.agg #[.int .i64 y.op, .int .i64 y.arg])).run Try.prog w = .ok (x.op == y.op && x.arg == y.arg) w := by
  have hu : Try.prog.underlying 3 = some (.int .i64) := Try.underlying3
  rw [run_equalIn_agg w 9999 37 _ _ rfl (by kernel_rfl)]
  show (Op.eqFields 9999 _ _ [⟨"Op", 3, 0, _, _, _, _⟩, ⟨"Arg", 3, 1, _, _, _, _⟩]).run _ _ = _
  simp only [Op.eqFields]
  simp only [Sem.run_ite, Sem.run_bind, run_partI (xs := #[.int .i64 x.op, .int .i64 x.arg]) (k := 0) (a := x.op) rfl, run_partI (xs := #[.int .i64 x.op, .int .i64 x.arg]) (k := 1) (a := x.arg) rfl,
    run_partI (xs := #[.int .i64 y.op, .int .i64 y.arg]) (k := 0) (a := y.op) rfl, run_partI (xs := #[.int .i64 y.op, .int .i64 y.arg]) (k := 1) (a := y.arg) rfl, Result.andThen_ok, run_equalIn_int w 9998 3 _ _ _ _ hu, Sem.run_pure]
  cases h1 : (x.op == y.op) <;> cases h2 : (x.arg == y.arg) <;> simp
theorem ins_neq (t t' : TypeId) (p q : Operand) (x y : HInstr) (w : World) (ht : t = 37) : (do eqGuard .neq t p q (.agg [.int .i64 x.op, .int .i64 x.arg].toArray) (.agg [.int .i64 y.op, .int .i64 y.arg].toArray); binOp .neq t (.agg [.int .i64 x.op, .int .i64 x.arg].toArray) (.agg [.int .i64 y.op, .int .i64 y.arg].toArray) : Sem Value).run Try.prog w = .ok (.bool (!decide (x = y))) w := by
  subst ht
  have hg := run_eqGuard_agg (P := Try.prog) w .neq 37 p q #[.int .i64 x.op, .int .i64 x.arg] #[.int .i64 y.op, .int .i64 y.arg] (by kernel_rfl)
  have he := run_neq_struct (P := Try.prog) w 37 #[.int .i64 x.op, .int .i64 x.arg] #[.int .i64 y.op, .int .i64 y.arg]
  rw [ins_eqIn] at he
  have hd : (x.op == y.op && x.arg == y.arg) = decide (x = y) := by
    cases x with | mk a b => cases y with | mk c d => (rw [Bool.eq_iff_iff]; simp)
  rw [hd] at he
  rw [Sem.run_bind, hg, Result.andThen_ok, he]; rfl
set_option maxHeartbeats 4000000 in
theorem riSame_ok (A B : List HInstr) (hA : A.length < 1099511627776) (hB : B.length < 1099511627776) : Gives Try.prog 57 [.sl 2 (encCode A), .sl 2 (encCode B)] (bv (decide (A = B))) := by
  refine gives_of Try.func57 rfl (Nat.le_of_ble_eq_true rfl) ?_
  have lA : (encCode A).length = A.length := len_code A
  have lB : (encCode B).length = B.length := len_code B
  (repeat' (first | refine mv ?_ | refine asg ?_ | refine bi ?_ | refine ln ?_ | refine aops_nil ?_ | refine aw_seq ?_ | refine aw_region ?_ | refine aw_block ?_ | refine aw_skip ?_ | refine aw_ret ?_ | refine aw_cond rfl (fun h => ?_) (fun h => ?_) | fail))
  all_goals try (refine fin (sh_bv (x := false) ?_); symm; rw [decide_eq_false_iff_not]; rintro rfl; simp at *; done)
  have hl : A.length = B.length := by simp at *; omega
  refine aw_forE A.length (fun k => k ≤ A.length ∧ ∀ (j : Nat), j < k → A[j]? = B[j]?) (fun k => [(5, iv (k : Int)), (0, .sl 2 (encCode A)), (1, .sl 2 (encCode B))])
    0 ⟨by omega, by omega⟩ ⟨rfl, rfl, rfl, trivial⟩ ?_
  rintro k ⟨hk, hprev⟩
  (repeat' (first | refine mv ?_ | refine bi ?_ | refine ln ?_ | refine aops_nil ?_ | refine aw_seq ?_ | refine aw_region ?_ | fail))
  refine aw_cond rfl (fun h => ?_) (fun h => ?_) <;> simp at h
  · (repeat' (first | refine aw_seq ?_ | refine aw_block ?_ | refine aw_skip ?_ | fail))
    have g1 : A[k]? = some A[k] := List.getElem?_eq_getElem h
    have g2 : B[k]? = some (B[k]'(by omega)) := List.getElem?_eq_getElem (by omega)
    refine aw_draw 9 none ?_
    (repeat' (first | refine dn ?_ | refine ds y_move ?_ | refine ds y_loadsN ?_ | refine ds (y_iaddrN k (code_get g1)) ?_ | refine ds (y_iaddrN k (code_get g2)) ?_ | refine ds (y_binA [.int .i64 (A[k]).op, .int .i64 (A[k]).arg] [.int .i64 (B[k]'(by omega)).op, .int .i64 (B[k]'(by omega)).arg] (hrun := fun w => ins_neq _ 0 _ _ (A[k]) (B[k]'(by omega)) w rfl)) ?_ | fail))
    (repeat' (first | refine aops_nil ?_ | fail))
    refine aw_cond rfl (fun h2 => ?_) (fun h2 => ?_) <;> simp at h2
    · (repeat' (first | refine asg ?_ | refine aops_nil ?_ | refine aw_seq ?_ | refine aw_region ?_ | refine aw_ret ?_ | fail))
      refine fin (sh_bv (x := false) ?_)
      symm; rw [decide_eq_false_iff_not]; rintro rfl; exact h2 rfl
    · (repeat' (first | refine mv ?_ | refine asg ?_ | refine bw ?_ | refine aops_nil ?_ | refine aw_region ?_ | refine aw_skip ?_ | fail))
      refine ⟨h, ⟨by omega, fun j hj => ?_⟩, rfl, rfl, rfl, rfl, trivial⟩
      by_cases hjk : j = k
      · subst hjk; rw [g1, g2, h2]
      · exact hprev j (by omega)
  · have hs : A = B := List.ext_getElem? fun j => by
      rcases Nat.lt_or_ge j k with hj | hj
      · exact hprev j hj
      · rw [List.getElem?_eq_none (by omega), List.getElem?_eq_none (by omega)]
    (repeat' (first | refine asg ?_ | refine aops_nil ?_ | refine aw_seq ?_ | refine aw_region ?_ | refine aw_exit ?_ | refine aw_ret ?_ | fail))
    exact fin (sh_bv (x := true) (by simp [hs]))
end Go.Proofs.Ytbmldjcddpblnaa
namespace Go.Proofs.Ytbmldjcddpblnaa
open Go Go.Proofs AW
def packN (l : List HInstr) : List Int := l.flatMap fun x => [x.op, x.arg]
def packS (l : List HInstr) : ByteArray := strOfNums (packN l)
theorem str_app (a b : List Int) : strOfNums a ++ strOfNums b = strOfNums (a ++ b) := by
  apply ByteArray.ext
  apply Array.ext'
  simp [strOfNums, ByteArray.data_append]
theorem len_packN (l : List HInstr) : (packN l).length = 2 * l.length := by
  induction l with
  | nil => rfl
  | cons x l ih => simp [packN] at ih ⊢; omega
theorem packS_take {l : List HInstr} {k : Nat} {x : HInstr} (h : l[k]? = some x) : packS (l.take k) ++ strOfNums [x.op, x.arg] = packS (l.take (k + 1)) := by
  rw [packS, str_app, packS, List.take_add_one, h]
  simp [packN]
theorem size_packS (l : List HInstr) : (packS l).size = 2 * l.length := by rw [packS, strOfNums_size, len_packN]
def packR (l : List HInstr) : ByteArray := if allI l = true then packS l else ⟨#[]⟩
def packE (l : List HInstr) : Int := if allI l = true then 0 else 110
theorem may_rng {x : HInstr} (h : mayI x = true) : 0 ≤ x.op ∧ x.op ≤ 255 ∧ 0 ≤ x.arg ∧ x.arg ≤ 255 := by
  simp only [mayI, decide_eq_true_eq] at h; omega
theorem all_may {l : List HInstr} (h : allI l = true) {x : HInstr} (hx : x ∈ l) : mayI x = true := by
  simp only [allI, Bool.and_eq_true, List.all_eq_true] at h
  exact h.2 x hx
set_option maxHeartbeats 4000000 in
theorem rPack_ok (l : List HInstr) (hl : l.length < 1099511627776) : Gives Try.prog 98 [.sl 2 (encCode l)] (.tup [sv (packR l), iv (packE l)]) := by
  have hle : (encCode l).length = l.length := len_code l
  have c1 := riall_ok l hl
  rw [rall_eq] at c1
  by_cases hall : allI l = true
  rotate_left
  · simp only [Bool.not_eq_true] at hall
    rw [hall] at c1
    refine gives_of Try.func98 rfl (Nat.le_of_ble_eq_true rfl) ?_
    (repeat' (first | refine mv ?_ | refine asg ?_ | refine un ?_ | refine aops_nil ?_ | refine aw_seq ?_ | refine aw_region ?_ | refine aw_cond_t rfl ?_ | refine aw_ret ?_ | refine cl c1 ?_ (hno := ⟨noOwn_code 2 l, trivial⟩) | fail))
    refine fin (sh_tup (l := [sv ⟨#[]⟩, iv 110]) ⟨?_, ?_, trivial⟩)
    · rw [packR, hall]; exact .same _ (.v _)
    · exact sh_iv (by rw [packE, hall]; rfl)
  rw [hall] at c1
  refine gives_of Try.func98 rfl (Nat.le_of_ble_eq_true rfl) ?_
  (repeat' (first | refine mv ?_ | refine asg ?_ | refine un ?_ | refine aops_nil ?_ | refine aw_seq ?_ | refine aw_region ?_ | refine aw_cond_f rfl ?_ | refine aw_block ?_ | refine aw_skip ?_ | refine cl c1 ?_ (hno := ⟨noOwn_code 2 l, trivial⟩) | fail))
  refine aw_for l.length (fun k => k ≤ l.length) (fun k => ⟨[(4, sv (packS (l.take k))), (5, iv (k : Int)), (0, .sl 2 (encCode l))], tb []⟩) 0 (Nat.zero_le _) ?_ ?_
  · refine ent_tb id [] ?_ ?_ <;> (repeat' (first | exact trivial | exact fz_v _ | exact .same _ (noOwn_code _ _) | refine ⟨_, rfl, ?_⟩ | refine ⟨?_, ?_⟩ | fail))
  intro k hk
  have hs4 : (packS (l.take k)).size ≤ 2 * l.length := by rw [size_packS, List.length_take]; omega
  (repeat' (first | refine mv ?_ | refine bi ?_ | refine ln ?_ | refine aops_nil ?_ | refine aw_seq ?_ | refine aw_region ?_ | fail))
  refine aw_cond rfl (fun h => ?_) (fun h => ?_) <;> simp at h
  · have g1 : l[k]? = some l[k] := List.getElem?_eq_getElem h
    generalize hx : l[k] = x at g1
    have hm : x ∈ l := List.mem_of_getElem? g1
    have hr := may_rng (all_may hall hm)
    have w1 := wrap8 (x := x.op) ⟨hr.1, hr.2.1⟩
    have w2 := wrap8 (x := x.arg) hr.2.2
    have hadd : (packS (l.take k)).size + (strOfNums [IntKind.u8.wrap x.op, IntKind.u8.wrap x.arg]).size ≤ 9223372036854775807 := by rw [strOfNums_size]; show _ + 2 ≤ _; omega
    refine aw_skip (aw_seq (aw_block ?_))
    refine aw_drawU 16 13 5 (.live 5 1 (byteRow [IntKind.u8.wrap x.op, IntKind.u8.wrap x.arg])) ?_
    (repeat' (first | refine dn ?_ | refine d2 y_move y_move ?_ | refine d2 y_load y_load ?_ | refine d2 y_faddr_ip y_faddr_ip ?_ | refine d2 (y_iaddrN k (code_get g1)) (y_iaddrN k (code_get g1)) ?_ | refine d2 y_conv y_conv ?_ | refine de (y_litU 5) ?_ | refine dh (y_bstrU [IntKind.u8.wrap x.op, IntKind.u8.wrap x.arg]) ?_ | refine d2 (y_adds hadd) (y_adds hadd) ?_ | fail))
    (repeat' (first | refine mv ?_ | refine asg ?_ | refine bw ?_ | refine aops_nil ?_ | refine aw_region ?_ | fail))
    refine ⟨h, by omega, ?_⟩
    rw [w1, w2, packS_take g1]
    refine ent_tb id [] ?_ ?_ <;> (repeat' (first | exact trivial | exact fz_v _ | exact .same _ (noOwn_code _ _) | refine ⟨_, rfl, ?_⟩ | refine ⟨?_, ?_⟩ | fail))
  · have hks : k = l.length := by omega
    subst hks
    (repeat' (first | refine mv ?_ | refine asg ?_ | refine aops_nil ?_ | refine aw_seq ?_ | refine aw_region ?_ | refine aw_exit ?_ | refine aw_ret ?_ | fail))
    refine fin (sh_tup (l := [sv (packS (l.take l.length)), iv 0]) ⟨?_, ?_, trivial⟩)
    · rw [packR, if_pos hall, List.take_length]; exact .same _ (.v _)
    · exact sh_iv (by rw [packE, if_pos hall])
end Go.Proofs.Ytbmldjcddpblnaa
