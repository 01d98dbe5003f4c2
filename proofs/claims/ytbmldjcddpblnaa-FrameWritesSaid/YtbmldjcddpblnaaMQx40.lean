/- What the statements' walks need. -/
import Derived.Test.YtbmldjcddpblnaaMQa4
import Derived.Test.YtbmldjcddpblnaaMQx39
set_option linter.unusedVariables false
set_option linter.unusedSimpArgs false
set_option maxRecDepth 100000
namespace Go.Proofs.Ytbmldjcddpblnaa
open Go Go.Proofs AW
theorem _root_.Go.Proofs.Ytbmldjcddpblnaa.AW.Gives.sub {P : Program} {f : Nat} {args args' : List AV} {x : AV} (h : Gives P f args' x) (hs : ∀ I w vs, All2 (Rep I noT noβ w) args vs → All2 (Rep I noT noβ w) args' vs) : Gives P f args x :=
  fun I0 w vs hI hvs => h I0 w vs hI (hs _ _ _ hvs)
theorem ins_eql (t t' : TypeId) (p q : Operand) (x : HInstr) (w : World) (ht : t = 37) : (do eqGuard .eql t p q (.agg [.int .i64 x.op, .int .i64 x.arg].toArray) (.agg [.int .i64 x.op, .int .i64 x.arg].toArray); binOp .eql t (.agg [.int .i64 x.op, .int .i64 x.arg].toArray) (.agg [.int .i64 x.op, .int .i64 x.arg].toArray) : Sem Value).run Try.prog w = .ok (.bool true) w := by
  subst ht
  have hg := run_eqGuard_agg (P := Try.prog) w .eql 37 p q #[.int .i64 x.op, .int .i64 x.arg] #[.int .i64 x.op, .int .i64 x.arg] (by kernel_rfl)
  have he := run_eql_struct (P := Try.prog) w 37 #[.int .i64 x.op, .int .i64 x.arg] #[.int .i64 x.op, .int .i64 x.arg]
  rw [ins_eqIn] at he
  rw [Sem.run_bind, hg, Result.andThen_ok, he]
  simp
theorem fx11' : Gives Try.prog 22 [.agg (encHeap litH), iv 0, iv 14, iv 7, iv 0, .v (.slice none 0 0)] (.tup [.agg (encHeap litH), iv 0, iv 120]) :=
  fx11.sub fun I w vs h => by
    match vs, h with
    | [v0, v1, v2, v3, v4, v5], ⟨h0, h1, h2, h3, h4, h5, _⟩ =>
      refine ⟨h0, h1, h2, h3, h4, ?_, trivial⟩
      rw [h5.v_inv]; exact .emp 1 none 0 fun _ => rfl
set_option maxHeartbeats 8000000 in
theorem fixed12_ok : Gives Try.prog 12 [] (bv true) := by
  refine gives_of Try.func12 rfl (Nat.le_of_ble_eq_true rfl) ?_
  have p2 : (encCode [⟨2, 1⟩, ⟨14, 0⟩]).length = 2 := rfl
  have p3 : (encInts [7]).length = 1 := rfl
  (repeat' (first | refine mv ?_ | refine asg ?_ | refine ld ?_ | refine fp ?_ | refine bt ?_ | refine bf ?_ | refine un ?_ | refine pt ?_ | refine pf ?_ | refine ex ?_ | refine ln ?_ | refine la ?_ | refine so ?_ | refine bd ?_ | refine aops_nil ?_ | refine aw_seq ?_ | refine aw_region ?_ | refine aw_cond_f rfl ?_ | refine aw_skip ?_ | refine aw_ret ?_ | refine al 0 ?_ | refine al 1 ?_ | refine al 2 ?_ | refine al 3 ?_ | refine al 4 ?_ | refine al 5 ?_ | refine al 6 ?_ | refine cl (little_ok) ?_ | refine cl (fx1) ?_ | refine cl (fx2) ?_ | refine cl (fx3) ?_ | refine cl (fx4) ?_ | refine cl (fx5) ?_ | refine cl (fx6) ?_ | refine cl (fx7) ?_ | refine cl (fx8) ?_ | refine cl (fx9) ?_ | refine cl (fx10) ?_ | refine cl (fx11') ?_ | refine cl (fx12) ?_ | refine li 30 ?_ | refine fzs 32 (fun c hc => noOwn_intsc (l := [9]) hc) ?_ | refine biA [.int .i64 14, .int .i64 0] [.int .i64 14, .int .i64 0] ?_ (hrun := fun w => ins_eql _ 0 _ _ ⟨14, 0⟩ w rfl) | fail))
  exact fin (sh_bv rfl)
end Go.Proofs.Ytbmldjcddpblnaa
