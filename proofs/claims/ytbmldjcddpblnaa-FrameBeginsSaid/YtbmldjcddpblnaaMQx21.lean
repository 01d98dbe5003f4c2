/- What the statements' walks need. -/
import Derived.Test.YtbmldjcddpblnaaMQa4
import Derived.Test.YtbmldjcddpblnaaMQx6
import Derived.Test.YtbmldjcddpblnaaMQx16
import Derived.Test.YtbmldjcddpblnaaMQx17
import Derived.Test.YtbmldjcddpblnaaMQa3
import Derived.Test.YtbmldjcddpblnaaMQx20
import Derived.Test.YtbmldjcddpblnaaMQx18
import Derived.Test.YtbmldjcddpblnaaMQa2
set_option linter.unusedVariables false
set_option linter.unusedSimpArgs false
set_option maxRecDepth 100000
namespace Go.Proofs.Ytbmldjcddpblnaa
open Go Go.Proofs AW
def noneI (op : Int) : Bool := decide (op = 0 ∨ op = 6 ∨ op = 7 ∨ op = 14 ∨ op = 15 ∨ op = 18)
theorem rnone_ok (op : Int) : Gives Try.prog 141 [iv op] (bv (noneI op)) := by
  refine gives_of Try.func141 rfl (Nat.le_of_ble_eq_true rfl) ?_
  (repeat' (first | refine sk ?_ | refine mv ?_ | refine asg ?_ | refine bi ?_ | refine pt ?_ | refine pf ?_ | refine aops_nil ?_ | refine aw_seq ?_ | refine aw_region ?_ | refine aw_ret ?_ | refine gs (fun h => ?_) (fun h => ?_) | fail))
  all_goals refine fin (sh_bv ?_)
  all_goals (simp at *; simp [noneI]; first | done | omega | grind)
def rmayI (x : HInstr) : Bool := decide (0 ≤ x.op ∧ x.op ≤ 18 ∧ 0 ≤ x.arg ∧ x.arg ≤ 255) && (decide (x.arg = 0) || !noneI x.op)
theorem rimay_ok (x : HInstr) : Gives Try.prog 126 [.agg (encInstr x)] (bv (rmayI x)) := by
  refine gives_of Try.func126 rfl (Nat.le_of_ble_eq_true rfl) ?_
  (repeat' (first | refine sk ?_ | refine mv ?_ | refine asg ?_ | refine ld ?_ | refine fp ?_ | refine bi ?_ | refine un ?_ | refine pt ?_ | refine pf ?_ | refine aops_nil ?_ | refine aw_seq ?_ | refine aw_region ?_ | refine aw_ret ?_ | refine bx 0 ?_ | refine cl (rnone_ok _) ?_ | refine gs (fun h => ?_) (fun h => ?_) | fail))
  all_goals refine fin (sh_bv ?_)
  all_goals (simp at *; simp [rmayI]; first | done | omega | grind)
end Go.Proofs.Ytbmldjcddpblnaa
namespace Go.Proofs.Ytbmldjcddpblnaa
open Go Go.Proofs AW
def rallI (l : List HInstr) : Bool := decide (l.length ≤ 32) && l.all rmayI
set_option maxHeartbeats 4000000 in
theorem riall_ok (l : List HInstr) (hl : l.length < 1099511627776) : Gives Try.prog 101 [.sl 2 (encCode l)] (bv (rallI l)) := by
  refine gives_of Try.func101 rfl (Nat.le_of_ble_eq_true rfl) ?_
  have hL : (encCode l).length = l.length := len_code l
  (repeat' (first | refine asg ?_ | refine aops_nil ?_ | refine aw_seq ?_ | refine aw_region ?_ | refine aw_block ?_ | fail))
  refine aw_forE l.length (fun k => k ≤ l.length ∧ ∀ (j : Nat) (x : HInstr), j < k → l[j]? = some x → rmayI x = true) (fun k => [(3, iv (k : Int)), (0, .sl 2 (encCode l))])
    0 ⟨by omega, by omega⟩ ⟨rfl, rfl, trivial⟩ ?_
  rintro k ⟨hk, hprev⟩
  (repeat' (first | refine mv ?_ | refine bi ?_ | refine ln ?_ | refine aops_nil ?_ | refine aw_seq ?_ | refine aw_region ?_ | fail))
  refine aw_cond rfl (fun h => ?_) (fun h => ?_) <;> simp at h
  · have g1 : l[k]? = some l[k] := List.getElem?_eq_getElem h
    have hm : l[k] ∈ l := List.getElem_mem h
    cases hx : rmayI l[k] with
    | true =>
      have c1 := (rimay_ok l[k]).to' (congrArg bv hx)
      (repeat' (first | refine mv ?_ | refine asg ?_ | refine bw ?_ | refine un ?_ | refine la ?_ | refine aops_nil ?_ | refine aw_seq ?_ | refine aw_region ?_ | refine aw_cond_f rfl ?_ | refine aw_block ?_ | refine aw_skip ?_ | refine ia k (code_get g1) ?_ | refine cl c1 ?_ (hno := ⟨noOwn_instr _, trivial⟩) | fail))
      refine ⟨h, ⟨by omega, fun j x hj hjx => ?_⟩, rfl, rfl, rfl, trivial⟩
      by_cases hjk : j = k
      · subst hjk; rw [g1] at hjx; cases hjx; exact hx
      · exact hprev j x (by omega) hjx
    | false =>
      have c1 := (rimay_ok l[k]).to' (congrArg bv hx)
      (repeat' (first | refine mv ?_ | refine asg ?_ | refine un ?_ | refine la ?_ | refine aops_nil ?_ | refine aw_seq ?_ | refine aw_region ?_ | refine aw_cond_t rfl ?_ | refine aw_block ?_ | refine aw_skip ?_ | refine aw_ret ?_ | refine ia k (code_get g1) ?_ | refine cl c1 ?_ (hno := ⟨noOwn_instr _, trivial⟩) | fail))
      refine fin (sh_bv (x := false) ?_)
      symm; simp only [rallI, Bool.and_eq_false_iff]; right
      exact List.all_eq_false.2 ⟨_, hm, by simp [hx]⟩
  · have ha : l.all rmayI = true := List.all_eq_true.2 fun x hx => by
      obtain ⟨j, hj, rfl⟩ := List.getElem_of_mem hx
      exact hprev j _ (by omega) (List.getElem?_eq_getElem hj)
    (repeat' (first | refine mv ?_ | refine asg ?_ | refine bi ?_ | refine ln ?_ | refine aops_nil ?_ | refine aw_seq ?_ | refine aw_region ?_ | refine aw_exit ?_ | refine aw_ret ?_ | fail))
    refine fin (sh_bv ?_)
    simp [rallI, ha]; omega
end Go.Proofs.Ytbmldjcddpblnaa
namespace Go.Proofs.Ytbmldjcddpblnaa
open Go Go.Proofs AW
theorem sh_objsrow {T : Nat → Ob} {i e : Nat} {es : List (List AV)} {l : List HObj} (hT : T i = .live e 6 es) (h : es = encObjs l) : Sh T (.own i) (.sl 6 (encObjs l)) := by
  subst h
  exact sh_own hT (fun c hc => len_obj hc) fun c hc => by
    simp only [encObjs, List.mem_map] at hc
    obtain ⟨o, _, rfl⟩ := hc
    exact noOwn_obj o
end Go.Proofs.Ytbmldjcddpblnaa
namespace Go.Proofs.Ytbmldjcddpblnaa
open Go Go.Proofs AW
theorem wrap8 {x : Int} (h : 0 ≤ x ∧ x ≤ 255) : IntKind.u8.wrap x = x := by
  simp [IntKind.wrap, IntKind.signed, IntKind.bits]; omega
end Go.Proofs.Ytbmldjcddpblnaa
namespace Go.Proofs.Ytbmldjcddpblnaa
open Go Go.Proofs AW
set_option maxHeartbeats 8000000 in
theorem read_a (H : HHeap) (hi : H.In) (c : Int) (h0 : mayH H = true) (h1 : H.is c 0) (h2 : (H.at' c).cls = 12) (h3 : (H.at' c).slots.length = 22) (hm : mthB H ((H.at' c).sl 3) = false) : Gives Try.prog 55 [.agg (encHeap H), iv c] (.tup [.agg (encCtx (ctxV H c)), bv (ctxB H c)]) := by
  have cr := ref6_ok
  have c0 := (May_ok H hi).to' (congrArg bv h0)
  have c1 := object_some H c 0 h1
  have hle : (encInts (H.at' c).slots).length = 22 := by rw [len_ints, h3]
  have g0 := ints_get (sl_get (o := H.at' c) (k := 0) (by omega))
  have g1 := ints_get (sl_get (o := H.at' c) (k := 1) (by omega))
  have g2 := ints_get (sl_get (o := H.at' c) (k := 2) (by omega))
  have g3 := ints_get (sl_get (o := H.at' c) (k := 3) (by omega))
  have g5 := ints_get (sl_get (o := H.at' c) (k := 5) (by omega))
  have c2 := (method_ok H hi ((H.at' c).sl 3)).to' (congrArg (fun b => AV.tup [.agg (encMethod (mthM H ((H.at' c).sl 3))), bv b]) hm)
  refine gives_of Try.func55 rfl (Nat.le_of_ble_eq_true rfl) ?_
  (repeat' (first | refine mv ?_ | refine asg ?_ | refine ld ?_ | refine fi ?_ | refine bf ?_ | refine un ?_ | refine pf ?_ | refine ex ?_ | refine ln ?_ | refine la ?_ | refine so ?_ | refine bd ?_ | refine nk ?_ | refine pn ?_ | refine aops_nil ?_ | refine aw_seq ?_ | refine aw_region ?_ | refine aw_cond_f rfl ?_ | refine aw_skip ?_ | refine bx 0 ?_ | refine al 1 ?_ | refine al 2 ?_ | refine cl cr ?_ | refine cl c0 ?_ (hno := ⟨noOwn_heap _, trivial⟩) | refine cl c1 ?_ (hno := ⟨noOwn_heap _, noOwn_iv _, noOwn_iv _, trivial⟩) | fail))
  refine aw_drawM2 14 11 3 (.live 32 5 [[iv 0, iv 0, iv 0, .v (.slice none 0 0), .v (.slice none 0 0)]]) 12 3 (.live 32 5 [encMethod (mthM H ((H.at' c).sl 3))]) ?_
  (repeat' (first | refine dMn ?_ | refine dM (.inr (y_move)) (by first | exact .inr (y_move) | exact .inl rfl) (by first | exact .inr (y_move) | exact .inl rfl) ?_ | refine dM (.inr (y_assign)) (by first | exact .inr (y_assign) | exact .inl rfl) (by first | exact .inr (y_assign) | exact .inl rfl) ?_ | refine dM (.inr (y_extract)) (by first | exact .inr (y_extract) | exact .inl rfl) (by first | exact .inr (y_extract) | exact .inl rfl) ?_ | refine dM (.inr (y_load)) (by first | exact .inr (y_load) | exact .inl rfl) (by first | exact .inr (y_load) | exact .inl rfl) ?_ | refine dM (.inr (y_faddr_ip)) (by first | exact .inr (y_faddr_ip) | exact .inl rfl) (by first | exact .inr (y_faddr_ip) | exact .inl rfl) ?_ | refine dM (.inr (y_nilc)) (by first | exact .inr (y_nilc) | exact .inl rfl) (by first | exact .inr (y_nilc) | exact .inl rfl) ?_ | refine dM (.inr (y_loadsN)) (by first | exact .inr (y_loadsN) | exact .inl rfl) (by first | exact .inr (y_loadsN) | exact .inl rfl) ?_ | refine dMS 1 y_storeV ?_ | refine dME 0 (y_allocU 3) ?_ | refine dM (.inr (y_call c2 (hno := ⟨noOwn_heap _, noOwn_iv _, trivial⟩))) (by first | exact .inr (y_call c2 (hno := ⟨noOwn_heap _, noOwn_iv _, trivial⟩)) | exact .inl rfl) (by first | exact .inr (y_call c2 (hno := ⟨noOwn_heap _, noOwn_iv _, trivial⟩)) | exact .inl rfl) ?_ | refine dM (.inr (y_iaddrN 3 g3)) (by first | exact .inr (y_iaddrN 3 g3) | exact .inl rfl) (by first | exact .inr (y_iaddrN 3 g3) | exact .inl rfl) ?_ | fail))
  (repeat' (first | refine aops_nil ?_ | refine aw_seq ?_ | fail))
  refine aw_draw 24 none ?_
  (repeat' (first | refine dk ?_ | refine dn ?_ | refine ds y_move ?_ | refine ds y_un ?_ | refine ds y_pick_t ?_ | fail))
  (repeat' (first | refine asg ?_ | refine so ?_ | refine bd ?_ | refine aops_nil ?_ | refine aw_seq ?_ | refine aw_region ?_ | refine aw_cond_t rfl ?_ | refine aw_ret ?_ | fail))
  exact fin (ctx_zero (by simp [ctxB1, hm]))
set_option maxHeartbeats 8000000 in
theorem read_b (H : HHeap) (hi : H.In) (c : Int) (h0 : mayH H = true) (h1 : H.is c 0) (h2 : (H.at' c).cls = 12) (h3 : (H.at' c).slots.length = 22) (hm : mthB H ((H.at' c).sl 3) = true) (r0 : ¬ 0 ≤ H.ref ((H.at' c).sl 0)) : Gives Try.prog 55 [.agg (encHeap H), iv c] (.tup [.agg (encCtx (ctxV H c)), bv (ctxB H c)]) := by
  have cr := ref6_ok
  have c0 := (May_ok H hi).to' (congrArg bv h0)
  have c1 := object_some H c 0 h1
  have hle : (encInts (H.at' c).slots).length = 22 := by rw [len_ints, h3]
  have g0 := ints_get (sl_get (o := H.at' c) (k := 0) (by omega))
  have g1 := ints_get (sl_get (o := H.at' c) (k := 1) (by omega))
  have g2 := ints_get (sl_get (o := H.at' c) (k := 2) (by omega))
  have g3 := ints_get (sl_get (o := H.at' c) (k := 3) (by omega))
  have g5 := ints_get (sl_get (o := H.at' c) (k := 5) (by omega))
  have c2 := (method_ok H hi ((H.at' c).sl 3)).to' (y := AV.tup [.agg (encMethod (mthX H ((H.at' c).sl 3))), bv true]) (by rw [hm, mthM, if_pos hm])
  have t0 := (there_ok H ((H.at' c).sl 0)).to' (congrArg bv (decide_eq_false r0))
  refine gives_of Try.func55 rfl (Nat.le_of_ble_eq_true rfl) ?_
  (repeat' (first | refine mv ?_ | refine asg ?_ | refine ld ?_ | refine fi ?_ | refine bf ?_ | refine un ?_ | refine pf ?_ | refine ex ?_ | refine ln ?_ | refine la ?_ | refine so ?_ | refine bd ?_ | refine nk ?_ | refine pn ?_ | refine aops_nil ?_ | refine aw_seq ?_ | refine aw_region ?_ | refine aw_cond_f rfl ?_ | refine aw_skip ?_ | refine bx 0 ?_ | refine al 1 ?_ | refine al 2 ?_ | refine cl cr ?_ | refine cl c0 ?_ (hno := ⟨noOwn_heap _, trivial⟩) | refine cl c1 ?_ (hno := ⟨noOwn_heap _, noOwn_iv _, noOwn_iv _, trivial⟩) | fail))
  refine aw_drawM2 14 11 3 (.live 32 5 [[iv 0, iv 0, iv 0, .v (.slice none 0 0), .v (.slice none 0 0)]]) 12 3 (.live 32 5 [encMethod (mthX H ((H.at' c).sl 3))]) ?_
  (repeat' (first | refine dMn ?_ | refine dM (.inr (y_move)) (by first | exact .inr (y_move) | exact .inl rfl) (by first | exact .inr (y_move) | exact .inl rfl) ?_ | refine dM (.inr (y_assign)) (by first | exact .inr (y_assign) | exact .inl rfl) (by first | exact .inr (y_assign) | exact .inl rfl) ?_ | refine dM (.inr (y_extract)) (by first | exact .inr (y_extract) | exact .inl rfl) (by first | exact .inr (y_extract) | exact .inl rfl) ?_ | refine dM (.inr (y_load)) (by first | exact .inr (y_load) | exact .inl rfl) (by first | exact .inr (y_load) | exact .inl rfl) ?_ | refine dM (.inr (y_faddr_ip)) (by first | exact .inr (y_faddr_ip) | exact .inl rfl) (by first | exact .inr (y_faddr_ip) | exact .inl rfl) ?_ | refine dM (.inr (y_nilc)) (by first | exact .inr (y_nilc) | exact .inl rfl) (by first | exact .inr (y_nilc) | exact .inl rfl) ?_ | refine dM (.inr (y_loadsN)) (by first | exact .inr (y_loadsN) | exact .inl rfl) (by first | exact .inr (y_loadsN) | exact .inl rfl) ?_ | refine dMS 1 y_storeV ?_ | refine dME 0 (y_allocU 3) ?_ | refine dM (.inr (y_call c2 (hno := ⟨noOwn_heap _, noOwn_iv _, trivial⟩))) (by first | exact .inr (y_call c2 (hno := ⟨noOwn_heap _, noOwn_iv _, trivial⟩)) | exact .inl rfl) (by first | exact .inr (y_call c2 (hno := ⟨noOwn_heap _, noOwn_iv _, trivial⟩)) | exact .inl rfl) ?_ | refine dM (.inr (y_iaddrN 3 g3)) (by first | exact .inr (y_iaddrN 3 g3) | exact .inl rfl) (by first | exact .inr (y_iaddrN 3 g3) | exact .inl rfl) ?_ | fail))
  (repeat' (first | refine aops_nil ?_ | refine aw_seq ?_ | fail))
  refine aw_draw 24 none ?_
  (repeat' (first | refine dk ?_ | refine dn ?_ | refine ds y_move ?_ | refine ds y_load ?_ | refine ds y_faddr_ip ?_ | refine ds y_nilc ?_ | refine ds y_un ?_ | refine ds y_pick_t ?_ | refine ds y_pick_f ?_ | refine ds y_loadsN ?_ | refine ds (y_call t0 (hno := ⟨noOwn_heap _, noOwn_iv _, trivial⟩)) ?_ | refine ds (y_iaddrN 0 g0) ?_ | fail))
  (repeat' (first | refine asg ?_ | refine so ?_ | refine bd ?_ | refine aops_nil ?_ | refine aw_seq ?_ | refine aw_region ?_ | refine aw_cond_t rfl ?_ | refine aw_ret ?_ | fail))
  exact fin (ctx_zero (by simp [ctxB1, r0]))
end Go.Proofs.Ytbmldjcddpblnaa
namespace Go.Proofs.Ytbmldjcddpblnaa
open Go Go.Proofs AW
theorem _root_.Go.Proofs.Ytbmldjcddpblnaa.AW.Gives.to {P : Program} {f : Nat} {args : List AV} {x y : AV} (h : Gives P f args x) (e : x = y) : Gives P f args y := e ▸ h
end Go.Proofs.Ytbmldjcddpblnaa
