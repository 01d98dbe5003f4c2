/- What the statements' walks need. -/
import Derived.Test.YtnjihhheiiapnaaGreatMSa4
import Derived.Test.YtnjihhheiiapnaaGreatMSx34
import Derived.Test.YtnjihhheiiapnaaGreatMSx31
import Derived.Test.YtnjihhheiiapnaaGreatMSx15
import Derived.Laws.Small
set_option linter.unusedVariables false
set_option linter.unusedSimpArgs false
set_option maxRecDepth 100000
namespace Go.Proofs.YtnjihhheiiapnaaGreat
open Go Go.Proofs AW
theorem qsub {P : Program} {f : Nat} {args args' : List AV} {x : AV} (h : Gives P f args' x) (hs : ∀ I w vs, All2 (Rep I noT noβ w) args vs → All2 (Rep I noT noβ w) args' vs) : Gives P f args x :=
  fun I0 w vs hI hvs => h I0 w vs hI (hs _ _ _ hvs)
theorem do_nil {H : HHeap} {n s : Int} {y : AV} (h : Gives Tryz.prog 11 [.agg (encHeap H), iv n, iv s, .sl 1 (encInts [])] y) : Gives Tryz.prog 11 [.agg (encHeap H), iv n, iv s, .v (.slice none 0 0)] y :=
  qsub h fun I w vs h => by
    match vs, h with
    | [v0, v1, v2, v3], ⟨h0, h1, h2, h3, _⟩ =>
      refine ⟨h0, h1, h2, ?_, trivial⟩
      rw [h3.v_inv]; exact .emp 1 none 0 fun _ => rfl
def q1H : HHeap := ⟨plnH.objs ++ [⟨24, 0, [0, 0], ⟨#[]⟩, 0, 12345⟩], 16, 12345⟩
def q2H : HHeap := ⟨q1H.objs ++ [⟨8, 2, [], ⟨#[]⟩, 9218868437227405312, 852669150⟩], 16, 852669150⟩
theorem obj_in {o : HObj} (h : (decide (-9223372036854775808 ≤ o.cls ∧ o.cls ≤ 9223372036854775807 ∧ -9223372036854775808 ≤ o.kind ∧ o.kind ≤ 9223372036854775807 ∧ -9223372036854775808 ≤ o.bits ∧ o.bits ≤ 9223372036854775807 ∧ -9223372036854775808 ≤ o.hash ∧ o.hash ≤ 9223372036854775807 ∧ o.slots.length < 1099511627776 ∧ o.text.size < 1099511627776) &&
    o.slots.all fun x => decide (-9223372036854775808 ≤ x ∧ x ≤ 9223372036854775807)) = true) : o.In := by
  simp only [Bool.and_eq_true, decide_eq_true_eq, List.all_eq_true] at h
  obtain ⟨⟨a, b, c, d, e, f, g, i, j, k⟩, l⟩ := h
  exact ⟨⟨a, b⟩, ⟨c, d⟩, l, ⟨e, f⟩, ⟨g, i⟩, j, k⟩
theorem heap_in {H : HHeap} (h : ((H.objs.all fun o => decide (-9223372036854775808 ≤ o.cls ∧ o.cls ≤ 9223372036854775807 ∧ -9223372036854775808 ≤ o.kind ∧ o.kind ≤ 9223372036854775807 ∧ -9223372036854775808 ≤ o.bits ∧ o.bits ≤ 9223372036854775807 ∧ -9223372036854775808 ≤ o.hash ∧ o.hash ≤ 9223372036854775807 ∧ o.slots.length < 1099511627776 ∧ o.text.size < 1099511627776) &&
    o.slots.all fun x => decide (-9223372036854775808 ≤ x ∧ x ≤ 9223372036854775807)) && decide (-9223372036854775808 ≤ H.cap ∧ H.cap ≤ 9223372036854775807 ∧ -9223372036854775808 ≤ H.last ∧ H.last ≤ 9223372036854775807 ∧ H.objs.length < 1099511627776)) = true) : H.In := by
  rw [Bool.and_eq_true, decide_eq_true_eq, List.all_eq_true] at h
  obtain ⟨a, b, c, d, e, f⟩ := h
  exact ⟨fun o ho => obj_in (a o ho), ⟨b, c⟩, ⟨d, e⟩, f⟩
theorem in_pln : plnH.In := heap_in (by decide +kernel)
theorem in_q1 : q1H.In := heap_in (by decide +kernel)
theorem in_q2 : q2H.In := heap_in (by decide +kernel)
theorem fq1 : Gives Tryz.prog 11 [.agg (encHeap plnH), iv 1, iv 7, .sl 1 (encInts [9])] (.tup [.agg (encHeap plnH), iv 15, iv 0]) :=
  (Do_1 plnH in_pln 7 9 (by decide +kernel)).to' (by rw [wholeV, if_pos (by decide +kernel), show arithI 1 (nI 7) (nI 9) = some 7 by decide +kernel, outV, if_pos (by decide +kernel)]; rfl)
theorem fq2 : Gives Tryz.prog 11 [.agg (encHeap plnH), iv 4, iv (-13), .sl 1 (encInts [5])] (.tup [.agg (encHeap plnH), iv (-7), iv 0]) :=
  (Do_4 plnH in_pln (-13) 5 (by decide +kernel)).to' (by rw [wholeV, if_pos (by decide +kernel), show arithI 4 (nI (-13)) (nI 5) = some (-4) by decide +kernel, outV, if_pos (by decide +kernel)]; rfl)
theorem fq3 : Gives Tryz.prog 11 [.agg (encHeap plnH), iv 3, iv 2147483647, .sl 1 (encInts [5])] (.tup [.agg (encHeap plnH), iv 0, iv 130]) :=
  (Do_3 plnH in_pln 2147483647 5 (by decide +kernel)).to' (by rw [wholeV, if_pos (by decide +kernel), show arithI 3 (nI 2147483647) (nI 5) = some 2147483646 by decide +kernel, outV, if_neg (by decide +kernel)]; rfl)
theorem fq4 : Gives Tryz.prog 11 [.agg (encHeap plnH), iv 11, iv 24, .v (.slice none 0 0)] (.tup [.agg (encHeap q1H), iv 28, iv 0]) :=
  do_nil ((Do_11 plnH in_pln 24 (by decide +kernel)).to' (by rw [freshV, if_pos (by decide +kernel), newV, if_pos (by decide +kernel), show allocH plnH 24 0 (szF plnH 24) = q1H by decide +kernel]; rfl))
theorem fq5 : Gives Tryz.prog 11 [.agg (encHeap q1H), iv 20, iv 3, .sl 1 (encInts [1])] (.tup [.agg (encHeap q2H), iv 30, iv 0]) :=
  (Do_20 q1H in_q1 3 1 (by decide +kernel)).to' (by rw [fopV, if_pos (by decide +kernel), newF, if_pos (by decide +kernel), show floH q1H (opI 3 (flV q1H 3) (flV q1H 1)) = q2H by decide +kernel]; rfl)
theorem fq6 : Gives Tryz.prog 11 [.agg (encHeap q2H), iv 25, iv 26, .sl 1 (encInts [5])] (.tup [.agg (encHeap q2H), iv 197, iv 0]) :=
  (Do_25 q2H in_q2 26 5 (by decide +kernel)).to' (by rw [byteV, if_pos (by decide +kernel), show byteI q2H 26 (nI 5 - 1) = 98 by decide +kernel]; rfl)
theorem fq7 : Gives Tryz.prog 11 [.agg (encHeap q2H), iv 16, iv 0, .sl 1 (encInts [26])] (.tup [.agg (encHeap q2H), iv 0, iv 130]) :=
  (Do_16 q2H in_q2 0 26 (by decide +kernel) (fun h => absurd h (by decide +kernel))).to' (by rw [becV, if_neg (by decide +kernel)]; rfl)
theorem fq8 : Gives Tryz.prog 11 [.agg (encHeap q2H), iv 11, iv 24, .v (.slice none 0 0)] (.tup [.agg (encHeap q2H), iv 0, iv 30]) :=
  do_nil ((Do_11 q2H in_q2 24 (by decide +kernel)).to' (by rw [freshV, if_pos (by decide +kernel), newV, if_neg (by decide +kernel)]; rfl))
theorem fq9 : Gives Tryz.prog 13 [iv 9] (.tup [iv 2, bv true]) := (Args_ok 9 (by constructor <;> decide)).to' (by rw [show argsI 9 = 2 by decide +kernel, show argsB 9 = true by decide +kernel])
theorem fq10 : Gives Tryz.prog 13 [iv 28] (.tup [iv 0, bv false]) := (Args_ok 28 (by constructor <;> decide)).to' (by rw [show argsI 28 = 0 by decide +kernel, show argsB 28 = false by decide +kernel])
theorem q2_get : (encObjs q2H.objs)[15]? = some [iv 8, iv 2, .sl 1 [], sv ⟨#[]⟩, iv 9218868437227405312, iv 852669150] := rfl
theorem q2_len : (encObjs q2H.objs).length = 16 := rfl
set_option maxHeartbeats 8000000 in
theorem fixed13_ok : Gives Tryz.prog 10 [] (bv true) := by
  refine gives_of Tryz.func10 rfl (Nat.le_of_ble_eq_true rfl) ?_
  have p1 := q2_len
  have p2 : q2H.objs.length = 16 := rfl
  (repeat' (first | refine mv ?_ | refine asg ?_ | refine ld ?_ | refine fp ?_ | refine fi ?_ | refine bt ?_ | refine un ?_ | refine pt ?_ | refine ex ?_ | refine ln ?_ | refine la ?_ | refine so ?_ | refine aops_nil ?_ | refine aw_seq ?_ | refine aw_region ?_ | refine aw_ret ?_ | refine al 0 ?_ | refine al 1 ?_ | refine al 2 ?_ | refine al 3 ?_ | refine al 4 ?_ | refine al 5 ?_ | refine al 6 ?_ | refine al 7 ?_ | refine cl (plain_ok) ?_ | refine cl (fq1) ?_ | refine cl (fq2) ?_ | refine cl (fq3) ?_ | refine cl (fq4) ?_ | refine cl (fq5) ?_ | refine cl (fq6) ?_ | refine cl (fq7) ?_ | refine cl (fq8) ?_ | refine cl (fq9) ?_ | refine cl (fq10) ?_ | refine ia 15 q2_get ?_ | refine li 30 ?_ | refine li 31 ?_ | refine li 32 ?_ | refine li 33 ?_ | refine li 34 ?_ | refine li 35 ?_ | refine fzs 32 (fun c hc => noOwn_intsc (l := [9]) hc) ?_ | refine fzs 39 (fun c hc => noOwn_intsc (l := [5]) hc) ?_ | refine fzs 46 (fun c hc => noOwn_intsc (l := [5]) hc) ?_ | refine fzs 59 (fun c hc => noOwn_intsc (l := [1]) hc) ?_ | refine fzs 66 (fun c hc => noOwn_intsc (l := [5]) hc) ?_ | refine fzs 73 (fun c hc => noOwn_intsc (l := [26]) hc) ?_ | fail))
  exact fin (sh_bv rfl)
end Go.Proofs.YtnjihhheiiapnaaGreat
namespace Go.Proofs.YtnjihhheiiapnaaGreat
open Go Go.Proofs AW
theorem y_mx {P : Program} {N : Fr} {Q : Exit → ASt → Prop} {st : ASt} {o : Oper} {p q : Operand} {ts : Array TypeId} {u v m : Int} (hm : (if v > u then v else u) = m) (ho : o.op = .call ⟨.builtin .max, #[p, q], ts⟩) (hp : ev st p = some (iv u)) (hq : ev st q = some (iv v)) : AYield P N Q o st (iv m) :=
  AYield.still fun I0 w0 β a w hr => by
    have h1 := (hr.ev hp).v_inv
    have h2 := (hr.ev hq).v_inv
    refine ⟨.int .i64 m, ?_, .v _⟩
    have := run_max_int2 (P := P) (w := w) ts o.type .i64 .i64 u v
    rw [hm] at this
    simp [execOp, ho, resolve, invoke, builtin, h1, h2, this]
theorem mx {P : Program} {N : Fr} {Q : Exit → ASt → Prop} {st : ASt} {ops : Array Oper} {i : Nat} {l : List Nat} {d : Nat} {p q : Operand} {ts : Array TypeId} {u v m : Int} (hm : (if v > u then v else u) = m) (k : AOps P N ops Q l (st.put d (iv m))) (ho : (ops.getD i default).op = .call ⟨.builtin .max, #[p, q], ts⟩ := by rfl) (hp : ev st p = some (iv u) := by rfl) (hq : ev st q = some (iv v) := by rfl)
    (hi : Nat.blt i ops.size = true := by rfl) (hg : opAt N ops st i = true := by rfl) (hd : (ops.getD i default).dst = some d := by rfl) (hN : Nat.blt d N = true := by rfl) : AOps P N ops Q (i :: l) st := st1 (y_mx hm ho hp hq) k hi hg hd hN
theorem rInt_ok (n : Int) : Gives Tryz.prog 18 [iv n] (.tup [iv (if smallB n = true then n * 2 + 1 else 0), bv (smallB n)]) := by
  by_cases h : -1073741824 ≤ n ∧ n ≤ 1073741823
  · have hs : smallB n = true := by simpa [smallB] using h
    rw [hs, if_pos rfl]
    refine gives_of Tryz.func18 rfl (Nat.le_of_ble_eq_true rfl) ?_
    (repeat' (first | refine mv ?_ | refine asg ?_ | refine bf ?_ | refine bw ?_ | refine pf ?_ | refine aops_nil ?_ | refine aw_seq ?_ | refine aw_region ?_ | refine aw_cond_f rfl ?_ | refine aw_skip ?_ | refine aw_ret ?_ | fail))
    refine fin (sh_ib ?_ ?_) <;> first | rfl | omega
  · have hs : smallB n = false := by simpa [smallB] using h
    rw [hs, if_neg (by simp)]
    refine gives_of Tryz.func18 rfl (Nat.le_of_ble_eq_true rfl) ?_
    (repeat' (first | refine sk ?_ | refine mv ?_ | refine asg ?_ | refine bi ?_ | refine pt ?_ | refine pf ?_ | refine aops_nil ?_ | refine aw_seq ?_ | refine aw_region ?_ | refine aw_cond_t rfl ?_ | refine aw_skip ?_ | refine aw_ret ?_ | refine gs (fun h => ?_) (fun h => ?_) | refine aw_cond rfl (fun h => ?_) (fun h => ?_) | fail))
    all_goals first | (refine fin (sh_ib ?_ ?_) <;> rfl) | (exfalso; simp at *; omega)
theorem smallB_of {n : Int} (h : smallB n = true) : -1073741824 ≤ n ∧ n ≤ 1073741823 := by simpa [smallB] using h
theorem isN_of {n : Int} (h : smallB n = true) : isN (n * 2 + 1) = true ∧ nI (n * 2 + 1) = n := by
  have h' := smallB_of h
  have h1 : isN (n * 2 + 1) = true := by simp [isN]; omega
  refine ⟨h1, ?_⟩
  rw [nI, if_pos h1]; omega
end Go.Proofs.YtnjihhheiiapnaaGreat
