/- What the statements' walks need. -/
import Derived.Test.YtnjihhheiiapnaaGreatMTa4
import Derived.Test.YtnjihhheiiapnaaGreatMTx23
import Derived.Test.YtnjihhheiiapnaaGreatMTx20
import Derived.Test.YtnjihhheiiapnaaGreatMTx24
import Derived.Laws.Small
set_option linter.unusedVariables false
set_option linter.unusedSimpArgs false
set_option maxRecDepth 100000
namespace Go.Proofs.YtnjihhheiiapnaaGreat
open Go Go.Proofs AW
theorem falloc_cases {H : HHeap} (hm : mayH H = true) (hl : 12 ≤ H.objs.length) : allocE H 8 2 0 = 0 ∨ allocE H 8 2 0 = 30 := by
  have hs' : ¬ refI H.objs.length 8 < 0 := by unfold refI; rw [if_pos ⟨by decide, by omega⟩]; omega
  unfold allocE
  rw [if_pos hm, if_neg hs', if_neg (by omega), if_neg (by omega)]
  split
  · exact .inr rfl
  · exact .inl rfl
theorem hasV_of {H : HHeap} {s : Int} (h : hasB H.objs.length s = true) : hasV H s := (has_cases h).elim (fun h => .inl h.1) (fun h => .inr h.2)
def newF (H : HHeap) (b : Int) : AV := if allocE H 8 2 0 = 0 then doV (floH H b) (2 * H.objs.length) 0 else doV H 0 30
def fopV (H : HHeap) (o s x : Int) : AV := if floB H s = true ∧ floB H x = true then newF H (opI o (flV H s) (flV H x)) else doV H 0 130
theorem one_has {H : HHeap} {s x : Int} (hok : okV H s [x] = true) : hasV H s ∧ hasV H x ∧ (allocE H 8 2 0 = 0 ∨ allocE H 8 2 0 = 30) := by
  obtain ⟨o1, o2, o3, o4⟩ := okV_facts hok
  exact ⟨hasV_of o3, hasV_of (by simpa using o4), falloc_cases o1 o2⟩
theorem fop_do {k : Nat} {o : Int} (ho : o = 0 ∨ o = 1 ∨ o = 2 ∨ o = 3) (hk : primRows[k]? = some [iv ((1 : Nat) : Int), .clo 129 [.ip [iv o]]]) (H : HHeap) (hi : H.In) (s x : Int) (hok : okV H s [x] = true) :
    Gives Tryz.prog 11 [.agg (encHeap H), iv ((k : Int) + 1), iv s, .sl 1 (encInts [x])] (fopV H o s x) := by
  obtain ⟨vs, vx, hc⟩ := one_has hok
  have hn : NoOwnL [AV.ip [iv o]] := by simp [NoOwnL]
  by_cases h : floB H s = true ∧ floB H x = true
  · rw [fopV, if_pos h]
    rcases hc with he | he
    · rw [newF, if_pos he]
      exact Do_yes H _ hi s _ [x] hk rfl hn hok rfl (by omega) (twof_y o ho H hi s x vs vx h.1 h.2 he)
    · rw [newF, if_neg (by rw [he]; decide)]
      exact Do_fail H hi s _ [x] hk rfl hn hok rfl (by omega) (twof_full o ho H hi s x vs vx h.1 h.2 he)
  · rw [fopV, if_neg h]
    exact Do_fail H hi s _ [x] hk rfl hn hok rfl (by omega) (twof_f o H s x vs vx h)
theorem Do_17 (H : HHeap) (hi : H.In) (s x : Int) (hok : okV H s [x] = true) : Gives Tryz.prog 11 [.agg (encHeap H), iv 17, iv s, .sl 1 (encInts [x])] (fopV H 0 s x) := fop_do (k := 16) (.inl rfl) rfl H hi s x hok
theorem Do_18 (H : HHeap) (hi : H.In) (s x : Int) (hok : okV H s [x] = true) : Gives Tryz.prog 11 [.agg (encHeap H), iv 18, iv s, .sl 1 (encInts [x])] (fopV H 1 s x) := fop_do (k := 17) (.inr (.inl rfl)) rfl H hi s x hok
theorem Do_19 (H : HHeap) (hi : H.In) (s x : Int) (hok : okV H s [x] = true) : Gives Tryz.prog 11 [.agg (encHeap H), iv 19, iv s, .sl 1 (encInts [x])] (fopV H 2 s x) := fop_do (k := 18) (.inr (.inr (.inl rfl))) rfl H hi s x hok
theorem Do_20 (H : HHeap) (hi : H.In) (s x : Int) (hok : okV H s [x] = true) : Gives Tryz.prog 11 [.agg (encHeap H), iv 20, iv s, .sl 1 (encInts [x])] (fopV H 3 s x) := fop_do (k := 19) (.inr (.inr (.inr rfl))) rfl H hi s x hok
def flessV (H : HHeap) (s x : Int) : AV := if floB H s = true ∧ floB H x = true then doV H (truI (lessF (flV H s) (flV H x))) 0 else doV H 0 130
def fsameV (H : HHeap) (s x : Int) : AV := if floB H s = true ∧ floB H x = true then doV H (truI (sameF (flV H s) (flV H x))) 0 else doV H 0 130
theorem Do_21 (H : HHeap) (hi : H.In) (s x : Int) (hok : okV H s [x] = true) : Gives Tryz.prog 11 [.agg (encHeap H), iv 21, iv s, .sl 1 (encInts [x])] (flessV H s x) := by
  obtain ⟨vs, vx, hc⟩ := one_has hok
  by_cases h : floB H s = true ∧ floB H x = true
  · rw [flessV, if_pos h]
    exact Do_yes H H hi s _ [x] (k := 20) (n := 1) rfl rfl trivial hok rfl (by omega) (pr9_y H s x vs vx h.1 h.2)
  · rw [flessV, if_neg h]
    exact Do_fail H hi s _ [x] (k := 20) (n := 1) rfl rfl trivial hok rfl (by omega) (pr9_f H s x vs vx h)
theorem Do_22 (H : HHeap) (hi : H.In) (s x : Int) (hok : okV H s [x] = true) : Gives Tryz.prog 11 [.agg (encHeap H), iv 22, iv s, .sl 1 (encInts [x])] (fsameV H s x) := by
  obtain ⟨vs, vx, hc⟩ := one_has hok
  by_cases h : floB H s = true ∧ floB H x = true
  · rw [fsameV, if_pos h]
    exact Do_yes H H hi s _ [x] (k := 21) (n := 1) rfl rfl trivial hok rfl (by omega) (pr10_y H s x vs vx h.1 h.2)
  · rw [fsameV, if_neg h]
    exact Do_fail H hi s _ [x] (k := 21) (n := 1) rfl rfl trivial hok rfl (by omega) (pr10_f H s x vs vx h)
def ftruncV (H : HHeap) (s n : Int) (b : Bool) : AV := if floB H s = true ∧ b = true then doV H (n * 2 + 1) 0 else doV H 0 130
theorem Do_23 (H : HHeap) (hi : H.In) (s n : Int) (b : Bool) (hf : flt_Trunc.f (flV H s) = some (n, b)) (hb : b = true → smallB n = true) (hok : okV H s [] = true) : Gives Tryz.prog 11 [.agg (encHeap H), iv 23, iv s, .sl 1 (encInts [])] (ftruncV H s n b) := by
  obtain ⟨o1, o2, o3, o4⟩ := okV_facts hok
  have vs := hasV_of o3
  cases h : floB H s with
  | false =>
    rw [ftruncV, if_neg (by rw [h]; simp)]
    exact Do_fail H hi s _ [] (k := 22) (n := 0) rfl rfl trivial hok rfl (by omega) (trunc_f1 H s vs h)
  | true =>
    cases b with
    | false =>
      rw [ftruncV, if_neg (by simp)]
      exact Do_fail H hi s _ [] (k := 22) (n := 0) rfl rfl trivial hok rfl (by omega) (trunc_f2 H s vs h n hf)
    | true =>
      rw [ftruncV, if_pos ⟨h, rfl⟩]
      exact Do_yes H H hi s _ [] (k := 22) (n := 0) rfl rfl trivial hok rfl (by omega) (trunc_y H s vs h n hf (hb rfl))
def floatV (H : HHeap) (s : Int) : AV := if floB H s = true then newF H (flV H s) else doV H 0 130
theorem Do_24 (H : HHeap) (hi : H.In) (s : Int) (hok : okV H s [] = true) : Gives Tryz.prog 11 [.agg (encHeap H), iv 24, iv s, .sl 1 (encInts [])] (floatV H s) := by
  obtain ⟨o1, o2, o3, o4⟩ := okV_facts hok
  have vs := hasV_of o3
  cases h : floB H s with
  | false =>
    rw [floatV, if_neg (by rw [h]; simp)]
    exact Do_fail H hi s _ [] (k := 23) (n := 0) rfl rfl trivial hok rfl (by omega) (pr11_f H s vs h)
  | true =>
    rw [floatV, if_pos h]
    rcases falloc_cases o1 o2 with he | he
    · rw [newF, if_pos he]
      exact Do_yes H _ hi s _ [] (k := 23) (n := 0) rfl rfl trivial hok rfl (by omega) (pr11_y H hi s vs h (flV_rng H hi s) he)
    · rw [newF, if_neg (by rw [he]; decide)]
      exact Do_fail H hi s _ [] (k := 23) (n := 0) rfl rfl trivial hok rfl (by omega) (pr11_full H hi s vs h he)
end Go.Proofs.YtnjihhheiiapnaaGreat
namespace Go.Proofs.YtnjihhheiiapnaaGreat
open Go Go.Proofs AW
theorem qcok_of {T : Nat → Ob} {es : List (List AV)} (h : (es.all fun c => c.all (cok1 T)) = true) : ∀ c ∈ es, ∀ y ∈ c, cok1 T y = true := fun c hc y hy => List.all_eq_true.1 (List.all_eq_true.1 h c hc) y hy
def qObj : HObj := ⟨0, 0, [], ⟨#[]⟩, 0, 0⟩
def plnH : HHeap := ⟨List.replicate 12 qObj ++ [⟨0, 0, [0, 0, 5], ⟨#[]⟩, 0, 0⟩, ⟨0, 1, [], ⟨#[97, 98]⟩, 0, 0⟩], 16, 0⟩
def qC : List AV := [iv 0, iv 0, .v (.slice none 0 0), sv ⟨#[]⟩, iv 0, iv 0]
def plnT (k : Nat) : List (Nat × Ob) := [(0, .live 24 3 [[.v (.slice none 0 0), iv 0, iv 0]]), (1, .live 24 3 [[.own 4, iv 16, iv 0]]), (4, .live 41 6 (List.replicate k qC))]
theorem noOwn_qC (k : Nat) : ∀ c ∈ List.replicate k qC, ∀ x ∈ c, NoOwn x := by
  intro c hc x hx
  rw [List.eq_of_mem_replicate hc] at hx
  simp only [qC, List.mem_cons, List.not_mem_nil, or_false] at hx
  rcases hx with rfl | rfl | rfl | rfl | rfl | rfl <;> exact .v _
set_option maxHeartbeats 4000000 in
theorem plain_ok : Gives Tryz.prog 23 [] (.agg (encHeap plnH)) := by
  refine gives_of Tryz.func23 rfl (Nat.le_of_ble_eq_true rfl) ?_
  (repeat' (first | refine asg ?_ | refine so ?_ | refine bd ?_ | refine aops_nil ?_ | refine aw_seq ?_ | refine aw_region ?_ | refine aw_block ?_ | refine al 0 ?_ | refine al 1 ?_ | fail))
  refine AWp.ent (ent_nilT 4 41 6 (i := 1) (r := 0) rfl rfl rfl) ?_
  refine aw_for 12 (fun k => k ≤ 12) (fun k => ⟨[(2, iv (k : Int)), (0, .ptr 0 0 0), (1, .ptr 1 0 0)], tb (plnT k)⟩) 0 (by omega) ?_ ?_
  · refine ent_tb id (plnT 0) ?_ ?_ <;> (repeat' (first | exact trivial | exact fz_v _ | exact fz_own rfl (ne_live rfl) | exact .ptr _ _ _ _ rfl (ne_live rfl) | refine .same _ _ [] rfl rfl (by simp) | refine ⟨_, rfl, ?_⟩ | refine ⟨?_, ?_⟩ | refine .one _ _ _ _ rfl rfl ?_ | fail))
  intro k hk
  (repeat' (first | refine mv ?_ | refine bi ?_ | refine aops_nil ?_ | refine aw_seq ?_ | refine aw_region ?_ | fail))
  refine aw_cond rfl (fun h => ?_) (fun h => ?_) <;> simp at h
  · have hl : (List.replicate k qC).length < 1099511627776 := by simp; omega
    (repeat' (first | refine mv ?_ | refine asg ?_ | refine ld ?_ | refine fp ?_ | refine bw ?_ | refine so ?_ | refine bd ?_ | refine aops_nil ?_ | refine aw_seq ?_ | refine aw_region ?_ | refine aw_block ?_ | refine aw_skip ?_ | refine li 5 ?_ | refine ap1 6 ?_ (hl := hl) | fail))
    refine ⟨by omega, by omega, ?_⟩
    refine ent_tb (nm [(4, 6)]) (plnT (k + 1)) ⟨.one _ _ _ _ rfl rfl ⟨fz_v _, fz_v _, fz_v _, trivial⟩, .one _ _ _ _ rfl rfl ⟨fz_own rfl (ne_live rfl), fz_v _, fz_v _, trivial⟩, .same _ _ (List.replicate k qC ++ [qC]) rfl ?_ ?_, trivial⟩
      ⟨⟨_, rfl, fz_v _⟩, ⟨_, rfl, .ptr 0 0 0 0 rfl (ne_live rfl)⟩, ⟨_, rfl, .ptr 1 1 0 0 rfl (ne_live rfl)⟩, trivial⟩
    · show Ob.live _ 6 (List.replicate (k + 1) qC) = _
      rw [List.replicate_succ']
    · rw [← List.replicate_succ']; exact noOwn_qC _
  · have hk7 : k = 12 := by omega
    subst hk7
    (repeat' (first | refine ld ?_ | refine fp ?_ | refine bd ?_ | refine aw_seq ?_ | refine aw_region ?_ | refine aw_exit ?_ | refine li 5 ?_ | refine li 7 ?_ | fail))
    refine ap (by_ := 72) (es := List.replicate 12 qC) (es2 := [[iv 0, iv 0, .own 5, sv ⟨#[]⟩, iv 0, iv 0], [iv 0, iv 1, .v (.slice none 0 0), sv ⟨#[97, 98]⟩, iv 0, iv 0]]) 8 rfl (qcok_of rfl) (by decide) (by decide) ?_
    (repeat' (first | refine fp ?_ | refine la ?_ | refine so ?_ | refine aops_nil ?_ | refine aw_seq ?_ | refine aw_region ?_ | refine aw_ret ?_ | fail))
    refine fin (sh_agg (l := [.own 8, iv 16, iv 0]) ⟨?_, .same _ (.v _), .same _ (.v _), trivial⟩)
    refine sh_rows (e := 41) (es := List.replicate 12 qC ++ [[iv 0, iv 0, .own 5, sv ⟨#[]⟩, iv 0, iv 0], [iv 0, iv 1, .v (.slice none 0 0), sv ⟨#[97, 98]⟩, iv 0, iv 0]]) rfl rfl (fun c hc => len_obj hc) fun q c c' hq hq' => ?_
    have hz : ∀ T, ShL T qC (encObj qObj) := fun T => ⟨.same _ (.v _), .same _ (.v _), .nil 1, .same _ (.v _), .same _ (.v _), .same _ (.v _), trivial⟩
    match q, hq, hq' with
    | 0, hq, hq' | 1, hq, hq' | 2, hq, hq' | 3, hq, hq' | 4, hq, hq' | 5, hq, hq' | 6, hq, hq' | 7, hq, hq' | 8, hq, hq' | 9, hq, hq' | 10, hq, hq' | 11, hq, hq' => cases hq; cases hq'; exact hz _
    | 12, hq, hq' => cases hq; cases hq'; exact ⟨.same _ (.v _), .same _ (.v _), sh_ints (l := [0, 0, 5]) rfl, .same _ (.v _), .same _ (.v _), .same _ (.v _), trivial⟩
    | 13, hq, hq' => cases hq; cases hq'; exact ⟨.same _ (.v _), .same _ (.v _), .nil 1, .same _ (.v _), .same _ (.v _), .same _ (.v _), trivial⟩
    | q + 14, hq, hq' => cases hq
end Go.Proofs.YtnjihhheiiapnaaGreat
namespace Go.Proofs.YtnjihhheiiapnaaGreat
open Go Go.Proofs AW
theorem qsub {P : Program} {f : Nat} {args args' : List AV} {x : AV} (h : Gives P f args' x) (hs : ∀ I w vs, All2 (Rep I noT noβ w) args vs → All2 (Rep I noT noβ w) args' vs) : Gives P f args x :=
  fun I0 w vs hI hvs => h I0 w vs hI (hs _ _ _ hvs)
theorem do_nil {H : HHeap} {n s : Int} {y : AV} (h : Gives Tryz.prog 11 [.agg (encHeap H), iv n, iv s, .sl 1 (encInts [])] y) : Gives Tryz.prog 11 [.agg (encHeap H), iv n, iv s, .v (.slice none 0 0)] y :=
  qsub h fun I w vs h => by
    match vs, h with
    | [v0, v1, v2, v3], ⟨h0, h1, h2, h3, _⟩ =>
      refine ⟨h0, h1, h2, ?_, trivial⟩
      rw [h3.v_inv]; exact .emp 1 none 0 fun _ => rfl
def q1H : HHeap := ⟨plnH.objs ++ [⟨24, 0, [0, 0], ⟨#[]⟩, 0, 12345⟩], 16, 12345⟩
def q2H : HHeap := ⟨q1H.objs ++ [⟨8, 2, [], ⟨#[]⟩, 9218868437227405312, 852669150⟩], 16, 852669150⟩
theorem obj_in {o : HObj} (h : (decide (-9223372036854775808 ≤ o.cls ∧ o.cls ≤ 9223372036854775807 ∧ -9223372036854775808 ≤ o.kind ∧ o.kind ≤ 9223372036854775807 ∧ -9223372036854775808 ≤ o.bits ∧ o.bits ≤ 9223372036854775807 ∧ -9223372036854775808 ≤ o.hash ∧ o.hash ≤ 9223372036854775807 ∧ o.slots.length < 1099511627776 ∧ o.text.size < 1099511627776) &&
    o.slots.all fun x => decide (-9223372036854775808 ≤ x ∧ x ≤ 9223372036854775807)) = true) : o.In := by
  simp only [Bool.and_eq_true, decide_eq_true_eq, List.all_eq_true] at h
  obtain ⟨⟨a, b, c, d, e, f, g, i, j, k⟩, l⟩ := h
  exact ⟨⟨a, b⟩, ⟨c, d⟩, l, ⟨e, f⟩, ⟨g, i⟩, j, k⟩
theorem heap_in {H : HHeap} (h : ((H.objs.all fun o => decide (-9223372036854775808 ≤ o.cls ∧ o.cls ≤ 9223372036854775807 ∧ -9223372036854775808 ≤ o.kind ∧ o.kind ≤ 9223372036854775807 ∧ -9223372036854775808 ≤ o.bits ∧ o.bits ≤ 9223372036854775807 ∧ -9223372036854775808 ≤ o.hash ∧ o.hash ≤ 9223372036854775807 ∧ o.slots.length < 1099511627776 ∧ o.text.size < 1099511627776) &&
    o.slots.all fun x => decide (-9223372036854775808 ≤ x ∧ x ≤ 9223372036854775807)) && decide (-9223372036854775808 ≤ H.cap ∧ H.cap ≤ 9223372036854775807 ∧ -9223372036854775808 ≤ H.last ∧ H.last ≤ 9223372036854775807 ∧ H.objs.length < 1099511627776)) = true) : H.In := by
  rw [Bool.and_eq_true, decide_eq_true_eq, List.all_eq_true] at h
  obtain ⟨a, b, c, d, e, f⟩ := h
  exact ⟨fun o ho => obj_in (a o ho), ⟨b, c⟩, ⟨d, e⟩, f⟩
theorem in_pln : plnH.In := heap_in (by decide +kernel)
theorem in_q1 : q1H.In := heap_in (by decide +kernel)
theorem in_q2 : q2H.In := heap_in (by decide +kernel)
theorem fq1 : Gives Tryz.prog 11 [.agg (encHeap plnH), iv 1, iv 7, .sl 1 (encInts [9])] (.tup [.agg (encHeap plnH), iv 15, iv 0]) :=
  (Do_1 plnH in_pln 7 9 (by decide +kernel)).to' (by rw [wholeV, if_pos (by decide +kernel), show arithI 1 (nI 7) (nI 9) = some 7 by decide +kernel, outV, if_pos (by decide +kernel)]; rfl)
theorem fq2 : Gives Tryz.prog 11 [.agg (encHeap plnH), iv 4, iv (-13), .sl 1 (encInts [5])] (.tup [.agg (encHeap plnH), iv (-7), iv 0]) :=
  (Do_4 plnH in_pln (-13) 5 (by decide +kernel)).to' (by rw [wholeV, if_pos (by decide +kernel), show arithI 4 (nI (-13)) (nI 5) = some (-4) by decide +kernel, outV, if_pos (by decide +kernel)]; rfl)
theorem fq3 : Gives Tryz.prog 11 [.agg (encHeap plnH), iv 3, iv 2147483647, .sl 1 (encInts [5])] (.tup [.agg (encHeap plnH), iv 0, iv 130]) :=
  (Do_3 plnH in_pln 2147483647 5 (by decide +kernel)).to' (by rw [wholeV, if_pos (by decide +kernel), show arithI 3 (nI 2147483647) (nI 5) = some 2147483646 by decide +kernel, outV, if_neg (by decide +kernel)]; rfl)
theorem fq4 : Gives Tryz.prog 11 [.agg (encHeap plnH), iv 11, iv 24, .v (.slice none 0 0)] (.tup [.agg (encHeap q1H), iv 28, iv 0]) :=
  do_nil ((Do_11 plnH in_pln 24 (by decide +kernel)).to' (by rw [freshV, if_pos (by decide +kernel), newV, if_pos (by decide +kernel), show allocH plnH 24 0 (szF plnH 24) = q1H by decide +kernel]; rfl))
theorem fq5 : Gives Tryz.prog 11 [.agg (encHeap q1H), iv 20, iv 3, .sl 1 (encInts [1])] (.tup [.agg (encHeap q2H), iv 30, iv 0]) :=
  (Do_20 q1H in_q1 3 1 (by decide +kernel)).to' (by rw [fopV, if_pos (by decide +kernel), newF, if_pos (by decide +kernel), show floH q1H (opI 3 (flV q1H 3) (flV q1H 1)) = q2H by decide +kernel]; rfl)
theorem fq6 : Gives Tryz.prog 11 [.agg (encHeap q2H), iv 25, iv 26, .sl 1 (encInts [5])] (.tup [.agg (encHeap q2H), iv 197, iv 0]) :=
  (Do_25 q2H in_q2 26 5 (by decide +kernel)).to' (by rw [byteV, if_pos (by decide +kernel), show byteI q2H 26 (nI 5 - 1) = 98 by decide +kernel]; rfl)
theorem fq7 : Gives Tryz.prog 11 [.agg (encHeap q2H), iv 16, iv 0, .sl 1 (encInts [26])] (.tup [.agg (encHeap q2H), iv 0, iv 130]) :=
  (Do_16 q2H in_q2 0 26 (by decide +kernel) (fun h => absurd h (by decide +kernel))).to' (by rw [becV, if_neg (by decide +kernel)]; rfl)
theorem fq8 : Gives Tryz.prog 11 [.agg (encHeap q2H), iv 11, iv 24, .v (.slice none 0 0)] (.tup [.agg (encHeap q2H), iv 0, iv 30]) :=
  do_nil ((Do_11 q2H in_q2 24 (by decide +kernel)).to' (by rw [freshV, if_pos (by decide +kernel), newV, if_neg (by decide +kernel)]; rfl))
theorem fq9 : Gives Tryz.prog 13 [iv 9] (.tup [iv 2, bv true]) := (Args_ok 9 (by constructor <;> decide)).to' (by rw [show argsI 9 = 2 by decide +kernel, show argsB 9 = true by decide +kernel])
theorem fq10 : Gives Tryz.prog 13 [iv 28] (.tup [iv 0, bv false]) := (Args_ok 28 (by constructor <;> decide)).to' (by rw [show argsI 28 = 0 by decide +kernel, show argsB 28 = false by decide +kernel])
theorem q2_get : (encObjs q2H.objs)[15]? = some [iv 8, iv 2, .sl 1 [], sv ⟨#[]⟩, iv 9218868437227405312, iv 852669150] := rfl
theorem q2_len : (encObjs q2H.objs).length = 16 := rfl
set_option maxHeartbeats 8000000 in
theorem fixed13_ok : Gives Tryz.prog 10 [] (bv true) := by
  refine gives_of Tryz.func10 rfl (Nat.le_of_ble_eq_true rfl) ?_
  have p1 := q2_len
  have p2 : q2H.objs.length = 16 := rfl
  (repeat' (first | refine mv ?_ | refine asg ?_ | refine ld ?_ | refine fp ?_ | refine fi ?_ | refine bt ?_ | refine un ?_ | refine pt ?_ | refine ex ?_ | refine ln ?_ | refine la ?_ | refine so ?_ | refine aops_nil ?_ | refine aw_seq ?_ | refine aw_region ?_ | refine aw_ret ?_ | refine al 0 ?_ | refine al 1 ?_ | refine al 2 ?_ | refine al 3 ?_ | refine al 4 ?_ | refine al 5 ?_ | refine al 6 ?_ | refine al 7 ?_ | refine cl (plain_ok) ?_ | refine cl (fq1) ?_ | refine cl (fq2) ?_ | refine cl (fq3) ?_ | refine cl (fq4) ?_ | refine cl (fq5) ?_ | refine cl (fq6) ?_ | refine cl (fq7) ?_ | refine cl (fq8) ?_ | refine cl (fq9) ?_ | refine cl (fq10) ?_ | refine ia 15 q2_get ?_ | refine li 30 ?_ | refine li 31 ?_ | refine li 32 ?_ | refine li 33 ?_ | refine li 34 ?_ | refine li 35 ?_ | refine fzs 32 (fun c hc => noOwn_intsc (l := [9]) hc) ?_ | refine fzs 39 (fun c hc => noOwn_intsc (l := [5]) hc) ?_ | refine fzs 46 (fun c hc => noOwn_intsc (l := [5]) hc) ?_ | refine fzs 59 (fun c hc => noOwn_intsc (l := [1]) hc) ?_ | refine fzs 66 (fun c hc => noOwn_intsc (l := [5]) hc) ?_ | refine fzs 73 (fun c hc => noOwn_intsc (l := [26]) hc) ?_ | fail))
  exact fin (sh_bv rfl)
end Go.Proofs.YtnjihhheiiapnaaGreat
namespace Go.Proofs.YtnjihhheiiapnaaGreat
open Go Go.Proofs AW
theorem y_mx {P : Program} {N : Fr} {Q : Exit → ASt → Prop} {st : ASt} {o : Oper} {p q : Operand} {ts : Array TypeId} {u v m : Int} (hm : (if v > u then v else u) = m) (ho : o.op = .call ⟨.builtin .max, #[p, q], ts⟩) (hp : ev st p = some (iv u)) (hq : ev st q = some (iv v)) : AYield P N Q o st (iv m) :=
  AYield.still fun I0 w0 β a w hr => by
    have h1 := (hr.ev hp).v_inv
    have h2 := (hr.ev hq).v_inv
    refine ⟨.int .i64 m, ?_, .v _⟩
    have := run_max_int2 (P := P) (w := w) ts o.type .i64 .i64 u v
    rw [hm] at this
    simp [execOp, ho, resolve, invoke, builtin, h1, h2, this]
theorem mx {P : Program} {N : Fr} {Q : Exit → ASt → Prop} {st : ASt} {ops : Array Oper} {i : Nat} {l : List Nat} {d : Nat} {p q : Operand} {ts : Array TypeId} {u v m : Int} (hm : (if v > u then v else u) = m) (k : AOps P N ops Q l (st.put d (iv m))) (ho : (ops.getD i default).op = .call ⟨.builtin .max, #[p, q], ts⟩ := by rfl) (hp : ev st p = some (iv u) := by rfl) (hq : ev st q = some (iv v) := by rfl)
    (hi : Nat.blt i ops.size = true := by rfl) (hg : opAt N ops st i = true := by rfl) (hd : (ops.getD i default).dst = some d := by rfl) (hN : Nat.blt d N = true := by rfl) : AOps P N ops Q (i :: l) st := st1 (y_mx hm ho hp hq) k hi hg hd hN
theorem rInt_ok (n : Int) : Gives Tryz.prog 18 [iv n] (.tup [iv (if smallB n = true then n * 2 + 1 else 0), bv (smallB n)]) := by
  by_cases h : -1073741824 ≤ n ∧ n ≤ 1073741823
  · have hs : smallB n = true := by simpa [smallB] using h
    rw [hs, if_pos rfl]
    refine gives_of Tryz.func18 rfl (Nat.le_of_ble_eq_true rfl) ?_
    (repeat' (first | refine mv ?_ | refine asg ?_ | refine bf ?_ | refine bw ?_ | refine pf ?_ | refine aops_nil ?_ | refine aw_seq ?_ | refine aw_region ?_ | refine aw_cond_f rfl ?_ | refine aw_skip ?_ | refine aw_ret ?_ | fail))
    refine fin (sh_ib ?_ ?_) <;> first | rfl | omega
  · have hs : smallB n = false := by simpa [smallB] using h
    rw [hs, if_neg (by simp)]
    refine gives_of Tryz.func18 rfl (Nat.le_of_ble_eq_true rfl) ?_
    (repeat' (first | refine sk ?_ | refine mv ?_ | refine asg ?_ | refine bi ?_ | refine pt ?_ | refine pf ?_ | refine aops_nil ?_ | refine aw_seq ?_ | refine aw_region ?_ | refine aw_cond_t rfl ?_ | refine aw_skip ?_ | refine aw_ret ?_ | refine gs (fun h => ?_) (fun h => ?_) | refine aw_cond rfl (fun h => ?_) (fun h => ?_) | fail))
    all_goals first | (refine fin (sh_ib ?_ ?_) <;> rfl) | (exfalso; simp at *; omega)
end Go.Proofs.YtnjihhheiiapnaaGreat
