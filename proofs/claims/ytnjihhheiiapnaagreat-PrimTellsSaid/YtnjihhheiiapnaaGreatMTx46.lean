/- What the statements' walks need. -/
import Derived.Test.YtnjihhheiiapnaaGreatMTa4
import Derived.Test.YtnjihhheiiapnaaGreatMTx45
import Derived.Test.YtnjihhheiiapnaaGreatMTx37
import Derived.Test.YtnjihhheiiapnaaGreatMTx38
set_option linter.unusedVariables false
set_option linter.unusedSimpArgs false
set_option maxRecDepth 100000
namespace Go.Proofs.YtnjihhheiiapnaaGreat
open Go Go.Proofs AW
def IsDo (y : AV) : Prop := ∃ G v e, G.In ∧ y = doV G v e
theorem is_do {G : HHeap} {v e : Int} (hi : G.In) : IsDo (doV G v e) := ⟨G, v, e, hi, rfl⟩
def DoB (H : HHeap) (num s : Int) (a : List Int) : Prop := ∃ y, IsDo y ∧ Gives Tryz.prog 11 (doA H num s a) y ∧ Gives Tryz.prog 12 (doA H num s a) y
theorem is_if {c : Prop} [Decidable c] {x y : AV} (h : IsDo x) (k : IsDo y) : IsDo (if c then x else y) := by split; exact h; exact k
theorem is_out {H : HHeap} (hi : H.In) (r : Option Int) : IsDo (outV H r) := by
  cases r with
  | none => exact is_do hi
  | some c => exact is_if (is_do hi) (is_do hi)
theorem is_ifh {c : Prop} [Decidable c] {x y : AV} (h : c → IsDo x) (k : ¬ c → IsDo y) : IsDo (if c then x else y) := by split; exact h ‹_›; exact k ‹_›
theorem is_seven {H : HHeap} (hi : H.In) (num s x : Int) : IsDo (sevenV H num s x) :=
  is_if (is_if (is_do hi) (is_do hi)) (is_if (is_if (is_do hi) (is_do hi)) (is_if (is_out hi _) (is_do hi)))
theorem is_newF {H : HHeap} (hi : H.In) {b : Int} (hb : In64 b) : IsDo (newF H b) := is_ifh (fun he => is_do (flo_may hi hb he).2) (fun _ => is_do hi)
theorem whole13_all (H : HHeap) (num s x : Int) (hn : 1 ≤ num ∧ num ≤ 7) : Gives Tryz.prog 29 [.agg (encHeap H), iv num, iv s, iv x] (sevenV H num s x) := by
  by_cases h : isN s = true ∧ isN x = true
  · by_cases h0 : nI x = 0 ∧ (num = 4 ∨ num = 5)
    · refine (whole13_0 H num s x h.1 h.2 h0.1 h0.2).to' ?_
      have hw : wholeV H num s x = doV H 0 130 := by
        rw [wholeV, if_pos h]
        rcases h0.2 with rfl | rfl
        · rw [arith4, if_pos h0.1]; rfl
        · rw [arith5, if_pos h0.1]; rfl
      rw [sevenV, if_neg (by omega), if_neg (by omega), hw]
    · exact whole13_y H num s x h.1 h.2 hn h0
  · refine (whole13_no H num s x h).to' ?_
    rw [sevenV, lessV, sameV, wholeV, if_neg h, if_neg h, if_neg h]
    split
    · rfl
    · split <;> rfl
theorem b_of {H : HHeap} {num s : Int} {a : List Int} {y : AV} (hi : H.In) (hn : In64 num) (hl : a.length < 1099511627776) (hok : okV H s a = true) (hA : argsB num = true ∧ argsI num = a.length) (hy : IsDo y)
    (h : Gives Tryz.prog 11 (doA H num s a) y) (hp : ∀ G v e, y = doV G v e → Part H num s a G v e) : DoB H num s a := by
  obtain ⟨G, v, e, hG, rfl⟩ := hy
  exact ⟨_, is_do hG, h, rDo_ok H hi num s a hn hl G v e (fun e => by rw [hok] at e; cases e) (fun _ h => absurd hA h) (fun _ _ => hp G v e rfl)⟩
section
variable {H : HHeap} {num s : Int} {a : List Int} {y : AV}
theorem p_whole {x : Int} (hn : 1 ≤ num ∧ num ≤ 7) (e : sevenV H num s x = y) : ∀ G v e, y = doV G v e → Part H num s [x] G v e := fun G v e' h => .inl ⟨hn.2, x, rfl, h ▸ e ▸ whole13_all H num s x hn⟩
theorem p_parts (hn : 7 < num ∧ (num ≤ 10 ∨ num = 25 ∨ num = 26)) (h : Gives Tryz.prog 30 [.agg (encHeap H), iv num, iv s, .sl 1 (encInts a)] y) : ∀ G v e, y = doV G v e → Part H num s a G v e := fun G v e e' => .inr (.inl ⟨hn.1, hn.2, e' ▸ h⟩)
theorem p_fresh (hn : 10 < num ∧ (num ≤ 12 ∨ num = 27)) (h : Gives Tryz.prog 31 [.agg (encHeap H), iv num, iv s, .sl 1 (encInts a)] y) : ∀ G v e, y = doV G v e → Part H num s a G v e := fun G v e e' => .inr (.inr (.inl ⟨hn.1, hn.2, e' ▸ h⟩))
theorem p_ident (hn : 12 < num ∧ num ≤ 16) (h : Gives Tryz.prog 32 [.agg (encHeap H), iv num, iv s, .sl 1 (encInts a)] y) : ∀ G v e, y = doV G v e → Part H num s a G v e := fun G v e e' => .inr (.inr (.inr (.inl ⟨hn.1, hn.2, e' ▸ h⟩)))
theorem p_float (hn : 16 < num ∧ num < 25) (h : Gives Tryz.prog 33 [.agg (encHeap H), iv num, iv s, .sl 1 (encInts a)] y) : ∀ G v e, y = doV G v e → Part H num s a G v e := fun G v e e' => .inr (.inr (.inr (.inr ⟨hn.1, hn.2, e' ▸ h⟩)))
end
theorem b_one {H : HHeap} (hi : H.In) (num s x : Int) (hok : okV H s [x] = true) (hA : argsB num = true ∧ argsI num = ([x] : List Int).length) (hn : num ∈ [1, 2, 3, 4, 5, 6, 7, 8, 12, 14, 16, 17, 18, 19, 20, 21, 22, 25, (27 : Int)]) : DoB H num s [x] := by
  obtain ⟨o1, o2, o3, o4⟩ := okV_facts hok
  have ox : hasB H.objs.length x = true := by simpa using o4
  obtain ⟨vs, vx, hc⟩ := one_has hok
  have hk : ∀ {y : AV}, In64 num → IsDo y → Gives Tryz.prog 11 (doA H num s [x]) y → (∀ G v e, y = doV G v e → Part H num s [x] G v e) → DoB H num s [x] := fun h1 h2 h3 h4 => b_of hi h1 (by simp) hok hA h2 h3 h4
  have hf : ∀ o, IsDo (fopV H o s x) := fun o => is_if (is_newF hi (opI_rng _ _ _)) (is_do hi)
  have hz : ∀ k, IsDo (sizedV H k s x) := fun k => is_if (is_if (is_do (allocH_in hi)) (is_if (is_do hi) (is_do hi))) (is_do hi)
  simp only [List.mem_cons, List.not_mem_nil, or_false] at hn
  rcases hn with rfl | rfl | rfl | rfl | rfl | rfl | rfl | rfl | rfl | rfl | rfl | rfl | rfl | rfl | rfl | rfl | rfl | rfl | rfl
  · exact hk ⟨by decide, by decide⟩ (is_seven hi 1 s x) (Do_1 H hi s x hok) (p_whole (by decide) rfl)
  · exact hk ⟨by decide, by decide⟩ (is_seven hi 2 s x) (Do_2 H hi s x hok) (p_whole (by decide) rfl)
  · exact hk ⟨by decide, by decide⟩ (is_seven hi 3 s x) (Do_3 H hi s x hok) (p_whole (by decide) rfl)
  · exact hk ⟨by decide, by decide⟩ (is_seven hi 4 s x) (Do_4 H hi s x hok) (p_whole (by decide) rfl)
  · exact hk ⟨by decide, by decide⟩ (is_seven hi 5 s x) (Do_5 H hi s x hok) (p_whole (by decide) rfl)
  · exact hk ⟨by decide, by decide⟩ (is_seven hi 6 s x) (Do_6 H hi s x hok) (p_whole (by decide) rfl)
  · exact hk ⟨by decide, by decide⟩ (is_seven hi 7 s x) (Do_7 H hi s x hok) (p_whole (by decide) rfl)
  · exact hk ⟨by decide, by decide⟩ (is_if (is_do hi) (is_do hi)) (Do_8 H hi s x hok) (p_parts (by decide) (parts8 H hi s x))
  · exact hk ⟨by decide, by decide⟩ (hz 0) (Do_12 H hi s x hok) (p_fresh (by decide) (fresh_sized H hi o1 12 0 s x (.inr ⟨rfl, rfl⟩)))
  · exact hk ⟨by decide, by decide⟩ (is_do hi) (Do_14 H hi s x hok) (p_ident (by decide) (id13_14 H hi s x))
  · have he : hiB s = true → hiB x = true → becomeE H s x = 0 := fun h1 h2 => by
      rw [hi_ref o3, decide_eq_true_eq] at h1
      rw [hi_ref ox, decide_eq_true_eq] at h2
      exact becomeE_of o1 (by omega) (by omega)
    exact hk ⟨by decide, by decide⟩ (is_if (is_do (becomeH_in hi)) (is_do hi)) (Do_16 H hi s x hok he) (p_ident (by decide) (id13_16 H hi o1 s x o3 ox))
  · exact hk ⟨by decide, by decide⟩ (hf 0) (Do_17 H hi s x hok) (p_float (by decide) (floats_op H hi 0 s x (by decide) vs vx hc))
  · exact hk ⟨by decide, by decide⟩ (hf 1) (Do_18 H hi s x hok) (p_float (by decide) (floats_op H hi 1 s x (by decide) vs vx hc))
  · exact hk ⟨by decide, by decide⟩ (hf 2) (Do_19 H hi s x hok) (p_float (by decide) (floats_op H hi 2 s x (by decide) vs vx hc))
  · exact hk ⟨by decide, by decide⟩ (hf 3) (Do_20 H hi s x hok) (p_float (by decide) (floats_op H hi 3 s x (by decide) vs vx hc))
  · exact hk ⟨by decide, by decide⟩ (is_if (is_do hi) (is_do hi)) (Do_21 H hi s x hok) (p_float (by decide) (floats21 H hi s x vs vx))
  · exact hk ⟨by decide, by decide⟩ (is_if (is_do hi) (is_do hi)) (Do_22 H hi s x hok) (p_float (by decide) (floats22 H hi s x vs vx))
  · exact hk ⟨by decide, by decide⟩ (is_if (is_do hi) (is_do hi)) (Do_25 H hi s x hok) (p_parts (by decide) (parts25 H hi s x))
  · exact hk ⟨by decide, by decide⟩ (hz 1) (Do_27 H hi s x hok) (p_fresh (by decide) (fresh_sized H hi o1 27 1 s x (.inl ⟨rfl, rfl⟩)))
theorem b_none {H : HHeap} (hi : H.In) (num s : Int) (hok : okV H s [] = true) (hA : argsB num = true ∧ argsI num = ([] : List Int).length) (hn : num ∈ [10, 11, 13, 15, 23, (24 : Int)]) : DoB H num s [] := by
  obtain ⟨o1, o2, o3, o4⟩ := okV_facts hok
  have vs := hasV_of o3
  have hk : ∀ {y : AV}, In64 num → IsDo y → Gives Tryz.prog 11 (doA H num s []) y → (∀ G v e, y = doV G v e → Part H num s [] G v e) → DoB H num s [] := fun h1 h2 h3 h4 => b_of hi h1 (by simp) hok hA h2 h3 h4
  simp only [List.mem_cons, List.not_mem_nil, or_false] at hn
  rcases hn with rfl | rfl | rfl | rfl | rfl | rfl
  · exact hk ⟨by decide, by decide⟩ (is_if (is_do hi) (is_do hi)) (Do_10 H hi s hok) (p_parts (by decide) (parts10 H hi o1 s o3))
  · exact hk ⟨by decide, by decide⟩ (is_if (is_if (is_do (allocH_in hi)) (is_do hi)) (is_do hi)) (Do_11 H hi s hok) (p_fresh (by decide) (fresh11 H hi o1 s))
  · exact hk ⟨by decide, by decide⟩ (is_do hi) (Do_13 H hi s hok) (p_ident (by decide) (id13_13 H hi s))
  · exact hk ⟨by decide, by decide⟩ (is_if (is_do hi) (is_do hi)) (Do_15 H hi s hok) (p_ident (by decide) (id13_15 H hi o1 s o3))
  · obtain ⟨n, b, hf, hb⟩ := trunc_total (flV H s) (flV_rng H hi s)
    have hb' : b = true → smallB n = true := fun e => by simpa [smallB] using hb e
    exact hk ⟨by decide, by decide⟩ (is_if (is_do hi) (is_do hi)) (Do_23 H hi s n b hf hb' hok) (p_float (by decide) (floats23 H hi s n b hf hb' vs))
  · exact hk ⟨by decide, by decide⟩ (is_if (is_newF hi (flV_rng H hi s)) (is_do hi)) (Do_24 H hi s hok) (p_float (by decide) (floats24 H hi s vs (falloc_cases o1 o2)))
theorem b_two {H : HHeap} (hi : H.In) (num s x y : Int) (hok : okV H s [x, y] = true) (hA : argsB num = true ∧ argsI num = ([x, y] : List Int).length) (hn : num = 9 ∨ num = 26) : DoB H num s [x, y] := by
  have hk : ∀ {z : AV}, In64 num → IsDo z → Gives Tryz.prog 11 (doA H num s [x, y]) z → (∀ G v e, z = doV G v e → Part H num s [x, y] G v e) → DoB H num s [x, y] := fun h1 h2 h3 h4 => b_of hi h1 (by simp) hok hA h2 h3 h4
  rcases hn with rfl | rfl
  · exact hk ⟨by decide, by decide⟩ (is_if (is_do (setH_in hi)) (is_do hi)) (Do_9 H hi s x y hok) (p_parts (by decide) (parts9 H hi s x y))
  · exact hk ⟨by decide, by decide⟩ (is_if (is_do (byteH_in hi)) (is_do hi)) (Do_26 H hi s x y hok) (p_parts (by decide) (parts26 H hi s x y))
theorem do_both (H : HHeap) (hi : H.In) (num s : Int) (a : List Int) (hn : In64 num) (hl : a.length < 1099511627776) : DoB H num s a := by
  cases hok : okV H s a with
  | false => exact ⟨_, is_do in_emp, Do_err H hi num s a hn hl hok, rDo_ok H hi num s a hn hl emptyH 0 1 (fun _ => rfl) (fun e => by rw [hok] at e; cases e) (fun e => by rw [hok] at e; cases e)⟩
  | true =>
  by_cases h : argsB num = true ∧ argsI num = a.length
  · have hcs : (num ∈ [1, 2, 3, 4, 5, 6, 7, 8, 12, 14, 16, 17, 18, 19, 20, 21, 22, 25, (27 : Int)] ∧ argsI num = 1) ∨ (num ∈ [10, 11, 13, 15, 23, (24 : Int)] ∧ argsI num = 0) ∨ ((num = 9 ∨ num = 26) ∧ argsI num = 2) := by
      have h27 : 1 ≤ num ∧ num ≤ 27 := by have := h.1; simp [argsB] at this; omega
      have : ∀ k : Fin 27, (((k.val : Int) + 1) ∈ [1, 2, 3, 4, 5, 6, 7, 8, 12, 14, 16, 17, 18, 19, 20, 21, 22, 25, (27 : Int)] ∧ argsI ((k.val : Int) + 1) = 1) ∨ (((k.val : Int) + 1) ∈ [10, 11, 13, 15, 23, (24 : Int)] ∧ argsI ((k.val : Int) + 1) = 0) ∨ ((((k.val : Int) + 1) = 9 ∨ ((k.val : Int) + 1) = 26) ∧ argsI ((k.val : Int) + 1) = 2) := by decide
      have := this ⟨(num - 1).toNat, by omega⟩
      rw [show (((num - 1).toNat : Nat) : Int) + 1 = num by omega] at this
      exact this
    have h' := h
    rcases hcs with ⟨h1, h2⟩ | ⟨h1, h2⟩ | ⟨h1, h2⟩
    · rw [h2] at h'
      match a, h'.2 with
      | [x], _ => exact b_one hi num s x hok h h1
      | [], e => simp at e
      | _ :: _ :: _, e => simp at e; omega
    · rw [h2] at h'
      match a, h'.2 with
      | [], _ => exact b_none hi num s hok h h1
      | _ :: _, e => simp at e; omega
    · rw [h2] at h'
      match a, h'.2 with
      | [x, y], _ => exact b_two hi num s x y hok h h1
      | [], e => simp at e
      | [_], e => simp at e
      | _ :: _ :: _ :: _, e => simp at e; omega
  · exact ⟨_, is_do hi, Do_args H hi num s a hn hl hok h, rDo_ok H hi num s a hn hl H 0 130 (fun e => by rw [hok] at e; cases e) (fun _ _ => rfl) (fun _ e => absurd e h)⟩
set_option maxRecDepth 100000 in
set_option maxHeartbeats 16000000 in
theorem ptell_ok (H : HHeap) (hi : H.Big) (num s : Int) (args : List Int) (hb : In64 num ∧ args.length < 17592186044416) : Gives Tryz.prog 3 [.agg (encHeap H), .agg [iv num, iv s, .sl 1 (encInts args)]] (bv true) := by
  have hlo : (encObjs H.objs).length = H.objs.length := len_objs _
  have hla : (encInts args).length = args.length := len_ints _
  by_cases hs : smallH H = true
  rotate_left
  · simp only [Bool.not_eq_true] at hs
    have csm := (rSmall_ok H hi).to' (congrArg bv hs)
    refine gives_of Tryz.func3 rfl (Nat.le_of_ble_eq_true rfl) ?_
    (repeat' (first | refine sk ?_ | refine mv ?_ | refine asg ?_ | refine un ?_ | refine pt ?_ | refine la ?_ | refine aops_nil ?_ | refine aw_seq ?_ | refine aw_region ?_ | refine aw_cond_t rfl ?_ | refine aw_ret ?_ | refine bx 0 ?_ | refine bx 1 ?_ | refine cl (fixed13_ok) ?_ | refine cl (csm) ?_ | fail))
    exact fin (sh_bv rfl)
  have hin := small_in hi hs
  have csm := (rSmall_ok H hi).to' (congrArg bv hs)
  by_cases hl : H.objs.length ≤ 60
  rotate_left
  · skip
    refine gives_of Tryz.func3 rfl (Nat.le_of_ble_eq_true rfl) ?_
    (repeat' (first | refine sk ?_ | refine mv ?_ | refine asg ?_ | refine ld ?_ | refine fp ?_ | refine bt ?_ | refine un ?_ | refine pt ?_ | refine pf ?_ | refine ln ?_ | refine la ?_ | refine aops_nil ?_ | refine aw_seq ?_ | refine aw_region ?_ | refine aw_cond_t rfl ?_ | refine aw_ret ?_ | refine bx 0 ?_ | refine bx 1 ?_ | refine cl (fixed13_ok) ?_ | refine cl (csm) ?_ | fail))
    exact fin (sh_bv rfl)
  by_cases hl10 : args.length ≤ 10
  rotate_left
  · skip
    refine gives_of Tryz.func3 rfl (Nat.le_of_ble_eq_true rfl) ?_
    (repeat' (first | refine mv ?_ | refine asg ?_ | refine ld ?_ | refine fp ?_ | refine bt ?_ | refine bf ?_ | refine un ?_ | refine pf ?_ | refine ln ?_ | refine la ?_ | refine aops_nil ?_ | refine aw_seq ?_ | refine aw_region ?_ | refine aw_cond_t rfl ?_ | refine aw_ret ?_ | refine bx 0 ?_ | refine bx 1 ?_ | refine cl (fixed13_ok) ?_ | refine cl (csm) ?_ | fail))
    exact fin (sh_bv rfl)
  obtain ⟨y, ⟨G, v, e, hG, rfl⟩, h1, h2⟩ := do_both H hin num s args hb.1 (by omega)
  have c1 : Gives Tryz.prog 11 (doA H num s args) (.tup [.agg (encHeap G), iv v, iv e]) := h1
  have c2 : Gives Tryz.prog 12 (doA H num s args) (.tup [.agg (encHeap G), iv v, iv e]) := h2
  have c3 := Args_ok num hb.1
  have c4 := args13 num hb.1
  have c5 := qSame_id G hG
  refine gives_of Tryz.func3 rfl (Nat.le_of_ble_eq_true rfl) ?_
  (repeat' (first | refine mv ?_ | refine asg ?_ | refine ld ?_ | refine fp ?_ | refine bt ?_ | refine bf ?_ | refine un ?_ | refine pt ?_ | refine pf ?_ | refine ex ?_ | refine ln ?_ | refine la ?_ | refine so ?_ | refine aops_nil ?_ | refine aw_seq ?_ | refine aw_region ?_ | refine aw_cond_f rfl ?_ | refine aw_skip ?_ | refine aw_ret ?_ | refine bx 0 ?_ | refine bx 1 ?_ | refine al 2 ?_ | refine al 3 ?_ | refine cl (fixed13_ok) ?_ | refine cl (csm) ?_ | refine cl (c1) ?_ | refine cl (c2) ?_ | refine cl (c3) ?_ | refine cl (c4) ?_ | refine cl (c5) ?_ | fail))
  exact fin (sh_bv rfl)
end Go.Proofs.YtnjihhheiiapnaaGreat
