/- What the statements' walks need. -/
import Derived.Test.YtnjihhheiiapnaaGreatMRa4
import Derived.Test.YtnjihhheiiapnaaGreatMRx45
import Derived.Test.YtnjihhheiiapnaaGreatMRx16
set_option linter.unusedVariables false
set_option linter.unusedSimpArgs false
set_option maxRecDepth 100000
namespace Go.Proofs.YtnjihhheiiapnaaGreat
open Go Go.Proofs AW
theorem k_one {H : HHeap} (hi : H.In) (num s x : Int) (hok : okV H s [x] = true) (hn : num ∈ [1, 2, 3, 4, 5, 6, 7, 8, 12, 14, 16, 17, 18, 19, 20, 21, 22, 25, (27 : Int)]) : DoK H num s [x] := by
  obtain ⟨o1, o2, o3, o4⟩ := okV_facts hok
  have ox : hasB H.objs.length x = true := by simpa using o4
  obtain ⟨vs, vx, hc⟩ := one_has hok
  have hfo : ∀ o, DoK H num s [x] ∨ ¬ Gives Tryz.prog 11 (doA H num s [x]) (fopV H o s x) := by
    intro o
    by_cases h : Gives Tryz.prog 11 (doA H num s [x]) (fopV H o s x)
    · left
      unfold fopV at h
      split at h
      · exact k_float hi (opI_rng _ _ _) hc h
      · exact k_fail h rfl
    · exact .inr h
  simp only [List.mem_cons, List.not_mem_nil, or_false] at hn
  rcases hn with rfl | rfl | rfl | rfl | rfl | rfl | rfl | rfl | rfl | rfl | rfl | rfl | rfl | rfl | rfl | rfl | rfl | rfl | rfl
  · exact k_whole hi o1 (Do_1 H hi s x hok)
  · exact k_whole hi o1 (Do_2 H hi s x hok)
  · exact k_whole hi o1 (Do_3 H hi s x hok)
  · exact k_whole hi o1 (Do_4 H hi s x hok)
  · exact k_whole hi o1 (Do_5 H hi s x hok)
  · exact k_tru hi o1 o2 (Do_6 H hi s x hok)
  · exact k_tru hi o1 o2 (Do_7 H hi s x hok)
  · have h := Do_8 H hi s x hok
    unfold atV at h
    split at h
    · rename_i hw; exact k_same hi o1 h rfl (slot_has o1 hw.2)
    · exact k_fail h rfl
  · have h := Do_12 H hi s x hok
    unfold sizedV at h
    split at h
    · split at h
      · rename_i he; exact k_new hi h he rfl
      · split at h
        · rename_i he; exact k_full h he rfl
        · exact k_fail h rfl
    · exact k_fail h rfl
  · exact k_same hi o1 (Do_14 H hi s x hok) rfl (has_tru (by omega) _)
  · have he : hiB s = true → hiB x = true → becomeE H s x = 0 := fun h1 h2 => by
      rw [hi_ref o3, decide_eq_true_eq] at h1
      rw [hi_ref ox, decide_eq_true_eq] at h2
      exact becomeE_of o1 (by omega) (by omega)
    have h := Do_16 H hi s x hok he
    unfold becV at h
    split at h
    · rename_i hb
      have e := he hb.1 hb.2
      have el := become_len e
      exact ⟨_, s, 0, h, .inl ⟨rfl, becomeH_may e, by rw [el]; exact o3, by omega, by omega, by rw [(become0 e).2.2.2]; rfl, becomeH_in hi⟩⟩
    · exact k_fail h rfl
  · exact (hfo 0).resolve_right (fun h => h (Do_17 H hi s x hok))
  · exact (hfo 1).resolve_right (fun h => h (Do_18 H hi s x hok))
  · exact (hfo 2).resolve_right (fun h => h (Do_19 H hi s x hok))
  · exact (hfo 3).resolve_right (fun h => h (Do_20 H hi s x hok))
  · exact k_tru hi o1 o2 (Do_21 H hi s x hok)
  · exact k_tru hi o1 o2 (Do_22 H hi s x hok)
  · have h := Do_25 H hi s x hok
    unfold byteV at h
    split at h
    · rename_i hw
      have hb : 0 ≤ byteI H s (nI x - 1) ∧ byteI H s (nI x - 1) < 256 := by rw [byteI, if_pos hw.2]; exact btA_lt _ _
      exact k_same hi o1 h rfl (has_small (by simp [smallB]; omega))
    · exact k_fail h rfl
  · have h := Do_27 H hi s x hok
    unfold sizedV at h
    split at h
    · split at h
      · rename_i he; exact k_new hi h he rfl
      · split at h
        · rename_i he; exact k_full h he rfl
        · exact k_fail h rfl
    · exact k_fail h rfl
theorem k_none {H : HHeap} (hi : H.In) (num s : Int) (hok : okV H s [] = true) (hn : num ∈ [10, 11, 13, 15, 23, (24 : Int)]) : DoK H num s [] := by
  obtain ⟨o1, o2, o3, o4⟩ := okV_facts hok
  simp only [List.mem_cons, List.not_mem_nil, or_false] at hn
  rcases hn with rfl | rfl | rfl | rfl | rfl | rfl
  · have h := Do_10 H hi s hok
    unfold sizeV at h
    split at h
    · rename_i hk
      rcases has_cases o3 with ⟨e, _⟩ | ⟨_, e⟩
      · rw [hk.1] at e; cases e
      · have ho := at_may o1 e
        simp only [mayObj, restB, Bool.and_eq_true, decide_eq_true_eq] at ho
        exact k_same hi o1 h rfl (has_small (by simp [smallB]; omega))
    · exact k_fail h rfl
  · have h := Do_11 H hi s hok
    unfold freshV newV at h
    split at h
    · rename_i hc
      split at h
      · rename_i he; exact k_new hi h he rfl
      · rename_i he
        obtain ⟨f1, f2, f3, f4, f5, f6, f7⟩ := cls_facts hc
        exact k_full h ((alloc_cases o1 f1 (.inl rfl) ⟨f6, f7⟩).resolve_left he) rfl
    · exact k_fail h rfl
  · exact k_same hi o1 (Do_13 H hi s hok) rfl (of_has o1 o2 o3)
  · obtain ⟨x, e, hx⟩ := hash_has o1 o3
    exact k_same hi o1 (Do_15 H hi s hok) e hx
  · obtain ⟨n, b, hf, hb⟩ := trunc_total (flV H s) (flV_rng H hi s)
    have h := Do_23 H hi s n b hf (fun e => by simpa [smallB] using hb e) hok
    unfold ftruncV at h
    split at h
    · rename_i hc; exact k_same hi o1 h rfl (has_small (by simpa [smallB] using hb hc.2))
    · exact k_fail h rfl
  · have h := Do_24 H hi s hok
    unfold floatV at h
    split at h
    · exact k_float hi (flV_rng H hi s) (falloc_cases o1 o2) h
    · exact k_fail h rfl
theorem k_two {H : HHeap} (hi : H.In) (num s x y : Int) (hok : okV H s [x, y] = true) (hn : num = 9 ∨ num = 26) : DoK H num s [x, y] := by
  obtain ⟨o1, o2, o3, o4⟩ := okV_facts hok
  have oy : hasB H.objs.length y = true := by simp at o4; exact o4.2
  rcases hn with rfl | rfl
  · have h := Do_9 H hi s x y hok
    unfold putV at h
    split at h
    · rename_i hw
      have el := set_len hw.2
      exact ⟨_, y, 0, h, .inl ⟨rfl, setH_may hw.2, by rw [el]; exact oy, by omega, by omega, by rw [setH, if_pos hw.2]; rfl, setH_in hi⟩⟩
    · exact k_fail h rfl
  · have h := Do_26 H hi s x y hok
    unfold putbV at h
    split at h
    · rename_i hw
      obtain ⟨b1, b2, b3, b4⟩ := byte0 hw.2
      exact ⟨_, y, 0, h, .inl ⟨rfl, byteH_may hw.2, by rw [b4]; simpa using oy, by rw [b4]; simp, by rw [b4]; simp, by rw [b4]; rfl, byteH_in hi⟩⟩
    · exact k_fail h rfl
theorem do_keep (H : HHeap) (hi : H.In) (num s : Int) (a : List Int) (hn : In64 num) (hl : a.length < 1099511627776) (hok : okV H s a = true) : DoK H num s a := by
  by_cases h : argsB num = true ∧ argsI num = a.length
  · have h27 : 1 ≤ num ∧ num ≤ 27 := by have := h.1; simp [argsB] at this; omega
    have hcs : (num ∈ [1, 2, 3, 4, 5, 6, 7, 8, 12, 14, 16, 17, 18, 19, 20, 21, 22, 25, (27 : Int)] ∧ argsI num = 1) ∨ (num ∈ [10, 11, 13, 15, 23, (24 : Int)] ∧ argsI num = 0) ∨ ((num = 9 ∨ num = 26) ∧ argsI num = 2) := by
      have : ∀ k : Fin 27, (((k.val : Int) + 1) ∈ [1, 2, 3, 4, 5, 6, 7, 8, 12, 14, 16, 17, 18, 19, 20, 21, 22, 25, (27 : Int)] ∧ argsI ((k.val : Int) + 1) = 1) ∨ (((k.val : Int) + 1) ∈ [10, 11, 13, 15, 23, (24 : Int)] ∧ argsI ((k.val : Int) + 1) = 0) ∨ ((((k.val : Int) + 1) = 9 ∨ ((k.val : Int) + 1) = 26) ∧ argsI ((k.val : Int) + 1) = 2) := by decide +kernel
      have := this ⟨(num - 1).toNat, by omega⟩
      rw [show (((num - 1).toNat : Nat) : Int) + 1 = num by omega] at this
      exact this
    rcases hcs with ⟨h1, h2⟩ | ⟨h1, h2⟩ | ⟨h1, h2⟩
    · rw [h2] at h
      match a, h.2 with
      | [x], _ => exact k_one hi num s x hok h1
      | [], e => simp at e
      | _ :: _ :: _, e => simp at e; omega
    · rw [h2] at h
      match a, h.2 with
      | [], _ => exact k_none hi num s hok h1
      | _ :: _, e => simp at e; omega
    · rw [h2] at h
      match a, h.2 with
      | [x, y], _ => exact k_two hi num s x y hok h1
      | [], e => simp at e
      | [_], e => simp at e
      | _ :: _ :: _ :: _, e => simp at e; omega
  · exact k_fail (Do_args H hi num s a hn hl hok h) rfl
end Go.Proofs.YtnjihhheiiapnaaGreat
namespace Go.Proofs.YtnjihhheiiapnaaGreat
open Go Go.Proofs AW
theorem ty_call {n : Nat} {p : List AV} (h : Ty Tryz.prog (n + 3) 27 p) : ∃ (num s : Int) (args : List Int), p = [iv num, iv s, .sl 1 (encInts args)] ∧ In64 num ∧ args.length < 17592186044416 := by
  unfold Ty at h
  rw [Tryz.underlying27] at h
  obtain ⟨parts, hl, rfl, hf⟩ := h
  match parts, hl with
  | [p0, p1, p2], _ =>
    obtain ⟨x0, rfl, i0⟩ := ty_int (hf 0 _ p0 rfl rfl)
    obtain ⟨x1, rfl, i1⟩ := ty_int (hf 1 _ p1 rfl rfl)
    obtain ⟨x2, rfl, i2, j2⟩ := ty_ints (hf 2 _ p2 rfl rfl)
    exact ⟨x0, x1, x2, rfl, i0, j2⟩
set_option maxRecDepth 100000 in
set_option maxHeartbeats 16000000 in
theorem pkeep_ok (H : HHeap) (hi : H.Big) (num s : Int) (args : List Int) (hb : In64 num ∧ args.length < 17592186044416) : Gives Tryz.prog 4 [.agg (encHeap H), .agg [iv num, iv s, .sl 1 (encInts args)]] (bv true) := by
  have hlo : (encObjs H.objs).length = H.objs.length := len_objs _
  have hla : (encInts args).length = args.length := len_ints _
  by_cases hs : smallH H = true
  rotate_left
  · simp only [Bool.not_eq_true] at hs
    have csm := (rSmall_ok H hi).to' (congrArg bv hs)
    refine gives_of Tryz.func4 rfl (Nat.le_of_ble_eq_true rfl) ?_
    (repeat' (first | refine sk ?_ | refine mv ?_ | refine asg ?_ | refine un ?_ | refine pt ?_ | refine pf ?_ | refine la ?_ | refine aops_nil ?_ | refine aw_seq ?_ | refine aw_region ?_ | refine aw_cond_t rfl ?_ | refine aw_ret ?_ | refine bx 0 ?_ | refine bx 1 ?_ | refine cl (fixed13_ok) ?_ | refine cl (csm) ?_ | fail))
    exact fin (sh_bv rfl)
  have hin := small_in hi hs
  have csm := (rSmall_ok H hi).to' (congrArg bv hs)
  by_cases hl : H.objs.length ≤ 60
  rotate_left
  · skip
    refine gives_of Tryz.func4 rfl (Nat.le_of_ble_eq_true rfl) ?_
    (repeat' (first | refine sk ?_ | refine mv ?_ | refine asg ?_ | refine ld ?_ | refine fp ?_ | refine bt ?_ | refine un ?_ | refine pt ?_ | refine pf ?_ | refine ln ?_ | refine la ?_ | refine aops_nil ?_ | refine aw_seq ?_ | refine aw_region ?_ | refine aw_cond_t rfl ?_ | refine aw_ret ?_ | refine bx 0 ?_ | refine bx 1 ?_ | refine cl (fixed13_ok) ?_ | refine cl (csm) ?_ | fail))
    exact fin (sh_bv rfl)
  by_cases hl10 : args.length ≤ 10
  rotate_left
  · skip
    refine gives_of Tryz.func4 rfl (Nat.le_of_ble_eq_true rfl) ?_
    (repeat' (first | refine sk ?_ | refine mv ?_ | refine asg ?_ | refine ld ?_ | refine fp ?_ | refine bt ?_ | refine bf ?_ | refine un ?_ | refine pt ?_ | refine pf ?_ | refine ln ?_ | refine la ?_ | refine aops_nil ?_ | refine aw_seq ?_ | refine aw_region ?_ | refine aw_cond_t rfl ?_ | refine aw_ret ?_ | refine bx 0 ?_ | refine bx 1 ?_ | refine cl (fixed13_ok) ?_ | refine cl (csm) ?_ | fail))
    exact fin (sh_bv rfl)
  by_cases hm : mayH H = true
  rotate_left
  · simp only [Bool.not_eq_true] at hm
    have cm := (rMay_ok H hin).to' (congrArg bv hm)
    refine gives_of Tryz.func4 rfl (Nat.le_of_ble_eq_true rfl) ?_
    (repeat' (first | refine sk ?_ | refine mv ?_ | refine asg ?_ | refine ld ?_ | refine fp ?_ | refine bf ?_ | refine un ?_ | refine pt ?_ | refine pf ?_ | refine ln ?_ | refine la ?_ | refine aops_nil ?_ | refine aw_seq ?_ | refine aw_region ?_ | refine aw_cond_t rfl ?_ | refine aw_ret ?_ | refine bx 0 ?_ | refine bx 1 ?_ | refine cl (fixed13_ok) ?_ | refine cl (csm) ?_ | refine cl (cm) ?_ | fail))
    exact fin (sh_bv rfl)
  have cm := (rMay_ok H hin).to' (congrArg bv hm)
  by_cases hl2 : 12 ≤ H.objs.length
  rotate_left
  · skip
    refine gives_of Tryz.func4 rfl (Nat.le_of_ble_eq_true rfl) ?_
    (repeat' (first | refine mv ?_ | refine asg ?_ | refine ld ?_ | refine fp ?_ | refine bt ?_ | refine bf ?_ | refine un ?_ | refine pf ?_ | refine ln ?_ | refine la ?_ | refine aops_nil ?_ | refine aw_seq ?_ | refine aw_region ?_ | refine aw_cond_t rfl ?_ | refine aw_ret ?_ | refine bx 0 ?_ | refine bx 1 ?_ | refine cl (fixed13_ok) ?_ | refine cl (csm) ?_ | refine cl (cm) ?_ | fail))
    exact fin (sh_bv rfl)
  have sm := qSame_id H hin
  by_cases hok : okV H s args = true
  rotate_left
  · have cd := (Do_err H hin num s args hb.1 (by omega) (eq_false_of_ne_true hok)).to' (show _ = .tup [.agg (encHeap emptyH), iv 0, iv 1] from rfl)
    have se := qSame_id emptyH in_emp
    refine gives_of Tryz.func4 rfl (Nat.le_of_ble_eq_true rfl) ?_
    (repeat' (first | refine mv ?_ | refine asg ?_ | refine ld ?_ | refine fp ?_ | refine bt ?_ | refine bf ?_ | refine un ?_ | refine pt ?_ | refine pf ?_ | refine ex ?_ | refine ln ?_ | refine la ?_ | refine so ?_ | refine bd ?_ | refine aops_nil ?_ | refine aw_seq ?_ | refine aw_region ?_ | refine aw_cond_t rfl ?_ | refine aw_cond_f rfl ?_ | refine aw_skip ?_ | refine aw_ret ?_ | refine bx 0 ?_ | refine bx 1 ?_ | refine al 2 ?_ | refine cl (fixed13_ok) ?_ | refine cl (csm) ?_ | refine cl (cm) ?_ | refine cl (cd) ?_ | refine cs se ?_ (hsh := by exact ⟨.same _ (noOwn_heap emptyH), emp_sh _, trivial⟩) | fail))
    exact fin (sh_bv rfl)
  obtain ⟨G, v, e, cd, hk⟩ := do_keep H hin num s args hb.1 (by omega) hok
  have cd : Gives Tryz.prog 11 [.agg (encHeap H), iv num, iv s, .sl 1 (encInts args)] (.tup [.agg (encHeap G), iv v, iv e]) := cd
  rcases hk with ⟨rfl, g1, g2, g3, g4, g5, g6⟩ | ⟨rfl, rfl, rfl | ⟨rfl, g1⟩⟩
  · have cg := (rMay_ok G g6).to' (congrArg bv g1)
    have ch := (rHas_ok G v g6.2.2.2).to' (congrArg bv g2)
    have hlg : (encObjs G.objs).length = G.objs.length := len_objs _
    refine gives_of Tryz.func4 rfl (Nat.le_of_ble_eq_true rfl) ?_
    (repeat' (first | refine mv ?_ | refine asg ?_ | refine ld ?_ | refine fp ?_ | refine bt ?_ | refine bf ?_ | refine bw ?_ | refine un ?_ | refine pt ?_ | refine pf ?_ | refine ex ?_ | refine ln ?_ | refine la ?_ | refine so ?_ | refine aops_nil ?_ | refine aw_seq ?_ | refine aw_region ?_ | refine aw_cond_f rfl ?_ | refine aw_skip ?_ | refine aw_ret ?_ | refine bx 0 ?_ | refine bx 1 ?_ | refine al 2 ?_ | refine cl (fixed13_ok) ?_ | refine cl (csm) ?_ | refine cl (cm) ?_ | refine cl (cd) ?_ | refine cl (cg) ?_ | refine cl (ch) ?_ | fail))
    exact fin (sh_bv rfl)
  · skip
    refine gives_of Tryz.func4 rfl (Nat.le_of_ble_eq_true rfl) ?_
    (repeat' (first | refine sk ?_ | refine mv ?_ | refine asg ?_ | refine ld ?_ | refine fp ?_ | refine bt ?_ | refine bf ?_ | refine un ?_ | refine pt ?_ | refine pf ?_ | refine ex ?_ | refine ln ?_ | refine la ?_ | refine so ?_ | refine aops_nil ?_ | refine aw_seq ?_ | refine aw_region ?_ | refine aw_cond_t rfl ?_ | refine aw_cond_f rfl ?_ | refine aw_skip ?_ | refine aw_ret ?_ | refine bx 0 ?_ | refine bx 1 ?_ | refine al 2 ?_ | refine cl (fixed13_ok) ?_ | refine cl (csm) ?_ | refine cl (cm) ?_ | refine cl (cd) ?_ | refine cl (sm) ?_ | fail))
    exact fin (sh_bv rfl)
  · skip
    refine gives_of Tryz.func4 rfl (Nat.le_of_ble_eq_true rfl) ?_
    (repeat' (first | refine mv ?_ | refine asg ?_ | refine ld ?_ | refine fp ?_ | refine bt ?_ | refine bf ?_ | refine un ?_ | refine pt ?_ | refine pf ?_ | refine ex ?_ | refine ln ?_ | refine la ?_ | refine so ?_ | refine aops_nil ?_ | refine aw_seq ?_ | refine aw_region ?_ | refine aw_cond_t rfl ?_ | refine aw_cond_f rfl ?_ | refine aw_skip ?_ | refine aw_ret ?_ | refine bx 0 ?_ | refine bx 1 ?_ | refine al 2 ?_ | refine cl (fixed13_ok) ?_ | refine cl (csm) ?_ | refine cl (cm) ?_ | refine cl (cd) ?_ | refine cl (sm) ?_ | fail))
    exact fin (sh_bv rfl)
end Go.Proofs.YtnjihhheiiapnaaGreat
