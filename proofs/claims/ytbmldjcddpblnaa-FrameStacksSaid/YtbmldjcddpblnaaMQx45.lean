/- What the statements' walks need. -/
import Derived.Test.YtbmldjcddpblnaaMQa4
import Derived.Test.YtbmldjcddpblnaaMQx44
set_option linter.unusedVariables false
set_option linter.unusedSimpArgs false
set_option maxRecDepth 100000
namespace Go.Proofs.Ytbmldjcddpblnaa
open Go Go.Proofs AW
theorem rcopy_g (H : HHeap) (hi : H.In) : Gives Try.prog 71 [.agg (encHeap H)] (.agg (encHeap H)) :=
  (rcopy1 H hi).sh fun x T ⟨hx, hT⟩ => by
    subst hx; subst hT
    exact sh_agg ⟨sh_objsrow (e := 59) rfl rfl, .same _ (.v _), .same _ (.v _), trivial⟩
def clF (H : HHeap) (c : Int) (l : List Int) (n k j : Nat) : Int := if 6 + (ctxX H c).sp.toNat ≤ j ∧ j < 6 + (ctxX H c).sp.toNat + k then (H.at' c).sl j else stF H c l n 0 j
def clS (H : HHeap) (c : Int) (l : List Int) (n k : Nat) : List Int := (List.range 22).map (clF H c l n k)
theorem clS_len (H : HHeap) (c : Int) (l : List Int) (n k : Nat) : (clS H c l n k).length = 22 := by simp [clS]
theorem clS_get {H : HHeap} {c : Int} {l : List Int} {n k j : Nat} (h : j < 22) : (clS H c l n k)[j]? = some (clF H c l n k j) := by simp [clS, h]
theorem clS_zero (H : HHeap) (c : Int) (l : List Int) (n : Nat) : clS H c l n 0 = stS H c l n 0 := by
  simp only [clS, stS]
  apply List.map_congr_left
  intro j _
  rw [clF, if_neg (by omega)]
theorem clS_has {H : HHeap} {c : Int} {l : List Int} {n : Nat} (h : Stk H c l n 0) (k : Nat) : ∀ x ∈ clS H c l n k, hasB H.objs.length x = true := by
  obtain ⟨hm, hc, _, hl, _⟩ := ctxB_iff.1 h.ctx
  intro x hx
  simp only [clS, List.mem_map, List.mem_range] at hx
  obtain ⟨j, hj, rfl⟩ := hx
  rw [clF]; split
  · exact slot_has hm hc.1 _ (List.mem_of_getElem? (sl_get (by omega)))
  · exact stS_has h _ (List.mem_of_getElem? (stS_get hj))
theorem cl_round {H : HHeap} {c : Int} {l : List Int} {n : Nat} (h : Stk H c l n 0) {k : Nat} (hk : 6 + (ctxX H c).sp.toNat + k < 22) :
    setE (ctxPut H c (clS H c l n k)) c ((6 + (ctxX H c).sp.toNat + k : Nat) : Int) ((H.at' c).sl (6 + (ctxX H c).sp.toNat + k)) = 0 ∧
    setH (ctxPut H c (clS H c l n k)) c ((6 + (ctxX H c).sp.toNat + k : Nat) : Int) ((H.at' c).sl (6 + (ctxX H c).sp.toNat + k)) = ctxPut H c (clS H c l n (k + 1)) := by
  obtain ⟨hm, hc, _, hl, _⟩ := ctxB_iff.1 h.ctx
  obtain ⟨h1, h2⟩ := ctx_set' hm hc (clS_len H c l n k) (clS_has h k) hk (slot_has hm hc.1 _ (List.mem_of_getElem? (sl_get (o := H.at' c) (k := 6 + (ctxX H c).sp.toNat + k) (by omega))))
  refine ⟨h1, h2.trans ?_⟩
  congr 1
  apply List.ext_getElem?
  intro j
  by_cases hj : j < 22
  · rw [clS_get hj]
    by_cases hjk : j = 6 + (ctxX H c).sp.toNat + k
    · rw [hjk, set_get_eq (by rw [clS_len]; omega), clF, if_pos (by omega)]
    · rw [set_get_ne (fun e => hjk e.symm), clS_get hj]
      simp only [clF]
      congr 1
      by_cases ha : 6 + (ctxX H c).sp.toNat ≤ j ∧ j < 6 + (ctxX H c).sp.toNat + k
      · rw [if_pos ha, if_pos (by omega)]
      · rw [if_neg ha, if_neg (by omega)]
  · rw [List.getElem?_eq_none (by simp [clS_len]; omega), List.getElem?_eq_none (by rw [clS_len]; omega)]
theorem cl_end {H : HHeap} {c : Int} {l : List Int} {n : Nat} (h : Stk H c l n 0) {k : Nat} (hk : ¬ 6 + (ctxX H c).sp.toNat + k < 22) : ctxPut H c (clS H c l n k) = H := by
  obtain ⟨hm, hc, _, hl, _, _, _, _, hsp⟩ := ctxB_iff.1 h.ctx
  obtain ⟨s0, s1, s2, s3⟩ := ctx_sp h.ctx
  have : clS H c l n k = (H.at' c).slots := by
    apply List.ext_getElem?
    intro j
    by_cases hj : j < 22
    · rw [clS_get hj, sl_get (by omega), clF]
      by_cases ha : 6 + (ctxX H c).sp.toNat ≤ j ∧ j < 6 + (ctxX H c).sp.toNat + k
      · rw [if_pos ha]
      · rw [if_neg ha, stF]
        by_cases hj2 : j = 2
        · subst hj2
          rw [if_pos rfl]
          have h1 : (ctxX H c).sp = smI ((H.at' c).sl 2) 16 := rfl
          have := sm_val (v := (H.at' c).sl 2) (most := 16) (by omega)
          rw [this, ← h1]; simp
        · rw [if_neg hj2, if_neg (by omega), if_neg (by omega)]
    · rw [List.getElem?_eq_none (by rw [clS_len]; omega), List.getElem?_eq_none (by omega)]
  rw [this, ctxPut_self hc.1]
theorem ctxPut_in {H : HHeap} (hi : H.In) {c : Int} (hc : 0 ≤ H.ref c) {S : List Int} (hS : S.length = 22) (hb : ∀ x ∈ S, hasB H.objs.length x = true) : (ctxPut H c S).In := by
  refine put_in hi ?_ _
  obtain ⟨o1, o2, o3, o4, o5, o6, o7⟩ := at_in hi hc
  exact ⟨o1, o2, fun x hx => has_in (hb x hx) (by have := hi.2.2.2; omega), o4, o5, by show S.length < _; omega, o7⟩
def clT (H A : HHeap) (B : HHeap) : List (Nat × Ob) := [(0, .live 24 3 [encHeap A]), (1, .live 24 3 [encHeap H]), (2, .live 24 3 [encHeap B])]
def clE (H : HHeap) (c : Int) (k : Nat) : List (Nat × AV) := [(10, iv (6 + (ctxX H c).sp + (k : Int))), (2, iv c), (4, .ptr 1 0 0), (9, .ptr 2 0 0), (8, .sl 1 (encInts (H.at' c).slots))]
set_option maxHeartbeats 8000000 in
theorem clean_ok (H : HHeap) (hi : H.In) (c : Int) (l : List Int) (n : Nat) (h : Stk H c l n 0) : Gives Try.prog 28 [.agg (encHeap (stH H c l n 0)), .agg (encHeap H), iv c] (bv true) := by
  obtain ⟨hm, hc, hcl, hl, hmt, r0, r5, hip, hsp⟩ := ctxB_iff.1 h.ctx
  obtain ⟨s0, s1, s2, s3⟩ := ctx_sp h.ctx
  have hAi : (stH H c l n 0).In := ctxPut_in hi hc.1 (stS_len _ _ _ _ _) (stS_has h)
  obtain ⟨q1, q2, q3, q4⟩ := st_ctx h
  have cA := rslots_c hAi q1
  rw [show ((stH H c l n 0).at' c).slots = stS H c l n 0 by rw [stH, ctxPut_at hc.1]] at cA
  have cB := rslots_c hi h.ctx
  have hlA : (encInts (stS H c l n 0)).length = 22 := by rw [len_ints, stS_len]
  have hlB : (encInts (H.at' c).slots).length = 22 := by rw [len_ints, hl]
  have hlA2 : (stS H c l n 0).length = 22 := stS_len _ _ _ _ _
  have g2 := ints_get (sl_get (o := H.at' c) (k := 2) (by omega))
  have cS : Gives Try.prog 53 [iv ((H.at' c).sl 2), iv 16] (iv (ctxX H c).sp) := rsmall_ok' _ _
  have cC := rcopy_g _ hAi
  refine gives_of Try.func28 rfl (Nat.le_of_ble_eq_true rfl) ?_
  (repeat' (first | refine asg ?_ | refine aops_nil ?_ | refine aw_seq ?_ | refine aw_region ?_ | refine bx 0 ?_ | refine bx 1 ?_ | fail))
  refine aw_drawP 8 [] ?_
  (repeat' (first | refine dPn ?_ | refine dP (fun _ => y_move) ?_ | refine dP (fun _ => y_assign) ?_ | refine dP (fun _ => y_loadsN) ?_ | refine dP (fun _ => y_call (cA)) ?_ | refine dP (fun _ => y_call (cB)) ?_ | fail))
  (repeat' (first | refine mv ?_ | refine asg ?_ | refine ld ?_ | refine bf ?_ | refine bw ?_ | refine pf ?_ | refine ln ?_ | refine la ?_ | refine so ?_ | refine aops_nil ?_ | refine aw_seq ?_ | refine aw_region ?_ | refine aw_cond_f rfl ?_ | refine aw_block ?_ | refine aw_skip ?_ | refine al 2 ?_ | refine cl (cC) ?_ | refine ia 2 g2 ?_ | refine cl (cS) ?_ | fail))
  refine aw_for (16 - (ctxX H c).sp.toNat) (fun k => k ≤ 16 - (ctxX H c).sp.toNat) (fun k => ⟨clE H c k, tb (clT H (stH H c l n 0) (ctxPut H c (clS H c l n k)))⟩) 0 (Nat.zero_le _) ?_ ?_
  · rw [clS_zero]
    refine ent_tb id (clT H (stH H c l n 0) (stH H c l n 0)) ?_ ?_
    · (repeat' (first | exact trivial | exact fzL_to (noOwn_heapc _) | refine ⟨?_, ?_⟩ | refine .one _ _ _ _ rfl rfl ?_ | fail))
    · refine ⟨⟨_, rfl, ?_⟩, ?_⟩
      · rw [show 6 + (ctxX H c).sp + ((0 : Nat) : Int) = 6 + (ctxX H c).sp by omega]; exact fz_v _
      · (repeat' (first | exact trivial | exact fz_v _ | exact .ptr _ _ _ _ rfl (ne_live rfl) | exact .same _ (noOwn_ints _ _) | refine ⟨_, rfl, ?_⟩ | refine ⟨?_, ?_⟩ | fail))
  intro k hk
  (repeat' (first | refine mv ?_ | refine bi ?_ | refine aops_nil ?_ | refine aw_seq ?_ | refine aw_region ?_ | fail))
  refine aw_cond rfl (fun h2 => ?_) (fun h2 => ?_) <;> simp at h2
  · have hlt : 6 + (ctxX H c).sp.toNat + k < 22 := by omega
    obtain ⟨w1, w2⟩ := cl_round h hlt
    have e1 : 6 + (ctxX H c).sp + (k : Int) = ((6 + (ctxX H c).sp.toNat + k : Nat) : Int) := by omega
    have cR := (rSet_ok _ (ctxPut_in hi hc.1 (clS_len H c l n k) (clS_has h k)) c (6 + (ctxX H c).sp + (k : Int)) ((H.at' c).sl (6 + (ctxX H c).sp.toNat + k))).to' (by rw [e1, w1, w2])
    have gk := ints_get (sl_get (o := H.at' c) (k := 6 + (ctxX H c).sp.toNat + k) (by omega))
    refine aw_skip (aw_seq (aw_block ?_))
    refine aw_drawP 12 [(11, 2, .live 24 3 [encHeap (ctxPut H c (clS H c l n (k + 1)))], none)] ?_
    (repeat' (first | refine dPn ?_ | refine dP (fun _ => y_move) ?_ | refine dP (fun _ => y_extract) ?_ | refine dP (fun _ => y_load) ?_ | refine dP (fun _ => y_loadsN) ?_ | refine dPS (fun _ => y_storeV) ?_ | refine dP (fun _ => y_iaddrN (6 + (ctxX H c).sp.toNat + k) gk (hn := e1)) ?_ | refine dP (fun _ => y_call (cR)) ?_ | fail))
    (repeat' (first | refine mv ?_ | refine asg ?_ | refine bw ?_ | refine aops_nil ?_ | refine aw_region ?_ | fail))
    refine ⟨by omega, by omega, ?_⟩
    refine ent_tb id (clT H (stH H c l n 0) (ctxPut H c (clS H c l n (k + 1)))) ?_ ?_
    · (repeat' (first | exact trivial | exact fzL_to (noOwn_heapc _) | refine ⟨?_, ?_⟩ | refine .one _ _ _ _ rfl rfl ?_ | fail))
    · refine ⟨⟨_, rfl, ?_⟩, ?_⟩
      · rw [show 6 + (ctxX H c).sp + ((k + 1 : Nat) : Int) = 6 + (ctxX H c).sp + (k : Int) + 1 by omega]; exact fz_v _
      · (repeat' (first | exact trivial | exact fz_v _ | exact .ptr _ _ _ _ rfl (ne_live rfl) | exact .same _ (noOwn_ints _ _) | refine ⟨_, rfl, ?_⟩ | refine ⟨?_, ?_⟩ | fail))
  · have hce : ctxPut H c (clS H c l n k) = H := cl_end h (by omega)
    have cSm : Gives Try.prog 24 [.agg (encHeap (ctxPut H c (clS H c l n k))), .agg (encHeap H)] (bv true) := by rw [hce]; exact rSame_id H hi
    (repeat' (first | refine asg ?_ | refine la ?_ | refine aops_nil ?_ | refine aw_seq ?_ | refine aw_region ?_ | refine aw_exit ?_ | refine aw_ret ?_ | refine cl (cSm) ?_ | fail))
    exact fin (sh_bv rfl)
end Go.Proofs.Ytbmldjcddpblnaa
