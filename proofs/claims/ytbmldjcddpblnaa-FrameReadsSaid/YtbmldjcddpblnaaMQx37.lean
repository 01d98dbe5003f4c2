/- What the statements' walks need. -/
import Derived.Test.YtbmldjcddpblnaaMQa4
import Derived.Test.YtbmldjcddpblnaaMQx36
set_option linter.unusedVariables false
set_option linter.unusedSimpArgs false
set_option maxRecDepth 100000
namespace Go.Proofs.Ytbmldjcddpblnaa
open Go Go.Proofs AW
def rnwT (H : HHeap) (l : List Int) (k : Nat) (m : Int) : List (Nat × Ob) := [(0, .live 24 3 [encHeap H]), (1, .live 24 3 [[.v (.slice none 0 0), iv 0, iv 0]]), (3, .live 24 3 [encHeap (nHk H l k)])]
def rnwE (H : HHeap) (l : List Int) (k : Nat) : List (Nat × AV) := [(21, iv (k : Int)), (12, .ptr 1 0 0), (17, .ptr 3 0 0), (18, iv (2 * (H.objs.length : Int))), (20, .sl 1 (encInts l))]
set_option maxHeartbeats 16000000 in
theorem rNew_yes_ok (H : HHeap) (hi : H.In) (s m r home : Int) (args : List Int) (ha : args.length < 1099511627776) (hE : newE H s m r home args = 0) : Gives Try.prog 23 [.agg (encHeap H), iv s, iv m, iv r, iv home, .sl 1 (encInts args)]
    (.tup [.agg (encHeap (newHp H s m r home args)), iv (newV H s m r home args), iv (newE H s m r home args)]) := by
  obtain ⟨hm, hn, hs, hh, hr, hl, h7, h0⟩ := new_yes hE
  have hla : (encInts args).length = args.length := len_ints _
  have hlo : (encObjs H.objs).length = H.objs.length := len_objs _
  have c1 := rMethod_ok H hi m
  have e1 : methE H m = 0 := by rw [methE, if_pos hm]
  have e2 : methM H m = mthX H m := by rw [methM, if_pos hm]
  rw [e1, e2] at c1
  have hmth : mthB H m = true := by simp only [methB, Bool.and_eq_true] at hm; exact hm.2
  obtain ⟨a0, a1, a2, a3⟩ := mth_args hmth
  have cS : Gives Try.prog 52 [.agg (encHeap H), iv s] (iv (H.ref s)) := rRef_ok H s hi.2.2.2
  have ch : Gives Try.prog 52 [.agg (encHeap H), iv home] (iv (H.ref home)) := rRef_ok H home hi.2.2.2
  have cv := (rvalues_ok H hi args ha).to' (congrArg bv hl)
  have cr := (rhas_c H hi r).to' (congrArg bv hr)
  have k1 := rAlloc_ok H hi 12 0 22
  have h256 := mayH_len (alloc0 h0).1
  rw [show allocV H 12 0 22 = 2 * (H.objs.length : Int) by rw [allocV, if_pos h0], h0, ← nHk_zero (l := newLs H s m r home args) h0] at k1
  have hLl : (newLs H s m r home args).length = 6 + args.length := by simp [newLs]; omega
  have hL22 : (newLs H s m r home args).length ≤ 22 := by omega
  have hLb := newLs_has hE
  have hin : ∀ k, k ≤ (newLs H s m r home args).length → (nHk H (newLs H s m r home args) k).In := by
    intro k
    induction k with
    | zero => intro _; rw [nHk_zero h0]; exact allocH_in hi
    | succ k ih =>
      intro hk
      have hx : (newLs H s m r home args)[k]? = some (newLs H s m r home args)[k] := List.getElem?_eq_getElem (by omega)
      rw [← (nHk_set h256.1 (nHk_may h0 hL22 hLb k (by omega)) hx (by omega) (hLb _ (List.getElem_mem _))).2]
      exact setH_in (ih (by omega))
  have lp : ∀ hm' : Int, ([[iv s], [iv 1], [iv (2 * (mthX H m).temps + 1)], [iv m], [iv r], [iv hm']] : List (List AV)).length + (encInts args).length ≤ 9223372036854775807 := fun hm' => by rw [hla]; show 6 + args.length ≤ _; omega
  have lb : ∀ hm' : Int, (([[iv s], [iv 1], [iv (2 * (mthX H m).temps + 1)], [iv m], [iv r], [iv hm']] : List (List AV)).length + (encInts args).length) * 8 ≤ 140737488355328 := fun hm' => by rw [hla]; show (6 + args.length) * 8 ≤ _; omega
  have hfin : ∀ T, Sh T (.tup [.agg (encHeap (nHk H (newLs H s m r home args) (newLs H s m r home args).length)), iv (2 * (H.objs.length : Int)), iv 0]) (.tup [.agg (encHeap (newHp H s m r home args)), iv (newV H s m r home args), iv (newE H s m r home args)]) := fun T =>
    sh_keep3 (by rw [nHk_all (by omega), newHp, if_pos hE]) (by rw [newV, if_pos hE]) hE.symm
  have hNo : ∀ hm' : Int, ∀ c ∈ ([[iv s], [iv 1], [iv (2 * (mthX H m).temps + 1)], [iv m], [iv r], [iv hm']] ++ encInts args : List (List AV)), ∀ x ∈ c, NoOwn x := fun hm' c hc => noOwn_intsc (l := [s, 1, 2 * (mthX H m).temps + 1, m, r, hm'] ++ args) hc
  have hJz : ∀ (hm' : Int) (T T' : Nat → Ob), hm' = (if home = 0 then 2 * (H.objs.length : Int) else home) → Fz id T T' (.sl 1 ([[iv s], [iv 1], [iv (2 * (mthX H m).temps + 1)], [iv m], [iv r], [iv hm']] ++ encInts args)) (.sl 1 (encInts (newLs H s m r home args))) := by
    rintro hm' T T' rfl
    exact .same _ (noOwn_ints 1 (newLs H s m r home args))
  have hround : ∀ k, k ≤ (newLs H s m r home args).length → ∀ x, (newLs H s m r home args)[k]? = some x → Gives Try.prog 68 [.agg (encHeap (nHk H (newLs H s m r home args) k)), iv (2 * (H.objs.length : Int)), iv (k : Int), iv x] (.tup [.agg (encHeap (nHk H (newLs H s m r home args) (k + 1))), iv 0]) := by
    intro k hk x hx
    have hlt := (List.getElem?_eq_some_iff.1 hx).1
    obtain ⟨h1, h2⟩ := nHk_set h256.1 (nHk_may h0 hL22 hLb k hk) hx (by omega) (hLb _ (List.mem_of_getElem? hx))
    exact (rSet_ok _ (hin k hk) _ _ _).to' (by rw [h1, h2])
  generalize hLL : newLs H s m r home args = L at *
  have hlL : (encInts L).length = L.length := len_ints _
  refine gives_of Try.func23 rfl (Nat.le_of_ble_eq_true rfl) ?_
  by_cases hz : home = 0
  · (repeat' (first | refine mv ?_ | refine asg ?_ | refine ld ?_ | refine fp ?_ | refine bt ?_ | refine bf ?_ | refine bw ?_ | refine un ?_ | refine pf ?_ | refine ex ?_ | refine ln ?_ | refine la ?_ | refine so ?_ | refine aops_nil ?_ | refine aw_seq ?_ | refine aw_region ?_ | refine aw_cond_t rfl ?_ | refine aw_cond_f rfl ?_ | refine aw_block ?_ | refine aw_skip ?_ | refine bx 0 ?_ | refine al 1 ?_ | refine al 2 ?_ | refine al 3 ?_ | refine cl (c1) ?_ | refine cl (cS) ?_ | refine cl (ch) ?_ | refine cl (cr) ?_ | refine cl (cv) ?_ | refine cl (k1) ?_ | refine li 30 ?_ | refine ap 31 rfl (cok_ints _ _) (lb _) (lp _) ?_ | fail))
    refine fzsW 20 (hNo _) ?_
    refine aw_for L.length (fun k => k ≤ L.length) (fun k => ⟨rnwE H L k, tb (rnwT H L k m)⟩) 0 (Nat.zero_le _) ?_ ?_
    · refine ent_tb id (rnwT H L 0 m) ?_ ?_ <;> (repeat' (first | exact trivial | exact fz_v _ | exact .ptr _ _ _ _ rfl (ne_live rfl) | exact fzL_to (noOwn_heapc _) | exact hJz _ _ _ (by rw [if_pos hz]) | refine ⟨_, rfl, ?_⟩ | refine ⟨?_, ?_⟩ | refine .one _ _ _ _ rfl rfl ?_ | fail))
    intro k hk
    (repeat' (first | refine mv ?_ | refine bi ?_ | refine ln ?_ | refine aops_nil ?_ | refine aw_seq ?_ | refine aw_region ?_ | fail))
    refine aw_cond rfl (fun h => ?_) (fun h => ?_) <;> simp at h
    · have g1 : L[k]? = some L[k] := List.getElem?_eq_getElem h
      have cs := hround k hk _ g1
      refine aw_skip (aw_seq (aw_block ?_))
      refine aw_drawP 12 [(11, 3, .live 24 3 [encHeap (nHk H L (k + 1))], none)] ?_
      (repeat' (first | refine dPn ?_ | refine dP (fun _ => y_move) ?_ | refine dP (fun _ => y_extract) ?_ | refine dP (fun _ => y_load) ?_ | refine dP (fun _ => y_loadsN) ?_ | refine dPS (fun _ => y_storeV) ?_ | refine dP (fun _ => y_iaddrN k (ints_get g1)) ?_ | refine dP (fun _ => y_call (cs)) ?_ | fail))
      (repeat' (first | refine mv ?_ | refine asg ?_ | refine bw ?_ | refine aops_nil ?_ | refine aw_region ?_ | fail))
      refine ⟨h, by omega, ?_⟩
      refine ent_tb id (rnwT H L (k + 1) m) ?_ ?_ <;> (repeat' (first | exact trivial | exact fz_v _ | exact .ptr _ _ _ _ rfl (ne_live rfl) | exact fzL_to (noOwn_heapc _) | exact .same _ (noOwn_ints _ _) | refine ⟨_, rfl, ?_⟩ | refine ⟨?_, ?_⟩ | refine .one _ _ _ _ rfl rfl ?_ | fail))
    · have hks : k = L.length := by omega
      subst hks
      (repeat' (first | refine mv ?_ | refine asg ?_ | refine la ?_ | refine so ?_ | refine aops_nil ?_ | refine aw_seq ?_ | refine aw_region ?_ | refine aw_exit ?_ | refine aw_ret ?_ | fail))
      exact fin (hfin _)
  · (repeat' (first | refine mv ?_ | refine asg ?_ | refine ld ?_ | refine fp ?_ | refine bf ?_ | refine bw ?_ | refine un ?_ | refine pf ?_ | refine ex ?_ | refine ln ?_ | refine la ?_ | refine so ?_ | refine aops_nil ?_ | refine aw_seq ?_ | refine aw_region ?_ | refine aw_cond_f rfl ?_ | refine aw_block ?_ | refine aw_skip ?_ | refine bx 0 ?_ | refine al 1 ?_ | refine al 2 ?_ | refine al 3 ?_ | refine cl (c1) ?_ | refine cl (cS) ?_ | refine cl (ch) ?_ | refine cl (cr) ?_ | refine cl (cv) ?_ | refine cl (k1) ?_ | refine li 30 ?_ | refine ap 31 rfl (cok_ints _ _) (lb _) (lp _) ?_ | fail))
    refine fzsW 20 (hNo _) ?_
    refine aw_for L.length (fun k => k ≤ L.length) (fun k => ⟨rnwE H L k, tb (rnwT H L k m)⟩) 0 (Nat.zero_le _) ?_ ?_
    · refine ent_tb id (rnwT H L 0 m) ?_ ?_ <;> (repeat' (first | exact trivial | exact fz_v _ | exact .ptr _ _ _ _ rfl (ne_live rfl) | exact fzL_to (noOwn_heapc _) | exact hJz _ _ _ (by rw [if_neg hz]) | refine ⟨_, rfl, ?_⟩ | refine ⟨?_, ?_⟩ | refine .one _ _ _ _ rfl rfl ?_ | fail))
    intro k hk
    (repeat' (first | refine mv ?_ | refine bi ?_ | refine ln ?_ | refine aops_nil ?_ | refine aw_seq ?_ | refine aw_region ?_ | fail))
    refine aw_cond rfl (fun h => ?_) (fun h => ?_) <;> simp at h
    · have g1 : L[k]? = some L[k] := List.getElem?_eq_getElem h
      have cs := hround k hk _ g1
      refine aw_skip (aw_seq (aw_block ?_))
      refine aw_drawP 12 [(11, 3, .live 24 3 [encHeap (nHk H L (k + 1))], none)] ?_
      (repeat' (first | refine dPn ?_ | refine dP (fun _ => y_move) ?_ | refine dP (fun _ => y_extract) ?_ | refine dP (fun _ => y_load) ?_ | refine dP (fun _ => y_loadsN) ?_ | refine dPS (fun _ => y_storeV) ?_ | refine dP (fun _ => y_iaddrN k (ints_get g1)) ?_ | refine dP (fun _ => y_call (cs)) ?_ | fail))
      (repeat' (first | refine mv ?_ | refine asg ?_ | refine bw ?_ | refine aops_nil ?_ | refine aw_region ?_ | fail))
      refine ⟨h, by omega, ?_⟩
      refine ent_tb id (rnwT H L (k + 1) m) ?_ ?_ <;> (repeat' (first | exact trivial | exact fz_v _ | exact .ptr _ _ _ _ rfl (ne_live rfl) | exact fzL_to (noOwn_heapc _) | exact .same _ (noOwn_ints _ _) | refine ⟨_, rfl, ?_⟩ | refine ⟨?_, ?_⟩ | refine .one _ _ _ _ rfl rfl ?_ | fail))
    · have hks : k = L.length := by omega
      subst hks
      (repeat' (first | refine mv ?_ | refine asg ?_ | refine la ?_ | refine so ?_ | refine aops_nil ?_ | refine aw_seq ?_ | refine aw_region ?_ | refine aw_exit ?_ | refine aw_ret ?_ | fail))
      exact fin (hfin _)
end Go.Proofs.Ytbmldjcddpblnaa
