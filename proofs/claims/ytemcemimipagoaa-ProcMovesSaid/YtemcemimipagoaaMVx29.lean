/- What the statements' walks need. -/
import Derived.Test.YtemcemimipagoaaMVa4
import Derived.Test.YtemcemimipagoaaMVx26
import Derived.Test.YtemcemimipagoaaMVx28
set_option linter.unusedVariables false
set_option linter.unusedSimpArgs false
set_option maxRecDepth 100000
namespace Go.Proofs.Ytemcemimipagoaa
open Go Go.Proofs AW
theorem plist_own (H : HHeap) (hi : H.In) (hm : mayH H = true) (p : Int) (h0 : (lstI H p).2 = 0) : Ok Try.prog 12 [.agg (encHeap H), iv p] (fun x T => x = .tup [.own 9, iv 0] ∧ T = upd noT 9 (.live 3 1 (encInts (lstI H p).1))) :=
  (plist_raw H hi hm p).fz fun x T h => by
    rcases h with ⟨_, rfl, hT⟩ | ⟨h1, _⟩
    · have key : ∀ k, upd noT 9 (.live 3 1 (encInts (lstI H p).1)) k ≠ .no → k = 9 := by
        intro k hk
        by_cases h1 : k = 9
        · exact h1
        · simp [upd, noT, h1] at hk
      refine ⟨fun j => 9, _, .tup [.own 9, iv 0], ⟨rfl, rfl⟩, ⟨fun j e s es' hj => ?_, fun j hj => by simp [hT], fun i j hi hj _ => by rw [key i hi, key j hj]⟩, ?_⟩
      · have := key j (by rw [hj]; simp)
        subst this
        simp only [upd, if_true] at hj
        cases hj
        refine ⟨_, hT, rfl, fun q c c' hc hc' => ?_⟩
        rw [hc] at hc'; cases hc'
        exact fzL_all (noOwn_intsc (List.mem_of_getElem? hc))
      · exact fz_tup ⟨fz_own rfl (by simp [upd]), fz_v _, trivial⟩
    · rw [h1] at h0; cases h0
theorem plist_err (H : HHeap) (hi : H.In) (hm : mayH H = true) (p : Int) (h0 : (lstI H p).2 ≠ 0) : Gives Try.prog 12 [.agg (encHeap H), iv p] (.tup [nilV, iv 141]) :=
  (plist_raw H hi hm p).sh fun x T h => by
    rcases h with ⟨h1, _⟩ | ⟨_, rfl⟩
    · exact absurd h1 h0
    · exact .same _ (by simp)
theorem plist_arg (H : HHeap) (hi : H.In) (hm : mayH H = false) (p : Int) : Gives Try.prog 12 [.agg (encHeap H), iv p] (.tup [nilV, iv 1]) := by
  have cm := (May_ok H hi).to' (congrArg bv hm)
  refine gives_of Try.func12 rfl (Nat.le_of_ble_eq_true rfl) ?_
  (repeat' (first | refine asg ?_ | refine un ?_ | refine la ?_ | refine aops_nil ?_ | refine aw_seq ?_ | refine aw_region ?_ | refine aw_cond_t rfl ?_ | refine aw_ret ?_ | refine bx 0 ?_ | refine cl (cm) ?_ | fail))
  exact fin (.same _ (by simp))
theorem plist_ok (H : HHeap) (hi : H.In) (hm : mayH H = true) (p : Int) : Gives Try.prog 12 [.agg (encHeap H), iv p] (.tup [.sl 1 (encInts (lstI H p).1), iv (lstI H p).2]) :=
  (plist_raw H hi hm p).sh fun x T h => by
    rcases h with ⟨h1, rfl, hT⟩ | ⟨h1, rfl⟩
    · rw [h1]; exact sh_tup ⟨sh_ints hT, .same _ (.v _), trivial⟩
    · rw [h1]; exact sh_tup ⟨.nil 1, .same _ (.v _), trivial⟩
def lkE (l : List Int) : List (Nat × AV) := [(2, .ptr 0 0 0), (4, .ptr 1 0 0), (6, .ptr 2 0 0), (10, .clo 76 [.ip [.sl 1 (encInts l)]])]
def lkT (H : HHeap) (l : List Int) (k : Nat) : List (Nat × Ob) :=
  [(0, .live 24 3 [encHeap (lnkH H (l.drop (l.length - k)))]), (1, .live 24 3 [[nilV, iv 0, iv 0]]), (2, .live 3 1 [[iv ((l.drop (l.length - k)).headD 0)]])]
def lkR (l : List Int) (k : Nat) : List (Nat × AV) := [(8, iv (l.getD (l.length - 1 - k) 0)), (2, .ptr 0 0 0), (4, .ptr 1 0 0), (6, .ptr 2 0 0)]
def lkT0' (H : HHeap) : List (Nat × Ob) := [(0, .live 24 3 [encHeap H]), (1, .live 24 3 [[nilV, iv 0, iv 0]]), (2, .live 3 1 [[iv 0]])]
theorem lkT0 (H : HHeap) (l : List Int) : lkT H l 0 = lkT0' H := by
  have : l.drop (l.length - 0) = [] := by simp
  rw [lkT, this]; rfl
theorem lkTn (H : HHeap) (l : List Int) : lkT H l l.length = [(0, .live 24 3 [encHeap (lnkH H l)]), (1, .live 24 3 [[nilV, iv 0, iv 0]]), (2, .live 3 1 [[iv (l.headD 0)]])] := by
  rw [lkT, Nat.sub_self, List.drop_zero]
theorem back_inv {l : List Int} {k : Nat} {ys : List AV} (h : (backXs l)[k]? = some ys) : k < l.length ∧ ys = [iv ((l.length - 1 - k : Nat) : Int), iv (l.getD (l.length - 1 - k) 0)] := by
  have hk : k < l.length := by have := (List.getElem?_eq_some_iff.1 h).1; simpa [backXs] using this
  rw [back_get hk] at h
  cases h; exact ⟨hk, rfl⟩
theorem drop_step {l : List Int} {k : Nat} (h : k < l.length) : l.drop (l.length - (k + 1)) = l.getD (l.length - 1 - k) 0 :: l.drop (l.length - k) := by
  have h1 : l.length - (k + 1) < l.length := by omega
  rw [List.drop_eq_getElem_cons h1]
  have e : l.length - 1 - k = l.length - (k + 1) := by omega
  rw [e, List.getD_eq_getElem?_getD, List.getElem?_eq_getElem h1]
  have e2 : l.length - (k + 1) + 1 = l.length - k := by omega
  rw [e2]; rfl
set_option maxHeartbeats 16000000 in
theorem linked_ok (H : HHeap) (hi : H.In) (hm : mayH H = true) (h1 : 1 ≤ H.objs.length) (l : List Int) (hl : ∀ x ∈ l, prcB H x = true) (hll : l.length < 1099511627776) : Gives Try.prog 46 [.agg (encHeap H), .sl 1 (encInts l)] (.tup [.agg (encHeap (lnkH H l)), iv (l.headD 0)]) := by
  have cb := back_ok l
  have en : (backXs l).length = l.length := by simp [backXs]
  refine gives_of Try.func46 rfl (Nat.le_of_ble_eq_true rfl) ?_
  (repeat' (first | refine mv ?_ | refine asg ?_ | refine so ?_ | refine aops_nil ?_ | refine aw_seq ?_ | refine aw_region ?_ | refine aw_block ?_ | refine bx 0 ?_ | refine al 1 ?_ | refine al 2 ?_ | refine cl (cb) ?_ | fail))
  refine AWp.ent (st' := ⟨lkE l, tb (lkT H l 0)⟩) ?_ ?_
  · rw [lkT0]
    refine ent_tb id (lkT0' H) ?_ ?_ <;> (repeat' (first | exact trivial | exact fz_v _ | exact .ptr _ _ _ _ rfl (ne_live rfl) | exact fzL_to (noOwn_heapc _) | (refine .same _ ?_; (simp; done)) | refine ⟨_, rfl, ?_⟩ | refine ⟨?_, ?_⟩ | refine .one _ _ _ _ rfl rfl ?_ | fail))
  refine aw_range [] (lkT H l) (backXs l) (fun _ _ => False) (lkR l) rfl (back_iter l hll) ?_ ?_ ?_ ?_ ?_ ?_ ?_ ?_
  · intro k hk
    exact ⟨⟨inZLL_no (by simp), inZLL_no (by simp), inZLL_no (by simp), trivial⟩, rfl, rfl⟩
  · intro k ys hy
    obtain ⟨_, rfl⟩ := back_inv hy
    exact ⟨rfl, by simp⟩
  · intro k ys t x hk hy
    obtain ⟨_, rfl⟩ := back_inv hy
    refine in_z ?_ t x
    show ∀ p ∈ ((12, iv (l.getD (l.length - 1 - k) 0)) :: (11, iv ((l.length - 1 - k : Nat) : Int)) :: lkE l), InZ [0, 1, 2] p.2
    intro p hp
    simp only [lkE, List.mem_cons, List.not_mem_nil, or_false] at hp
    rcases hp with rfl | rfl | rfl | rfl | rfl | rfl
    all_goals first | exact .no _ (.v _) | exact .ptr _ _ _ rfl | exact .no _ (by simp)
  · intro k t x hk
    refine in_z ?_ t x
    intro p hp
    simp only [lkR, List.mem_cons, List.not_mem_nil, or_false] at hp
    rcases hp with rfl | rfl | rfl | rfl
    all_goals first | exact .no _ (.v _) | exact .ptr _ _ _ rfl
  · intro lp k ys hy
    obtain ⟨_, rfl⟩ := back_inv hy
    (repeat' (first | refine asg ?_ | refine aops_nil ?_ | refine aw_region ?_ | fail))
    exact ⟨lkR l k, lkT H l k, ent_env ⟨rfl, rfl, rfl, rfl, trivial⟩, ⟨⟨_, rfl, rfl⟩, ⟨_, rfl, rfl⟩, ⟨_, rfl, rfl⟩, trivial⟩, rfl, rfl, rfl⟩
  · intro lp k hk
    rw [en] at hk
    have hst := drop_step hk
    generalize hx : l.getD (l.length - 1 - k) 0 = x at *
    have hxl : x ∈ l := by
      have : x ∈ l.drop (l.length - (k + 1)) := by rw [hst]; exact .head _
      exact List.mem_of_mem_drop this
    have hdl : ∀ y ∈ x :: l.drop (l.length - k), prcB H y = true := by
      intro y hy
      rw [← hst] at hy
      exact hl y (List.mem_of_mem_drop hy)
    obtain ⟨he, hp, ha⟩ := lnk_setE hm h1 hdl
    obtain ⟨i1, i2, i3, i4, i5⟩ := lnk_facts hm h1 (l.drop (l.length - k)) fun y hy => hdl y (.tail _ hy)
    have cp := (process_ok (lnkH H (l.drop (l.length - k))) (i5 hi) x).to' (prcA_yes hp)
    have g0 := prc_slot hp (k := 0) (by omega)
    have eJ : lkT H l (k + 1) = [(0, .live 24 3 [encHeap (setH (lnkH H (l.drop (l.length - k))) x 0 ((l.drop (l.length - k)).headD 0))]), (1, .live 24 3 [[nilV, iv 0, iv 0]]), (2, .live 3 1 [[iv x]])] := by
      rw [lkT, hst]; rfl
    have hnx : nxt (lnkH H (l.drop (l.length - k))) x = HObj.sl ((lnkH H (l.drop (l.length - k))).at' x) 0 := rfl
    simp only [roundQ, eJ]
    have eR : lkR l k = [(8, iv x), (2, .ptr 0 0 0), (4, .ptr 1 0 0), (6, .ptr 2 0 0)] := by rw [lkR, hx]
    have eT : lkT H l k = [(0, .live 24 3 [encHeap (lnkH H (l.drop (l.length - k)))]), (1, .live 24 3 [[nilV, iv 0, iv 0]]), (2, .live 3 1 [[iv ((l.drop (l.length - k)).headD 0)]])] := rfl
    rw [eR, eT]
    by_cases hn : nxt (lnkH H (l.drop (l.length - k))) x = (l.drop (l.length - k)).headD 0
    · have hs : setH (lnkH H (l.drop (l.length - k))) x 0 ((l.drop (l.length - k)).headD 0) = lnkH H (l.drop (l.length - k)) := by rw [← hn]; exact set_same i1 hp
      rw [hs]
      rw [hnx] at hn
      rw [hn] at g0
      generalize lnkH H (l.drop (l.length - k)) = G at *
      generalize (l.drop (l.length - k)).headD 0 = hd at *
      (repeat' (first | refine aw_seq ?_ | refine aw_block ?_ | fail))
      refine aw_drawP 7 [] ?_
      (repeat' (first | refine dPn ?_ | refine dP (fun _ => y_move) ?_ | refine dP (fun _ => y_load) ?_ | refine dP (fun _ => y_bf) ?_ | refine dP (fun _ => y_loadsN) ?_ | refine dP (fun _ => (y_iaddrN 0 g0)) ?_ | refine dP (fun _ => y_call (cp)) ?_ | fail))
      (repeat' (first | refine mv ?_ | refine so ?_ | refine aops_nil ?_ | refine aw_region ?_ | refine aw_cond_f rfl ?_ | refine aw_skip ?_ | fail))
      refine ⟨[], [(0, .live 24 3 [encHeap G]), (1, .live 24 3 [[nilV, iv 0, iv 0]]), (2, .live 3 1 [[iv x]])], ?_, ⟨⟨_, rfl, rfl⟩, ⟨_, rfl, rfl⟩, ⟨_, rfl, rfl⟩, trivial⟩, rfl⟩
      refine ent_tb id _ ?_ ?_ <;> (repeat' (first | exact trivial | exact fz_v _ | exact fzL_to (noOwn_heapc _) | refine ⟨?_, ?_⟩ | refine .one _ _ _ _ rfl rfl ?_ | fail))
    · have cs' := (Set_ok (lnkH H (l.drop (l.length - k))) (i5 hi) x 0 ((l.drop (l.length - k)).headD 0)).to' (show _ = .tup [.agg (encHeap (setH (lnkH H (l.drop (l.length - k))) x 0 ((l.drop (l.length - k)).headD 0))), iv 0] by rw [he])
      rw [hnx] at hn
      generalize hG2 : setH (lnkH H (l.drop (l.length - k))) x 0 ((l.drop (l.length - k)).headD 0) = G2 at *
      generalize lnkH H (l.drop (l.length - k)) = G at *
      generalize (l.drop (l.length - k)).headD 0 = hd at *
      (repeat' (first | refine aw_seq ?_ | refine aw_block ?_ | fail))
      refine aw_drawP 7 [] ?_
      (repeat' (first | refine dPn ?_ | refine dP (fun _ => y_move) ?_ | refine dP (fun _ => y_load) ?_ | refine dP (fun _ => y_bt) ?_ | refine dP (fun _ => y_loadsN) ?_ | refine dP (fun _ => (y_iaddrN 0 g0)) ?_ | refine dP (fun _ => y_call (cp)) ?_ | fail))
      (repeat' (first | refine mv ?_ | refine ld ?_ | refine ex ?_ | refine la ?_ | refine so ?_ | refine aops_nil ?_ | refine aw_region ?_ | refine aw_cond_t rfl ?_ | refine cl (cs') ?_ | fail))
      refine ⟨[], [(0, .live 24 3 [encHeap G2]), (1, .live 24 3 [[nilV, iv 0, iv 0]]), (2, .live 3 1 [[iv x]])], ?_, ⟨⟨_, rfl, rfl⟩, ⟨_, rfl, rfl⟩, ⟨_, rfl, rfl⟩, trivial⟩, rfl⟩
      refine ent_tb id _ ?_ ?_ <;> (repeat' (first | exact trivial | exact fz_v _ | exact fzL_to (noOwn_heapc _) | refine ⟨?_, ?_⟩ | refine .one _ _ _ _ rfl rfl ?_ | fail))
  · rw [en, lkTn]
    (repeat' (first | refine aw_seq ?_ | fail))
    refine aw_drawP 3 [(2, 1, .live 24 3 [encHeap (lnkH H l)], none)] ?_
    (repeat' (first | refine dPn ?_ | refine dP (fun _ => y_load) ?_ | refine dP (fun _ => y_loadsN) ?_ | refine dPS (fun _ => y_storeV) ?_ | fail))
    (repeat' (first | refine asg ?_ | refine aops_nil ?_ | refine aw_ret ?_ | fail))
    exact fin (.same _ (by simp))
  · intro c L h; exact h.elim
end Go.Proofs.Ytemcemimipagoaa
