/- What the statements' walks need. -/
import Derived.Test.YtnjihhheiiapnaaGreatMTa4
import Derived.Test.YtnjihhheiiapnaaGreatMTx38
import Derived.Test.YtnjihhheiiapnaaGreatMTx21
import Derived.Test.YtnjihhheiiapnaaGreatMTx25
set_option linter.unusedVariables false
set_option linter.unusedSimpArgs false
set_option maxRecDepth 100000
namespace Go.Proofs.YtnjihhheiiapnaaGreat
open Go Go.Proofs AW
def alfE : List (Nat × AV) := [(13, iv 0), (4, .ptr 0 0 0), (8, .ptr 1 0 0), (11, .ptr 2 0 0), (12, .ptr 3 0 0), (2, iv 2), (3, iv 0)]
def alfT (H : HHeap) : List (Nat × Ob) :=
  [(0, .live 24 3 [encHeap H]), (1, .live 24 3 [[.v (.slice none 0 0), iv 0, iv 0]]), (2, .live 24 3 [[.own 10, iv H.cap, iv (nextI H.last)]]),
   (3, .live 41 6 [[iv 8, iv 2, .v (.slice none 0 0), sv ⟨#[]⟩, iv 0, iv (nextI H.last)]]), (10, .live 41 6 (encObjs H.objs))]
def flC (H : HHeap) : List AV := [iv 8, iv 2, .v (.slice none 0 0), sv ⟨#[]⟩, iv 0, iv (nextI H.last)]
set_option maxRecDepth 100000 in
set_option maxHeartbeats 8000000 in
theorem rallocF_raw (H : HHeap) (hi : H.In) (he : allocE H 8 2 0 = 0) : Ok Tryz.prog 140 [.agg (encHeap H), iv 8, iv 2, iv 0] (fun x T =>
    x = .tup [.agg [.own 8, iv H.cap, iv (nextI H.last)], iv (2 * H.objs.length), iv 0] ∧ T 8 = .live 41 6 (encObjs H.objs ++ [flC H])) := by
  have i4 : H.objs.length < 1099511627776 := hi.2.2.2
  obtain ⟨hm, hr, _, _, _, hc, _⟩ := alloc0 he
  have cm := (rMay_ok H hi).to' (congrArg bv hm)
  have cr : Gives Tryz.prog 22 [.agg (encHeap H), iv 8] (iv (refI H.objs.length 8)) := rRef_ok H 8 i4
  have cc := rcopy1 H hi
  have cx := rnext_ok H.last
  have hlo : (encObjs H.objs).length = H.objs.length := len_objs _
  refine ok_of Tryz.func140 rfl (Nat.le_of_ble_eq_true rfl) ?_
  (repeat' (first | refine mv ?_ | refine asg ?_ | refine ld ?_ | refine fp ?_ | refine bt ?_ | refine bf ?_ | refine un ?_ | refine pt ?_ | refine pf ?_ | refine ln ?_ | refine la ?_ | refine so ?_ | refine bd ?_ | refine aops_nil ?_ | refine aw_seq ?_ | refine aw_region ?_ | refine aw_cond_f rfl ?_ | refine aw_block ?_ | refine aw_skip ?_ | refine bx 0 ?_ | refine al 1 ?_ | refine al 2 ?_ | refine al 3 ?_ | refine cl (cm) ?_ | refine cl (cr) ?_ | refine cm1 cc ?_ | refine cl (cx) ?_ | fail))
  refine aw_for 0 (fun k => k ≤ 0) (fun k => ⟨alfE, tb (alfT H)⟩) 0 (Nat.le_refl _) ?_ ?_
  · refine ent_tb id (alfT H) ?_ ?_ <;> (repeat' (first | exact trivial | exact fz_v _ | exact fz_own rfl (ne_live rfl) | exact .ptr _ _ _ _ rfl (ne_live rfl) | exact hobjs H.objs | exact fzL_all (hcell H) | refine ⟨_, rfl, ?_⟩ | refine ⟨?_, ?_⟩ | refine .one _ _ _ _ rfl rfl ?_ | refine .same _ _ _ rfl rfl ?_ | fail))
  intro k hk
  (repeat' (first | refine mv ?_ | refine ld ?_ | refine fp ?_ | refine bi ?_ | refine la ?_ | refine aops_nil ?_ | refine aw_seq ?_ | refine aw_region ?_ | refine aw_cond_f rfl ?_ | refine aw_exit ?_ | fail))
  refine li 7 ?_
  refine ap1 8 ?_ (hl := by simpa using i4)
  (repeat' (first | refine fp ?_ | refine so ?_ | refine aops_nil ?_ | refine aw_seq ?_ | fail))
  refine aw_drawU 6 5 1 (.live 24 3 [[.own 8, iv H.cap, iv (nextI H.last)]]) ?_
  (repeat' (first | refine dn ?_ | refine d2 y_load y_load ?_ | refine d2 (y_faddr_ptr (hs := Nat.le_of_ble_eq_true rfl)) (y_faddr_ptr (hs := Nat.le_of_ble_eq_true rfl)) ?_ | refine d2 y_bw y_bw ?_ | refine d2 y_len y_len ?_ | refine db y_loadsN ?_ | refine deS y_storeV ?_ | fail))
  (repeat' (first | refine asg ?_ | refine aops_nil ?_ | refine aw_ret ?_ | fail))
  refine ⟨.inl rfl, _, rfl, ?_, rfl⟩
  show AV.tup [.agg [.own 8, iv H.cap, iv (nextI H.last)], iv (2 * ((encObjs H.objs).length : Int)), iv 0] = _
  rw [hlo]
theorem rallocF_own (H : HHeap) (hi : H.In) (he : allocE H 8 2 0 = 0) : Ok Tryz.prog 140 [.agg (encHeap H), iv 8, iv 2, iv 0] (fun x T =>
    x = .tup [.agg [.own 20, iv H.cap, iv (nextI H.last)], iv (2 * H.objs.length), iv 0] ∧ T = upd noT 20 (.live 41 6 (encObjs (H.objs ++ [newObj H 8 2 0])))) :=
  (rallocF_raw H hi he).fz fun x T h => by
    obtain ⟨rfl, h5⟩ := h
    have key : ∀ k, upd noT 20 (.live 41 6 (encObjs (H.objs ++ [newObj H 8 2 0]))) k ≠ .no → k = 20 := by
      intro k hk
      by_cases h1 : k = 20
      · exact h1
      · simp [upd, noT, h1] at hk
    refine ⟨fun j => 8, _, .tup [.agg [.own 20, iv H.cap, iv (nextI H.last)], iv (2 * H.objs.length), iv 0], ⟨rfl, rfl⟩, ⟨fun j e s es' hj => ?_, fun j hj => by simp [h5], fun i j hi hj _ => by rw [key i hi, key j hj]⟩, ?_⟩
    · have := key j (by rw [hj]; simp)
      subst this
      simp only [upd, if_true] at hj
      cases hj
      refine ⟨_, h5, by simp, fun q c c' hc hc' => ?_⟩
      obtain ⟨o', ho, rfl⟩ := objs_inv hc'
      rcases app_get hc with ⟨o, h2, rfl⟩ | ⟨rfl, rfl⟩
      · rw [List.getElem?_append_left (List.getElem?_eq_some_iff.1 h2).1, h2] at ho
        cases ho
        exact fzL_all (noOwn_obj _)
      · simp at ho
        subst ho
        exact ⟨fz_v _, fz_v _, .nil 1, fz_v _, fz_v _, fz_v _, trivial⟩
    · exact fz_tup ⟨fz_agg ⟨fz_own rfl (by simp [upd]), fz_v _, fz_v _, trivial⟩, fz_v _, fz_v _, trivial⟩
set_option maxHeartbeats 8000000 in
theorem alloc13_raw (H : HHeap) (hi : H.In) (he : allocE H 8 2 0 = 0) : Ok Tryz.prog 96 [.agg (encHeap H), iv 8, iv 2, iv 0] (fun x T =>
    x = .tup [.agg [.own 20, iv H.cap, iv (nextI H.last)], iv (2 * H.objs.length), iv 0] ∧ T 20 = .live 41 6 (encObjs (H.objs ++ [newObj H 8 2 0]))) := by
  have ca := rallocF_own H hi he
  refine ok_of Tryz.func96 rfl (Nat.le_of_ble_eq_true rfl) ?_
  (repeat' (first | refine mv ?_ | refine asg ?_ | refine bf ?_ | refine ex ?_ | refine la ?_ | refine so ?_ | refine aops_nil ?_ | refine aw_seq ?_ | refine aw_region ?_ | refine aw_cond_f rfl ?_ | refine aw_skip ?_ | refine aw_ret ?_ | refine bx 0 ?_ | refine al 1 ?_ | refine al 2 ?_ | refine cm1 ca ?_ | fail))
  exact ⟨.inl rfl, _, rfl, rfl, rfl⟩
theorem alloc13_own (H : HHeap) (hi : H.In) (he : allocE H 8 2 0 = 0) : Ok Tryz.prog 96 [.agg (encHeap H), iv 8, iv 2, iv 0] (fun x T =>
    x = .tup [.agg [.own 20, iv H.cap, iv (nextI H.last)], iv (2 * H.objs.length), iv 0] ∧ T = upd noT 20 (.live 41 6 (encObjs (H.objs ++ [newObj H 8 2 0])))) :=
  (alloc13_raw H hi he).fz fun x T h => by
    obtain ⟨rfl, h5⟩ := h
    have key : ∀ k, upd noT 20 (.live 41 6 (encObjs (H.objs ++ [newObj H 8 2 0]))) k ≠ .no → k = 20 := by
      intro k hk
      by_cases h1 : k = 20
      · exact h1
      · simp [upd, noT, h1] at hk
    refine ⟨fun j => 20, _, .tup [.agg [.own 20, iv H.cap, iv (nextI H.last)], iv (2 * H.objs.length), iv 0], ⟨rfl, rfl⟩, ⟨fun j e s es' hj => ?_, fun j hj => by simp [h5], fun i j hi hj _ => by rw [key i hi, key j hj]⟩, ?_⟩
    · have := key j (by rw [hj]; simp)
      subst this
      simp only [upd, if_true] at hj
      cases hj
      refine ⟨_, h5, by simp, fun q c c' hc hc' => ?_⟩
      obtain ⟨o', ho, rfl⟩ := objs_inv hc'
      rw [objs_get ho] at hc
      cases hc
      exact fzL_all (noOwn_obj _)
    · exact fz_tup ⟨fz_agg ⟨fz_own rfl (by simp [upd]), fz_v _, fz_v _, trivial⟩, fz_v _, fz_v _, trivial⟩
set_option maxHeartbeats 8000000 in
theorem float13 (H : HHeap) (hi : H.In) (b : Int) (hc : allocE H 8 2 0 = 0 ∨ allocE H 8 2 0 = 30) : Gives Tryz.prog 101 [.agg (encHeap H), iv b] (newF H b) := by
  have cc := rcanon_ok b
  rcases hc with he | he
  · rw [newF, if_pos he]
    have ca := alloc13_own H hi he
    refine gives_of Tryz.func101 rfl (Nat.le_of_ble_eq_true rfl) ?_
    (repeat' (first | refine mv ?_ | refine asg ?_ | refine bt ?_ | refine ex ?_ | refine la ?_ | refine so ?_ | refine aops_nil ?_ | refine aw_seq ?_ | refine aw_region ?_ | refine aw_cond_t rfl ?_ | refine bx 0 ?_ | refine al 1 ?_ | refine al 2 ?_ | refine cm1 ca ?_ | fail))
    refine aw_drawP 10 [] ?_
    (repeat' (first | refine dPn ?_ | refine dP (fun _ => y_move) ?_ | refine dP (fun _ => y_load) ?_ | refine dP (fun _ => y_faddr_ptr (hs := Nat.le_of_ble_eq_true rfl)) ?_ | refine dP (fun _ => y_bin) ?_ | refine dP (fun _ => y_len) ?_ | refine dP (fun _ => y_call (cc)) ?_ | refine dP (fun _ => y_iaoN H.objs.length (flo_lt H) (hn := flo_len H hi)) ?_ | fail))
    (repeat' (first | refine mv ?_ | refine asg ?_ | refine la ?_ | refine so ?_ | refine aops_nil ?_ | refine aw_seq ?_ | refine aw_region ?_ | refine aw_ret ?_ | refine so ?_ (hq := flo_get H) | fail))
    refine fin (sh_heap3 (H' := floH H b) (H2 := floH H b) (v' := 2 * H.objs.length) (e' := 0) rfl rfl rfl (sh_objsrow rfl (flo_set H b)))
  · rw [newF, if_neg (by rw [he]; decide)]
    have ca := (alloc13 H hi 8 2 0).to' (show newA H 8 2 0 = .tup [.agg (encHeap H), iv 0, iv 30] by rw [newA, if_neg (by rw [he]; decide), if_pos he]; rfl)
    refine gives_of Tryz.func101 rfl (Nat.le_of_ble_eq_true rfl) ?_
    (repeat' (first | refine mv ?_ | refine asg ?_ | refine bf ?_ | refine ex ?_ | refine la ?_ | refine so ?_ | refine aops_nil ?_ | refine aw_seq ?_ | refine aw_region ?_ | refine aw_cond_f rfl ?_ | refine aw_skip ?_ | refine aw_ret ?_ | refine bx 0 ?_ | refine al 1 ?_ | refine al 2 ?_ | refine cl (ca) ?_ | fail))
    exact fin sh_do
end Go.Proofs.YtnjihhheiiapnaaGreat
