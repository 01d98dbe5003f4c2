/- Two objects that become each other: the program's and the reference's. -/
import Derived.Test.YtafbiccgbgcooaaHU
set_option linter.unusedSimpArgs false
namespace Go.Proofs.Ytafbiccgbgcooaa
open Go Go.Proofs AW
def becomeE (H : HHeap) (v w : Int) : Int := if mayH H = true then (if H.ref v < 0 ∨ H.ref w < 0 then 31 else 0) else 1
def becomeH (H : HHeap) (v w : Int) : HHeap :=
  if becomeE H v w = 0 then (H.put (H.ref v).toNat (H.at' w)).put (H.ref w).toNat (H.at' v) else keptH H (becomeE H v w)
theorem objs_set (l : List HObj) (k : Nat) (o : HObj) : (encObjs l).set k (encObj o) = encObjs (l.set k o) := by simp [encObjs, List.map_set]
theorem sh_objsrow {T : Nat → Ob} {i e : Nat} {es : List (List AV)} {l : List HObj} (hT : T i = .live e 6 es) (h : es = encObjs l) : Sh T (.own i) (.sl 6 (encObjs l)) := by
  subst h
  exact sh_own hT (fun c hc => len_obj hc) fun c hc => by
    simp only [encObjs, List.mem_map] at hc
    obtain ⟨o, _, rfl⟩ := hc
    exact noOwn_obj o
theorem sh_heapE {T : Nat → Ob} {x : AV} {H2 H' : HHeap} {e e' : Int} (hH : H' = H2) (he : e' = e) (h : Sh T x (.sl 6 (encObjs H2.objs))) : Sh T (.tup [.agg [x, iv H2.cap, iv H2.last], iv e]) (.tup [.agg (encHeap H'), iv e']) := by
  subst hH; exact sh_heap h he.symm
theorem set_get {l : List HObj} {i k : Nat} {o : HObj} (h : l[k]? = some o) : ((encObjs l).set i (encObj o))[k]? = some (encObj o) := by
  rw [objs_set]
  by_cases hik : i = k
  · subst hik; rw [objs_get]; rw [List.getElem?_set_self (List.getElem?_eq_some_iff.1 h).1]
  · rw [objs_get]; rw [List.getElem?_set_ne hik]; exact h
set_option maxRecDepth 100000 in
set_option maxHeartbeats 4000000 in
theorem Become_ok (H : HHeap) (hi : H.In) (v w : Int) : Gives Try.prog 21 [.agg (encHeap H), iv v, iv w] (.tup [.agg (encHeap (becomeH H v w)), iv (becomeE H v w)]) := by
  refine gives_of Try.func21 rfl (Nat.le_of_ble_eq_true rfl) ?_
  (repeat' (first | refine sk ?_ | refine mv ?_ | refine asg ?_ | refine ld ?_ | refine fp ?_ | refine fi ?_ | refine ms 1 ?_ | refine ms 30 ?_ | refine ms 63 ?_ | refine sll (c := 2) ?_ | refine sll (c := 8) ?_ | refine sr ?_ | refine rm ?_ | refine qu ?_ | refine bw ?_ | refine bi ?_ | refine un ?_ | refine pt ?_ | refine pf ?_ | refine ex ?_ | refine cv' ?_ | refine ln ?_ | refine lns ?_ | refine fd ?_ | refine la ?_ | refine so ?_ | refine mf ?_ | refine bd ?_ | refine aops_nil ?_ | refine aw_seq ?_ | refine aw_region ?_ | refine aw_cond_t rfl ?_ | refine aw_cond_f rfl ?_ | refine aw_block ?_ | refine aw_exit ?_ | refine aw_skip ?_ | refine aw_ret ?_ | refine bx 0 ?_ | refine bx 1 ?_ | refine bx 2 ?_ | refine bx 3 ?_ | refine al 0 ?_ | refine al 1 ?_ | refine al 2 ?_ | refine al 3 ?_ | fail))
  refine cl (May_ok H hi) ?_ (hno := ⟨noOwn_heap H, trivial⟩)
  (repeat' (first | refine sk ?_ | refine mv ?_ | refine asg ?_ | refine ld ?_ | refine fp ?_ | refine fi ?_ | refine ms 1 ?_ | refine ms 30 ?_ | refine ms 63 ?_ | refine sll (c := 2) ?_ | refine sll (c := 8) ?_ | refine sr ?_ | refine rm ?_ | refine qu ?_ | refine bw ?_ | refine bi ?_ | refine un ?_ | refine pt ?_ | refine pf ?_ | refine ex ?_ | refine cv' ?_ | refine ln ?_ | refine lns ?_ | refine fd ?_ | refine la ?_ | refine so ?_ | refine mf ?_ | refine bd ?_ | refine aops_nil ?_ | refine aw_seq ?_ | refine aw_region ?_ | refine aw_cond_t rfl ?_ | refine aw_cond_f rfl ?_ | refine aw_block ?_ | refine aw_exit ?_ | refine aw_skip ?_ | refine aw_ret ?_ | refine bx 0 ?_ | refine bx 1 ?_ | refine bx 2 ?_ | refine bx 3 ?_ | refine al 0 ?_ | refine al 1 ?_ | refine al 2 ?_ | refine al 3 ?_ | fail))
  refine aw_cond rfl (fun h1 => ?_) (fun h1 => ?_) <;> simp at h1 <;> (repeat' (first | refine sk ?_ | refine mv ?_ | refine asg ?_ | refine ld ?_ | refine fp ?_ | refine fi ?_ | refine ms 1 ?_ | refine ms 30 ?_ | refine ms 63 ?_ | refine sll (c := 2) ?_ | refine sll (c := 8) ?_ | refine sr ?_ | refine rm ?_ | refine qu ?_ | refine bw ?_ | refine bi ?_ | refine un ?_ | refine pt ?_ | refine pf ?_ | refine ex ?_ | refine cv' ?_ | refine ln ?_ | refine lns ?_ | refine fd ?_ | refine la ?_ | refine so ?_ | refine mf ?_ | refine bd ?_ | refine aops_nil ?_ | refine aw_seq ?_ | refine aw_region ?_ | refine aw_cond_t rfl ?_ | refine aw_cond_f rfl ?_ | refine aw_block ?_ | refine aw_exit ?_ | refine aw_skip ?_ | refine aw_ret ?_ | fail))
  · have e1 : becomeE H v w = 1 := by simp [becomeE, h1]
    exact fin (sh_empty (by simp [becomeH, e1, keptH]) e1.symm)
  refine cl (ref_ok _ _) ?_
  (repeat' (first | refine sk ?_ | refine mv ?_ | refine asg ?_ | refine ld ?_ | refine fp ?_ | refine fi ?_ | refine ms 1 ?_ | refine ms 30 ?_ | refine ms 63 ?_ | refine sll (c := 2) ?_ | refine sll (c := 8) ?_ | refine sr ?_ | refine rm ?_ | refine qu ?_ | refine bw ?_ | refine bi ?_ | refine un ?_ | refine pt ?_ | refine pf ?_ | refine ex ?_ | refine cv' ?_ | refine ln ?_ | refine lns ?_ | refine fd ?_ | refine la ?_ | refine so ?_ | refine mf ?_ | refine bd ?_ | refine aops_nil ?_ | refine aw_seq ?_ | refine aw_region ?_ | refine aw_cond_t rfl ?_ | refine aw_cond_f rfl ?_ | refine aw_block ?_ | refine aw_exit ?_ | refine aw_skip ?_ | refine aw_ret ?_ | fail))
  refine cl (ref_ok _ _) ?_
  (repeat' (first | refine sk ?_ | refine mv ?_ | refine asg ?_ | refine ld ?_ | refine fp ?_ | refine fi ?_ | refine ms 1 ?_ | refine ms 30 ?_ | refine ms 63 ?_ | refine sll (c := 2) ?_ | refine sll (c := 8) ?_ | refine sr ?_ | refine rm ?_ | refine qu ?_ | refine bw ?_ | refine bi ?_ | refine un ?_ | refine pt ?_ | refine pf ?_ | refine ex ?_ | refine cv' ?_ | refine ln ?_ | refine lns ?_ | refine fd ?_ | refine la ?_ | refine so ?_ | refine mf ?_ | refine bd ?_ | refine aops_nil ?_ | fail))
  refine aw_seq ?_
  refine aw_cutE (ι := {b : Bool // b = decide (H.ref v < 0 ∨ H.ref w < 0)}) (fun b => [(29, bv b.1), (3, .ptr 0 0 0), (6, .ptr 1 0 0), (9, iv (refI ((encObjs H.objs).length : Int) v)), (10, iv (refI ((encObjs H.objs).length : Int) w))]) ?_ ?_
  · (repeat' (first | refine sk ?_ | refine mv ?_ | refine asg ?_ | refine ld ?_ | refine fp ?_ | refine fi ?_ | refine ms 1 ?_ | refine ms 30 ?_ | refine ms 63 ?_ | refine sll (c := 2) ?_ | refine sll (c := 8) ?_ | refine sr ?_ | refine rm ?_ | refine qu ?_ | refine bw ?_ | refine bi ?_ | refine un ?_ | refine pt ?_ | refine pf ?_ | refine ex ?_ | refine cv' ?_ | refine ln ?_ | refine lns ?_ | refine fd ?_ | refine la ?_ | refine so ?_ | refine mf ?_ | refine bd ?_ | refine aops_nil ?_ | refine aw_seq ?_ | refine aw_region ?_ | refine aw_cond_t rfl ?_ | refine aw_cond_f rfl ?_ | refine aw_block ?_ | refine aw_exit ?_ | refine aw_skip ?_ | refine aw_ret ?_ | refine gs (fun h => ?_) (fun h => ?_) | refine aw_cond rfl (fun h => ?_) (fun h => ?_) | fail))
    all_goals (refine ⟨⟨_, ?_⟩, rfl, rfl, rfl, rfl, rfl, rfl, trivial⟩; clear hi h1; simp [HHeap.ref] at *; first | omega | grind)
  rintro ⟨b, hb⟩
  refine aw_cond rfl (fun h2 => ?_) (fun h2 => ?_) <;> simp [hb] at h2 <;> (repeat' (first | refine sk ?_ | refine mv ?_ | refine asg ?_ | refine ld ?_ | refine fp ?_ | refine fi ?_ | refine ms 1 ?_ | refine ms 30 ?_ | refine ms 63 ?_ | refine sll (c := 2) ?_ | refine sll (c := 8) ?_ | refine sr ?_ | refine rm ?_ | refine qu ?_ | refine bw ?_ | refine bi ?_ | refine un ?_ | refine pt ?_ | refine pf ?_ | refine ex ?_ | refine cv' ?_ | refine ln ?_ | refine lns ?_ | refine fd ?_ | refine la ?_ | refine so ?_ | refine mf ?_ | refine bd ?_ | refine aops_nil ?_ | refine aw_seq ?_ | refine aw_region ?_ | refine aw_cond_t rfl ?_ | refine aw_cond_f rfl ?_ | refine aw_block ?_ | refine aw_exit ?_ | refine aw_skip ?_ | refine aw_ret ?_ | fail))
  · have e1 : becomeE H v w = 31 := by simp [becomeE, h1, h2]
    exact fin (sh_keep (H := H) (by simp [becomeH, e1, keptH]) e1.symm)
  obtain ⟨hv, hw⟩ := h2
  refine cm1 (copied1 H hi) ?_ (hno := ⟨noOwn_heap H, trivial⟩)
  (repeat' (first | refine sk ?_ | refine mv ?_ | refine asg ?_ | refine ld ?_ | refine fp ?_ | refine fi ?_ | refine ms 1 ?_ | refine ms 30 ?_ | refine ms 63 ?_ | refine sll (c := 2) ?_ | refine sll (c := 8) ?_ | refine sr ?_ | refine rm ?_ | refine qu ?_ | refine bw ?_ | refine bi ?_ | refine un ?_ | refine pt ?_ | refine pf ?_ | refine ex ?_ | refine cv' ?_ | refine ln ?_ | refine lns ?_ | refine fd ?_ | refine la ?_ | refine so ?_ | refine mf ?_ | refine bd ?_ | refine aops_nil ?_ | refine aw_seq ?_ | refine aw_region ?_ | refine aw_cond_t rfl ?_ | refine aw_cond_f rfl ?_ | refine aw_block ?_ | refine aw_exit ?_ | refine aw_skip ?_ | refine aw_ret ?_ | fail))
  have e1 : becomeE H v w = 0 := by simp [becomeE, h1]; omega
  have gv := at_get hv
  have gw := at_get hw
  have lv : (H.ref v).toNat < (encObjs H.objs).length := by simpa using ref_lt hv
  have lw : (H.ref w).toNat < (encObjs H.objs).length := by simpa using ref_lt hw
  have nv : refI ((encObjs H.objs).length : Int) v = ((H.ref v).toNat : Int) := by rw [Int.toNat_of_nonneg hv]; simp [HHeap.ref]
  have nw : refI ((encObjs H.objs).length : Int) w = ((H.ref w).toNat : Int) := by rw [Int.toNat_of_nonneg hw]; simp [HHeap.ref]
  have lv2 : (H.ref v).toNat < ((encObjs H.objs).set (H.ref v).toNat (encObj (H.at' w))).length := by rw [List.length_set]; exact lv
  have lw2 : (H.ref w).toNat < ((encObjs H.objs).set (H.ref v).toNat (encObj (H.at' w))).length := by rw [List.length_set]; exact lw
  refine aw_drawU 18 17 10 (.live 46 6 ((encObjs H.objs).set (H.ref v).toNat (encObj (H.at' w)))) ?_
  (repeat' (first | refine dk ?_ | refine dn ?_ | refine db y_move ?_ | refine d2 y_move y_move ?_ | refine db y_assign ?_ | refine d2 y_assign y_assign ?_ | refine db y_load ?_ | refine d2 y_load y_load ?_ | refine db (y_faddr_ptr (hs := Nat.le_of_ble_eq_true rfl)) ?_ | refine d2 (y_faddr_ptr (hs := Nat.le_of_ble_eq_true rfl)) (y_faddr_ptr (hs := Nat.le_of_ble_eq_true rfl)) ?_ | refine db y_faddr_ip ?_ | refine d2 y_faddr_ip y_faddr_ip ?_ | refine db y_bw ?_ | refine d2 y_bw y_bw ?_ | refine db y_bin ?_ | refine d2 y_bin y_bin ?_ | refine db y_un ?_ | refine d2 y_un y_un ?_ | refine db y_pick_t ?_ | refine d2 y_pick_t y_pick_t ?_ | refine db y_pick_f ?_ | refine d2 y_pick_f y_pick_f ?_ | refine db y_extract ?_ | refine d2 y_extract y_extract ?_ | refine db y_len ?_ | refine d2 y_len y_len ?_ | refine db y_lens ?_ | refine d2 y_lens y_lens ?_ | refine db y_field ?_ | refine d2 y_field y_field ?_ | refine db y_makeFunc ?_ | refine d2 y_makeFunc y_makeFunc ?_ | refine db y_loadsN ?_ | refine d2 y_loadsN y_loadsN ?_ | refine db (y_iaoN (H.ref w).toNat lw (hn := nw)) ?_ | refine db (y_iaoN (H.ref v).toNat lv (hn := nv)) ?_ | refine d2 (y_iaoN (H.ref v).toNat lv (hn := nv)) (y_iaoN (H.ref v).toNat lv2 (hn := nv)) ?_ | refine db (y_loadsP (objs_get gv)) ?_ | refine db (y_loadsP (objs_get gw)) ?_ | refine deS (y_storeU (objs_get gv)) ?_ | fail))
  refine iao (H.ref w).toNat lw2 ?_ (hn := nw)
  refine so ?_ (hq := set_get gw)
  (repeat' (first | refine sk ?_ | refine mv ?_ | refine asg ?_ | refine ld ?_ | refine fp ?_ | refine fi ?_ | refine ms 1 ?_ | refine ms 30 ?_ | refine ms 63 ?_ | refine sll (c := 2) ?_ | refine sll (c := 8) ?_ | refine sr ?_ | refine rm ?_ | refine qu ?_ | refine bw ?_ | refine bi ?_ | refine un ?_ | refine pt ?_ | refine pf ?_ | refine ex ?_ | refine cv' ?_ | refine ln ?_ | refine lns ?_ | refine fd ?_ | refine la ?_ | refine so ?_ | refine mf ?_ | refine bd ?_ | refine aops_nil ?_ | refine aw_seq ?_ | refine aw_region ?_ | refine aw_cond_t rfl ?_ | refine aw_cond_f rfl ?_ | refine aw_block ?_ | refine aw_exit ?_ | refine aw_skip ?_ | refine aw_ret ?_ | fail))
  rw [e1, show becomeH H v w = (H.put (H.ref v).toNat (H.at' w)).put (H.ref w).toNat (H.at' v) by simp [becomeH, e1]]
  refine fin (sh_heap (H' := (H.put (H.ref v).toNat (H.at' w)).put (H.ref w).toNat (H.at' v)) ?_ rfl)
  refine sh_objsrow rfl ?_
  simp only [HHeap.put]
  rw [← objs_set, ← objs_set]
  rfl
set_option maxRecDepth 100000 in
set_option maxHeartbeats 4000000 in
theorem rBecome_ok (H : HHeap) (hi : H.In) (v w : Int) : Gives Try.prog 30 [.agg (encHeap H), iv v, iv w] (.tup [.agg (encHeap (becomeH H v w)), iv (becomeE H v w)]) := by
  have i4 := hi.2.2.2
  refine gives_of Try.func30 rfl (Nat.le_of_ble_eq_true rfl) ?_
  (repeat' (first | refine sk ?_ | refine mv ?_ | refine asg ?_ | refine ld ?_ | refine fp ?_ | refine fi ?_ | refine ms 1 ?_ | refine ms 30 ?_ | refine ms 63 ?_ | refine sll (c := 2) ?_ | refine sll (c := 8) ?_ | refine sr ?_ | refine rm ?_ | refine qu ?_ | refine bw ?_ | refine bi ?_ | refine un ?_ | refine pt ?_ | refine pf ?_ | refine ex ?_ | refine cv' ?_ | refine ln ?_ | refine lns ?_ | refine fd ?_ | refine la ?_ | refine so ?_ | refine mf ?_ | refine bd ?_ | refine aops_nil ?_ | refine aw_seq ?_ | refine aw_region ?_ | refine aw_cond_t rfl ?_ | refine aw_cond_f rfl ?_ | refine aw_block ?_ | refine aw_exit ?_ | refine aw_skip ?_ | refine aw_ret ?_ | refine bx 0 ?_ | refine bx 1 ?_ | refine bx 2 ?_ | refine bx 3 ?_ | refine al 0 ?_ | refine al 1 ?_ | refine al 2 ?_ | refine al 3 ?_ | fail))
  refine cl (rMay_ok H hi) ?_ (hno := ⟨noOwn_heap H, trivial⟩)
  (repeat' (first | refine sk ?_ | refine mv ?_ | refine asg ?_ | refine ld ?_ | refine fp ?_ | refine fi ?_ | refine ms 1 ?_ | refine ms 30 ?_ | refine ms 63 ?_ | refine sll (c := 2) ?_ | refine sll (c := 8) ?_ | refine sr ?_ | refine rm ?_ | refine qu ?_ | refine bw ?_ | refine bi ?_ | refine un ?_ | refine pt ?_ | refine pf ?_ | refine ex ?_ | refine cv' ?_ | refine ln ?_ | refine lns ?_ | refine fd ?_ | refine la ?_ | refine so ?_ | refine mf ?_ | refine bd ?_ | refine aops_nil ?_ | refine aw_seq ?_ | refine aw_region ?_ | refine aw_cond_t rfl ?_ | refine aw_cond_f rfl ?_ | refine aw_block ?_ | refine aw_exit ?_ | refine aw_skip ?_ | refine aw_ret ?_ | refine bx 0 ?_ | refine bx 1 ?_ | refine bx 2 ?_ | refine bx 3 ?_ | refine al 0 ?_ | refine al 1 ?_ | refine al 2 ?_ | refine al 3 ?_ | fail))
  refine aw_cond rfl (fun h1 => ?_) (fun h1 => ?_) <;> simp at h1 <;> (repeat' (first | refine sk ?_ | refine mv ?_ | refine asg ?_ | refine ld ?_ | refine fp ?_ | refine fi ?_ | refine ms 1 ?_ | refine ms 30 ?_ | refine ms 63 ?_ | refine sll (c := 2) ?_ | refine sll (c := 8) ?_ | refine sr ?_ | refine rm ?_ | refine qu ?_ | refine bw ?_ | refine bi ?_ | refine un ?_ | refine pt ?_ | refine pf ?_ | refine ex ?_ | refine cv' ?_ | refine ln ?_ | refine lns ?_ | refine fd ?_ | refine la ?_ | refine so ?_ | refine mf ?_ | refine bd ?_ | refine aops_nil ?_ | refine aw_seq ?_ | refine aw_region ?_ | refine aw_cond_t rfl ?_ | refine aw_cond_f rfl ?_ | refine aw_block ?_ | refine aw_exit ?_ | refine aw_skip ?_ | refine aw_ret ?_ | fail))
  · have e1 : becomeE H v w = 1 := by simp [becomeE, h1]
    exact fin (sh_empty (by simp [becomeH, e1, keptH]) e1.symm)
  refine aw_draw 8 none ?_
  (repeat' (first | refine dk ?_ | refine dn ?_ | refine ds y_move ?_ | refine ds y_assign ?_ | refine ds y_load ?_ | refine ds (y_faddr_ptr (hs := Nat.le_of_ble_eq_true rfl)) ?_ | refine ds y_faddr_ip ?_ | refine ds y_bw ?_ | refine ds y_bin ?_ | refine ds y_un ?_ | refine ds y_pick_t ?_ | refine ds y_pick_f ?_ | refine ds y_extract ?_ | refine ds y_len ?_ | refine ds y_lens ?_ | refine ds y_field ?_ | refine ds y_makeFunc ?_ | refine ds y_loadsN ?_ | refine ds (y_call (rRef_ok H _ i4) (hno := ⟨noOwn_heap H, noOwn_iv _, trivial⟩)) ?_ | fail))
  refine aops_nil ?_
  refine aw_seq ?_
  refine aw_cutE (ι := {b : Bool // b = decide (H.ref v < 0 ∨ H.ref w < 0)}) (fun b => [(27, bv b.1), (3, .ptr 0 0 0), (6, .ptr 1 0 0), (8, iv (refI (H.objs.length : Int) v)), (9, iv (refI (H.objs.length : Int) w))]) ?_ ?_
  · (repeat' (first | refine sk ?_ | refine mv ?_ | refine asg ?_ | refine ld ?_ | refine fp ?_ | refine fi ?_ | refine ms 1 ?_ | refine ms 30 ?_ | refine ms 63 ?_ | refine sll (c := 2) ?_ | refine sll (c := 8) ?_ | refine sr ?_ | refine rm ?_ | refine qu ?_ | refine bw ?_ | refine bi ?_ | refine un ?_ | refine pt ?_ | refine pf ?_ | refine ex ?_ | refine cv' ?_ | refine ln ?_ | refine lns ?_ | refine fd ?_ | refine la ?_ | refine so ?_ | refine mf ?_ | refine bd ?_ | refine aops_nil ?_ | refine aw_seq ?_ | refine aw_region ?_ | refine aw_cond_t rfl ?_ | refine aw_cond_f rfl ?_ | refine aw_block ?_ | refine aw_exit ?_ | refine aw_skip ?_ | refine aw_ret ?_ | refine gs (fun h => ?_) (fun h => ?_) | refine aw_cond rfl (fun h => ?_) (fun h => ?_) | fail))
    all_goals (refine ⟨⟨_, ?_⟩, rfl, rfl, rfl, rfl, rfl, rfl, trivial⟩; clear hi h1; simp [HHeap.ref] at *; first | omega | grind)
  rintro ⟨b, hb⟩
  refine aw_cond rfl (fun h2 => ?_) (fun h2 => ?_) <;> simp [hb] at h2 <;> (repeat' (first | refine sk ?_ | refine mv ?_ | refine asg ?_ | refine ld ?_ | refine fp ?_ | refine fi ?_ | refine ms 1 ?_ | refine ms 30 ?_ | refine ms 63 ?_ | refine sll (c := 2) ?_ | refine sll (c := 8) ?_ | refine sr ?_ | refine rm ?_ | refine qu ?_ | refine bw ?_ | refine bi ?_ | refine un ?_ | refine pt ?_ | refine pf ?_ | refine ex ?_ | refine cv' ?_ | refine ln ?_ | refine lns ?_ | refine fd ?_ | refine la ?_ | refine so ?_ | refine mf ?_ | refine bd ?_ | refine aops_nil ?_ | refine aw_seq ?_ | refine aw_region ?_ | refine aw_cond_t rfl ?_ | refine aw_cond_f rfl ?_ | refine aw_block ?_ | refine aw_exit ?_ | refine aw_skip ?_ | refine aw_ret ?_ | fail))
  · have e1 : becomeE H v w = 31 := by simp [becomeE, h1, h2]
    exact fin (sh_keep (H := H) (by simp [becomeH, e1, keptH]) e1.symm)
  obtain ⟨hv, hw⟩ := h2
  refine cm1 (rcopy1 H hi) ?_ (hno := ⟨noOwn_heap H, trivial⟩)
  (repeat' (first | refine sk ?_ | refine mv ?_ | refine asg ?_ | refine ld ?_ | refine fp ?_ | refine fi ?_ | refine ms 1 ?_ | refine ms 30 ?_ | refine ms 63 ?_ | refine sll (c := 2) ?_ | refine sll (c := 8) ?_ | refine sr ?_ | refine rm ?_ | refine qu ?_ | refine bw ?_ | refine bi ?_ | refine un ?_ | refine pt ?_ | refine pf ?_ | refine ex ?_ | refine cv' ?_ | refine ln ?_ | refine lns ?_ | refine fd ?_ | refine la ?_ | refine so ?_ | refine mf ?_ | refine bd ?_ | refine aops_nil ?_ | refine aw_seq ?_ | refine aw_region ?_ | refine aw_cond_t rfl ?_ | refine aw_cond_f rfl ?_ | refine aw_block ?_ | refine aw_exit ?_ | refine aw_skip ?_ | refine aw_ret ?_ | refine bx 0 ?_ | refine bx 1 ?_ | refine bx 2 ?_ | refine bx 3 ?_ | refine al 0 ?_ | refine al 1 ?_ | refine al 2 ?_ | refine al 3 ?_ | fail))
  have e1 : becomeE H v w = 0 := by simp [becomeE, h1]; omega
  have gv := at_get hv
  have gw := at_get hw
  have lv : (H.ref v).toNat < (encObjs H.objs).length := by simpa using ref_lt hv
  have lw : (H.ref w).toNat < (encObjs H.objs).length := by simpa using ref_lt hw
  have nv : refI (H.objs.length : Int) v = ((H.ref v).toNat : Int) := by rw [Int.toNat_of_nonneg hv]; simp [HHeap.ref]
  have nw : refI (H.objs.length : Int) w = ((H.ref w).toNat : Int) := by rw [Int.toNat_of_nonneg hw]; simp [HHeap.ref]
  have lw2 : (H.ref w).toNat < ((encObjs H.objs).set (H.ref v).toNat (encObj (H.at' w))).length := by rw [List.length_set]; exact lw
  refine iao (H.ref v).toNat lv ?_ (hn := nv)
  refine laP (objs_get gv) ?_
  (repeat' (first | refine sk ?_ | refine mv ?_ | refine asg ?_ | refine ld ?_ | refine fp ?_ | refine fi ?_ | refine ms 1 ?_ | refine ms 30 ?_ | refine ms 63 ?_ | refine sll (c := 2) ?_ | refine sll (c := 8) ?_ | refine sr ?_ | refine rm ?_ | refine qu ?_ | refine bw ?_ | refine bi ?_ | refine un ?_ | refine pt ?_ | refine pf ?_ | refine ex ?_ | refine cv' ?_ | refine ln ?_ | refine lns ?_ | refine fd ?_ | refine la ?_ | refine so ?_ | refine mf ?_ | refine bd ?_ | refine aops_nil ?_ | refine aw_seq ?_ | refine aw_region ?_ | refine aw_cond_t rfl ?_ | refine aw_cond_f rfl ?_ | refine aw_block ?_ | refine aw_exit ?_ | refine aw_skip ?_ | refine aw_ret ?_ | refine bx 0 ?_ | refine bx 1 ?_ | refine bx 2 ?_ | refine bx 3 ?_ | refine al 0 ?_ | refine al 1 ?_ | refine al 2 ?_ | refine al 3 ?_ | fail))
  refine aw_draw 8 none ?_
  (repeat' (first | refine dk ?_ | refine dn ?_ | refine ds y_move ?_ | refine ds y_assign ?_ | refine ds y_load ?_ | refine ds (y_faddr_ptr (hs := Nat.le_of_ble_eq_true rfl)) ?_ | refine ds y_faddr_ip ?_ | refine ds y_bw ?_ | refine ds y_bin ?_ | refine ds y_un ?_ | refine ds y_pick_t ?_ | refine ds y_pick_f ?_ | refine ds y_extract ?_ | refine ds y_len ?_ | refine ds y_lens ?_ | refine ds y_field ?_ | refine ds y_makeFunc ?_ | refine ds y_loadsN ?_ | refine ds (y_iaoN (H.ref w).toNat lw (hn := nw)) ?_ | refine ds (y_loadsP (objs_get gw)) ?_ | fail))
  refine iao (H.ref v).toNat lv ?_ (hn := nv)
  refine so ?_ (hq := objs_get gv)
  (repeat' (first | refine sk ?_ | refine mv ?_ | refine asg ?_ | refine ld ?_ | refine fp ?_ | refine fi ?_ | refine ms 1 ?_ | refine ms 30 ?_ | refine ms 63 ?_ | refine sll (c := 2) ?_ | refine sll (c := 8) ?_ | refine sr ?_ | refine rm ?_ | refine qu ?_ | refine bw ?_ | refine bi ?_ | refine un ?_ | refine pt ?_ | refine pf ?_ | refine ex ?_ | refine cv' ?_ | refine ln ?_ | refine lns ?_ | refine fd ?_ | refine la ?_ | refine so ?_ | refine mf ?_ | refine bd ?_ | refine aops_nil ?_ | refine aw_seq ?_ | refine aw_region ?_ | refine aw_cond_t rfl ?_ | refine aw_cond_f rfl ?_ | refine aw_block ?_ | refine aw_exit ?_ | refine aw_skip ?_ | refine aw_ret ?_ | fail))
  refine iao (H.ref w).toNat lw2 ?_ (hn := nw)
  refine so ?_ (hq := set_get gw)
  (repeat' (first | refine sk ?_ | refine mv ?_ | refine asg ?_ | refine ld ?_ | refine fp ?_ | refine fi ?_ | refine ms 1 ?_ | refine ms 30 ?_ | refine ms 63 ?_ | refine sll (c := 2) ?_ | refine sll (c := 8) ?_ | refine sr ?_ | refine rm ?_ | refine qu ?_ | refine bw ?_ | refine bi ?_ | refine un ?_ | refine pt ?_ | refine pf ?_ | refine ex ?_ | refine cv' ?_ | refine ln ?_ | refine lns ?_ | refine fd ?_ | refine la ?_ | refine so ?_ | refine mf ?_ | refine bd ?_ | refine aops_nil ?_ | refine aw_seq ?_ | refine aw_region ?_ | refine aw_cond_t rfl ?_ | refine aw_cond_f rfl ?_ | refine aw_block ?_ | refine aw_exit ?_ | refine aw_skip ?_ | refine aw_ret ?_ | fail))
  rw [e1, show becomeH H v w = (H.put (H.ref v).toNat (H.at' w)).put (H.ref w).toNat (H.at' v) by simp [becomeH, e1]]
  refine fin (sh_heap (H' := (H.put (H.ref v).toNat (H.at' w)).put (H.ref w).toNat (H.at' v)) ?_ rfl)
  refine sh_objsrow rfl ?_
  simp only [HHeap.put]
  rw [← objs_set, ← objs_set]
  rfl
end Go.Proofs.Ytafbiccgbgcooaa
