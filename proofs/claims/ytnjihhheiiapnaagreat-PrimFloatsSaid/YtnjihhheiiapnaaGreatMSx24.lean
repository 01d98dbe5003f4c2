/- What the statements' walks need. -/
import Derived.Test.YtnjihhheiiapnaaGreatMSa4
import Derived.Test.YtnjihhheiiapnaaGreatMSx22
import Derived.Test.YtnjihhheiiapnaaGreatMSa3
set_option linter.unusedVariables false
set_option linter.unusedSimpArgs false
set_option maxRecDepth 100000
namespace Go.Proofs.YtnjihhheiiapnaaGreat
open Go Go.Proofs AW
def becomeE (H : HHeap) (v w : Int) : Int := if mayH H = true then (if H.ref v < 0 ∨ H.ref w < 0 then 31 else 0) else 1
def becomeH (H : HHeap) (v w : Int) : HHeap :=
  if becomeE H v w = 0 then (H.put (H.ref v).toNat (H.at' w)).put (H.ref w).toNat (H.at' v) else keptH H (becomeE H v w)
theorem objs_set (l : List HObj) (k : Nat) (o : HObj) : (encObjs l).set k (encObj o) = encObjs (l.set k o) := by simp [encObjs, List.map_set]
theorem sh_objsrow {T : Nat → Ob} {i e : Nat} {es : List (List AV)} {l : List HObj} (hT : T i = .live e 6 es) (h : es = encObjs l) : Sh T (.own i) (.sl 6 (encObjs l)) := by
  subst h
  exact sh_own hT (fun c hc => len_obj hc) fun c hc => by
    simp only [encObjs, List.mem_map] at hc
    obtain ⟨o, _, rfl⟩ := hc
    exact noOwn_obj o
theorem set_get {l : List HObj} {i k : Nat} {o : HObj} (h : l[k]? = some o) : ((encObjs l).set i (encObj o))[k]? = some (encObj o) := by
  rw [objs_set]
  by_cases hik : i = k
  · subst hik; rw [objs_get]; rw [List.getElem?_set_self (List.getElem?_eq_some_iff.1 h).1]
  · rw [objs_get]; rw [List.getElem?_set_ne hik]; exact h
set_option maxRecDepth 100000 in
set_option maxHeartbeats 4000000 in
theorem Become_ok (H : HHeap) (hi : H.In) (v w : Int) : Gives Tryz.prog 128 [.agg (encHeap H), iv v, iv w] (.tup [.agg (encHeap (becomeH H v w)), iv (becomeE H v w)]) := by
  refine gives_of Tryz.func128 rfl (Nat.le_of_ble_eq_true rfl) ?_
  (repeat' (first | refine asg ?_ | refine la ?_ | refine aops_nil ?_ | refine aw_seq ?_ | refine aw_region ?_ | refine bx 0 ?_ | refine al 1 ?_ | fail))
  refine cl (May_ok H hi) ?_ (hno := ⟨noOwn_heap H, trivial⟩)
  (repeat' (first | refine un ?_ | refine aops_nil ?_ | fail))
  refine aw_cond rfl (fun h1 => ?_) (fun h1 => ?_) <;> simp at h1 <;> (repeat' (first | refine mv ?_ | refine asg ?_ | refine ld ?_ | refine fp ?_ | refine ln ?_ | refine so ?_ | refine bd ?_ | refine aops_nil ?_ | refine aw_seq ?_ | refine aw_region ?_ | refine aw_skip ?_ | refine aw_ret ?_ | fail))
  · have e1 : becomeE H v w = 1 := by simp [becomeE, h1]
    exact fin (sh_empty (by simp [becomeH, e1, keptH]) e1.symm)
  refine cl (ref_ok _ _) ?_
  (repeat' (first | refine mv ?_ | fail))
  refine cl (ref_ok _ _) ?_
  (repeat' (first | refine asg ?_ | refine aops_nil ?_ | fail))
  refine aw_seq ?_
  refine aw_cutE (ι := {b : Bool // b = decide (H.ref v < 0 ∨ H.ref w < 0)}) (fun b => [(29, bv b.1), (3, .ptr 0 0 0), (6, .ptr 1 0 0), (9, iv (refI ((encObjs H.objs).length : Int) v)), (10, iv (refI ((encObjs H.objs).length : Int) w))]) ?_ ?_
  · (repeat' (first | refine sk ?_ | refine mv ?_ | refine bi ?_ | refine pt ?_ | refine pf ?_ | refine aops_nil ?_ | refine aw_region ?_ | refine gs (fun h => ?_) (fun h => ?_) | fail))
    all_goals (refine ⟨⟨_, ?_⟩, rfl, rfl, rfl, rfl, rfl, rfl, trivial⟩; clear hi h1; simp [HHeap.ref] at *; first | omega | grind)
  rintro ⟨b, hb⟩
  refine aw_cond rfl (fun h2 => ?_) (fun h2 => ?_) <;> simp [hb] at h2 <;> (repeat' (first | refine asg ?_ | refine la ?_ | refine so ?_ | refine aops_nil ?_ | refine aw_seq ?_ | refine aw_region ?_ | refine aw_skip ?_ | refine aw_ret ?_ | fail))
  · have e1 : becomeE H v w = 31 := by simp [becomeE, h1, h2]
    exact fin (sh_keep (H := H) (by simp [becomeH, e1, keptH]) e1.symm)
  obtain ⟨hv, hw⟩ := h2
  refine cm1 (copied1 H hi) ?_ (hno := ⟨noOwn_heap H, trivial⟩)
  (repeat' (first | refine so ?_ | refine aops_nil ?_ | refine aw_seq ?_ | fail))
  have e1 : becomeE H v w = 0 := by simp [becomeE, h1]; omega
  have gv := at_get hv
  have gw := at_get hw
  have lv : (H.ref v).toNat < (encObjs H.objs).length := by simpa using ref_lt hv
  have lw : (H.ref w).toNat < (encObjs H.objs).length := by simpa using ref_lt hw
  have nv : refI ((encObjs H.objs).length : Int) v = ((H.ref v).toNat : Int) := by rw [Int.toNat_of_nonneg hv]; simp [HHeap.ref]
  have nw : refI ((encObjs H.objs).length : Int) w = ((H.ref w).toNat : Int) := by rw [Int.toNat_of_nonneg hw]; simp [HHeap.ref]
  have lv2 : (H.ref v).toNat < ((encObjs H.objs).set (H.ref v).toNat (encObj (H.at' w))).length := by rw [List.length_set]; exact lv
  have lw2 : (H.ref w).toNat < ((encObjs H.objs).set (H.ref v).toNat (encObj (H.at' w))).length := by rw [List.length_set]; exact lw
  refine aw_drawU 18 17 10 (.live 41 6 ((encObjs H.objs).set (H.ref v).toNat (encObj (H.at' w)))) ?_
  (repeat' (first | refine dn ?_ | refine db y_move ?_ | refine d2 y_move y_move ?_ | refine db y_load ?_ | refine d2 y_load y_load ?_ | refine db (y_faddr_ptr (hs := Nat.le_of_ble_eq_true rfl)) ?_ | refine d2 (y_faddr_ptr (hs := Nat.le_of_ble_eq_true rfl)) (y_faddr_ptr (hs := Nat.le_of_ble_eq_true rfl)) ?_ | refine db (y_iaoN (H.ref w).toNat lw (hn := nw)) ?_ | refine db (y_iaoN (H.ref v).toNat lv (hn := nv)) ?_ | refine d2 (y_iaoN (H.ref v).toNat lv (hn := nv)) (y_iaoN (H.ref v).toNat lv2 (hn := nv)) ?_ | refine db (y_loadsP (objs_get gv)) ?_ | refine db (y_loadsP (objs_get gw)) ?_ | refine deS (y_storeU (objs_get gv)) ?_ | fail))
  refine iao (H.ref w).toNat lw2 ?_ (hn := nw)
  refine so ?_ (hq := set_get gw)
  (repeat' (first | refine asg ?_ | refine la ?_ | refine so ?_ | refine aops_nil ?_ | refine aw_seq ?_ | refine aw_region ?_ | refine aw_ret ?_ | fail))
  rw [e1, show becomeH H v w = (H.put (H.ref v).toNat (H.at' w)).put (H.ref w).toNat (H.at' v) by simp [becomeH, e1]]
  refine fin (sh_heap (H' := (H.put (H.ref v).toNat (H.at' w)).put (H.ref w).toNat (H.at' v)) ?_ rfl)
  refine sh_objsrow rfl ?_
  simp only [HHeap.put]
  rw [← objs_set, ← objs_set]
  rfl
end Go.Proofs.YtnjihhheiiapnaaGreat
