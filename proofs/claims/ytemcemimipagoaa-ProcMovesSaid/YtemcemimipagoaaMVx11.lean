/- What the statements' walks need. -/
import Derived.Test.YtemcemimipagoaaMVa4
import Derived.Test.YtemcemimipagoaaMVx10
import Derived.Test.YtemcemimipagoaaMVa2
set_option linter.unusedVariables false
set_option linter.unusedSimpArgs false
set_option maxRecDepth 100000
namespace Go.Proofs.Ytemcemimipagoaa
open Go Go.Proofs AW
instance : Inhabited HObj := ⟨⟨0, 0, [], ⟨#[]⟩, 0, 0⟩⟩
def HHeap.ref (H : HHeap) (v : Int) : Int := refI H.objs.length v
def HHeap.at' (H : HHeap) (v : Int) : HObj := (H.objs[(H.ref v).toNat]?).getD default
def wrongE (H : HHeap) (v kind a : Int) : Int :=
  if mayH H = false then 1 else if H.ref v < 0 then 31 else if (H.at' v).kind ≠ kind then 33 else if a < 0 ∨ ((H.at' v).slots.length : Int) + ((H.at' v).text.size : Int) ≤ a then 32 else 0
theorem ref_lt {H : HHeap} {v : Int} (h : 0 ≤ H.ref v) : (H.ref v).toNat < H.objs.length := by
  unfold HHeap.ref refI at *
  split at h
  · rename_i hc
    obtain ⟨h1, h2⟩ := hc
    rw [if_pos ⟨h1, h2⟩]
    omega
  · omega
theorem at_get {H : HHeap} {v : Int} (h : 0 ≤ H.ref v) : H.objs[(H.ref v).toNat]? = some (H.at' v) := by
  have := ref_lt h
  simp [HHeap.at', this]
theorem at_mem {H : HHeap} {v : Int} (h : 0 ≤ H.ref v) : H.at' v ∈ H.objs := List.mem_of_getElem? (at_get h)
theorem may_obj {H : HHeap} (h : mayH H = true) {o : HObj} (ho : o ∈ H.objs) : mayObj H.objs.length o = true := by
  simp only [mayH, Bool.and_eq_true] at h
  exact List.all_eq_true.1 h.2 o ho
theorem sh_ii {T : Nat → Ob} {x x' y y' : Int} (h : x = x') (k : y = y') : Sh T (.tup [iv x, iv y]) (.tup [iv x', iv y']) := sh_tup ⟨sh_iv h, sh_iv k, trivial⟩
set_option maxRecDepth 100000 in
set_option maxHeartbeats 4000000 in
theorem place_ok (H : HHeap) (hi : H.In) (v kind a : Int) : Gives Try.prog 63 [.agg (encHeap H), iv v, iv kind, iv a] (.tup [iv (if wrongE H v kind a = 0 then H.ref v else 0), iv (wrongE H v kind a)]) := by
  have hi' := hi
  obtain ⟨i1, i2, i3, i4⟩ := hi
  refine gives_of Try.func63 rfl (Nat.le_of_ble_eq_true rfl) ?_
  (repeat' (first | refine asg ?_ | refine la ?_ | refine aops_nil ?_ | refine aw_seq ?_ | refine aw_region ?_ | refine bx 0 ?_ | fail))
  refine cl (May_ok H hi') ?_ (hno := ⟨noOwn_heap H, trivial⟩)
  (repeat' (first | refine un ?_ | refine aops_nil ?_ | fail))
  refine aw_cond rfl (fun h1 => ?_) (fun h1 => ?_) <;> simp at h1 <;> (repeat' (first | refine mv ?_ | refine asg ?_ | refine ld ?_ | refine fp ?_ | refine ln ?_ | refine aops_nil ?_ | refine aw_seq ?_ | refine aw_region ?_ | refine aw_skip ?_ | refine aw_ret ?_ | fail))
  · refine fin (sh_ii ?_ ?_) <;> simp [wrongE, h1]
  refine cl (ref_ok _ _) ?_
  (repeat' (first | refine mv ?_ | refine asg ?_ | refine bi ?_ | refine aops_nil ?_ | refine aw_seq ?_ | refine aw_region ?_ | refine aw_block ?_ | fail))
  refine aw_cond rfl (fun h2 => ?_) (fun h2 => ?_) <;> simp at h2 <;> (repeat' (first | refine mv ?_ | refine asg ?_ | refine ld ?_ | refine fp ?_ | refine aops_nil ?_ | refine aw_seq ?_ | refine aw_region ?_ | refine aw_ret ?_ | fail))
  · refine fin (sh_ii ?_ ?_) <;> simp [wrongE, h1, HHeap.ref, h2]
  have hr : 0 ≤ H.ref v := by simpa [HHeap.ref] using h2
  have hget := at_get hr
  have hn : refI (encObjs H.objs).length v = ((H.ref v).toNat : Int) := by rw [Int.toNat_of_nonneg hr]; simp [HHeap.ref]
  obtain ⟨j1, j2, j3, j4, j5, j6, j7⟩ := i1 _ (at_mem hr)
  refine ia (H.ref v).toNat (objs_get hget) ?_ (hn := hn)
  (repeat' (first | refine mv ?_ | refine asg ?_ | refine ld ?_ | refine fi ?_ | refine bi ?_ | refine aops_nil ?_ | fail))
  refine aw_cond rfl (fun h3 => ?_) (fun h3 => ?_) <;> simp at h3
  · (repeat' (first | refine asg ?_ | refine aops_nil ?_ | refine aw_seq ?_ | refine aw_region ?_ | refine aw_ret ?_ | fail))
    refine fin (sh_ii ?_ ?_) <;> simp [wrongE, h1, show ¬ H.ref v < 0 by omega, h3]
  refine aw_seq ?_
  refine aw_draw 22 none ?_
  (repeat' (first | refine dk ?_ | refine dn ?_ | refine ds y_move ?_ | refine ds y_assign ?_ | refine ds y_load ?_ | refine ds (y_faddr_ptr (hs := Nat.le_of_ble_eq_true rfl)) ?_ | refine ds y_faddr_ip ?_ | refine ds y_bin ?_ | refine ds y_pick_t ?_ | refine ds y_pick_f ?_ | refine ds y_len ?_ | refine ds y_lens ?_ | refine ds (y_iaddrN (H.ref v).toNat (objs_get hget) (hn := hn)) ?_ | refine dg (fun h => ?_) (fun h => ?_) | fail))
  all_goals (repeat' (first | refine mv ?_ | refine asg ?_ | refine aops_nil ?_ | refine aw_seq ?_ | refine aw_region ?_ | refine aw_cond_t rfl ?_ | refine aw_skip ?_ | refine aw_ret ?_ | refine aw_cond rfl (fun h => ?_) (fun h => ?_) | fail))
  all_goals refine fin (sh_ii ?_ ?_)
  all_goals have e1 : IntKind.i64.wrap (((H.at' v).slots.length : Int) + ((H.at' v).text.size : Int)) = ((H.at' v).slots.length : Int) + ((H.at' v).text.size : Int) := wrap_id (by omega)
  all_goals simp [e1] at *
  all_goals have e2 : ¬ H.ref v < 0 := by omega
  all_goals simp [wrongE, h1, e2, h3]
  all_goals grind
end Go.Proofs.Ytemcemimipagoaa
