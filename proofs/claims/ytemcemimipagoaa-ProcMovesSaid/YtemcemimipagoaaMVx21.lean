/- What the statements' walks need. -/
import Derived.Test.YtemcemimipagoaaMVa4
import Derived.Test.YtemcemimipagoaaMVx17
import Derived.Test.YtemcemimipagoaaMVa3
set_option linter.unusedVariables false
set_option linter.unusedSimpArgs false
set_option maxRecDepth 100000
namespace Go.Proofs.Ytemcemimipagoaa
open Go Go.Proofs AW
theorem fz_cop (l : List HObj) : FzT id (copT l.length l) (upd noT 10 (.live 43 6 (encObjs l))) := by
  have h10 : ∀ j, upd noT 10 (.live 43 6 (encObjs l)) j ≠ .no → j = 10 := by
    intro j hj
    by_cases h : j = 10
    · exact h
    · simp [upd, noT, h] at hj
  refine ⟨fun j e s es' hj => ?_, fun j hj => ?_, fun i j hi hj h => h⟩
  · have := h10 j (by rw [hj]; simp)
    subst this
    simp only [upd, if_true] at hj
    cases hj
    refine ⟨encPart l.length l, rfl, by simp, fun q c c' hc hc' => ?_⟩
    obtain ⟨o, ho, rfl⟩ := objs_inv hc'
    have hql : q < l.length := (List.getElem?_eq_some_iff.1 ho).1
    rw [part_get ho, if_pos hql] at hc
    cases hc
    refine ⟨fz_v _, fz_v _, ?_, fz_v _, fz_v _, fz_v _, trivial⟩
    refine fz_flat (copT_row ho) (fun j e s es hj hjq => ?_) (fun c hc => by simp only [encInts, List.mem_map] at hc; obtain ⟨x, _, rfl⟩ := hc; rfl) fun c hc => noOwn_intsc hc
    have := h10 j (by rw [hj]; simp)
    subst this
    simp only [id] at hjq
    omega
  · have := h10 j hj
    subst this
    simp [copT, upd]
theorem copied1 (H : HHeap) (hi : H.In) : Ok Try.prog 66 [.agg (encHeap H)] (fun x T => x = .agg [.own 10, iv H.cap, iv H.last] ∧ T = upd noT 10 (.live 43 6 (encObjs H.objs))) :=
  (copied_ok H hi).fz fun x T ⟨hx, hT⟩ => ⟨id, _, .agg [.own 10, iv H.cap, iv H.last], ⟨rfl, rfl⟩, hT ▸ fz_cop H.objs, by
    subst hx; subst hT
    exact fz_agg ⟨fz_own rfl (by simp [upd]), fz_v _, fz_v _, trivial⟩⟩
def refB (i : Int) : Bool := decide (0 ≤ i ∧ i < 1048576)
def refV (i : Int) : Int := if refB i = true then 2 * i else 0
theorem Ref_ok (i : Int) : Gives Try.prog 58 [iv i] (.tup [iv (refV i), bv (refB i)]) := by
  refine gives_of Try.func58 rfl (Nat.le_of_ble_eq_true rfl) ?_
  (repeat' (first | refine mv ?_ | refine asg ?_ | refine aops_nil ?_ | refine aw_seq ?_ | refine aw_region ?_ | fail))
  refine cl (object_ok _) ?_
  (repeat' (first | refine un ?_ | refine aops_nil ?_ | fail))
  refine aw_cond rfl (fun h => ?_) (fun h => ?_) <;> simp at h <;> (repeat' (first | refine mv ?_ | refine asg ?_ | refine sll (c := 2) ?_ | refine aops_nil ?_ | refine aw_seq ?_ | refine aw_region ?_ | refine aw_skip ?_ | refine aw_ret ?_ | fail))
  · refine fin (sh_ib ?_ ?_) <;> simp [refV, refB] <;> omega
  refine fin (sh_ib ?_ ?_) <;> simp [refV, refB] <;> omega
def zerosB (n : Nat) : ByteArray := strOfNums (List.replicate n 0)
def newObj (H : HHeap) (cls kind size : Int) : HObj :=
  ⟨cls, kind, if kind = 0 then List.replicate size.toNat 0 else [], if kind = 1 then zerosB size.toNat else ⟨#[]⟩, 0, nextI H.last⟩
theorem mayH_len {H : HHeap} (h : mayH H = true) : H.objs.length ≤ 256 ∧ (H.objs.length : Int) ≤ H.cap ∧ H.cap ≤ 256 := by
  simp [mayH] at h; omega
theorem sh_empty3 {T : Nat → Ob} {H' : HHeap} {v v' e e' : Int} (h : emptyH = H') (hv : v = v') (he : e = e') : Sh T (.tup [.agg [.v (.slice none 0 0), iv 0, iv 0], iv v, iv e]) (.tup [.agg (encHeap H'), iv v', iv e']) := by
  subst h; subst hv; subst he
  exact sh_tup ⟨sh_agg ⟨.nil 6, .same _ (.v _), .same _ (.v _), trivial⟩, .same _ (.v _), .same _ (.v _), trivial⟩
end Go.Proofs.Ytemcemimipagoaa
