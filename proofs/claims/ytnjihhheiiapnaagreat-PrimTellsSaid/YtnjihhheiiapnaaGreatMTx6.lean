/- What the statements' walks need. -/
import Derived.Test.YtnjihhheiiapnaaGreatMTa4
import Derived.Test.YtnjihhheiiapnaaGreatMTx4
import Derived.Test.YtnjihhheiiapnaaGreatMTx5
import Derived.Test.YtnjihhheiiapnaaGreatMTa2
set_option linter.unusedVariables false
set_option linter.unusedSimpArgs false
set_option maxRecDepth 100000
namespace Go.Proofs.YtnjihhheiiapnaaGreat
open Go Go.Proofs AW
theorem wrong0 {H : HHeap} {v kind a : Int} (h : wrongE H v kind a = 0) : mayH H = true ∧ 0 ≤ H.ref v ∧ (H.at' v).kind = kind ∧ 0 ≤ a ∧ a < ((H.at' v).slots.length : Int) + ((H.at' v).text.size : Int) := by
  unfold wrongE at h
  by_cases h1 : mayH H = false
  · rw [if_pos h1] at h; omega
  rw [if_neg h1] at h
  by_cases h2 : H.ref v < 0
  · rw [if_pos h2] at h; omega
  rw [if_neg h2] at h
  by_cases h3 : (H.at' v).kind ≠ kind
  · rw [if_pos h3] at h; omega
  rw [if_neg h3] at h
  by_cases h4 : a < 0 ∨ ((H.at' v).slots.length : Int) + ((H.at' v).text.size : Int) ≤ a
  · rw [if_pos h4] at h; omega
  exact ⟨by simpa using h1, by omega, by simpa using h3, by omega, by omega⟩
theorem kind_lens {H : HHeap} {v : Int} (h1 : mayH H = true) (h2 : 0 ≤ H.ref v) : ((H.at' v).kind ≠ 0 → (H.at' v).slots.length = 0) ∧ ((H.at' v).kind ≠ 1 → (H.at' v).text.size = 0) := by
  have := may_obj h1 (at_mem h2)
  simp only [mayObj, kindB, Bool.and_eq_true, decide_eq_true_eq] at this
  exact ⟨this.2.1.1, this.2.1.2.1⟩
def getI (H : HHeap) (v a : Int) : Int := if wrongE H v 0 a = 0 then ((H.at' v).slots[a.toNat]?).getD 0 else 0
def byteI (H : HHeap) (v a : Int) : Int := if wrongE H v 1 a = 0 then btA (H.at' v).text a else 0
theorem btA_lt (b : ByteArray) (a : Int) : 0 ≤ btA b a ∧ btA b a < 256 := by
  unfold btA
  have := ((b.data[a.toNat]?).getD 0).toNat_lt
  omega
set_option maxRecDepth 100000 in
set_option maxHeartbeats 4000000 in
theorem Get_ok (H : HHeap) (hi : H.In) (v a : Int) : Gives Tryz.prog 121 [.agg (encHeap H), iv v, iv a] (.tup [iv (getI H v a), iv (wrongE H v 0 a)]) := by
  refine gives_of Tryz.func121 rfl (Nat.le_of_ble_eq_true rfl) ?_
  (repeat' (first | refine mv ?_ | refine asg ?_ | refine la ?_ | refine aops_nil ?_ | refine aw_seq ?_ | refine aw_region ?_ | refine bx 0 ?_ | fail))
  refine cl (place_ok H hi v 0 a) ?_ (hno := ⟨noOwn_heap H, .v _, .v _, .v _, trivial⟩)
  (repeat' (first | refine mv ?_ | refine asg ?_ | refine bi ?_ | refine ex ?_ | refine aops_nil ?_ | refine aw_seq ?_ | refine aw_region ?_ | fail))
  refine aw_cond rfl (fun h1 => ?_) (fun h1 => ?_) <;> simp at h1 <;> (repeat' (first | refine mv ?_ | refine asg ?_ | refine ld ?_ | refine fp ?_ | refine aops_nil ?_ | refine aw_seq ?_ | refine aw_region ?_ | refine aw_skip ?_ | refine aw_ret ?_ | fail))
  · refine fin (sh_ii ?_ ?_) <;> simp [getI, h1]
  obtain ⟨m, hr, hk, ha, hb⟩ := wrong0 h1
  have hget := at_get hr
  have hsl : a.toNat < (H.at' v).slots.length := by have := (kind_lens m hr).2 (by omega); omega
  have hn : (if wrongE H v 0 a = 0 then H.ref v else 0) = ((H.ref v).toNat : Int) := by rw [if_pos h1, Int.toNat_of_nonneg hr]
  refine ia (H.ref v).toNat (objs_get hget) ?_ (hn := hn)
  (repeat' (first | refine mv ?_ | refine ld ?_ | refine fi ?_ | fail))
  refine ia a.toNat (ints_get (List.getElem?_eq_getElem hsl)) ?_ (hn := (Int.toNat_of_nonneg ha).symm)
  (repeat' (first | refine asg ?_ | refine ld ?_ | refine aops_nil ?_ | refine aw_ret ?_ | fail))
  refine fin (sh_ii ?_ ?_) <;> simp [getI, h1, hsl]
set_option maxRecDepth 100000 in
set_option maxHeartbeats 4000000 in
theorem Byte_ok (H : HHeap) (hi : H.In) (v a : Int) : Gives Tryz.prog 134 [.agg (encHeap H), iv v, iv a] (.tup [iv (byteI H v a), iv (wrongE H v 1 a)]) := by
  refine gives_of Tryz.func134 rfl (Nat.le_of_ble_eq_true rfl) ?_
  (repeat' (first | refine mv ?_ | refine asg ?_ | refine la ?_ | refine aops_nil ?_ | refine aw_seq ?_ | refine aw_region ?_ | refine bx 0 ?_ | fail))
  refine cl (place_ok H hi v 1 a) ?_ (hno := ⟨noOwn_heap H, .v _, .v _, .v _, trivial⟩)
  (repeat' (first | refine mv ?_ | refine asg ?_ | refine bi ?_ | refine ex ?_ | refine aops_nil ?_ | refine aw_seq ?_ | refine aw_region ?_ | fail))
  refine aw_cond rfl (fun h1 => ?_) (fun h1 => ?_) <;> simp at h1 <;> (repeat' (first | refine mv ?_ | refine asg ?_ | refine ld ?_ | refine fp ?_ | refine aops_nil ?_ | refine aw_seq ?_ | refine aw_region ?_ | refine aw_skip ?_ | refine aw_ret ?_ | fail))
  · refine fin (sh_ii ?_ ?_) <;> simp [byteI, h1]
  obtain ⟨m, hr, hk, ha, hb⟩ := wrong0 h1
  have hget := at_get hr
  have hsl : a < ((H.at' v).text.size : Int) := by have := (kind_lens m hr).1 (by omega); omega
  have hn : (if wrongE H v 1 a = 0 then H.ref v else 0) = ((H.ref v).toNat : Int) := by rw [if_pos h1, Int.toNat_of_nonneg hr]
  refine ia (H.ref v).toNat (objs_get hget) ?_ (hn := hn)
  (repeat' (first | refine mv ?_ | refine ld ?_ | refine fi ?_ | fail))
  refine ix hsl ?_
  (repeat' (first | refine asg ?_ | refine cv' ?_ | refine aops_nil ?_ | refine aw_ret ?_ | fail))
  refine fin (sh_ii ?_ ?_) <;> simp [byteI, h1]
  exact wrap_id (by have := btA_lt (H.at' v).text a; omega)
set_option maxRecDepth 100000 in
set_option maxHeartbeats 4000000 in
theorem rwrong_ok (H : HHeap) (hi : H.In) (v kind a : Int) (hk : kind = 0 ∨ kind = 1) : Gives Tryz.prog 136 [.agg (encHeap H), iv v, iv kind, iv a] (iv (wrongE H v kind a)) := by
  refine gives_of Tryz.func136 rfl (Nat.le_of_ble_eq_true rfl) ?_
  (repeat' (first | refine asg ?_ | refine la ?_ | refine aops_nil ?_ | refine aw_seq ?_ | refine aw_region ?_ | refine bx 0 ?_ | fail))
  refine cl (rMay_ok H hi) ?_ (hno := ⟨noOwn_heap H, trivial⟩)
  (repeat' (first | refine un ?_ | refine aops_nil ?_ | fail))
  refine aw_cond rfl (fun h1 => ?_) (fun h1 => ?_) <;> simp at h1 <;> (repeat' (first | refine mv ?_ | refine asg ?_ | refine la ?_ | refine aops_nil ?_ | refine aw_seq ?_ | refine aw_region ?_ | refine aw_skip ?_ | refine aw_ret ?_ | fail))
  · refine fin (sh_iv ?_); simp [wrongE, h1]
  refine cl (rRef_ok H _ hi.2.2.2) ?_ (hno := ⟨noOwn_heap H, .v _, trivial⟩)
  (repeat' (first | refine mv ?_ | refine asg ?_ | refine bi ?_ | refine aops_nil ?_ | refine aw_seq ?_ | refine aw_region ?_ | fail))
  refine aw_cond rfl (fun h2 => ?_) (fun h2 => ?_) <;> simp at h2 <;> (repeat' (first | refine mv ?_ | refine asg ?_ | refine ld ?_ | refine fp ?_ | refine aops_nil ?_ | refine aw_seq ?_ | refine aw_region ?_ | refine aw_skip ?_ | refine aw_ret ?_ | fail))
  · refine fin (sh_iv ?_); simp [wrongE, h1, HHeap.ref, h2]
  have hr : 0 ≤ H.ref v := by simpa [HHeap.ref] using h2
  have hget := at_get hr
  have hn : refI H.objs.length v = ((H.ref v).toNat : Int) := by rw [Int.toNat_of_nonneg hr]; simp [HHeap.ref]
  have e2 : ¬ H.ref v < 0 := by omega
  (repeat' (first | refine sk ?_ | refine mv ?_ | refine asg ?_ | refine ld ?_ | refine fp ?_ | refine fi ?_ | refine bi ?_ | refine pt ?_ | refine pf ?_ | refine ln ?_ | refine lns ?_ | refine aops_nil ?_ | refine aw_seq ?_ | refine aw_region ?_ | refine aw_cond_t rfl ?_ | refine aw_skip ?_ | refine aw_ret ?_ | refine ia (H.ref v).toNat (objs_get hget) ?_ (hn := hn) | refine gs (fun h => ?_) (fun h => ?_) | refine aw_cond rfl (fun h => ?_) (fun h => ?_) | fail))
  all_goals refine fin (sh_iv ?_)
  all_goals simp at *
  all_goals have kl := kind_lens h1 hr
  all_goals simp [wrongE, h1, e2]
  all_goals grind
end Go.Proofs.YtnjihhheiiapnaaGreat
