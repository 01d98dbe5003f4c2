/- What the statements' walks need. -/
import Derived.Test.YtbmldjcddpblnaaMQa4
import Derived.Test.YtbmldjcddpblnaaMQx13
import Derived.Test.YtbmldjcddpblnaaMQx14
import Derived.Test.YtbmldjcddpblnaaMQa2
import Derived.Test.YtbmldjcddpblnaaMQx15
import Derived.Test.YtbmldjcddpblnaaMQa3
set_option linter.unusedVariables false
set_option linter.unusedSimpArgs false
set_option maxRecDepth 100000
namespace Go.Proofs.Ytbmldjcddpblnaa
open Go Go.Proofs AW
theorem mayH_iff {H : HHeap} : mayH H = true ↔ (1 ≤ H.cap ∧ H.cap ≤ 256 ∧ (H.objs.length : Int) ≤ H.cap ∧ 0 ≤ H.last ∧ H.last ≤ 1073741823) ∧ ∀ o ∈ H.objs, mayObj H.objs.length o = true := by
  simp [mayH]
@[simp] theorem put_len (H : HHeap) (i : Nat) (o : HObj) : (H.put i o).objs.length = H.objs.length := by simp [HHeap.put]
@[simp] theorem put_ref (H : HHeap) (i : Nat) (o : HObj) (v : Int) : (H.put i o).ref v = H.ref v := by simp [HHeap.ref]
theorem put_in {H : HHeap} (h : H.In) {o : HObj} (ho : o.In) (i : Nat) : (H.put i o).In := by
  refine ⟨fun p hp => ?_, h.2.1, h.2.2.1, by rw [put_len]; exact h.2.2.2⟩
  rcases List.mem_or_eq_of_mem_set hp with hp | rfl
  · exact h.1 p hp
  · exact ho
theorem put_may {H : HHeap} (h : mayH H = true) {o : HObj} (ho : mayObj H.objs.length o = true) (i : Nat) : mayH (H.put i o) = true := by
  rw [mayH_iff] at h ⊢
  rw [put_len]
  refine ⟨h.1, fun p hp => ?_⟩
  rcases List.mem_or_eq_of_mem_set hp with hp | rfl
  · exact h.2 p hp
  · exact ho
theorem put_at_same {H : HHeap} {v : Int} (h : 0 ≤ H.ref v) (o : HObj) : (H.put (H.ref v).toNat o).at' v = o := by
  simp only [HHeap.at', put_ref]
  simp only [HHeap.put]
  rw [List.getElem?_set_self (ref_lt h)]
  rfl
theorem put_at_other {H : HHeap} {v : Int} {i : Nat} (h : (H.ref v).toNat ≠ i) (o : HObj) : (H.put i o).at' v = H.at' v := by
  simp only [HHeap.at', put_ref]
  simp only [HHeap.put]
  rw [List.getElem?_set_ne (Ne.symm h)]
theorem put_put (H : HHeap) (i : Nat) (o p : HObj) : (H.put i o).put i p = H.put i p := by simp [HHeap.put]
theorem put_self {H : HHeap} {v : Int} (h : 0 ≤ H.ref v) : H.put (H.ref v).toNat (H.at' v) = H := by
  refine heap_ext rfl rfl ?_
  have := at_get h
  simp only [HHeap.put]
  apply List.ext_getElem?
  intro j
  by_cases hj : (H.ref v).toNat = j
  · subst hj; rw [List.getElem?_set_self (ref_lt h), this]
  · rw [List.getElem?_set_ne hj]
theorem at_in {H : HHeap} (h : H.In) {v : Int} (hv : 0 ≤ H.ref v) : (H.at' v).In := h.1 _ (at_mem hv)
theorem has_in {n v : Int} (h : hasB n v = true) (hn : n < 1099511627776) : In64 v := by
  simp only [hasB, Bool.or_eq_true, decide_eq_true_eq] at h
  unfold In64
  rcases h with h | h
  · simp only [isN, decide_eq_true_eq] at h; omega
  · unfold refI at h
    split at h
    · rename_i hc; simp only [isAt, decide_eq_true_eq] at hc; omega
    · omega
theorem set0 {H : HHeap} {v slot x : Int} (h : setE H v slot x = 0) : wrongE H v 0 slot = 0 ∧ hasB H.objs.length x = true ∧ setH H v slot x = H.put (H.ref v).toNat { H.at' v with slots := (H.at' v).slots.set slot.toNat x } := by
  have h' := h
  simp only [setE] at h
  split at h
  · rename_i h1
    split at h
    · rename_i h2
      exact ⟨h1, h2, by simp [setH, h']⟩
    · omega
  · exact absurd h (by assumption)
theorem slots_in {o : HObj} (h : o.In) {k : Nat} {x : Int} (hx : In64 x) : ({ o with slots := o.slots.set k x } : HObj).In := by
  obtain ⟨h1, h2, h3, h4, h5, h6, h7⟩ := h
  refine ⟨h1, h2, fun y hy => ?_, h4, h5, by simpa using h6, h7⟩
  rcases List.mem_or_eq_of_mem_set hy with hy | rfl
  · exact h3 y hy
  · exact hx
theorem slots_may {n : Int} {o : HObj} (h : mayObj n o = true) {k : Nat} {x : Int} (hx : hasB n x = true) : mayObj n { o with slots := o.slots.set k x } = true := by
  simp only [mayObj, headB, kindB, restB, Bool.and_eq_true, decide_eq_true_eq, List.length_set, List.all_eq_true] at h ⊢
  refine ⟨h.1, h.2.1, h.2.2.1, fun y hy => ?_⟩
  rcases List.mem_or_eq_of_mem_set hy with hy | rfl
  · exact h.2.2.2 y hy
  · exact hx
theorem keptH_in {H : HHeap} (h : H.In) (e : Int) : (keptH H e).In := by
  unfold keptH; split
  · simp [emptyH, HHeap.In, In64]
  · exact h
theorem setH_in {H : HHeap} (h : H.In) {v slot x : Int} : (setH H v slot x).In := by
  by_cases he : setE H v slot x = 0
  · obtain ⟨h1, h2, h3⟩ := set0 he
    obtain ⟨_, hr, _⟩ := wrong0 h1
    rw [h3]
    exact put_in h (slots_in (at_in h hr) (has_in h2 (by have := h.2.2.2; omega))) _
  · simp only [setH, he, if_false]; exact keptH_in h _
theorem setH_may {H : HHeap} {v slot x : Int} (he : setE H v slot x = 0) : mayH (setH H v slot x) = true := by
  obtain ⟨h1, h2, h3⟩ := set0 he
  obtain ⟨hm, hr, _⟩ := wrong0 h1
  rw [h3]
  exact put_may hm (slots_may (may_obj hm (at_mem hr)) h2) _
end Go.Proofs.Ytbmldjcddpblnaa
namespace Go.Proofs.Ytbmldjcddpblnaa
open Go Go.Proofs AW
theorem _root_.Go.Proofs.Ytbmldjcddpblnaa.AW.Gives.to' {P : Program} {f : Nat} {args : List AV} {x y : AV} (h : Gives P f args x) (e : x = y) : Gives P f args y := e ▸ h
theorem ref_cases (H : HHeap) (v : Int) : (isAt v = false ∧ H.ref v = -1) ∨ (isAt v = true ∧ atI v = v / 2 ∧ (H.objs.length : Int) ≤ v / 2 ∧ H.ref v = -1) ∨ (isAt v = true ∧ atI v = H.ref v ∧ 0 ≤ H.ref v ∧ H.ref v < H.objs.length) := by
  cases h : isAt v with
  | false => left; exact ⟨rfl, by simp [HHeap.ref, refI, h]⟩
  | true =>
    have h' : v % 2 = 0 ∧ 0 ≤ v ∧ v ≤ 2097150 := by simpa [isAt] using h
    by_cases h2 : v / 2 < (H.objs.length : Int)
    · right; right
      have e : H.ref v = v / 2 := by simp [HHeap.ref, refI, h, h2]
      exact ⟨rfl, by simp [atI, h, e], by omega, by omega⟩
    · right; left
      exact ⟨rfl, by simp [atI, h], by omega, by simp [HHeap.ref, refI, h, h2]⟩
set_option maxHeartbeats 4000000 in
theorem object_some (H : HHeap) (v kind : Int) (h : 0 ≤ H.ref v ∧ (H.at' v).kind = kind) : Gives Try.prog 93 [.agg (encHeap H), iv v, iv kind] (.ip (encObj (H.at' v))) := by
  obtain ⟨h1, h2⟩ := h
  rcases ref_cases H v with ⟨_, h3⟩ | ⟨_, _, _, h3⟩ | ⟨a1, a2, a3, a4⟩
  · omega
  · omega
  have c1 : Gives Try.prog 102 [iv v] (.tup [iv (H.ref v), bv true]) := (At_ok v).to' (by rw [a1, a2])
  have hget := at_get h1
  have hn : H.ref v = ((H.ref v).toNat : Int) := (Int.toNat_of_nonneg h1).symm
  have hnk : ¬ (H.at' v).kind ≠ kind := fun e => e h2
  refine gives_of Try.func93 rfl (Nat.le_of_ble_eq_true rfl) ?_
  (repeat' (first | refine mv ?_ | refine asg ?_ | refine ld ?_ | refine fp ?_ | refine fi ?_ | refine bf ?_ | refine un ?_ | refine pf ?_ | refine ex ?_ | refine ln ?_ | refine aops_nil ?_ | refine aw_seq ?_ | refine aw_region ?_ | refine aw_cond_f rfl ?_ | refine aw_skip ?_ | refine aw_ret ?_ | refine bx 0 ?_ | refine cl c1 ?_ | refine ia (H.ref v).toNat (objs_get hget) ?_ (hn := hn) | fail))
  exact fin (.same _ (by rw [noOwn_ip]; exact noOwn_obj _))
set_option maxHeartbeats 4000000 in
theorem object_none (H : HHeap) (v kind : Int) (h : ¬ (0 ≤ H.ref v ∧ (H.at' v).kind = kind)) : Gives Try.prog 93 [.agg (encHeap H), iv v, iv kind] (.v (.pointer none)) := by
  rcases ref_cases H v with ⟨h3, h4⟩ | ⟨a1, a2, a3, a4⟩ | ⟨a1, a2, a3, a4⟩
  · have c1 : Gives Try.prog 102 [iv v] (.tup [iv (atI v), bv false]) := (At_ok v).to' (by rw [h3])
    refine gives_of Try.func93 rfl (Nat.le_of_ble_eq_true rfl) ?_
    (repeat' (first | refine sk ?_ | refine mv ?_ | refine asg ?_ | refine un ?_ | refine pt ?_ | refine ex ?_ | refine aops_nil ?_ | refine aw_seq ?_ | refine aw_region ?_ | refine aw_cond_t rfl ?_ | refine aw_ret ?_ | refine bx 0 ?_ | refine cl c1 ?_ | fail))
    exact fin (.same _ (.v _))
  · have c1 : Gives Try.prog 102 [iv v] (.tup [iv (v / 2), bv true]) := (At_ok v).to' (by rw [a1, a2])
    refine gives_of Try.func93 rfl (Nat.le_of_ble_eq_true rfl) ?_
    (repeat' (first | refine sk ?_ | refine mv ?_ | refine asg ?_ | refine ld ?_ | refine fp ?_ | refine bt ?_ | refine un ?_ | refine pt ?_ | refine pf ?_ | refine ex ?_ | refine ln ?_ | refine aops_nil ?_ | refine aw_seq ?_ | refine aw_region ?_ | refine aw_cond_t rfl ?_ | refine aw_ret ?_ | refine bx 0 ?_ | refine cl c1 ?_ | fail))
    exact fin (.same _ (.v _))
  · have c1 : Gives Try.prog 102 [iv v] (.tup [iv (H.ref v), bv true]) := (At_ok v).to' (by rw [a1, a2])
    have hget := at_get a3
    have hn : H.ref v = ((H.ref v).toNat : Int) := (Int.toNat_of_nonneg a3).symm
    have hk : ¬ (H.at' v).kind = kind := fun e => h ⟨a3, e⟩
    refine gives_of Try.func93 rfl (Nat.le_of_ble_eq_true rfl) ?_
    (repeat' (first | refine mv ?_ | refine asg ?_ | refine ld ?_ | refine fp ?_ | refine fi ?_ | refine bt ?_ | refine bf ?_ | refine un ?_ | refine pf ?_ | refine ex ?_ | refine ln ?_ | refine aops_nil ?_ | refine aw_seq ?_ | refine aw_region ?_ | refine aw_cond_t rfl ?_ | refine aw_ret ?_ | refine bx 0 ?_ | refine cl c1 ?_ | refine ia (H.ref v).toNat (objs_get hget) ?_ (hn := hn) | fail))
    exact fin (.same _ (.v _))
def smI (v most : Int) : Int := if isN v = true ∧ 0 ≤ nI v ∧ nI v ≤ most then nI v else -1
theorem small_ok' (v most : Int) : Gives Try.prog 95 [iv v, iv most] (iv (smI v most)) := by
  refine gives_of Try.func95 rfl (Nat.le_of_ble_eq_true rfl) ?_
  (repeat' (first | refine sk ?_ | refine mv ?_ | refine asg ?_ | refine bi ?_ | refine un ?_ | refine pt ?_ | refine pf ?_ | refine ex ?_ | refine aops_nil ?_ | refine aw_seq ?_ | refine aw_region ?_ | refine aw_cond_t rfl ?_ | refine aw_skip ?_ | refine aw_ret ?_ | refine cl (N_ok v) ?_ | refine gs (fun h => ?_) (fun h => ?_) | refine aw_cond rfl (fun h => ?_) (fun h => ?_) | fail))
  all_goals refine fin (sh_iv ?_)
  all_goals (simp at *; simp [smI]; first | done | omega | grind)
theorem there_ok (H : HHeap) (v : Int) : Gives Try.prog 58 [.agg (encHeap H), iv v] (bv (decide (0 ≤ H.ref v))) := by
  rcases ref_cases H v with ⟨h3, h4⟩ | ⟨a1, a2, a3, a4⟩ | ⟨a1, a2, a3, a4⟩
  · have c1 : Gives Try.prog 102 [iv v] (.tup [iv (atI v), bv false]) := (At_ok v).to' (by rw [h3])
    refine gives_of Try.func58 rfl (Nat.le_of_ble_eq_true rfl) ?_
    (repeat' (first | refine sk ?_ | refine mv ?_ | refine asg ?_ | refine pf ?_ | refine ex ?_ | refine aops_nil ?_ | refine aw_seq ?_ | refine aw_region ?_ | refine aw_ret ?_ | refine bx 0 ?_ | refine cl c1 ?_ | fail))
    exact fin (sh_bv (x := false) (by rw [h4]; rfl))
  · have c1 : Gives Try.prog 102 [iv v] (.tup [iv (v / 2), bv true]) := (At_ok v).to' (by rw [a1, a2])
    refine gives_of Try.func58 rfl (Nat.le_of_ble_eq_true rfl) ?_
    (repeat' (first | refine mv ?_ | refine asg ?_ | refine ld ?_ | refine fp ?_ | refine bf ?_ | refine pt ?_ | refine ex ?_ | refine ln ?_ | refine aops_nil ?_ | refine aw_seq ?_ | refine aw_region ?_ | refine aw_ret ?_ | refine bx 0 ?_ | refine cl c1 ?_ | fail))
    exact fin (sh_bv (x := false) (by rw [a4]; rfl))
  · have c1 : Gives Try.prog 102 [iv v] (.tup [iv (H.ref v), bv true]) := (At_ok v).to' (by rw [a1, a2])
    refine gives_of Try.func58 rfl (Nat.le_of_ble_eq_true rfl) ?_
    (repeat' (first | refine mv ?_ | refine asg ?_ | refine ld ?_ | refine fp ?_ | refine bt ?_ | refine pt ?_ | refine ex ?_ | refine ln ?_ | refine aops_nil ?_ | refine aw_seq ?_ | refine aw_region ?_ | refine aw_ret ?_ | refine bx 0 ?_ | refine cl c1 ?_ | fail))
    exact fin (sh_bv (x := true) (by simp [a3]))
theorem fhas_ok (H : HHeap) (v : Int) : Gives Try.prog 59 [.agg (encHeap H), iv v] (bv (hasB H.objs.length v)) := by
  refine gives_of Try.func59 rfl (Nat.le_of_ble_eq_true rfl) ?_
  cases hN : isN v with
  | true =>
    (repeat' (first | refine sk ?_ | refine mv ?_ | refine asg ?_ | refine pt ?_ | refine ex ?_ | refine aops_nil ?_ | refine aw_seq ?_ | refine aw_region ?_ | refine aw_ret ?_ | refine bx 0 ?_ | refine cl ((N_ok v).to' (congrArg (fun b => AV.tup [iv (nI v), bv b]) hN)) ?_ | fail))
    exact fin (sh_bv (x := true) (by simp [hasB, hN]))
  | false =>
    (repeat' (first | refine mv ?_ | refine asg ?_ | refine pf ?_ | refine ex ?_ | refine la ?_ | refine aops_nil ?_ | refine aw_seq ?_ | refine aw_region ?_ | refine aw_ret ?_ | refine bx 0 ?_ | refine cl ((N_ok v).to' (congrArg (fun b => AV.tup [iv (nI v), bv b]) hN)) ?_ | refine cl (there_ok H v) ?_ (hno := ⟨noOwn_heap _, noOwn_iv _, trivial⟩) | fail))
    exact fin (sh_bv (x := decide (0 ≤ H.ref v)) (by rw [hasB, hN, Bool.false_or]; rfl))
def numV (n : Int) : Int := if -1073741824 ≤ n ∧ n ≤ 1073741823 then n * 2 + 1 else 0
def smallB (n : Int) : Bool := decide (-1073741824 ≤ n ∧ n ≤ 1073741823)
theorem Int_ok (n : Int) : Gives Try.prog 64 [iv n] (.tup [iv (numV n), bv (smallB n)]) := by
  refine gives_of Try.func64 rfl (Nat.le_of_ble_eq_true rfl) ?_
  by_cases h : -1073741824 ≤ n ∧ n ≤ 1073741823
  · (repeat' (first | refine mv ?_ | refine asg ?_ | refine o1 ?_ | refine sll (c := 2) ?_ | refine un ?_ | refine aops_nil ?_ | refine aw_seq ?_ | refine aw_region ?_ | refine aw_cond_f rfl ?_ | refine aw_skip ?_ | refine aw_ret ?_ | refine cl ((small_ok n).to' (congrArg bv (decide_eq_true h))) ?_ | fail))
    exact fin (sh_ib (x := n * 2 + 1) (y := true) (by simp only [numV, if_pos h]) (decide_eq_true h).symm)
  · (repeat' (first | refine mv ?_ | refine asg ?_ | refine un ?_ | refine aops_nil ?_ | refine aw_seq ?_ | refine aw_region ?_ | refine aw_cond_t rfl ?_ | refine aw_ret ?_ | refine cl ((small_ok n).to' (congrArg bv (decide_eq_false h))) ?_ | fail))
    exact fin (sh_ib (x := 0) (y := false) (by simp only [numV, if_neg h]) (by simp only [smallB]; exact (decide_eq_false h).symm))
theorem number_ok' (n : Int) : Gives Try.prog 70 [iv n] (iv (numV n)) := by
  refine gives_of Try.func70 rfl (Nat.le_of_ble_eq_true rfl) ?_
  (repeat' (first | refine mv ?_ | refine asg ?_ | refine ex ?_ | refine aops_nil ?_ | refine aw_seq ?_ | refine aw_region ?_ | refine aw_ret ?_ | refine cl (Int_ok n) ?_ | fail))
  exact fin (sh_iv rfl)
end Go.Proofs.Ytbmldjcddpblnaa
