/- What the statements' walks need. -/
import Derived.Test.YtemcemimipagoaaMVa4
import Derived.Test.YtemcemimipagoaaMVx5
import Derived.Test.YtemcemimipagoaaMVx13
import Derived.Test.YtemcemimipagoaaMVa2
set_option linter.unusedVariables false
set_option linter.unusedSimpArgs false
set_option maxRecDepth 100000
namespace Go.Proofs.Ytemcemimipagoaa
open Go Go.Proofs AW
def encOwn (o : HObj) (m : Nat) : List AV := [iv o.cls, iv o.kind, .own m, sv o.text, iv o.bits, iv o.hash]
def encPart (k : Nat) (l : List HObj) : List (List AV) := l.mapIdx fun i o => if i < k then encOwn o (11 + i) else encObj o
def slotsOf (l : List HObj) (i : Nat) : List Int := (l[i]?).elim [] (·.slots)
theorem slotsOf_get {l : List HObj} {i : Nat} {o : HObj} (h : l[i]? = some o) : slotsOf l i = o.slots := by simp [slotsOf, h]
def rT (k : Nat) (l : List HObj) : Nat → Ob := fun j => if 11 ≤ j ∧ j < 11 + k then .live 3 1 (encInts (slotsOf l (j - 11))) else .no
def copT (k : Nat) (l : List HObj) : Nat → Ob := upd (rT k l) 10 (.live 43 6 (encPart k l))
@[simp] theorem len_part (k : Nat) (l : List HObj) : (encPart k l).length = l.length := by simp [encPart]
theorem part_get {k : Nat} {l : List HObj} {i : Nat} {o : HObj} (h : l[i]? = some o) : (encPart k l)[i]? = some (if i < k then encOwn o (11 + i) else encObj o) := by simp [encPart, h]
theorem part_zero (l : List HObj) : encPart 0 l = encObjs l := by
  apply List.ext_getElem?; intro i
  simp [encPart, encObjs]
theorem part_set {k : Nat} {l : List HObj} {o : HObj} (h : l[k]? = some o) : (encPart k l).set k (encOwn o (11 + k)) = encPart (k + 1) l := by
  apply List.ext_getElem?; intro i
  rw [List.getElem?_set]
  have hk : k < l.length := (List.getElem?_eq_some_iff.1 h).1
  by_cases hik : k = i
  · subst hik
    rw [if_pos rfl, if_pos (by simpa using hk), part_get h, if_pos (by omega)]
  · rw [if_neg hik]
    simp only [encPart, List.getElem?_mapIdx]
    cases l[i]? with
    | none => rfl
    | some p =>
      simp only [Option.map_some]
      by_cases h1 : i < k
      · rw [if_pos h1, if_pos (by omega)]
      · rw [if_neg h1, if_neg (by omega)]
def wT (H : HHeap) (k : Nat) : Nat → Ob := upd (upd (copT k H.objs) 0 (.live 24 3 [[.own 10, iv H.cap, iv H.last]])) 1 (.live 24 3 [[.v (.slice none 0 0), iv 0, iv 0]])
theorem wT_no (H : HHeap) (k : Nat) : wT H k (11 + k) = .no := by
  have h0 : ¬ 11 + k = 0 := by omega
  have h1 : ¬ 11 + k = 1 := by omega
  have h2 : ¬ 11 + k = 10 := by omega
  simp [wT, upd, copT, rT, h0, h1, h2]
def wT1 (H : HHeap) (k : Nat) (X : List Int) : Nat → Ob := upd (upd (upd (upd (rT k H.objs) (11 + k) (.live 3 1 (encInts X))) 10 (.live 43 6 (encPart k H.objs))) 0 (.live 24 3 [[.own 10, iv H.cap, iv H.last]])) 1 (.live 24 3 [[.v (.slice none 0 0), iv 0, iv 0]])
theorem wT1_at (H : HHeap) (k : Nat) (X : List Int) : wT1 H k X (11 + k) = .live 3 1 (encInts X) := by
  have h0 : ¬ 11 + k = 0 := by omega
  have h1 : ¬ 11 + k = 1 := by omega
  have h2 : ¬ 11 + k = 10 := by omega
  simp [wT1, upd, h0, h1, h2]
theorem wT_wT1 (H : HHeap) (k : Nat) (X : List Int) : mergeT (wT H k) (upd noT (11 + k) (.live 3 1 (encInts X))) = wT1 H k X := by
  rw [merge_one]
  funext j
  simp only [wT, wT1, copT, upd]
  by_cases h : j = 11 + k
  · subst h
    have h0 : ¬ 11 + k = 0 := by omega
    have h1 : ¬ 11 + k = 1 := by omega
    have h2 : ¬ 11 + k = 10 := by omega
    simp [h0, h1, h2]
  · simp [h]
theorem wT1_next {H : HHeap} {k : Nat} {o : HObj} (h : H.objs[k]? = some o) (j : Nat) : upd (wT1 H k o.slots) 10 (.live 43 6 ((encPart k H.objs).set k (encOwn o (11 + k)))) j = wT H (k + 1) j := by
  rw [part_set h]
  simp only [wT, wT1, copT, upd]
  by_cases h10 : j = 10
  · subst h10; simp
  by_cases h0 : j = 0
  · subst h0; simp
  by_cases h1 : j = 1
  · subst h1; simp
  simp only [h10, h0, h1, if_false, rT]
  by_cases hk : j = 11 + k
  · subst hk
    rw [if_pos rfl, if_pos (by omega), Nat.add_sub_cancel_left, slotsOf_get h]
  · rw [if_neg hk]
    by_cases hr : 11 ≤ j ∧ j < 11 + k
    · rw [if_pos hr, if_pos (by omega)]
    · rw [if_neg hr, if_neg (by omega)]
theorem copT_row {l : List HObj} {i : Nat} {o : HObj} (h : l[i]? = some o) : copT l.length l (11 + i) = .live 3 1 (encInts o.slots) := by
  have hi : i < l.length := (List.getElem?_eq_some_iff.1 h).1
  have h2 : ¬ 11 + i = 10 := by omega
  simp only [copT, upd, if_neg h2, rT]
  rw [if_pos (by omega), Nat.add_sub_cancel_left, slotsOf_get h]
theorem part_all (l : List HObj) {c : List AV} (hc : c ∈ encPart l.length l) : ∃ i o, l[i]? = some o ∧ c = encOwn o (11 + i) := by
  obtain ⟨i, hi, rfl⟩ := List.getElem_of_mem hc
  have hl : i < l.length := by simpa using hi
  have hg : l[i]? = some l[i] := List.getElem?_eq_getElem hl
  have h := part_get (k := l.length) hg
  rw [if_pos hl, List.getElem?_eq_getElem hi] at h
  exact ⟨i, l[i], hg, Option.some.inj h⟩
theorem copT_only (l : List HObj) (j e s : Nat) (es : List (List AV)) (h : copT l.length l j = .live e s es) : ∀ c ∈ es, ∀ y ∈ c, Only (copT l.length l) y := by
  intro c hc y hy
  by_cases h10 : j = 10
  · subst h10
    simp only [copT, upd, if_true] at h
    cases h
    obtain ⟨i, o, ho, rfl⟩ := part_all l hc
    simp only [encOwn, List.mem_cons, List.not_mem_nil, or_false] at hy
    rcases hy with rfl | rfl | rfl | rfl | rfl | rfl
    · exact .v _
    · exact .v _
    · exact .own _ (by rw [copT_row ho]; simp)
    · exact .v _
    · exact .v _
    · exact .v _
  · simp only [copT, upd, if_neg h10, rT] at h
    split at h
    · cases h
      simp only [encInts, List.mem_map] at hc
      obtain ⟨x, _, rfl⟩ := hc
      simp only [List.mem_singleton] at hy
      subst hy
      exact .v _
    · cases h
theorem cok_own {T : Nat → Ob} {i e s : Nat} {es : List (List AV)} (h : T i = .live e s es) : (cellsA (.own i)).all (cok1 T) = true := by simp [cellsA, cok1, h]
set_option maxRecDepth 100000 in
set_option maxHeartbeats 4000000 in
theorem copied_ok (H : HHeap) (hi : H.In) : Ok Try.prog 66 [.agg (encHeap H)] (fun x T => x = .agg [.own 10, iv H.cap, iv H.last] ∧ T = copT H.objs.length H.objs) := by
  obtain ⟨i1, i2, i3, i4⟩ := hi
  have i4' : H.objs.length < 1099511627776 := i4
  refine Ok.sub (R := fun x T => x = .agg [.own 10, iv H.cap, iv H.last] ∧ ∀ j, copT H.objs.length H.objs j = T j ∨ copT H.objs.length H.objs j = .no) ?_ ?_
  · refine ok_of Try.func66 rfl (Nat.le_of_ble_eq_true rfl) ?_
    (repeat' (first | refine ld ?_ | refine fp ?_ | refine aops_nil ?_ | refine aw_seq ?_ | refine aw_region ?_ | refine bx 0 ?_ | refine al 1 ?_ | fail))
    refine cr (clone_obj 10 H.objs i4') ?_ (hno := ⟨noOwn_objs 6 _, trivial⟩)
    (repeat' (first | refine mv ?_ | refine ld ?_ | refine fp ?_ | refine ln ?_ | refine so ?_ | refine aops_nil ?_ | refine aw_seq ?_ | refine aw_region ?_ | refine aw_block ?_ | fail))
    refine aw_for H.objs.length (fun k => k ≤ H.objs.length) (fun k => ⟨[(11, iv (k : Int)), (10, iv ((encObjs H.objs).length : Int)), (1, .ptr 0 0 0), (2, .ptr 1 0 0)], wT H k⟩) 0 (Nat.zero_le _) ?_ ?_
    · refine ent_T (fun j => ?_) ⟨rfl, rfl, rfl, rfl, trivial⟩
      simp only [wT, copT, part_zero, ASt.put, upd, rT, noT]
      by_cases h0 : j = 0
      · subst h0; rfl
      by_cases h1 : j = 1
      · subst h1; rfl
      by_cases h2 : j = 10
      · subst h2; rfl
      simp only [h0, h1, h2, if_false]
      rw [if_neg (by omega)]
    · rintro k hk
      (repeat' (first | refine bi ?_ | refine aops_nil ?_ | refine aw_seq ?_ | refine aw_region ?_ | fail))
      refine aw_cond rfl (fun h => ?_) (fun h => ?_) <;> simp at h
      · (repeat' (first | refine mv ?_ | refine asg ?_ | refine aops_nil ?_ | refine aw_seq ?_ | refine aw_region ?_ | refine aw_block ?_ | refine aw_skip ?_ | fail))
        have hget : H.objs[k]? = some H.objs[k] := List.getElem?_eq_getElem h
        have hsl : (H.objs[k]).slots.length < 1099511627776 := (i1 _ (List.getElem_mem h)).2.2.2.2.2.1
        have hp := part_get (k := k) hget
        rw [if_neg (Nat.lt_irrefl k)] at hp
        refine aw_draw 10 (some (9, wT1 H k (H.objs[k]).slots)) ?_
        refine d2 (y_faddr_ptr (hs := Nat.le_of_ble_eq_true rfl)) (y_faddr_ptr (hs := Nat.le_of_ble_eq_true rfl)) ?_
        refine d2 y_load y_load ?_
        refine d2 y_move y_move ?_
        refine d2 (y_faddr_ptr (hs := Nat.le_of_ble_eq_true rfl)) (y_faddr_ptr (hs := Nat.le_of_ble_eq_true rfl)) ?_
        refine d2 y_load y_load ?_
        refine d2 y_move y_move ?_
        refine d2 (y_iaoN k (by rw [len_part k H.objs]; exact h)) (y_iaoN k (by rw [len_part k H.objs]; exact h)) ?_
        refine d2 (y_faddr_ptr (hs := Nat.le_of_ble_eq_true rfl)) (y_faddr_ptr (hs := Nat.le_of_ble_eq_true rfl)) ?_
        refine d2 (y_loadP hp) (y_loadP hp) ?_
        refine de (y_callE (wT_wT1 _ _ _) (clone_int (11 + k) _ hsl) (fun j hj => ?_) (hno := ⟨noOwn_ints 1 _, trivial⟩)) ?_
        · simp only [upd, noT] at hj
          by_cases hjk : j = 11 + k
          · subst hjk; exact wT_no H k
          · rw [if_neg hjk] at hj; exact absurd rfl hj
        refine dn ?_
        refine iao k (by rw [len_part k H.objs]; exact h) ?_
        refine fp ?_
        refine so ?_ (hq := hp) (hx := cok_own (wT1_at H k _))
        (repeat' (first | refine mv ?_ | refine bw ?_ | refine aops_nil ?_ | refine aw_region ?_ | fail))
        refine ⟨h, h, ent_T (wT1_next hget) ⟨rfl, rfl, rfl, rfl, trivial⟩⟩
      · have hkk : k = H.objs.length := by omega
        subst hkk
        (repeat' (first | refine la ?_ | refine so ?_ | refine aops_nil ?_ | refine aw_seq ?_ | refine aw_region ?_ | refine aw_exit ?_ | refine aw_ret ?_ | fail))
        refine ⟨.inl rfl, _, rfl, rfl, fun j => ?_⟩
        by_cases h0 : j = 0
        · subst h0; exact .inr rfl
        by_cases h1 : j = 1
        · subst h1; exact .inr rfl
        refine .inl ?_
        simp only [upd, wT, ASt.put, h0, h1, if_false]
  · rintro x T ⟨rfl, hT⟩
    refine ⟨copT H.objs.length H.objs, ⟨rfl, rfl⟩, hT, .agg _ fun y hy => ?_, copT_only H.objs⟩
    simp only [List.mem_cons, List.not_mem_nil, or_false] at hy
    rcases hy with rfl | rfl | rfl
    · exact .own 10 (by simp [copT, upd])
    · exact .v _
    · exact .v _
end Go.Proofs.Ytemcemimipagoaa
