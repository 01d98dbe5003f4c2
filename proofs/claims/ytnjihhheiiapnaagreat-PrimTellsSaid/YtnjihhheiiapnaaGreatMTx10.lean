/- What the statements' walks need. -/
import Derived.Test.YtnjihhheiiapnaaGreatMTa4
import Derived.Test.YtnjihhheiiapnaaGreatMTx8
import Derived.Test.YtnjihhheiiapnaaGreatMTa3
set_option linter.unusedVariables false
set_option linter.unusedSimpArgs false
set_option maxRecDepth 100000
namespace Go.Proofs.YtnjihhheiiapnaaGreat
open Go Go.Proofs AW
theorem fz_cop (l : List HObj) : FzT id (copT l.length l) (upd noT 10 (.live 41 6 (encObjs l))) := by
  have h10 : ∀ j, upd noT 10 (.live 41 6 (encObjs l)) j ≠ .no → j = 10 := by
    intro j hj
    by_cases h : j = 10
    · exact h
    · simp [upd, noT, h] at hj
  refine ⟨fun j e s es' hj => ?_, fun j hj => ?_, fun i j hi hj h => h⟩
  · have := h10 j (by rw [hj]; simp)
    subst this
    simp only [upd, if_true] at hj
    cases hj
    refine ⟨encPart l.length l, rfl, by simp, fun q c c' hc hc' => ?_⟩
    obtain ⟨o, ho, rfl⟩ := objs_inv hc'
    have hql : q < l.length := (List.getElem?_eq_some_iff.1 ho).1
    rw [part_get ho, if_pos hql] at hc
    cases hc
    refine ⟨fz_v _, fz_v _, ?_, fz_v _, fz_v _, fz_v _, trivial⟩
    refine fz_flat (copT_row ho) (fun j e s es hj hjq => ?_) (fun c hc => by simp only [encInts, List.mem_map] at hc; obtain ⟨x, _, rfl⟩ := hc; rfl) fun c hc => noOwn_intsc hc
    have := h10 j (by rw [hj]; simp)
    subst this
    simp only [id] at hjq
    omega
  · have := h10 j hj
    subst this
    simp [copT, upd]
theorem copied1 (H : HHeap) (hi : H.In) : Ok Tryz.prog 148 [.agg (encHeap H)] (fun x T => x = .agg [.own 10, iv H.cap, iv H.last] ∧ T = upd noT 10 (.live 41 6 (encObjs H.objs))) :=
  (copied_ok H hi).fz fun x T ⟨hx, hT⟩ => ⟨id, _, .agg [.own 10, iv H.cap, iv H.last], ⟨rfl, rfl⟩, hT ▸ fz_cop H.objs, by
    subst hx; subst hT
    exact fz_agg ⟨fz_own rfl (by simp [upd]), fz_v _, fz_v _, trivial⟩⟩
theorem rcopy1 (H : HHeap) (hi : H.In) : Ok Tryz.prog 137 [.agg (encHeap H)] (fun x T => x = .agg [.own 10, iv H.cap, iv H.last] ∧ T = upd noT 10 (.live 41 6 (encObjs H.objs))) :=
  (rcopy_ok H hi).fz fun x T ⟨hx, hT⟩ => ⟨id, _, .agg [.own 10, iv H.cap, iv H.last], ⟨rfl, rfl⟩, hT ▸ fz_cop H.objs, by
    subst hx; subst hT
    exact fz_agg ⟨fz_own rfl (by simp [upd]), fz_v _, fz_v _, trivial⟩⟩
def refB (i : Int) : Bool := decide (0 ≤ i ∧ i < 1048576)
def refV (i : Int) : Int := if refB i = true then 2 * i else 0
theorem Ref_ok (i : Int) : Gives Tryz.prog 120 [iv i] (.tup [iv (refV i), bv (refB i)]) := by
  refine gives_of Tryz.func120 rfl (Nat.le_of_ble_eq_true rfl) ?_
  (repeat' (first | refine mv ?_ | refine asg ?_ | refine aops_nil ?_ | refine aw_seq ?_ | refine aw_region ?_ | fail))
  refine cl (object_ok _) ?_
  (repeat' (first | refine un ?_ | refine aops_nil ?_ | fail))
  refine aw_cond rfl (fun h => ?_) (fun h => ?_) <;> simp at h <;> (repeat' (first | refine mv ?_ | refine asg ?_ | refine sll (c := 2) ?_ | refine aops_nil ?_ | refine aw_seq ?_ | refine aw_region ?_ | refine aw_skip ?_ | refine aw_ret ?_ | fail))
  · refine fin (sh_ib ?_ ?_) <;> simp [refV, refB] <;> omega
  refine fin (sh_ib ?_ ?_) <;> simp [refV, refB] <;> omega
def zerosB (n : Nat) : ByteArray := strOfNums (List.replicate n 0)
theorem zerosB_size (n : Nat) : (zerosB n).size = n := by simp [zerosB, strOfNums_size]
def allocE (H : HHeap) (cls kind size : Int) : Int :=
  if mayH H = true then (if refI H.objs.length cls < 0 then 31 else if ¬ (0 ≤ kind ∧ kind ≤ 2) then 33 else if ¬ (0 ≤ size ∧ size ≤ 64) ∨ (kind = 2 ∧ 0 < size) then 32 else if (H.objs.length : Int) = H.cap then 30 else 0) else 1
def newObj (H : HHeap) (cls kind size : Int) : HObj :=
  ⟨cls, kind, if kind = 0 then List.replicate size.toNat 0 else [], if kind = 1 then zerosB size.toNat else ⟨#[]⟩, 0, nextI H.last⟩
def allocH (H : HHeap) (cls kind size : Int) : HHeap :=
  if allocE H cls kind size = 0 then ⟨H.objs ++ [newObj H cls kind size], H.cap, nextI H.last⟩ else keptH H (allocE H cls kind size)
def allocV (H : HHeap) (cls kind size : Int) : Int := if allocE H cls kind size = 0 then 2 * H.objs.length else 0
theorem mayH_len {H : HHeap} (h : mayH H = true) : H.objs.length ≤ 256 ∧ (H.objs.length : Int) ≤ H.cap ∧ H.cap ≤ 256 := by
  simp [mayH] at h; omega
theorem sh_keep3 {T : Nat → Ob} {H H' : HHeap} {v v' e e' : Int} (h : H = H') (hv : v = v') (he : e = e') : Sh T (.tup [.agg (encHeap H), iv v, iv e]) (.tup [.agg (encHeap H'), iv v', iv e']) := by
  subst h; subst hv; subst he
  exact sh_tup ⟨.same _ (noOwn_heap H), .same _ (.v _), .same _ (.v _), trivial⟩
theorem sh_empty3 {T : Nat → Ob} {H' : HHeap} {v v' e e' : Int} (h : emptyH = H') (hv : v = v') (he : e = e') : Sh T (.tup [.agg [.v (.slice none 0 0), iv 0, iv 0], iv v, iv e]) (.tup [.agg (encHeap H'), iv v', iv e']) := by
  subst h; subst hv; subst he
  exact sh_tup ⟨sh_agg ⟨.nil 6, .same _ (.v _), .same _ (.v _), trivial⟩, .same _ (.v _), .same _ (.v _), trivial⟩
def AllocR (H : HHeap) (cls kind size : Int) (x : AV) (T : Nat → Ob) : Prop :=
  (allocE H cls kind size ≠ 0 ∧ Sh T x (.tup [.agg (encHeap (allocH H cls kind size)), iv 0, iv (allocE H cls kind size)])) ∨
  (allocE H cls kind size = 0 ∧ x = .tup [.agg [.own 5, iv H.cap, iv (nextI H.last)], iv (2 * H.objs.length), iv 0] ∧
    ((kind = 0 ∧ T 5 = .live 41 6 (encObjs H.objs ++ [encOwn (newObj H cls kind size) 3]) ∧ T 3 = .live 3 1 (encInts (List.replicate size.toNat 0))) ∨
     (kind ≠ 0 ∧ T 5 = .live 41 6 (encObjs H.objs ++ [[iv cls, iv kind, .v (.slice none 0 0), sv (newObj H cls kind size).text, iv 0, iv (nextI H.last)]]))))
theorem zero_ints (n : Nat) : List.replicate n [iv 0] = encInts (List.replicate n 0) := by simp [encInts]
set_option maxRecDepth 100000 in
set_option maxHeartbeats 4000000 in
theorem Alloc_own (H : HHeap) (hi : H.In) (cls kind size : Int) : Ok Tryz.prog 150 [.agg (encHeap H), iv cls, iv kind, iv size] (AllocR H cls kind size) := by
  have hi' := hi
  obtain ⟨i1, i2, i3, i4⟩ := hi
  refine ok_of Tryz.func150 rfl (Nat.le_of_ble_eq_true rfl) ?_
  (repeat' (first | refine asg ?_ | refine ld ?_ | refine fp ?_ | refine ln ?_ | refine la ?_ | refine aops_nil ?_ | refine aw_seq ?_ | refine aw_region ?_ | refine aw_block ?_ | refine bx 0 ?_ | refine al 1 ?_ | fail))
  refine cl (May_ok H hi') ?_ (hno := ⟨noOwn_heap H, trivial⟩)
  (repeat' (first | refine asg ?_ | refine un ?_ | refine aops_nil ?_ | fail))
  refine aw_cond rfl (fun h1 => ?_) (fun h1 => ?_) <;> simp at h1 <;> (repeat' (first | refine mv ?_ | refine asg ?_ | refine so ?_ | refine bd ?_ | refine aops_nil ?_ | refine aw_seq ?_ | refine aw_region ?_ | refine aw_ret ?_ | fail))
  · have e1 : allocE H cls kind size = 1 := by simp [allocE, h1]
    exact ⟨.inl rfl, _, rfl, .inl ⟨by simp [e1], sh_empty3 (by simp [allocH, e1, keptH]) rfl e1.symm⟩⟩
  refine cl (ref_ok _ _) ?_
  (repeat' (first | refine asg ?_ | refine bi ?_ | refine aops_nil ?_ | fail))
  refine aw_cond rfl (fun h2 => ?_) (fun h2 => ?_) <;> simp at h2 <;> (repeat' (first | refine mv ?_ | refine asg ?_ | refine la ?_ | refine so ?_ | refine aops_nil ?_ | refine aw_seq ?_ | refine aw_region ?_ | refine aw_ret ?_ | fail))
  · have e1 : allocE H cls kind size = 31 := by simp [allocE, h1, h2]
    exact ⟨.inl rfl, _, rfl, .inl ⟨by simp [e1], sh_keep3 (by simp [allocH, e1, keptH]) rfl e1.symm⟩⟩
  refine cl (in_ok _ _) ?_
  (repeat' (first | refine asg ?_ | refine un ?_ | refine aops_nil ?_ | fail))
  refine aw_cond rfl (fun h3 => ?_) (fun h3 => ?_) <;> simp at h3
  · (repeat' (first | refine asg ?_ | refine la ?_ | refine so ?_ | refine aops_nil ?_ | refine aw_seq ?_ | refine aw_region ?_ | refine aw_ret ?_ | fail))
    have e1 : allocE H cls kind size = 33 := by simp only [allocE, h1, if_true, if_neg (Int.not_lt.2 h2)]; rw [if_pos (by omega)]
    exact ⟨.inl rfl, _, rfl, .inl ⟨by simp [e1], sh_keep3 (by simp [allocH, e1, keptH]) rfl e1.symm⟩⟩
  refine aw_cutE (ι := {b : Bool // b = decide (¬ (0 ≤ size ∧ size ≤ 64) ∨ (kind = 2 ∧ 0 < size))}) (fun b => [(34, bv b.1), (1, iv cls), (2, iv kind), (3, iv size), (4, .ptr 0 0 0), (8, .ptr 1 0 0), (11, iv ((encObjs H.objs).length : Int))]) ?_ ?_
  · (repeat' (first | refine mv ?_ | refine aw_region ?_ | fail))
    refine cl (in_ok _ _) ?_
    (repeat' (first | refine sk ?_ | refine mv ?_ | refine asg ?_ | refine bi ?_ | refine un ?_ | refine pt ?_ | refine pf ?_ | refine aops_nil ?_ | refine gs (fun h => ?_) (fun h => ?_) | fail))
    all_goals (refine ⟨⟨_, ?_⟩, rfl, rfl, rfl, rfl, rfl, rfl, rfl, rfl, trivial⟩; clear i1 i2 i3 i4 hi' h1; simp at *; first | omega | grind)
  rintro ⟨b, hb⟩
  refine aw_cond rfl (fun h4 => ?_) (fun h4 => ?_) <;> simp [hb] at h4 <;> (repeat' (first | refine mv ?_ | refine asg ?_ | refine ld ?_ | refine fp ?_ | refine bi ?_ | refine la ?_ | refine so ?_ | refine aops_nil ?_ | refine aw_seq ?_ | refine aw_region ?_ | refine aw_ret ?_ | fail))
  · have e1 : allocE H cls kind size = 32 := by simp only [allocE, h1, if_true, if_neg (Int.not_lt.2 h2)]; rw [if_neg (by omega), if_pos (by omega)]
    exact ⟨.inl rfl, _, rfl, .inl ⟨by simp [e1], sh_keep3 (by simp [allocH, e1, keptH]) rfl e1.symm⟩⟩
  refine aw_cond rfl (fun h5 => ?_) (fun h5 => ?_) <;> simp at h5 <;> (repeat' (first | refine asg ?_ | refine la ?_ | refine so ?_ | refine aops_nil ?_ | refine aw_seq ?_ | refine aw_region ?_ | refine aw_skip ?_ | refine aw_ret ?_ | fail))
  · have e1 : allocE H cls kind size = 30 := by simp only [allocE, h1, if_true, if_neg (Int.not_lt.2 h2)]; rw [if_neg (by omega), if_neg (by omega), if_pos h5]
    exact ⟨.inl rfl, _, rfl, .inl ⟨by simp [e1], sh_keep3 (by simp [allocH, e1, keptH]) rfl e1.symm⟩⟩
  have e1 : allocE H cls kind size = 0 := by simp only [allocE, h1, if_true, if_neg (Int.not_lt.2 h2)]; rw [if_neg (by omega), if_neg (by omega), if_neg h5]
  have hv : refV ((encObjs H.objs).length : Int) = 2 * H.objs.length := by have := mayH_len h1; simp [refV, refB]; omega
  refine cm1 (copied1 H hi') ?_ (hno := ⟨noOwn_heap H, trivial⟩)
  (repeat' (first | refine ld ?_ | refine fp ?_ | refine so ?_ | refine aops_nil ?_ | refine aw_seq ?_ | refine aw_region ?_ | fail))
  refine cl (next_ok _) ?_
  (repeat' (first | refine mv ?_ | refine asg ?_ | refine ld ?_ | refine fp ?_ | refine bi ?_ | refine so ?_ | refine bd ?_ | refine aops_nil ?_ | refine aw_seq ?_ | refine aw_region ?_ | refine aw_block ?_ | refine al 2 ?_ | fail))
  refine aw_cond rfl (fun h6 => ?_) (fun h6 => ?_) <;> simp at h6 <;> (repeat' (first | refine mv ?_ | refine asg ?_ | refine bi ?_ | refine aops_nil ?_ | refine aw_seq ?_ | refine aw_region ?_ | fail))
  · subst h6
    refine mk 3 8 ?_
    (repeat' (first | refine ld ?_ | refine fp ?_ | refine la ?_ | refine so ?_ | refine aops_nil ?_ | refine aw_seq ?_ | refine aw_region ?_ | fail))
    refine li 4 ?_
    refine ap1 5 ?_ (hl := by simpa using i4)
    (repeat' (first | refine mv ?_ | refine fp ?_ | refine so ?_ | refine aops_nil ?_ | refine aw_seq ?_ | refine aw_region ?_ | fail))
    refine cl (Ref_ok _) ?_
    (repeat' (first | refine mv ?_ | refine asg ?_ | refine ex ?_ | refine la ?_ | refine so ?_ | refine aops_nil ?_ | refine aw_seq ?_ | refine aw_region ?_ | refine aw_ret ?_ | fail))
    refine ⟨.inl rfl, _, rfl, .inr ⟨e1, ?_, .inl ⟨rfl, rfl, ?_⟩⟩⟩
    · rw [← hv]; rfl
    · exact congrArg _ (zero_ints _)
  refine aw_cond rfl (fun h7 => ?_) (fun h7 => ?_) <;> simp at h7 <;> (repeat' (first | refine mv ?_ | refine ld ?_ | refine fp ?_ | refine la ?_ | refine aw_seq ?_ | refine aw_region ?_ | refine aw_skip ?_ | fail))
  · subst h7
    refine mk 3 1 ?_
    refine bs (List.replicate size.toNat 0) ?_ (hs := ?_)
    rotate_left
    · exact congrArg some (bytes_zero _)
    (repeat' (first | refine ld ?_ | refine fp ?_ | refine la ?_ | refine so ?_ | refine aops_nil ?_ | refine aw_seq ?_ | refine aw_region ?_ | fail))
    refine li 4 ?_
    refine ap1 5 ?_ (hl := by simpa using i4)
    (repeat' (first | refine mv ?_ | refine fp ?_ | refine so ?_ | refine aops_nil ?_ | refine aw_seq ?_ | refine aw_region ?_ | fail))
    refine cl (Ref_ok _) ?_
    (repeat' (first | refine mv ?_ | refine asg ?_ | refine ex ?_ | refine la ?_ | refine so ?_ | refine aops_nil ?_ | refine aw_seq ?_ | refine aw_region ?_ | refine aw_ret ?_ | fail))
    refine ⟨.inl rfl, _, rfl, .inr ⟨e1, ?_, .inr ⟨h6, rfl⟩⟩⟩
    rw [← hv]; rfl
  · refine li 4 ?_
    refine ap1 5 ?_ (hl := by simpa using i4)
    (repeat' (first | refine mv ?_ | refine fp ?_ | refine so ?_ | refine aops_nil ?_ | refine aw_seq ?_ | refine aw_region ?_ | fail))
    refine cl (Ref_ok _) ?_
    (repeat' (first | refine mv ?_ | refine asg ?_ | refine ex ?_ | refine la ?_ | refine so ?_ | refine aops_nil ?_ | refine aw_seq ?_ | refine aw_region ?_ | refine aw_ret ?_ | fail))
    refine ⟨.inl rfl, _, rfl, .inr ⟨e1, ?_, .inr ⟨h6, ?_⟩⟩⟩
    · rw [← hv]; rfl
    · simp only [newObj, if_neg h7]; rfl
end Go.Proofs.YtnjihhheiiapnaaGreat
namespace Go.Proofs.YtnjihhheiiapnaaGreat
open Go Go.Proofs AW
theorem app_get {l : List HObj} {c d : List AV} {q : Nat} (h : (encObjs l ++ [c])[q]? = some d) : (∃ o, l[q]? = some o ∧ d = encObj o) ∨ (q = l.length ∧ d = c) := by
  rcases Nat.lt_or_ge q l.length with hq | hq
  · rw [List.getElem?_append_left (by simpa using hq)] at h
    exact .inl (objs_inv h)
  · rw [List.getElem?_append_right (by simpa using hq)] at h
    have : q - (encObjs l).length = 0 := by
      rcases Nat.eq_zero_or_pos (q - (encObjs l).length) with h0 | h0
      · exact h0
      · rw [List.getElem?_eq_none (by simp at h0 ⊢; omega)] at h; cases h
    rw [this] at h
    simp at this h
    exact .inr ⟨by omega, h.symm⟩
theorem sh_app {T : Nat → Ob} {e i : Nat} {l : List HObj} {c : List AV} {o : HObj} (hT : T i = .live e 6 (encObjs l ++ [c])) (h : ShL T c (encObj o)) : Sh T (.own i) (.sl 6 (encObjs (l ++ [o]))) := by
  refine sh_rows hT (by simp) (fun c hc => len_obj hc) fun q d d' hq hq' => ?_
  obtain ⟨o', ho, rfl⟩ := objs_inv hq'
  rcases app_get hq with ⟨o2, h2, rfl⟩ | ⟨rfl, rfl⟩
  · rw [List.getElem?_append_left (List.getElem?_eq_some_iff.1 h2).1, h2] at ho
    cases ho
    exact shL_same ⟨noOwn_iv _, noOwn_iv _, noOwn_ints 1 _, .v _, noOwn_iv _, noOwn_iv _, trivial⟩
  · simp at ho; subst ho; exact h
theorem Alloc_ok (H : HHeap) (hi : H.In) (cls kind size : Int) : Gives Tryz.prog 150 [.agg (encHeap H), iv cls, iv kind, iv size] (.tup [.agg (encHeap (allocH H cls kind size)), iv (allocV H cls kind size), iv (allocE H cls kind size)]) :=
  (Alloc_own H hi cls kind size).sh fun x T h => by
    rcases h with ⟨h1, h2⟩ | ⟨h1, rfl, h3⟩
    · simpa [allocV, h1] using h2
    · refine sh_tup ⟨sh_agg ?_, sh_iv (by simp [allocV, h1]), sh_iv h1.symm, trivial⟩
      simp only [allocH, h1, if_true]
      refine ⟨?_, .same _ (.v _), .same _ (.v _), trivial⟩
      rcases h3 with ⟨h4, h5, h6⟩ | ⟨h4, h5⟩
      · refine sh_app h5 ⟨.same _ (.v _), .same _ (.v _), ?_, .same _ (.v _), .same _ (.v _), .same _ (.v _), trivial⟩
        simp only [newObj, h4, if_true]
        exact sh_ints h6
      · refine sh_app h5 ⟨.same _ (.v _), .same _ (.v _), ?_, .same _ (.v _), .same _ (.v _), .same _ (.v _), trivial⟩
        simp only [newObj, if_neg h4]
        exact .nil 1
theorem AllocO_own (H : HHeap) (hi : H.In) (cls kind size : Int) (hk : kind ≠ 0) (h0 : allocE H cls kind size = 0) : Ok Tryz.prog 150 [.agg (encHeap H), iv cls, iv kind, iv size] (fun x T =>
    x = .tup [.agg [.own 20, iv H.cap, iv (nextI H.last)], iv (2 * H.objs.length), iv 0] ∧
    T = upd noT 20 (.live 41 6 (encObjs (H.objs ++ [newObj H cls kind size])))) :=
  (Alloc_own H hi cls kind size).fz fun x T h => by
    rcases h with ⟨h1, _⟩ | ⟨h1, rfl, ⟨h4, _⟩ | ⟨h4, h5⟩⟩
    · exact absurd h0 h1
    · exact absurd h4 hk
    · have key : ∀ k, upd noT 20 (.live 41 6 (encObjs (H.objs ++ [newObj H cls kind size]))) k ≠ .no → k = 20 := by
        intro k hk
        by_cases h1 : k = 20
        · exact h1
        · simp [upd, noT, h1] at hk
      refine ⟨fun j => 5, _, .tup [.agg [.own 20, iv H.cap, iv (nextI H.last)], iv (2 * H.objs.length), iv 0], ⟨rfl, rfl⟩, ⟨fun j e s es' hj => ?_, fun j hj => by simp [h5], fun i j hi hj _ => by rw [key i hi, key j hj]⟩, ?_⟩
      · have := key j (by rw [hj]; simp)
        subst this
        simp only [upd, if_true] at hj
        cases hj
        refine ⟨_, h5, by simp, fun q c c' hc hc' => ?_⟩
        obtain ⟨o', ho, rfl⟩ := objs_inv hc'
        rcases app_get hc with ⟨o, h2, rfl⟩ | ⟨rfl, rfl⟩
        · rw [List.getElem?_append_left (List.getElem?_eq_some_iff.1 h2).1, h2] at ho
          cases ho
          exact fzL_all (noOwn_obj _)
        · simp at ho
          subst ho
          refine ⟨fz_v _, fz_v _, ?_, fz_v _, fz_v _, fz_v _, trivial⟩
          simp only [newObj, if_neg hk]
          exact .nil 1
      · exact fz_tup ⟨fz_agg ⟨fz_own rfl (by simp [upd]), fz_v _, fz_v _, trivial⟩, fz_v _, fz_v _, trivial⟩
end Go.Proofs.YtnjihhheiiapnaaGreat
