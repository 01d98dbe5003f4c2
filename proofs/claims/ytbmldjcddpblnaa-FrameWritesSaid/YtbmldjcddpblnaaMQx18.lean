/- What the statements' walks need. -/
import Derived.Test.YtbmldjcddpblnaaMQa4
import Derived.Test.YtbmldjcddpblnaaMQx17
import Derived.Test.YtbmldjcddpblnaaMQa3
import Derived.Test.YtbmldjcddpblnaaMQx13
import Derived.Test.YtbmldjcddpblnaaMQa2
set_option linter.unusedVariables false
set_option linter.unusedSimpArgs false
set_option maxRecDepth 100000
namespace Go.Proofs.Ytbmldjcddpblnaa
open Go Go.Proofs AW
theorem app_get {l : List HObj} {c d : List AV} {q : Nat} (h : (encObjs l ++ [c])[q]? = some d) : (∃ o, l[q]? = some o ∧ d = encObj o) ∨ (q = l.length ∧ d = c) := by
  rcases Nat.lt_or_ge q l.length with hq | hq
  · rw [List.getElem?_append_left (by simpa using hq)] at h
    exact .inl (objs_inv h)
  · rw [List.getElem?_append_right (by simpa using hq)] at h
    have : q - (encObjs l).length = 0 := by
      rcases Nat.eq_zero_or_pos (q - (encObjs l).length) with h0 | h0
      · exact h0
      · rw [List.getElem?_eq_none (by simp at h0 ⊢; omega)] at h; cases h
    rw [this] at h
    simp at this h
    exact .inr ⟨by omega, h.symm⟩
theorem sh_app {T : Nat → Ob} {e i : Nat} {l : List HObj} {c : List AV} {o : HObj} (hT : T i = .live e 6 (encObjs l ++ [c])) (h : ShL T c (encObj o)) : Sh T (.own i) (.sl 6 (encObjs (l ++ [o]))) := by
  refine sh_rows hT (by simp) (fun c hc => len_obj hc) fun q d d' hq hq' => ?_
  obtain ⟨o', ho, rfl⟩ := objs_inv hq'
  rcases app_get hq with ⟨o2, h2, rfl⟩ | ⟨rfl, rfl⟩
  · rw [List.getElem?_append_left (List.getElem?_eq_some_iff.1 h2).1, h2] at ho
    cases ho
    exact shL_same ⟨noOwn_iv _, noOwn_iv _, noOwn_ints 1 _, .v _, noOwn_iv _, noOwn_iv _, trivial⟩
  · simp at ho; subst ho; exact h
theorem Alloc_ok (H : HHeap) (hi : H.In) (cls kind size : Int) : Gives Try.prog 63 [.agg (encHeap H), iv cls, iv kind, iv size] (.tup [.agg (encHeap (allocH H cls kind size)), iv (allocV H cls kind size), iv (allocE H cls kind size)]) :=
  (Alloc_own H hi cls kind size).sh fun x T h => by
    rcases h with ⟨h1, h2⟩ | ⟨h1, rfl, h3⟩
    · simpa [allocV, h1] using h2
    · refine sh_tup ⟨sh_agg ?_, sh_iv (by simp [allocV, h1]), sh_iv h1.symm, trivial⟩
      simp only [allocH, h1, if_true]
      refine ⟨?_, .same _ (.v _), .same _ (.v _), trivial⟩
      rcases h3 with ⟨h4, h5, h6⟩ | ⟨h4, h5⟩
      · refine sh_app h5 ⟨.same _ (.v _), .same _ (.v _), ?_, .same _ (.v _), .same _ (.v _), .same _ (.v _), trivial⟩
        simp only [newObj, h4, if_true]
        exact sh_ints h6
      · refine sh_app h5 ⟨.same _ (.v _), .same _ (.v _), ?_, .same _ (.v _), .same _ (.v _), .same _ (.v _), trivial⟩
        simp only [newObj, if_neg h4]
        exact .nil 1
theorem AllocP_own (H : HHeap) (hi : H.In) (cls size : Int) (h0 : allocE H cls 0 size = 0) : Ok Try.prog 63 [.agg (encHeap H), iv cls, iv 0, iv size] (fun x T =>
    x = .tup [.agg [.own 20, iv H.cap, iv (nextI H.last)], iv (2 * H.objs.length), iv 0] ∧
    T = upd (upd noT 21 (.live 3 1 (encInts (List.replicate size.toNat 0)))) 20 (.live 59 6 (encObjs H.objs ++ [encOwn (newObj H cls 0 size) 21]))) :=
  (Alloc_own H hi cls 0 size).fz fun x T h => by
    rcases h with ⟨h1, _⟩ | ⟨h1, rfl, ⟨_, h5, h6⟩ | ⟨h4, _⟩⟩
    · exact absurd h0 h1
    · refine ⟨fun j => if j = 20 then 5 else 3, _, .tup [.agg [.own 20, iv H.cap, iv (nextI H.last)], iv (2 * H.objs.length), iv 0], ⟨rfl, rfl⟩, ⟨fun j e s es' hj => ?_, fun j hj => ?_, fun i j hi hj hij => ?_⟩, ?_⟩
      · simp only [upd, noT] at hj
        by_cases h20 : j = 20
        · subst h20
          simp only [if_true] at hj
          cases hj
          refine ⟨_, h5, by simp, fun q c c' hc hc' => ?_⟩
          rcases app_get hc with ⟨o, h2, rfl⟩ | ⟨rfl, rfl⟩
          · rw [List.getElem?_append_left (by simpa using (List.getElem?_eq_some_iff.1 h2).1), objs_get h2] at hc'
            cases hc'
            exact fzL_all (noOwn_obj o)
          · rw [List.getElem?_append_right (by simp)] at hc'
            simp at hc'
            subst hc'
            exact ⟨fz_v _, fz_v _, fz_own rfl (by simp [upd]), fz_v _, fz_v _, fz_v _, trivial⟩
        · rw [if_neg h20] at hj
          by_cases h21 : j = 21
          · subst h21
            simp only [if_true] at hj
            cases hj
            refine ⟨_, h6, rfl, fun q c c' hc hc' => ?_⟩
            rw [hc] at hc'; cases hc'
            exact fzL_all (noOwn_intsc (List.mem_of_getElem? hc))
          · rw [if_neg h21] at hj; cases hj
      · simp only [upd, noT] at hj
        by_cases h20 : j = 20
        · subst h20; simp [h5]
        · rw [if_neg h20] at hj ⊢
          by_cases h21 : j = 21
          · simp [h6]
          · rw [if_neg h21] at hj; exact absurd rfl hj
      · have key : ∀ k, upd (upd noT 21 (.live 3 1 (encInts (List.replicate size.toNat 0)))) 20 (.live 59 6 (encObjs H.objs ++ [encOwn (newObj H cls 0 size) 21])) k ≠ .no → k = 20 ∨ k = 21 := by
          intro k hk
          by_cases h1 : k = 20
          · exact .inl h1
          · by_cases h2 : k = 21
            · exact .inr h2
            · simp [upd, noT, h1, h2] at hk
        rcases key i hi with rfl | rfl <;> rcases key j hj with rfl | rfl <;> simp at hij ⊢
      · exact fz_tup ⟨fz_agg ⟨fz_own rfl (by simp [upd]), fz_v _, fz_v _, trivial⟩, fz_v _, fz_v _, trivial⟩
    · exact absurd rfl h4
end Go.Proofs.Ytbmldjcddpblnaa
namespace Go.Proofs.Ytbmldjcddpblnaa
open Go Go.Proofs AW
set_option maxRecDepth 100000 in
set_option maxHeartbeats 4000000 in
theorem rSet_ok (H : HHeap) (hi : H.In) (v slot x : Int) : Gives Try.prog 68 [.agg (encHeap H), iv v, iv slot, iv x] (.tup [.agg (encHeap (setH H v slot x)), iv (setE H v slot x)]) := by
  have hi' := hi
  obtain ⟨i1, i2, i3, i4⟩ := hi
  have i4' : H.objs.length < 1099511627776 := i4
  refine gives_of Try.func68 rfl (Nat.le_of_ble_eq_true rfl) ?_
  (repeat' (first | refine mv ?_ | refine asg ?_ | refine la ?_ | refine aops_nil ?_ | refine aw_seq ?_ | refine aw_region ?_ | refine bx 0 ?_ | refine al 1 ?_ | fail))
  refine cl (rwrong_ok H hi' v 0 slot (.inl rfl)) ?_ (hno := ⟨noOwn_heap H, noOwn_iv _, noOwn_iv _, noOwn_iv _, trivial⟩)
  (repeat' (first | refine mv ?_ | refine asg ?_ | refine bi ?_ | refine aops_nil ?_ | refine aw_seq ?_ | refine aw_region ?_ | fail))
  refine aw_cond rfl (fun h1 => ?_) (fun h1 => ?_) <;> simp at h1 <;> (repeat' (first | refine mv ?_ | refine asg ?_ | refine bi ?_ | refine so ?_ | refine bd ?_ | refine aops_nil ?_ | refine aw_seq ?_ | refine aw_region ?_ | refine aw_skip ?_ | refine aw_ret ?_ | fail))
  · refine fin (sh_empty ?_ ?_) <;> simp [setH, setE, h1, keptH]
  refine gs (fun h2 => ?_) (fun h2 => ?_) <;> simp at h2
  · (repeat' (first | refine mv ?_ | refine la ?_ | fail))
    refine cl (rHas_ok H x i4') ?_ (hno := ⟨noOwn_heap H, noOwn_iv _, trivial⟩)
    (repeat' (first | refine un ?_ | refine pt ?_ | refine aops_nil ?_ | fail))
    refine aw_cond rfl (fun h3 => ?_) (fun h3 => ?_) <;> simp at h3
    · (repeat' (first | refine mv ?_ | refine asg ?_ | refine bi ?_ | refine la ?_ | refine so ?_ | refine aops_nil ?_ | refine aw_seq ?_ | refine aw_region ?_ | refine aw_cond_t rfl ?_ | refine aw_ret ?_ | fail))
      refine fin (sh_keep ?_ ?_) <;> simp [setH, setE, h2, h3, keptH]
    have e1 : setE H v slot x = 0 := by simp [setE, h2, h3]
    rw [e1, show setH H v slot x = H.put (H.ref v).toNat { H.at' v with slots := (H.at' v).slots.set slot.toNat x } by simp [setH, e1]]
    obtain ⟨m, hr, hk, ha, hb⟩ := wrong0 h2
    have hget := at_get hr
    have hil := ref_lt hr
    have hsl : slot.toNat < (H.at' v).slots.length := by have := (kind_lens m hr).2 (by omega); omega
    have hn : refI H.objs.length v = ((H.ref v).toNat : Int) := by rw [Int.toNat_of_nonneg hr]; rfl
    have hp := part_get (k := H.objs.length) hget
    rw [if_pos hil] at hp
    have hil' : (H.ref v).toNat < (encPart H.objs.length H.objs).length := by simpa using hil
    (repeat' (first | refine mv ?_ | refine bi ?_ | refine aops_nil ?_ | refine aw_seq ?_ | refine aw_region ?_ | refine aw_skip ?_ | fail))
    refine aw_cond rfl (fun h4 => ?_) (fun h4 => ?_) <;> simp [h2] at h4
    (repeat' (first | refine la ?_ | refine aw_seq ?_ | refine aw_region ?_ | refine aw_skip ?_ | fail))
    refine cm (rcopy_ok H hi') (merge_cop (m := 2) ?_ rfl) (dis_cop (m := 2) ?_ rfl) ?_ (hno := ⟨noOwn_heap H, trivial⟩)
    · exact up_no (up_no (fun _ _ => rfl) rfl) rfl
    · exact up_no (up_no (fun _ _ => rfl) rfl) rfl
    (repeat' (first | refine so ?_ | refine aops_nil ?_ | refine aw_seq ?_ | refine al 2 ?_ | fail))
    refine aw_draw 10 none ?_
    refine ds (y_faddr_ptr (hs := Nat.le_of_ble_eq_true rfl)) ?_
    refine ds y_load ?_
    refine ds y_loadsN ?_
    refine ds y_move ?_
    refine ds (y_call (rRef_ok H v i4') (hno := ⟨noOwn_heap H, noOwn_iv _, trivial⟩)) ?_
    refine ds (y_iaoN (H.ref v).toNat hil' (hn := hn)) ?_
    refine ds (y_faddr_ptr (hs := Nat.le_of_ble_eq_true rfl)) ?_
    refine ds (y_loadP hp) ?_
    refine ds y_move ?_
    refine ds y_move ?_
    refine dn ?_
    refine iao slot.toNat (by rw [len_ints (H.at' v).slots]; exact hsl) ?_ (hT := upd_ne (upd_ne (onT_row hget))) (hn := (Int.toNat_of_nonneg ha).symm)
    refine soR (upd_ne (upd_ne (onT_row hget))) (ints_get (List.getElem?_eq_getElem hsl)) ?_
    (repeat' (first | refine asg ?_ | refine la ?_ | refine so ?_ | refine aops_nil ?_ | refine aw_seq ?_ | refine aw_region ?_ | refine aw_ret ?_ | fail))
    refine fin (sh_heap (H' := H.put (H.ref v).toNat { H.at' v with slots := (H.at' v).slots.set slot.toNat x }) ?_ rfl)
    refine sh_slots hget rfl (upd_ne (on_row (upd_at ?_))) fun q o hqi hq => upd_ne (on_row (upd_row hqi (upd_ne (upd_ne (onT_row hq)))))
    exact congrArg _ (ints_set _ _ _)
  · (repeat' (first | refine sk ?_ | refine mv ?_ | refine bi ?_ | refine pf ?_ | refine aops_nil ?_ | refine aw_seq ?_ | refine aw_region ?_ | refine aw_cond_f rfl ?_ | refine aw_skip ?_ | fail))
    refine aw_cond rfl (fun h4 => ?_) (fun h4 => ?_) <;> simp [h2] at h4
    (repeat' (first | refine mv ?_ | refine asg ?_ | refine la ?_ | refine so ?_ | refine aops_nil ?_ | refine aw_seq ?_ | refine aw_region ?_ | refine aw_ret ?_ | fail))
    refine fin (sh_keep ?_ ?_) <;> simp [setH, setE, h1, h2, keptH]
end Go.Proofs.Ytbmldjcddpblnaa
