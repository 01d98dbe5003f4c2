/- What the statements' walks need. -/
import Derived.Test.YtemcemimipagoaaMVa4
import Derived.Test.YtemcemimipagoaaMVx12
import Derived.Test.YtemcemimipagoaaMVx16
import Derived.Test.YtemcemimipagoaaMVa3
set_option linter.unusedVariables false
set_option linter.unusedSimpArgs false
set_option maxRecDepth 100000
namespace Go.Proofs.Ytemcemimipagoaa
open Go Go.Proofs AW
theorem noOwn_iv (x : Int) : NoOwn (iv x) := .v _
def emptyH : HHeap := ⟨[], 0, 0⟩
def keptH (H : HHeap) (e : Int) : HHeap := if e = 1 then emptyH else H
def HHeap.put (H : HHeap) (i : Nat) (o : HObj) : HHeap := { H with objs := H.objs.set i o }
def setE (H : HHeap) (v slot x : Int) : Int := if wrongE H v 0 slot = 0 then (if hasB H.objs.length x = true then 0 else 31) else wrongE H v 0 slot
def setH (H : HHeap) (v slot x : Int) : HHeap :=
  if setE H v slot x = 0 then H.put (H.ref v).toNat { H.at' v with slots := (H.at' v).slots.set slot.toNat x } else keptH H (setE H v slot x)
theorem sh_rows {T : Nat → Ob} {i e s : Nat} {es es' : List (List AV)} (hT : T i = .live e s es) (hl : es.length = es'.length) (hs : ∀ c ∈ es', c.length = s)
    (h : ∀ (q : Nat) (c c' : List AV), es[q]? = some c → es'[q]? = some c' → ShL T c c') : Sh T (.own i) (.sl s es') := by
  refine .own i e s es es' hT hl hs fun j a b ha hb => ?_
  have hs1 : ∀ c ∈ es, c.length = s := by
    intro c hc
    obtain ⟨q, hq, rfl⟩ := List.getElem_of_mem hc
    have hq' : q < es'.length := by omega
    rw [(h q _ _ (List.getElem?_eq_getElem hq) (List.getElem?_eq_getElem hq')).get.1]
    exact hs _ (List.getElem_mem hq')
  obtain ⟨k, t, c', rfl, ht, hk, hct⟩ := flat_inv hs hb
  have hk' : k < es.length := by have := (List.getElem?_eq_some_iff.1 hk).1; omega
  have htl : t < es[k].length := by rw [hs1 _ (List.getElem_mem hk')]; exact ht
  rw [flat_get hs1 (List.getElem?_eq_getElem hk') (List.getElem?_eq_getElem htl)] at ha
  cases ha
  exact (h k _ _ (List.getElem?_eq_getElem hk') hk).get.2 t _ _ (List.getElem?_eq_getElem htl) hct
theorem len_obj {l : List HObj} {c : List AV} (h : c ∈ encObjs l) : c.length = 6 := by
  simp only [encObjs, List.mem_map] at h
  obtain ⟨o, _, rfl⟩ := h
  rfl
theorem objs_inv {l : List HObj} {q : Nat} {c : List AV} (h : (encObjs l)[q]? = some c) : ∃ o, l[q]? = some o ∧ c = encObj o := by
  simp only [encObjs, List.getElem?_map, Option.map_eq_some_iff] at h
  obtain ⟨o, h1, rfl⟩ := h
  exact ⟨o, h1, rfl⟩
theorem sh_ints {T : Nat → Ob} {i e : Nat} {l : List Int} (hT : T i = .live e 1 (encInts l)) : Sh T (.own i) (.sl 1 (encInts l)) :=
  sh_own hT (fun c hc => by simp only [encInts, List.mem_map] at hc; obtain ⟨x, _, rfl⟩ := hc; rfl) fun c hc => noOwn_intsc hc
theorem sh_objs {T : Nat → Ob} {e i : Nat} {es : List (List AV)} {l : List HObj} (hT : T i = .live e 6 es) (hl : es.length = l.length)
    (h : ∀ (q : Nat) (o : HObj) (c : List AV), l[q]? = some o → es[q]? = some c → c = encObj o ∨ ∃ m e, c = encOwn o m ∧ T m = .live e 1 (encInts o.slots)) : Sh T (.own i) (.sl 6 (encObjs l)) := by
  refine sh_rows hT (by simpa using hl) (fun c hc => len_obj hc) fun q c c' hq hq' => ?_
  obtain ⟨o, ho, rfl⟩ := objs_inv hq'
  rcases h q o c ho hq with rfl | ⟨m, e, rfl, hm⟩
  · exact shL_same ⟨noOwn_iv _, noOwn_iv _, noOwn_ints 1 _, .v _, noOwn_iv _, noOwn_iv _, trivial⟩
  · exact ⟨.same _ (.v _), .same _ (.v _), sh_ints hm, .same _ (.v _), .same _ (.v _), .same _ (.v _), trivial⟩
theorem sh_heap {T : Nat → Ob} {x : AV} {H' : HHeap} {e e' : Int} (h : Sh T x (.sl 6 (encObjs H'.objs))) (he : e = e') : Sh T (.tup [.agg [x, iv H'.cap, iv H'.last], iv e]) (.tup [.agg (encHeap H'), iv e']) := by
  subst he
  exact sh_tup ⟨sh_agg ⟨h, .same _ (.v _), .same _ (.v _), trivial⟩, .same _ (.v _), trivial⟩
theorem sh_keep {T : Nat → Ob} {H H' : HHeap} {e e' : Int} (h : H = H') (he : e = e') : Sh T (.tup [.agg (encHeap H), iv e]) (.tup [.agg (encHeap H'), iv e']) := by
  subst h; exact sh_heap (.same _ (noOwn_objs _ _)) he
theorem sh_empty {T : Nat → Ob} {H' : HHeap} {e e' : Int} (h : emptyH = H') (he : e = e') : Sh T (.tup [.agg [.v (.slice none 0 0), iv 0, iv 0], iv e]) (.tup [.agg (encHeap H'), iv e']) := by
  subst h; exact sh_heap (H' := emptyH) (.nil 6) he
theorem up_no {T : Nat → Ob} {i m : Nat} {o : Ob} (h : ∀ j, m ≤ j → T j = .no) (hi : Nat.blt i m = true) : ∀ j, m ≤ j → upd T i o j = .no := fun j hj => by
  have := blt_lt hi
  simp only [upd, if_neg (show ¬ j = i by omega)]; exact h j hj
def onT (m : Nat) (S C : Nat → Ob) : Nat → Ob := fun j => if j < m then S j else C j
theorem copT_low {n : Nat} {l : List HObj} {j : Nat} (h : copT n l j ≠ .no) : 10 ≤ j := by
  simp only [copT, upd, rT] at h
  split at h
  · omega
  · split at h
    · omega
    · exact absurd rfl h
theorem merge_cop {S : Nat → Ob} {m n : Nat} {l : List HObj} (h : ∀ j, m ≤ j → S j = .no) (hm : Nat.ble m 10 = true) : mergeT S (copT n l) = onT m S (copT n l) := by
  have hm : m ≤ 10 := by simpa using hm
  funext j
  by_cases hj : j < m
  · have : copT n l j = .no := by
      by_cases hc : copT n l j = .no
      · exact hc
      · have := copT_low hc; omega
    rw [mergeT_no this, onT, if_pos hj]
  · rw [onT, if_neg hj]
    by_cases hc : copT n l j = .no
    · rw [mergeT_no hc, hc, h j (by omega)]
    · rw [mergeT_some hc]
theorem dis_cop {S : Nat → Ob} {m n : Nat} {l : List HObj} (h : ∀ j, m ≤ j → S j = .no) (hm : Nat.ble m 10 = true) : ∀ j, copT n l j ≠ .no → S j = .no := fun j hj => h j (by
  have hm : m ≤ 10 := by simpa using hm
  have := copT_low hj; omega)
theorem ints_set (l : List Int) (k : Nat) (x : Int) : (encInts l).set k [iv x] = encInts (l.set k x) := by simp [encInts, List.map_set]
theorem sh_slots {T : Nat → Ob} {l : List HObj} {i : Nat} {o : HObj} {s : List Int} (ho : l[i]? = some o) (t10 : T 10 = .live 43 6 (encPart l.length l)) (ti : T (11 + i) = .live 3 1 (encInts s))
    (tj : ∀ q o, q ≠ i → l[q]? = some o → T (11 + q) = .live 3 1 (encInts o.slots)) : Sh T (.own 10) (.sl 6 (encObjs (l.set i { o with slots := s }))) := by
  refine sh_objs t10 (by simp) fun q p c hq hc => .inr ?_
  have hql : q < l.length := by have := (List.getElem?_eq_some_iff.1 hq).1; simpa using this
  have hg : l[q]? = some l[q] := List.getElem?_eq_getElem hql
  rw [part_get hg, if_pos hql] at hc
  cases hc
  by_cases hqi : q = i
  · subst hqi
    rw [List.getElem?_set_self hql] at hq
    cases hq
    rw [ho] at hg
    cases hg
    exact ⟨11 + q, _, rfl, ti⟩
  · rw [List.getElem?_set_ne (Ne.symm hqi), hg] at hq
    cases hq
    exact ⟨11 + q, _, rfl, tj q _ hqi hg⟩
theorem onT_row {S : Nat → Ob} {m i : Nat} {l : List HObj} {o : HObj} (h : l[i]? = some o) (hm : Nat.ble m 10 = true := by rfl) : onT m S (copT l.length l) (11 + i) = .live 3 1 (encInts o.slots) := by
  have hm : m ≤ 10 := by simpa using hm
  rw [onT, if_neg (by omega)]
  exact copT_row h
theorem upd_ne {T : Nat → Ob} {j i : Nat} {o X : Ob} (h : T (11 + i) = X) (hj : Nat.blt j 11 = true := by rfl) : upd T j o (11 + i) = X := by
  have := blt_lt hj
  simp only [upd, if_neg (show ¬ 11 + i = j by omega)]; exact h
theorem upd_at {T : Nat → Ob} {i : Nat} {o X : Ob} (h : o = X) : upd T i o i = X := by simp [upd, h]
theorem upd_row {T : Nat → Ob} {q i : Nat} {o X : Ob} (hq : q ≠ i) (h : T (11 + q) = X) : upd T (11 + i) o (11 + q) = X := by
  simp only [upd, if_neg (show ¬ 11 + q = 11 + i by omega)]; exact h
theorem upd_on (S : Nat → Ob) (i : Nat) (o : Ob) : upd S (11 + i) o = onT 11 S (upd S (11 + i) o) := by
  funext j
  by_cases hj : j < 11
  · rw [onT, if_pos hj, upd, if_neg (by omega)]
  · rw [onT, if_neg hj]
theorem on_row {m i : Nat} {S C : Nat → Ob} {X : Ob} (h : C (11 + i) = X) (hm : Nat.ble m 11 = true := by rfl) : onT m S C (11 + i) = X := by
  have hm : m ≤ 11 := by simpa using hm
  rw [onT, if_neg (by omega)]; exact h
theorem soR {P : Program} {N : Fr} {Q : Exit → ASt → Prop} {st : ASt} {ops : Array Oper} {i : Nat} {l : List Nat} {x : AV} {t n : Nat} {ag : Bool} {zp zv : Operand} {j q r e s : Nat} {es : List (List AV)} {c : List AV} (hT : st.T (11 + j) = .live e s es) (hq : es[q]? = some c)
    (k : AOps P N ops Q l (ASt.mk st.env (onT 11 st.T (upd st.T (11 + j) (.live e s (es.set q (c.take r ++ cellsA x ++ c.drop (r + n)))))))) (ho : (ops.getD i default).op = .store t zp zv := by rfl)
    (hp : ev st zp = some (.ptr (11 + j) q r) := by rfl) (hv : ev st zv = some x := by rfl) (ht : szOf P t = some (n, ag) := by rfl) (hx : (cellsA x).all (cok1 st.T) = true := by rfl) (hn : (cellsA x).length = n := by rfl) (hrs : Nat.ble (r + n) s = true := by rfl)
    (hi : Nat.blt i ops.size = true := by rfl) (hg : opAt N ops st i = true := by rfl) (hd : (ops.getD i default).dst = none := by rfl) : AOps P N ops Q (i :: l) st :=
  so (by rw [upd_on]; exact k) ho hp hT hq hv ht hx hn hrs hi hg hd
set_option maxRecDepth 100000 in
set_option maxHeartbeats 4000000 in
theorem kept_ok (H : HHeap) (e : Int) : Gives Try.prog 64 [.agg (encHeap H), iv e] (.tup [.agg (encHeap (keptH H e)), iv e]) := by
  refine gives_of Try.func64 rfl (Nat.le_of_ble_eq_true rfl) ?_
  (repeat' (first | refine mv ?_ | refine asg ?_ | refine bi ?_ | refine aops_nil ?_ | refine aw_seq ?_ | refine aw_region ?_ | refine bx 0 ?_ | refine al 1 ?_ | fail))
  refine aw_cond rfl (fun h => ?_) (fun h => ?_) <;> simp at h <;> (repeat' (first | refine mv ?_ | refine asg ?_ | refine la ?_ | refine so ?_ | refine bd ?_ | refine aops_nil ?_ | refine aw_seq ?_ | refine aw_region ?_ | refine aw_skip ?_ | refine aw_ret ?_ | fail))
  · refine fin (sh_empty ?_ rfl); simp [keptH, h]
  · refine fin (sh_keep ?_ rfl); simp [keptH, h]
set_option maxRecDepth 100000 in
set_option maxHeartbeats 4000000 in
theorem Set_ok (H : HHeap) (hi : H.In) (v slot x : Int) : Gives Try.prog 49 [.agg (encHeap H), iv v, iv slot, iv x] (.tup [.agg (encHeap (setH H v slot x)), iv (setE H v slot x)]) := by
  have hi' := hi
  obtain ⟨i1, i2, i3, i4⟩ := hi
  refine gives_of Try.func49 rfl (Nat.le_of_ble_eq_true rfl) ?_
  (repeat' (first | refine mv ?_ | refine asg ?_ | refine la ?_ | refine aops_nil ?_ | refine aw_seq ?_ | refine aw_region ?_ | refine bx 0 ?_ | refine al 1 ?_ | fail))
  refine cl (place_ok H hi' v 0 slot) ?_ (hno := ⟨noOwn_heap H, noOwn_iv _, noOwn_iv _, noOwn_iv _, trivial⟩)
  (repeat' (first | refine mv ?_ | refine asg ?_ | refine bi ?_ | refine ex ?_ | refine aops_nil ?_ | refine aw_seq ?_ | refine aw_region ?_ | fail))
  refine aw_cond rfl (fun h1 => ?_) (fun h1 => ?_) <;> simp at h1 <;> (repeat' (first | refine mv ?_ | refine ld ?_ | refine fp ?_ | refine ln ?_ | refine la ?_ | refine aw_seq ?_ | refine aw_region ?_ | refine aw_skip ?_ | fail))
  · refine cl (kept_ok H _) ?_ (hno := ⟨noOwn_heap H, noOwn_iv _, trivial⟩)
    (repeat' (first | refine asg ?_ | refine ex ?_ | refine so ?_ | refine aops_nil ?_ | refine aw_ret ?_ | fail))
    refine fin (sh_keep ?_ ?_) <;> simp [setH, setE, h1]
  refine cl (has_ok _ _) ?_
  (repeat' (first | refine un ?_ | refine aops_nil ?_ | fail))
  refine aw_cond rfl (fun h2 => ?_) (fun h2 => ?_) <;> simp at h2 <;> (repeat' (first | refine asg ?_ | refine la ?_ | refine so ?_ | refine aops_nil ?_ | refine aw_seq ?_ | refine aw_region ?_ | refine aw_skip ?_ | refine aw_ret ?_ | fail))
  · refine fin (sh_keep ?_ ?_) <;> simp [setH, setE, h1, h2, keptH]
  refine cm (copied_ok H hi') (merge_cop (m := 2) ?_ rfl) (dis_cop (m := 2) ?_ rfl) ?_ (hno := ⟨noOwn_heap H, trivial⟩)
  · exact up_no (up_no (fun _ _ => rfl) rfl) rfl
  · exact up_no (up_no (fun _ _ => rfl) rfl) rfl
  (repeat' (first | refine mv ?_ | refine ld ?_ | refine fp ?_ | refine so ?_ | refine aops_nil ?_ | refine aw_seq ?_ | refine aw_region ?_ | fail))
  obtain ⟨m, hr, hk, ha, hb⟩ := wrong0 h1
  have hget := at_get hr
  have hil := ref_lt hr
  have hsl : slot.toNat < (H.at' v).slots.length := by have := (kind_lens m hr).2 (by omega); omega
  have hn : (if wrongE H v 0 slot = 0 then H.ref v else 0) = ((H.ref v).toNat : Int) := by rw [if_pos h1, Int.toNat_of_nonneg hr]
  have hp := part_get (k := H.objs.length) hget
  rw [if_pos hil] at hp
  refine iao (H.ref v).toNat (by rw [len_part H.objs.length H.objs]; exact hil) ?_ (hn := hn)
  refine fp ?_
  refine ldP hp ?_
  (repeat' (first | refine mv ?_ | fail))
  refine iao slot.toNat (by rw [len_ints (H.at' v).slots]; exact hsl) ?_ (hT := upd_ne (onT_row hget)) (hn := (Int.toNat_of_nonneg ha).symm)
  refine soR (upd_ne (onT_row hget)) (ints_get (List.getElem?_eq_getElem hsl)) ?_
  (repeat' (first | refine asg ?_ | refine la ?_ | refine so ?_ | refine aops_nil ?_ | refine aw_seq ?_ | refine aw_region ?_ | refine aw_ret ?_ | fail))
  refine fin (?_ : Sh _ _ (.tup [.agg (encHeap _), iv _]))
  have e1 : setE H v slot x = 0 := by simp [setE, h1, h2]
  rw [e1, show setH H v slot x = H.put (H.ref v).toNat { H.at' v with slots := (H.at' v).slots.set slot.toNat x } by simp [setH, e1]]
  refine (sh_heap (H' := H.put (H.ref v).toNat { H.at' v with slots := (H.at' v).slots.set slot.toNat x }) ?_ rfl)
  refine sh_slots hget rfl (upd_ne (on_row (upd_at ?_))) fun q o hqi hq => upd_ne (on_row (upd_row hqi (upd_ne (onT_row hq))))
  exact congrArg _ (ints_set _ _ _)
end Go.Proofs.Ytemcemimipagoaa
