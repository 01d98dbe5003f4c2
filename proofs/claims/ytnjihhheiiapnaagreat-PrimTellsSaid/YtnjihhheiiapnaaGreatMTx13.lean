/- What the statements' walks need. -/
import Derived.Test.YtnjihhheiiapnaaGreatMTa4
import Derived.Test.YtnjihhheiiapnaaGreatMTx10
import Derived.Test.YtnjihhheiiapnaaGreatMTa3
set_option linter.unusedVariables false
set_option linter.unusedSimpArgs false
set_option maxRecDepth 100000
namespace Go.Proofs.YtnjihhheiiapnaaGreat
open Go Go.Proofs AW
def becomeE (H : HHeap) (v w : Int) : Int := if mayH H = true then (if H.ref v < 0 ∨ H.ref w < 0 then 31 else 0) else 1
def becomeH (H : HHeap) (v w : Int) : HHeap :=
  if becomeE H v w = 0 then (H.put (H.ref v).toNat (H.at' w)).put (H.ref w).toNat (H.at' v) else keptH H (becomeE H v w)
theorem objs_set (l : List HObj) (k : Nat) (o : HObj) : (encObjs l).set k (encObj o) = encObjs (l.set k o) := by simp [encObjs, List.map_set]
theorem sh_objsrow {T : Nat → Ob} {i e : Nat} {es : List (List AV)} {l : List HObj} (hT : T i = .live e 6 es) (h : es = encObjs l) : Sh T (.own i) (.sl 6 (encObjs l)) := by
  subst h
  exact sh_own hT (fun c hc => len_obj hc) fun c hc => by
    simp only [encObjs, List.mem_map] at hc
    obtain ⟨o, _, rfl⟩ := hc
    exact noOwn_obj o
theorem sh_heapE {T : Nat → Ob} {x : AV} {H2 H' : HHeap} {e e' : Int} (hH : H' = H2) (he : e' = e) (h : Sh T x (.sl 6 (encObjs H2.objs))) : Sh T (.tup [.agg [x, iv H2.cap, iv H2.last], iv e]) (.tup [.agg (encHeap H'), iv e']) := by
  subst hH; exact sh_heap h he.symm
theorem set_get {l : List HObj} {i k : Nat} {o : HObj} (h : l[k]? = some o) : ((encObjs l).set i (encObj o))[k]? = some (encObj o) := by
  rw [objs_set]
  by_cases hik : i = k
  · subst hik; rw [objs_get]; rw [List.getElem?_set_self (List.getElem?_eq_some_iff.1 h).1]
  · rw [objs_get]; rw [List.getElem?_set_ne hik]; exact h
set_option maxRecDepth 100000 in
set_option maxHeartbeats 4000000 in
theorem Become_ok (H : HHeap) (hi : H.In) (v w : Int) : Gives Tryz.prog 128 [.agg (encHeap H), iv v, iv w] (.tup [.agg (encHeap (becomeH H v w)), iv (becomeE H v w)]) := by
  refine gives_of Tryz.func128 rfl (Nat.le_of_ble_eq_true rfl) ?_
  (repeat' (first | refine asg ?_ | refine la ?_ | refine aops_nil ?_ | refine aw_seq ?_ | refine aw_region ?_ | refine bx 0 ?_ | refine al 1 ?_ | fail))
  refine cl (May_ok H hi) ?_ (hno := ⟨noOwn_heap H, trivial⟩)
  (repeat' (first | refine un ?_ | refine aops_nil ?_ | fail))
  refine aw_cond rfl (fun h1 => ?_) (fun h1 => ?_) <;> simp at h1 <;> (repeat' (first | refine mv ?_ | refine asg ?_ | refine ld ?_ | refine fp ?_ | refine ln ?_ | refine so ?_ | refine bd ?_ | refine aops_nil ?_ | refine aw_seq ?_ | refine aw_region ?_ | refine aw_skip ?_ | refine aw_ret ?_ | fail))
  · have e1 : becomeE H v w = 1 := by simp [becomeE, h1]
    exact fin (sh_empty (by simp [becomeH, e1, keptH]) e1.symm)
  refine cl (ref_ok _ _) ?_
  (repeat' (first | refine mv ?_ | fail))
  refine cl (ref_ok _ _) ?_
  (repeat' (first | refine asg ?_ | refine aops_nil ?_ | fail))
  refine aw_seq ?_
  refine aw_cutE (ι := {b : Bool // b = decide (H.ref v < 0 ∨ H.ref w < 0)}) (fun b => [(29, bv b.1), (3, .ptr 0 0 0), (6, .ptr 1 0 0), (9, iv (refI ((encObjs H.objs).length : Int) v)), (10, iv (refI ((encObjs H.objs).length : Int) w))]) ?_ ?_
  · (repeat' (first | refine sk ?_ | refine mv ?_ | refine bi ?_ | refine pt ?_ | refine pf ?_ | refine aops_nil ?_ | refine aw_region ?_ | refine gs (fun h => ?_) (fun h => ?_) | fail))
    all_goals (refine ⟨⟨_, ?_⟩, rfl, rfl, rfl, rfl, rfl, rfl, trivial⟩; clear hi h1; simp [HHeap.ref] at *; first | omega | grind)
  rintro ⟨b, hb⟩
  refine aw_cond rfl (fun h2 => ?_) (fun h2 => ?_) <;> simp [hb] at h2 <;> (repeat' (first | refine asg ?_ | refine la ?_ | refine so ?_ | refine aops_nil ?_ | refine aw_seq ?_ | refine aw_region ?_ | refine aw_skip ?_ | refine aw_ret ?_ | fail))
  · have e1 : becomeE H v w = 31 := by simp [becomeE, h1, h2]
    exact fin (sh_keep (H := H) (by simp [becomeH, e1, keptH]) e1.symm)
  obtain ⟨hv, hw⟩ := h2
  refine cm1 (copied1 H hi) ?_ (hno := ⟨noOwn_heap H, trivial⟩)
  (repeat' (first | refine so ?_ | refine aops_nil ?_ | refine aw_seq ?_ | fail))
  have e1 : becomeE H v w = 0 := by simp [becomeE, h1]; omega
  have gv := at_get hv
  have gw := at_get hw
  have lv : (H.ref v).toNat < (encObjs H.objs).length := by simpa using ref_lt hv
  have lw : (H.ref w).toNat < (encObjs H.objs).length := by simpa using ref_lt hw
  have nv : refI ((encObjs H.objs).length : Int) v = ((H.ref v).toNat : Int) := by rw [Int.toNat_of_nonneg hv]; simp [HHeap.ref]
  have nw : refI ((encObjs H.objs).length : Int) w = ((H.ref w).toNat : Int) := by rw [Int.toNat_of_nonneg hw]; simp [HHeap.ref]
  have lv2 : (H.ref v).toNat < ((encObjs H.objs).set (H.ref v).toNat (encObj (H.at' w))).length := by rw [List.length_set]; exact lv
  have lw2 : (H.ref w).toNat < ((encObjs H.objs).set (H.ref v).toNat (encObj (H.at' w))).length := by rw [List.length_set]; exact lw
  refine aw_drawU 18 17 10 (.live 41 6 ((encObjs H.objs).set (H.ref v).toNat (encObj (H.at' w)))) ?_
  (repeat' (first | refine dn ?_ | refine db y_move ?_ | refine d2 y_move y_move ?_ | refine db y_load ?_ | refine d2 y_load y_load ?_ | refine db (y_faddr_ptr (hs := Nat.le_of_ble_eq_true rfl)) ?_ | refine d2 (y_faddr_ptr (hs := Nat.le_of_ble_eq_true rfl)) (y_faddr_ptr (hs := Nat.le_of_ble_eq_true rfl)) ?_ | refine db (y_iaoN (H.ref w).toNat lw (hn := nw)) ?_ | refine db (y_iaoN (H.ref v).toNat lv (hn := nv)) ?_ | refine d2 (y_iaoN (H.ref v).toNat lv (hn := nv)) (y_iaoN (H.ref v).toNat lv2 (hn := nv)) ?_ | refine db (y_loadsP (objs_get gv)) ?_ | refine db (y_loadsP (objs_get gw)) ?_ | refine deS (y_storeU (objs_get gv)) ?_ | fail))
  refine iao (H.ref w).toNat lw2 ?_ (hn := nw)
  refine so ?_ (hq := set_get gw)
  (repeat' (first | refine asg ?_ | refine la ?_ | refine so ?_ | refine aops_nil ?_ | refine aw_seq ?_ | refine aw_region ?_ | refine aw_ret ?_ | fail))
  rw [e1, show becomeH H v w = (H.put (H.ref v).toNat (H.at' w)).put (H.ref w).toNat (H.at' v) by simp [becomeH, e1]]
  refine fin (sh_heap (H' := (H.put (H.ref v).toNat (H.at' w)).put (H.ref w).toNat (H.at' v)) ?_ rfl)
  refine sh_objsrow rfl ?_
  simp only [HHeap.put]
  rw [← objs_set, ← objs_set]
  rfl
set_option maxRecDepth 100000 in
set_option maxHeartbeats 4000000 in
theorem rBecome_ok (H : HHeap) (hi : H.In) (v w : Int) : Gives Tryz.prog 98 [.agg (encHeap H), iv v, iv w] (.tup [.agg (encHeap (becomeH H v w)), iv (becomeE H v w)]) := by
  have i4 := hi.2.2.2
  refine gives_of Tryz.func98 rfl (Nat.le_of_ble_eq_true rfl) ?_
  (repeat' (first | refine asg ?_ | refine la ?_ | refine aops_nil ?_ | refine aw_seq ?_ | refine aw_region ?_ | refine bx 0 ?_ | refine al 1 ?_ | fail))
  refine cl (rMay_ok H hi) ?_ (hno := ⟨noOwn_heap H, trivial⟩)
  (repeat' (first | refine un ?_ | refine aops_nil ?_ | fail))
  refine aw_cond rfl (fun h1 => ?_) (fun h1 => ?_) <;> simp at h1 <;> (repeat' (first | refine asg ?_ | refine so ?_ | refine bd ?_ | refine aops_nil ?_ | refine aw_seq ?_ | refine aw_region ?_ | refine aw_skip ?_ | refine aw_ret ?_ | fail))
  · have e1 : becomeE H v w = 1 := by simp [becomeE, h1]
    exact fin (sh_empty (by simp [becomeH, e1, keptH]) e1.symm)
  refine aw_draw 8 none ?_
  (repeat' (first | refine dn ?_ | refine ds y_move ?_ | refine ds y_assign ?_ | refine ds y_loadsN ?_ | refine ds (y_call (rRef_ok H _ i4) (hno := ⟨noOwn_heap H, noOwn_iv _, trivial⟩)) ?_ | fail))
  refine aops_nil ?_
  refine aw_seq ?_
  refine aw_cutE (ι := {b : Bool // b = decide (H.ref v < 0 ∨ H.ref w < 0)}) (fun b => [(27, bv b.1), (3, .ptr 0 0 0), (6, .ptr 1 0 0), (8, iv (refI (H.objs.length : Int) v)), (9, iv (refI (H.objs.length : Int) w))]) ?_ ?_
  · (repeat' (first | refine sk ?_ | refine mv ?_ | refine bi ?_ | refine pt ?_ | refine pf ?_ | refine aops_nil ?_ | refine aw_region ?_ | refine gs (fun h => ?_) (fun h => ?_) | fail))
    all_goals (refine ⟨⟨_, ?_⟩, rfl, rfl, rfl, rfl, rfl, rfl, trivial⟩; clear hi h1; simp [HHeap.ref] at *; first | omega | grind)
  rintro ⟨b, hb⟩
  refine aw_cond rfl (fun h2 => ?_) (fun h2 => ?_) <;> simp [hb] at h2 <;> (repeat' (first | refine asg ?_ | refine la ?_ | refine so ?_ | refine aops_nil ?_ | refine aw_seq ?_ | refine aw_region ?_ | refine aw_skip ?_ | refine aw_ret ?_ | fail))
  · have e1 : becomeE H v w = 31 := by simp [becomeE, h1, h2]
    exact fin (sh_keep (H := H) (by simp [becomeH, e1, keptH]) e1.symm)
  obtain ⟨hv, hw⟩ := h2
  refine cm1 (rcopy1 H hi) ?_ (hno := ⟨noOwn_heap H, trivial⟩)
  (repeat' (first | refine mv ?_ | refine ld ?_ | refine fp ?_ | refine so ?_ | refine aops_nil ?_ | refine aw_seq ?_ | refine aw_region ?_ | refine al 2 ?_ | fail))
  have e1 : becomeE H v w = 0 := by simp [becomeE, h1]; omega
  have gv := at_get hv
  have gw := at_get hw
  have lv : (H.ref v).toNat < (encObjs H.objs).length := by simpa using ref_lt hv
  have lw : (H.ref w).toNat < (encObjs H.objs).length := by simpa using ref_lt hw
  have nv : refI (H.objs.length : Int) v = ((H.ref v).toNat : Int) := by rw [Int.toNat_of_nonneg hv]; simp [HHeap.ref]
  have nw : refI (H.objs.length : Int) w = ((H.ref w).toNat : Int) := by rw [Int.toNat_of_nonneg hw]; simp [HHeap.ref]
  have lw2 : (H.ref w).toNat < ((encObjs H.objs).set (H.ref v).toNat (encObj (H.at' w))).length := by rw [List.length_set]; exact lw
  refine iao (H.ref v).toNat lv ?_ (hn := nv)
  refine laP (objs_get gv) ?_
  (repeat' (first | refine so ?_ | refine aops_nil ?_ | refine aw_seq ?_ | refine al 3 ?_ | fail))
  refine aw_draw 8 none ?_
  (repeat' (first | refine dn ?_ | refine ds y_move ?_ | refine ds y_load ?_ | refine ds (y_faddr_ptr (hs := Nat.le_of_ble_eq_true rfl)) ?_ | refine ds (y_iaoN (H.ref w).toNat lw (hn := nw)) ?_ | refine ds (y_loadsP (objs_get gw)) ?_ | fail))
  refine iao (H.ref v).toNat lv ?_ (hn := nv)
  refine so ?_ (hq := objs_get gv)
  (repeat' (first | refine mv ?_ | refine ld ?_ | refine fp ?_ | refine la ?_ | refine aops_nil ?_ | refine aw_seq ?_ | refine aw_region ?_ | fail))
  refine iao (H.ref w).toNat lw2 ?_ (hn := nw)
  refine so ?_ (hq := set_get gw)
  (repeat' (first | refine asg ?_ | refine la ?_ | refine so ?_ | refine aops_nil ?_ | refine aw_seq ?_ | refine aw_region ?_ | refine aw_ret ?_ | fail))
  rw [e1, show becomeH H v w = (H.put (H.ref v).toNat (H.at' w)).put (H.ref w).toNat (H.at' v) by simp [becomeH, e1]]
  refine fin (sh_heap (H' := (H.put (H.ref v).toNat (H.at' w)).put (H.ref w).toNat (H.at' v)) ?_ rfl)
  refine sh_objsrow rfl ?_
  simp only [HHeap.put]
  rw [← objs_set, ← objs_set]
  rfl
end Go.Proofs.YtnjihhheiiapnaaGreat
namespace Go.Proofs.YtnjihhheiiapnaaGreat
open Go Go.Proofs AW
def setByteE (H : HHeap) (v a x : Int) : Int := if wrongE H v 1 a = 0 then (if 0 ≤ x ∧ x ≤ 255 then 0 else 32) else wrongE H v 1 a
def setB (t : ByteArray) (k : Nat) (x : Int) : ByteArray := strOfNums ((numsOf t).set k x)
def setByteH (H : HHeap) (v a x : Int) : HHeap :=
  if setByteE H v a x = 0 then H.put (H.ref v).toNat { H.at' v with text := setB (H.at' v).text a.toNat x } else keptH H (setByteE H v a x)
theorem wrap8 {x : Int} (h : 0 ≤ x ∧ x ≤ 255) : IntKind.u8.wrap x = x := by
  simp [IntKind.wrap, IntKind.signed, IntKind.bits]; omega
theorem setB_cut {t : ByteArray} {k : Nat} {x : Int} (hk : k < t.size) : t.extract 0 k ++ strOfNums [x] ++ t.extract (k + 1) t.size = setB t k x := by
  apply ByteArray.ext
  apply Array.ext'
  have h1 : (numsOf t).map (fun n => UInt8.ofNat n.toNat) = t.data.toList := by
    simp only [numsOf, List.map_map]
    conv => rhs; rw [← List.map_id t.data.toList]
    apply List.map_congr_left
    intro b _
    simp
  have hl : k < t.data.toList.length := by simpa using hk
  simp only [setB, strOfNums, List.map_set, h1]
  rw [List.set_eq_take_append_cons_drop, if_pos hl]
  simp [ByteArray.data_append, ByteArray.data_extract]
  rw [List.take_of_length_le (by simp)]
set_option maxRecDepth 100000 in
set_option maxHeartbeats 4000000 in
theorem SetByte_ok (H : HHeap) (hi : H.In) (v a x : Int) : Gives Tryz.prog 135 [.agg (encHeap H), iv v, iv a, iv x] (.tup [.agg (encHeap (setByteH H v a x)), iv (setByteE H v a x)]) := by
  have hi' := hi
  obtain ⟨i1, i2, i3, i4⟩ := hi
  refine gives_of Tryz.func135 rfl (Nat.le_of_ble_eq_true rfl) ?_
  (repeat' (first | refine mv ?_ | refine asg ?_ | refine la ?_ | refine aops_nil ?_ | refine aw_seq ?_ | refine aw_region ?_ | refine bx 0 ?_ | refine al 1 ?_ | fail))
  refine cl (place_ok H hi' v 1 a) ?_ (hno := ⟨noOwn_heap H, noOwn_iv _, noOwn_iv _, noOwn_iv _, trivial⟩)
  (repeat' (first | refine mv ?_ | refine asg ?_ | refine bi ?_ | refine ex ?_ | refine aops_nil ?_ | refine aw_seq ?_ | refine aw_region ?_ | fail))
  refine aw_cond rfl (fun h1 => ?_) (fun h1 => ?_) <;> simp at h1 <;> (repeat' (first | refine mv ?_ | refine la ?_ | refine aw_seq ?_ | refine aw_region ?_ | refine aw_skip ?_ | fail))
  · refine cl (kept_ok H _) ?_ (hno := ⟨noOwn_heap H, noOwn_iv _, trivial⟩)
    (repeat' (first | refine asg ?_ | refine ex ?_ | refine so ?_ | refine aops_nil ?_ | refine aw_ret ?_ | fail))
    refine fin (sh_keep ?_ ?_) <;> simp [setByteH, setByteE, h1]
  refine cl (in_ok _ _) ?_
  (repeat' (first | refine un ?_ | refine aops_nil ?_ | fail))
  refine aw_cond rfl (fun h2 => ?_) (fun h2 => ?_) <;> simp at h2 <;> (repeat' (first | refine asg ?_ | refine la ?_ | refine so ?_ | refine aops_nil ?_ | refine aw_seq ?_ | refine aw_region ?_ | refine aw_skip ?_ | refine aw_ret ?_ | fail))
  · have e1 : setByteE H v a x = 32 := by simp [setByteE, h1]; omega
    exact fin (sh_keep (H := H) (by simp [setByteH, e1, keptH]) e1.symm)
  refine cm1 (copied1 H hi') ?_ (hno := ⟨noOwn_heap H, trivial⟩)
  (repeat' (first | refine mv ?_ | refine ld ?_ | refine fp ?_ | refine so ?_ | refine aops_nil ?_ | refine aw_seq ?_ | refine aw_region ?_ | fail))
  obtain ⟨m, hr, hk, ha, hb⟩ := wrong0 h1
  have hget := at_get hr
  have hil : (H.ref v).toNat < (encObjs H.objs).length := by simpa using ref_lt hr
  have hsl : a.toNat < (H.at' v).text.size := by have := (kind_lens m hr).1 (by omega); omega
  have hsm : (H.at' v).text.size < 1099511627776 := (i1 _ (at_mem hr)).2.2.2.2.2.2
  have hn : (if wrongE H v 1 a = 0 then H.ref v else 0) = ((H.ref v).toNat : Int) := by rw [if_pos h1, Int.toNat_of_nonneg hr]
  have hal : a.toNat < (byteRow (numsOf (H.at' v).text)).length := by simpa using hsl
  have hag : (byteRow (numsOf (H.at' v).text))[a.toNat]? = some [.v (.int .u8 ((numsOf (H.at' v).text)[a.toNat]'(by simpa using hsl)))] := bytes_get (List.getElem?_eq_getElem _)
  refine iao (H.ref v).toNat hil ?_ (hn := hn)
  refine fp ?_
  refine ldP (objs_get hget) ?_
  refine sb 3 rfl hsm ?_
  (repeat' (first | refine mv ?_ | refine asg ?_ | refine cv' ?_ | refine aops_nil ?_ | refine aw_seq ?_ | refine aw_region ?_ | fail))
  refine iao a.toNat hal ?_ (hn := (Int.toNat_of_nonneg ha).symm)
  refine so ?_ (hq := hag)
  (repeat' (first | refine mv ?_ | refine ld ?_ | refine fp ?_ | refine aops_nil ?_ | refine aw_seq ?_ | refine aw_region ?_ | fail))
  refine bs ((numsOf (H.at' v).text).set a.toNat (IntKind.u8.wrap x)) ?_ (hs := ?_)
  rotate_left
  · exact congrArg some (bytes_set _ _ _)
  refine iao (H.ref v).toNat hil ?_ (hn := hn)
  refine fp ?_
  refine so ?_ (hq := objs_get hget)
  (repeat' (first | refine asg ?_ | refine la ?_ | refine so ?_ | refine aops_nil ?_ | refine aw_seq ?_ | refine aw_region ?_ | refine aw_ret ?_ | fail))
  have e1 : setByteE H v a x = 0 := by simp [setByteE, h1, h2]
  have hx : setB (H.at' v).text a.toNat x = strOfNums ((numsOf (H.at' v).text).set a.toNat (IntKind.u8.wrap x)) := by rw [wrap8 h2]; rfl
  refine fin (sh_heapE (H2 := H.put (H.ref v).toNat { H.at' v with text := setB (H.at' v).text a.toNat x }) (by simp [setByteH, e1]) e1 ?_)
  refine sh_objsrow rfl ?_
  simp only [HHeap.put]
  rw [← objs_set, hx]
  rfl
end Go.Proofs.YtnjihhheiiapnaaGreat
namespace Go.Proofs.YtnjihhheiiapnaaGreat
open Go Go.Proofs AW
set_option maxRecDepth 100000 in
set_option maxHeartbeats 4000000 in
theorem rSetByte_ok (H : HHeap) (hi : H.In) (v a x : Int) : Gives Tryz.prog 92 [.agg (encHeap H), iv v, iv a, iv x] (.tup [.agg (encHeap (setByteH H v a x)), iv (setByteE H v a x)]) := by
  have hi' := hi
  obtain ⟨i1, i2, i3, i4⟩ := hi
  have i4' : H.objs.length < 1099511627776 := i4
  refine gives_of Tryz.func92 rfl (Nat.le_of_ble_eq_true rfl) ?_
  (repeat' (first | refine mv ?_ | refine asg ?_ | refine la ?_ | refine aops_nil ?_ | refine aw_seq ?_ | refine aw_region ?_ | refine bx 0 ?_ | refine al 1 ?_ | fail))
  refine cl (rwrong_ok H hi' v 1 a (.inr rfl)) ?_ (hno := ⟨noOwn_heap H, noOwn_iv _, noOwn_iv _, noOwn_iv _, trivial⟩)
  (repeat' (first | refine mv ?_ | refine asg ?_ | refine bi ?_ | refine aops_nil ?_ | refine aw_seq ?_ | refine aw_region ?_ | fail))
  refine aw_cond rfl (fun h1 => ?_) (fun h1 => ?_) <;> simp at h1
  · (repeat' (first | refine mv ?_ | refine asg ?_ | refine so ?_ | refine bd ?_ | refine aops_nil ?_ | refine aw_seq ?_ | refine aw_region ?_ | refine aw_ret ?_ | fail))
    refine fin (sh_empty ?_ ?_) <;> simp [setByteH, setByteE, h1, keptH]
  have hE : setByteE H v a x = if wrongE H v 1 a = 0 then (if 0 ≤ x ∧ x ≤ 255 then 0 else 32) else wrongE H v 1 a := rfl
  generalize hW : wrongE H v 1 a = W at h1 hE ⊢
  refine aw_skip ?_
  refine aw_cutE (ι := {e : Int // e = setByteE H v a x}) (fun e => [(10, iv e.1), (1, iv v), (2, iv a), (3, iv x), (4, .ptr 0 0 0), (8, .ptr 1 0 0)]) ?_ ?_
  · (repeat' (first | refine sk ?_ | refine mv ?_ | refine asg ?_ | refine bi ?_ | refine pt ?_ | refine pf ?_ | refine aops_nil ?_ | refine aw_seq ?_ | refine aw_region ?_ | refine aw_cond_t rfl ?_ | refine aw_cond_f rfl ?_ | refine aw_skip ?_ | refine gs (fun h => ?_) (fun h => ?_) | refine aw_cond rfl (fun h => ?_) (fun h => ?_) | fail))
    all_goals (refine ⟨⟨_, ?_⟩, rfl, rfl, rfl, rfl, rfl, rfl, rfl, trivial⟩; rw [hE]; clear hi' i1 i2 i3 i4 hE; simp at *; first | omega | grind)
  rintro ⟨e, he⟩
  (repeat' (first | refine mv ?_ | refine bi ?_ | refine aops_nil ?_ | refine aw_seq ?_ | refine aw_region ?_ | fail))
  refine aw_cond rfl (fun h2 => ?_) (fun h2 => ?_) <;> simp at h2 <;> (repeat' (first | refine mv ?_ | refine asg ?_ | refine la ?_ | refine so ?_ | refine aops_nil ?_ | refine aw_seq ?_ | refine aw_region ?_ | refine aw_skip ?_ | refine aw_ret ?_ | fail))
  · have hne : e ≠ 1 := by rw [he, hE]; split <;> (try split) <;> omega
    refine fin (sh_keep (H := H) ?_ he); simp [setByteH, ← he, h2, keptH, hne]
  have hw : W = 0 ∧ 0 ≤ x ∧ x ≤ 255 := by
    rw [h2, hE] at he; split at he <;> (try split at he) <;> first | omega | exact ⟨by assumption, by assumption⟩
  obtain ⟨hw1, hw2⟩ := hw
  obtain ⟨m, hr, hk, ha, hb⟩ := wrong0 (hW.trans hw1)
  have hget := at_get hr
  have hil : (H.ref v).toNat < (encObjs H.objs).length := by simpa using ref_lt hr
  have hsl : a.toNat < (H.at' v).text.size := by have := (kind_lens m hr).1 (by omega); omega
  have hsm : (H.at' v).text.size < 1099511627776 := (i1 _ (at_mem hr)).2.2.2.2.2.2
  have hn : refI (H.objs.length : Int) v = ((H.ref v).toNat : Int) := by rw [Int.toNat_of_nonneg hr]; simp [HHeap.ref]
  have hna : a = (a.toNat : Int) := (Int.toNat_of_nonneg ha).symm
  refine cm1 (rcopy1 H hi') ?_ (hno := ⟨noOwn_heap H, trivial⟩)
  (repeat' (first | refine so ?_ | refine aops_nil ?_ | refine aw_seq ?_ | refine al 2 ?_ | fail))
  refine aw_draw 9 none ?_
  (repeat' (first | refine dn ?_ | refine ds y_move ?_ | refine ds y_assign ?_ | refine ds y_load ?_ | refine ds (y_faddr_ptr (hs := Nat.le_of_ble_eq_true rfl)) ?_ | refine ds y_loadsN ?_ | refine ds (y_call (rRef_ok H _ i4') (hno := ⟨noOwn_heap H, noOwn_iv _, trivial⟩)) ?_ | refine ds (y_iaoN (H.ref v).toNat hil (hn := hn)) ?_ | refine ds (y_loadP (objs_get hget)) ?_ | fail))
  (repeat' (first | refine aops_nil ?_ | refine aw_seq ?_ | fail))
  have c1 : a.toNat ≤ (H.at' v).text.size := by omega
  have c2 : a.toNat + 1 ≤ (H.at' v).text.size := by omega
  have b1 : -9223372036854775808 ≤ a + 1 ∧ a + 1 ≤ 9223372036854775807 := by omega
  have n2 : a + 1 = ((a.toNat + 1 : Nat) : Int) := by omega
  have s1 : ((H.at' v).text.extract 0 a.toNat).size + (strOfNums [IntKind.u8.wrap x]).size ≤ 9223372036854775807 := by
    simp only [ByteArray.size_extract, strOfNums_size, List.length_singleton]; omega
  have s2 : ((H.at' v).text.extract 0 a.toNat ++ strOfNums [IntKind.u8.wrap x]).size + ((H.at' v).text.extract (a.toNat + 1) (H.at' v).text.size).size ≤ 9223372036854775807 := by
    simp only [ByteArray.size_append, ByteArray.size_extract, strOfNums_size, List.length_singleton]; omega
  refine aw_drawU 18 10 3 (.live 5 1 (byteRow [IntKind.u8.wrap x])) ?_
  (repeat' (first | refine dn ?_ | refine d2 y_move y_move ?_ | refine d2 y_load y_load ?_ | refine d2 (y_faddr_ptr (hs := Nat.le_of_ble_eq_true rfl)) (y_faddr_ptr (hs := Nat.le_of_ble_eq_true rfl)) ?_ | refine d2 y_bw y_bw ?_ | refine d2 y_loadsN y_loadsN ?_ | refine d2 (y_call (rRef_ok H v i4') (hno := ⟨noOwn_heap H, noOwn_iv _, trivial⟩)) (y_call (rRef_ok H v i4') (hno := ⟨noOwn_heap H, noOwn_iv _, trivial⟩)) ?_ | refine d2 (y_cutsH a.toNat c1 hna) (y_cutsH a.toNat c1 hna) ?_ | refine d2 (y_cutsL (a.toNat + 1) c2 n2) (y_cutsL (a.toNat + 1) c2 n2) ?_ | refine d2 y_conv y_conv ?_ | refine de (y_litU 3) ?_ | refine dh (y_bstrU [IntKind.u8.wrap x]) ?_ | refine d2 (y_adds s1) (y_adds s1) ?_ | refine d2 (y_adds s2) (y_adds s2) ?_ | fail))
  refine iao (H.ref v).toNat hil ?_ (hn := hn)
  refine fp ?_
  refine so ?_ (hq := objs_get hget)
  (repeat' (first | refine asg ?_ | refine la ?_ | refine so ?_ | refine aops_nil ?_ | refine aw_seq ?_ | refine aw_region ?_ | refine aw_ret ?_ | fail))
  have e1 : setByteE H v a x = 0 := by rw [← he, h2]
  have hx : setB (H.at' v).text a.toNat x = (H.at' v).text.extract 0 a.toNat ++ strOfNums [IntKind.u8.wrap x] ++ (H.at' v).text.extract (a.toNat + 1) (H.at' v).text.size := by rw [wrap8 hw2, setB_cut hsl]
  refine fin (sh_heapE (H2 := H.put (H.ref v).toNat { H.at' v with text := setB (H.at' v).text a.toNat x }) (by simp [setByteH, e1]) e1 ?_)
  refine sh_objsrow rfl ?_
  simp only [HHeap.put]
  rw [← objs_set, hx]
  rfl
end Go.Proofs.YtnjihhheiiapnaaGreat
