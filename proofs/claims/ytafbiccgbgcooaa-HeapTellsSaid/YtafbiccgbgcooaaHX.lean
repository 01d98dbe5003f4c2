/- A byte that is set: the program's and the reference's. -/
import Derived.Test.YtafbiccgbgcooaaHW
set_option linter.unusedSimpArgs false
namespace Go.Proofs.Ytafbiccgbgcooaa
open Go Go.Proofs AW
def setByteE (H : HHeap) (v a x : Int) : Int := if wrongE H v 1 a = 0 then (if 0 ≤ x ∧ x ≤ 255 then 0 else 32) else wrongE H v 1 a
def setB (t : ByteArray) (k : Nat) (x : Int) : ByteArray := strOfNums ((numsOf t).set k x)
def setByteH (H : HHeap) (v a x : Int) : HHeap :=
  if setByteE H v a x = 0 then H.put (H.ref v).toNat { H.at' v with text := setB (H.at' v).text a.toNat x } else keptH H (setByteE H v a x)
theorem wrap8 {x : Int} (h : 0 ≤ x ∧ x ≤ 255) : IntKind.u8.wrap x = x := by
  simp [IntKind.wrap, IntKind.signed, IntKind.bits]; omega
theorem setB_cut {t : ByteArray} {k : Nat} {x : Int} (hk : k < t.size) : t.extract 0 k ++ strOfNums [x] ++ t.extract (k + 1) t.size = setB t k x := by
  apply ByteArray.ext
  apply Array.ext'
  have h1 : (numsOf t).map (fun n => UInt8.ofNat n.toNat) = t.data.toList := by
    simp only [numsOf, List.map_map]
    conv => rhs; rw [← List.map_id t.data.toList]
    apply List.map_congr_left
    intro b _
    simp
  have hl : k < t.data.toList.length := by simpa using hk
  simp only [setB, strOfNums, List.map_set, h1]
  rw [List.set_eq_take_append_cons_drop, if_pos hl]
  simp [ByteArray.data_append, ByteArray.data_extract]
  rw [List.take_of_length_le (by simp)]
set_option maxRecDepth 100000 in
set_option maxHeartbeats 4000000 in
theorem SetByte_ok (H : HHeap) (hi : H.In) (v a x : Int) : Gives Try.prog 28 [.agg (encHeap H), iv v, iv a, iv x] (.tup [.agg (encHeap (setByteH H v a x)), iv (setByteE H v a x)]) := by
  have hi' := hi
  obtain ⟨i1, i2, i3, i4⟩ := hi
  refine gives_of Try.func28 rfl (Nat.le_of_ble_eq_true rfl) ?_
  (repeat' (first | refine sk ?_ | refine mv ?_ | refine asg ?_ | refine ld ?_ | refine fp ?_ | refine fi ?_ | refine ms 1 ?_ | refine ms 30 ?_ | refine ms 63 ?_ | refine sll (c := 2) ?_ | refine sll (c := 8) ?_ | refine sr ?_ | refine rm ?_ | refine qu ?_ | refine bw ?_ | refine bi ?_ | refine un ?_ | refine pt ?_ | refine pf ?_ | refine ex ?_ | refine cv' ?_ | refine ln ?_ | refine lns ?_ | refine fd ?_ | refine la ?_ | refine so ?_ | refine mf ?_ | refine bd ?_ | refine aops_nil ?_ | refine aw_seq ?_ | refine aw_region ?_ | refine aw_cond_t rfl ?_ | refine aw_cond_f rfl ?_ | refine aw_block ?_ | refine aw_exit ?_ | refine aw_skip ?_ | refine aw_ret ?_ | refine bx 0 ?_ | refine bx 1 ?_ | refine bx 2 ?_ | refine bx 3 ?_ | refine al 0 ?_ | refine al 1 ?_ | refine al 2 ?_ | refine al 3 ?_ | fail))
  refine cl (place_ok H hi' v 1 a) ?_ (hno := ⟨noOwn_heap H, noOwn_iv _, noOwn_iv _, noOwn_iv _, trivial⟩)
  (repeat' (first | refine sk ?_ | refine mv ?_ | refine asg ?_ | refine ld ?_ | refine fp ?_ | refine fi ?_ | refine ms 1 ?_ | refine ms 30 ?_ | refine ms 63 ?_ | refine sll (c := 2) ?_ | refine sll (c := 8) ?_ | refine sr ?_ | refine rm ?_ | refine qu ?_ | refine bw ?_ | refine bi ?_ | refine un ?_ | refine pt ?_ | refine pf ?_ | refine ex ?_ | refine cv' ?_ | refine ln ?_ | refine lns ?_ | refine fd ?_ | refine la ?_ | refine so ?_ | refine mf ?_ | refine bd ?_ | refine aops_nil ?_ | refine aw_seq ?_ | refine aw_region ?_ | refine aw_cond_t rfl ?_ | refine aw_cond_f rfl ?_ | refine aw_block ?_ | refine aw_exit ?_ | refine aw_skip ?_ | refine aw_ret ?_ | refine bx 0 ?_ | refine bx 1 ?_ | refine bx 2 ?_ | refine bx 3 ?_ | refine al 0 ?_ | refine al 1 ?_ | refine al 2 ?_ | refine al 3 ?_ | fail))
  refine aw_cond rfl (fun h1 => ?_) (fun h1 => ?_) <;> simp at h1 <;> (repeat' (first | refine sk ?_ | refine mv ?_ | refine asg ?_ | refine ld ?_ | refine fp ?_ | refine fi ?_ | refine ms 1 ?_ | refine ms 30 ?_ | refine ms 63 ?_ | refine sll (c := 2) ?_ | refine sll (c := 8) ?_ | refine sr ?_ | refine rm ?_ | refine qu ?_ | refine bw ?_ | refine bi ?_ | refine un ?_ | refine pt ?_ | refine pf ?_ | refine ex ?_ | refine cv' ?_ | refine ln ?_ | refine lns ?_ | refine fd ?_ | refine la ?_ | refine so ?_ | refine mf ?_ | refine bd ?_ | refine aops_nil ?_ | refine aw_seq ?_ | refine aw_region ?_ | refine aw_cond_t rfl ?_ | refine aw_cond_f rfl ?_ | refine aw_block ?_ | refine aw_exit ?_ | refine aw_skip ?_ | refine aw_ret ?_ | fail))
  · refine cl (kept_ok H _) ?_ (hno := ⟨noOwn_heap H, noOwn_iv _, trivial⟩)
    (repeat' (first | refine sk ?_ | refine mv ?_ | refine asg ?_ | refine ld ?_ | refine fp ?_ | refine fi ?_ | refine ms 1 ?_ | refine ms 30 ?_ | refine ms 63 ?_ | refine sll (c := 2) ?_ | refine sll (c := 8) ?_ | refine sr ?_ | refine rm ?_ | refine qu ?_ | refine bw ?_ | refine bi ?_ | refine un ?_ | refine pt ?_ | refine pf ?_ | refine ex ?_ | refine cv' ?_ | refine ln ?_ | refine lns ?_ | refine fd ?_ | refine la ?_ | refine so ?_ | refine mf ?_ | refine bd ?_ | refine aops_nil ?_ | refine aw_seq ?_ | refine aw_region ?_ | refine aw_cond_t rfl ?_ | refine aw_cond_f rfl ?_ | refine aw_block ?_ | refine aw_exit ?_ | refine aw_skip ?_ | refine aw_ret ?_ | refine bx 0 ?_ | refine bx 1 ?_ | refine bx 2 ?_ | refine bx 3 ?_ | refine al 0 ?_ | refine al 1 ?_ | refine al 2 ?_ | refine al 3 ?_ | fail))
    refine fin (sh_keep ?_ ?_) <;> simp [setByteH, setByteE, h1]
  refine cl (in_ok _ _) ?_
  (repeat' (first | refine sk ?_ | refine mv ?_ | refine asg ?_ | refine ld ?_ | refine fp ?_ | refine fi ?_ | refine ms 1 ?_ | refine ms 30 ?_ | refine ms 63 ?_ | refine sll (c := 2) ?_ | refine sll (c := 8) ?_ | refine sr ?_ | refine rm ?_ | refine qu ?_ | refine bw ?_ | refine bi ?_ | refine un ?_ | refine pt ?_ | refine pf ?_ | refine ex ?_ | refine cv' ?_ | refine ln ?_ | refine lns ?_ | refine fd ?_ | refine la ?_ | refine so ?_ | refine mf ?_ | refine bd ?_ | refine aops_nil ?_ | refine aw_seq ?_ | refine aw_region ?_ | refine aw_cond_t rfl ?_ | refine aw_cond_f rfl ?_ | refine aw_block ?_ | refine aw_exit ?_ | refine aw_skip ?_ | refine aw_ret ?_ | refine bx 0 ?_ | refine bx 1 ?_ | refine bx 2 ?_ | refine bx 3 ?_ | refine al 0 ?_ | refine al 1 ?_ | refine al 2 ?_ | refine al 3 ?_ | fail))
  refine aw_cond rfl (fun h2 => ?_) (fun h2 => ?_) <;> simp at h2 <;> (repeat' (first | refine sk ?_ | refine mv ?_ | refine asg ?_ | refine ld ?_ | refine fp ?_ | refine fi ?_ | refine ms 1 ?_ | refine ms 30 ?_ | refine ms 63 ?_ | refine sll (c := 2) ?_ | refine sll (c := 8) ?_ | refine sr ?_ | refine rm ?_ | refine qu ?_ | refine bw ?_ | refine bi ?_ | refine un ?_ | refine pt ?_ | refine pf ?_ | refine ex ?_ | refine cv' ?_ | refine ln ?_ | refine lns ?_ | refine fd ?_ | refine la ?_ | refine so ?_ | refine mf ?_ | refine bd ?_ | refine aops_nil ?_ | refine aw_seq ?_ | refine aw_region ?_ | refine aw_cond_t rfl ?_ | refine aw_cond_f rfl ?_ | refine aw_block ?_ | refine aw_exit ?_ | refine aw_skip ?_ | refine aw_ret ?_ | fail))
  · have e1 : setByteE H v a x = 32 := by simp [setByteE, h1]; omega
    exact fin (sh_keep (H := H) (by simp [setByteH, e1, keptH]) e1.symm)
  refine cm1 (copied1 H hi') ?_ (hno := ⟨noOwn_heap H, trivial⟩)
  (repeat' (first | refine sk ?_ | refine mv ?_ | refine asg ?_ | refine ld ?_ | refine fp ?_ | refine fi ?_ | refine ms 1 ?_ | refine ms 30 ?_ | refine ms 63 ?_ | refine sll (c := 2) ?_ | refine sll (c := 8) ?_ | refine sr ?_ | refine rm ?_ | refine qu ?_ | refine bw ?_ | refine bi ?_ | refine un ?_ | refine pt ?_ | refine pf ?_ | refine ex ?_ | refine cv' ?_ | refine ln ?_ | refine lns ?_ | refine fd ?_ | refine la ?_ | refine so ?_ | refine mf ?_ | refine bd ?_ | refine aops_nil ?_ | refine aw_seq ?_ | refine aw_region ?_ | refine aw_cond_t rfl ?_ | refine aw_cond_f rfl ?_ | refine aw_block ?_ | refine aw_exit ?_ | refine aw_skip ?_ | refine aw_ret ?_ | fail))
  obtain ⟨m, hr, hk, ha, hb⟩ := wrong0 h1
  have hget := at_get hr
  have hil : (H.ref v).toNat < (encObjs H.objs).length := by simpa using ref_lt hr
  have hsl : a.toNat < (H.at' v).text.size := by have := (kind_lens m hr).1 (by omega); omega
  have hsm : (H.at' v).text.size < 1099511627776 := (i1 _ (at_mem hr)).2.2.2.2.2.2
  have hn : (if wrongE H v 1 a = 0 then H.ref v else 0) = ((H.ref v).toNat : Int) := by rw [if_pos h1, Int.toNat_of_nonneg hr]
  have hal : a.toNat < (byteRow (numsOf (H.at' v).text)).length := by simpa using hsl
  have hag : (byteRow (numsOf (H.at' v).text))[a.toNat]? = some [.v (.int .u8 ((numsOf (H.at' v).text)[a.toNat]'(by simpa using hsl)))] := bytes_get (List.getElem?_eq_getElem _)
  refine iao (H.ref v).toNat hil ?_ (hn := hn)
  refine fp ?_
  refine ldP (objs_get hget) ?_
  refine sb 3 rfl hsm ?_
  (repeat' (first | refine sk ?_ | refine mv ?_ | refine asg ?_ | refine ld ?_ | refine fp ?_ | refine fi ?_ | refine ms 1 ?_ | refine ms 30 ?_ | refine ms 63 ?_ | refine sll (c := 2) ?_ | refine sll (c := 8) ?_ | refine sr ?_ | refine rm ?_ | refine qu ?_ | refine bw ?_ | refine bi ?_ | refine un ?_ | refine pt ?_ | refine pf ?_ | refine ex ?_ | refine cv' ?_ | refine ln ?_ | refine lns ?_ | refine fd ?_ | refine la ?_ | refine so ?_ | refine mf ?_ | refine bd ?_ | refine aops_nil ?_ | refine aw_seq ?_ | refine aw_region ?_ | refine aw_cond_t rfl ?_ | refine aw_cond_f rfl ?_ | refine aw_block ?_ | refine aw_exit ?_ | refine aw_skip ?_ | refine aw_ret ?_ | fail))
  refine iao a.toNat hal ?_ (hn := (Int.toNat_of_nonneg ha).symm)
  refine so ?_ (hq := hag)
  (repeat' (first | refine sk ?_ | refine mv ?_ | refine asg ?_ | refine ld ?_ | refine fp ?_ | refine fi ?_ | refine ms 1 ?_ | refine ms 30 ?_ | refine ms 63 ?_ | refine sll (c := 2) ?_ | refine sll (c := 8) ?_ | refine sr ?_ | refine rm ?_ | refine qu ?_ | refine bw ?_ | refine bi ?_ | refine un ?_ | refine pt ?_ | refine pf ?_ | refine ex ?_ | refine cv' ?_ | refine ln ?_ | refine lns ?_ | refine fd ?_ | refine la ?_ | refine so ?_ | refine mf ?_ | refine bd ?_ | refine aops_nil ?_ | refine aw_seq ?_ | refine aw_region ?_ | refine aw_cond_t rfl ?_ | refine aw_cond_f rfl ?_ | refine aw_block ?_ | refine aw_exit ?_ | refine aw_skip ?_ | refine aw_ret ?_ | fail))
  refine bs ((numsOf (H.at' v).text).set a.toNat (IntKind.u8.wrap x)) ?_ (hs := ?_)
  rotate_left
  · exact congrArg some (bytes_set _ _ _)
  refine iao (H.ref v).toNat hil ?_ (hn := hn)
  refine fp ?_
  refine so ?_ (hq := objs_get hget)
  (repeat' (first | refine sk ?_ | refine mv ?_ | refine asg ?_ | refine ld ?_ | refine fp ?_ | refine fi ?_ | refine ms 1 ?_ | refine ms 30 ?_ | refine ms 63 ?_ | refine sll (c := 2) ?_ | refine sll (c := 8) ?_ | refine sr ?_ | refine rm ?_ | refine qu ?_ | refine bw ?_ | refine bi ?_ | refine un ?_ | refine pt ?_ | refine pf ?_ | refine ex ?_ | refine cv' ?_ | refine ln ?_ | refine lns ?_ | refine fd ?_ | refine la ?_ | refine so ?_ | refine mf ?_ | refine bd ?_ | refine aops_nil ?_ | refine aw_seq ?_ | refine aw_region ?_ | refine aw_cond_t rfl ?_ | refine aw_cond_f rfl ?_ | refine aw_block ?_ | refine aw_exit ?_ | refine aw_skip ?_ | refine aw_ret ?_ | fail))
  have e1 : setByteE H v a x = 0 := by simp [setByteE, h1, h2]
  have hx : setB (H.at' v).text a.toNat x = strOfNums ((numsOf (H.at' v).text).set a.toNat (IntKind.u8.wrap x)) := by rw [wrap8 h2]; rfl
  refine fin (sh_heapE (H2 := H.put (H.ref v).toNat { H.at' v with text := setB (H.at' v).text a.toNat x }) (by simp [setByteH, e1]) e1 ?_)
  refine sh_objsrow rfl ?_
  simp only [HHeap.put]
  rw [← objs_set, hx]
  rfl
end Go.Proofs.Ytafbiccgbgcooaa
