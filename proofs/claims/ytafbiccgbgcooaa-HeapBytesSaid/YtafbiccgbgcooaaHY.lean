/- A byte that is set: the reference's. -/
import Derived.Test.YtafbiccgbgcooaaHX
set_option linter.unusedSimpArgs false
namespace Go.Proofs.Ytafbiccgbgcooaa
open Go Go.Proofs AW
set_option maxRecDepth 100000 in
set_option maxHeartbeats 4000000 in
theorem rSetByte_ok (H : HHeap) (hi : H.In) (v a x : Int) : Gives Try.prog 29 [.agg (encHeap H), iv v, iv a, iv x] (.tup [.agg (encHeap (setByteH H v a x)), iv (setByteE H v a x)]) := by
  have hi' := hi
  obtain ⟨i1, i2, i3, i4⟩ := hi
  have i4' : H.objs.length < 1099511627776 := i4
  refine gives_of Try.func29 rfl (Nat.le_of_ble_eq_true rfl) ?_
  (repeat' (first | refine sk ?_ | refine mv ?_ | refine asg ?_ | refine ld ?_ | refine fp ?_ | refine fi ?_ | refine ms 1 ?_ | refine ms 30 ?_ | refine ms 63 ?_ | refine sll (c := 2) ?_ | refine sll (c := 8) ?_ | refine sr ?_ | refine rm ?_ | refine qu ?_ | refine bw ?_ | refine bi ?_ | refine un ?_ | refine pt ?_ | refine pf ?_ | refine ex ?_ | refine cv' ?_ | refine ln ?_ | refine lns ?_ | refine fd ?_ | refine la ?_ | refine so ?_ | refine mf ?_ | refine bd ?_ | refine aops_nil ?_ | refine aw_seq ?_ | refine aw_region ?_ | refine aw_cond_t rfl ?_ | refine aw_cond_f rfl ?_ | refine aw_block ?_ | refine aw_exit ?_ | refine aw_skip ?_ | refine aw_ret ?_ | refine bx 0 ?_ | refine bx 1 ?_ | refine bx 2 ?_ | refine bx 3 ?_ | refine al 0 ?_ | refine al 1 ?_ | refine al 2 ?_ | refine al 3 ?_ | fail))
  refine cl (rwrong_ok H hi' v 1 a (.inr rfl)) ?_ (hno := ⟨noOwn_heap H, noOwn_iv _, noOwn_iv _, noOwn_iv _, trivial⟩)
  (repeat' (first | refine sk ?_ | refine mv ?_ | refine asg ?_ | refine ld ?_ | refine fp ?_ | refine fi ?_ | refine ms 1 ?_ | refine ms 30 ?_ | refine ms 63 ?_ | refine sll (c := 2) ?_ | refine sll (c := 8) ?_ | refine sr ?_ | refine rm ?_ | refine qu ?_ | refine bw ?_ | refine bi ?_ | refine un ?_ | refine pt ?_ | refine pf ?_ | refine ex ?_ | refine cv' ?_ | refine ln ?_ | refine lns ?_ | refine fd ?_ | refine la ?_ | refine so ?_ | refine mf ?_ | refine bd ?_ | refine aops_nil ?_ | refine aw_seq ?_ | refine aw_region ?_ | refine aw_cond_t rfl ?_ | refine aw_cond_f rfl ?_ | refine aw_block ?_ | refine aw_exit ?_ | refine aw_skip ?_ | refine aw_ret ?_ | refine bx 0 ?_ | refine bx 1 ?_ | refine bx 2 ?_ | refine bx 3 ?_ | refine al 0 ?_ | refine al 1 ?_ | refine al 2 ?_ | refine al 3 ?_ | fail))
  refine aw_cond rfl (fun h1 => ?_) (fun h1 => ?_) <;> simp at h1
  · (repeat' (first | refine sk ?_ | refine mv ?_ | refine asg ?_ | refine ld ?_ | refine fp ?_ | refine fi ?_ | refine ms 1 ?_ | refine ms 30 ?_ | refine ms 63 ?_ | refine sll (c := 2) ?_ | refine sll (c := 8) ?_ | refine sr ?_ | refine rm ?_ | refine qu ?_ | refine bw ?_ | refine bi ?_ | refine un ?_ | refine pt ?_ | refine pf ?_ | refine ex ?_ | refine cv' ?_ | refine ln ?_ | refine lns ?_ | refine fd ?_ | refine la ?_ | refine so ?_ | refine mf ?_ | refine bd ?_ | refine aops_nil ?_ | refine aw_seq ?_ | refine aw_region ?_ | refine aw_cond_t rfl ?_ | refine aw_cond_f rfl ?_ | refine aw_block ?_ | refine aw_exit ?_ | refine aw_skip ?_ | refine aw_ret ?_ | fail))
    refine fin (sh_empty ?_ ?_) <;> simp [setByteH, setByteE, h1, keptH]
  have hE : setByteE H v a x = if wrongE H v 1 a = 0 then (if 0 ≤ x ∧ x ≤ 255 then 0 else 32) else wrongE H v 1 a := rfl
  generalize hW : wrongE H v 1 a = W at h1 hE ⊢
  refine aw_skip ?_
  refine aw_cutE (ι := {e : Int // e = setByteE H v a x}) (fun e => [(10, iv e.1), (1, iv v), (2, iv a), (3, iv x), (4, .ptr 0 0 0), (8, .ptr 1 0 0)]) ?_ ?_
  · (repeat' (first | refine sk ?_ | refine mv ?_ | refine asg ?_ | refine ld ?_ | refine fp ?_ | refine fi ?_ | refine ms 1 ?_ | refine ms 30 ?_ | refine ms 63 ?_ | refine sll (c := 2) ?_ | refine sll (c := 8) ?_ | refine sr ?_ | refine rm ?_ | refine qu ?_ | refine bw ?_ | refine bi ?_ | refine un ?_ | refine pt ?_ | refine pf ?_ | refine ex ?_ | refine cv' ?_ | refine ln ?_ | refine lns ?_ | refine fd ?_ | refine la ?_ | refine so ?_ | refine mf ?_ | refine bd ?_ | refine aops_nil ?_ | refine aw_seq ?_ | refine aw_region ?_ | refine aw_cond_t rfl ?_ | refine aw_cond_f rfl ?_ | refine aw_block ?_ | refine aw_exit ?_ | refine aw_skip ?_ | refine aw_ret ?_ | refine gs (fun h => ?_) (fun h => ?_) | refine aw_cond rfl (fun h => ?_) (fun h => ?_) | fail))
    all_goals (refine ⟨⟨_, ?_⟩, rfl, rfl, rfl, rfl, rfl, rfl, rfl, trivial⟩; rw [hE]; clear hi' i1 i2 i3 i4 hE; simp at *; first | omega | grind)
  rintro ⟨e, he⟩
  (repeat' (first | refine sk ?_ | refine mv ?_ | refine asg ?_ | refine ld ?_ | refine fp ?_ | refine fi ?_ | refine ms 1 ?_ | refine ms 30 ?_ | refine ms 63 ?_ | refine sll (c := 2) ?_ | refine sll (c := 8) ?_ | refine sr ?_ | refine rm ?_ | refine qu ?_ | refine bw ?_ | refine bi ?_ | refine un ?_ | refine pt ?_ | refine pf ?_ | refine ex ?_ | refine cv' ?_ | refine ln ?_ | refine lns ?_ | refine fd ?_ | refine la ?_ | refine so ?_ | refine mf ?_ | refine bd ?_ | refine aops_nil ?_ | refine aw_seq ?_ | refine aw_region ?_ | refine aw_cond_t rfl ?_ | refine aw_cond_f rfl ?_ | refine aw_block ?_ | refine aw_exit ?_ | refine aw_skip ?_ | refine aw_ret ?_ | fail))
  refine aw_cond rfl (fun h2 => ?_) (fun h2 => ?_) <;> simp at h2 <;> (repeat' (first | refine sk ?_ | refine mv ?_ | refine asg ?_ | refine ld ?_ | refine fp ?_ | refine fi ?_ | refine ms 1 ?_ | refine ms 30 ?_ | refine ms 63 ?_ | refine sll (c := 2) ?_ | refine sll (c := 8) ?_ | refine sr ?_ | refine rm ?_ | refine qu ?_ | refine bw ?_ | refine bi ?_ | refine un ?_ | refine pt ?_ | refine pf ?_ | refine ex ?_ | refine cv' ?_ | refine ln ?_ | refine lns ?_ | refine fd ?_ | refine la ?_ | refine so ?_ | refine mf ?_ | refine bd ?_ | refine aops_nil ?_ | refine aw_seq ?_ | refine aw_region ?_ | refine aw_cond_t rfl ?_ | refine aw_cond_f rfl ?_ | refine aw_block ?_ | refine aw_exit ?_ | refine aw_skip ?_ | refine aw_ret ?_ | fail))
  · have hne : e ≠ 1 := by rw [he, hE]; split <;> (try split) <;> omega
    refine fin (sh_keep (H := H) ?_ he); simp [setByteH, ← he, h2, keptH, hne]
  have hw : W = 0 ∧ 0 ≤ x ∧ x ≤ 255 := by
    rw [h2, hE] at he; split at he <;> (try split at he) <;> first | omega | exact ⟨by assumption, by assumption⟩
  obtain ⟨hw1, hw2⟩ := hw
  obtain ⟨m, hr, hk, ha, hb⟩ := wrong0 (hW.trans hw1)
  have hget := at_get hr
  have hil : (H.ref v).toNat < (encObjs H.objs).length := by simpa using ref_lt hr
  have hsl : a.toNat < (H.at' v).text.size := by have := (kind_lens m hr).1 (by omega); omega
  have hsm : (H.at' v).text.size < 1099511627776 := (i1 _ (at_mem hr)).2.2.2.2.2.2
  have hn : refI (H.objs.length : Int) v = ((H.ref v).toNat : Int) := by rw [Int.toNat_of_nonneg hr]; simp [HHeap.ref]
  have hna : a = (a.toNat : Int) := (Int.toNat_of_nonneg ha).symm
  refine cm1 (rcopy1 H hi') ?_ (hno := ⟨noOwn_heap H, trivial⟩)
  (repeat' (first | refine sk ?_ | refine mv ?_ | refine asg ?_ | refine ld ?_ | refine fp ?_ | refine fi ?_ | refine ms 1 ?_ | refine ms 30 ?_ | refine ms 63 ?_ | refine sll (c := 2) ?_ | refine sll (c := 8) ?_ | refine sr ?_ | refine rm ?_ | refine qu ?_ | refine bw ?_ | refine bi ?_ | refine un ?_ | refine pt ?_ | refine pf ?_ | refine ex ?_ | refine cv' ?_ | refine ln ?_ | refine lns ?_ | refine fd ?_ | refine la ?_ | refine so ?_ | refine mf ?_ | refine bd ?_ | refine aops_nil ?_ | refine aw_seq ?_ | refine aw_region ?_ | refine aw_cond_t rfl ?_ | refine aw_cond_f rfl ?_ | refine aw_block ?_ | refine aw_exit ?_ | refine aw_skip ?_ | refine aw_ret ?_ | refine bx 0 ?_ | refine bx 1 ?_ | refine bx 2 ?_ | refine bx 3 ?_ | refine al 0 ?_ | refine al 1 ?_ | refine al 2 ?_ | refine al 3 ?_ | fail))
  refine aw_draw 9 none ?_
  (repeat' (first | refine dk ?_ | refine dn ?_ | refine ds y_move ?_ | refine ds y_assign ?_ | refine ds y_load ?_ | refine ds (y_faddr_ptr (hs := Nat.le_of_ble_eq_true rfl)) ?_ | refine ds y_faddr_ip ?_ | refine ds y_bw ?_ | refine ds y_bin ?_ | refine ds y_un ?_ | refine ds y_pick_t ?_ | refine ds y_pick_f ?_ | refine ds y_extract ?_ | refine ds y_len ?_ | refine ds y_lens ?_ | refine ds y_field ?_ | refine ds y_makeFunc ?_ | refine ds y_loadsN ?_ | refine ds (y_call (rRef_ok H _ i4') (hno := ⟨noOwn_heap H, noOwn_iv _, trivial⟩)) ?_ | refine ds (y_iaoN (H.ref v).toNat hil (hn := hn)) ?_ | refine ds (y_loadP (objs_get hget)) ?_ | fail))
  (repeat' (first | refine sk ?_ | refine mv ?_ | refine asg ?_ | refine ld ?_ | refine fp ?_ | refine fi ?_ | refine ms 1 ?_ | refine ms 30 ?_ | refine ms 63 ?_ | refine sll (c := 2) ?_ | refine sll (c := 8) ?_ | refine sr ?_ | refine rm ?_ | refine qu ?_ | refine bw ?_ | refine bi ?_ | refine un ?_ | refine pt ?_ | refine pf ?_ | refine ex ?_ | refine cv' ?_ | refine ln ?_ | refine lns ?_ | refine fd ?_ | refine la ?_ | refine so ?_ | refine mf ?_ | refine bd ?_ | refine aops_nil ?_ | refine aw_seq ?_ | refine aw_region ?_ | refine aw_cond_t rfl ?_ | refine aw_cond_f rfl ?_ | refine aw_block ?_ | refine aw_exit ?_ | refine aw_skip ?_ | refine aw_ret ?_ | fail))
  have c1 : a.toNat ≤ (H.at' v).text.size := by omega
  have c2 : a.toNat + 1 ≤ (H.at' v).text.size := by omega
  have b1 : -9223372036854775808 ≤ a + 1 ∧ a + 1 ≤ 9223372036854775807 := by omega
  have n2 : IntKind.i64.wrap (a + 1) = ((a.toNat + 1 : Nat) : Int) := by rw [wrap_id b1]; omega
  have s1 : ((H.at' v).text.extract 0 a.toNat).size + (strOfNums [IntKind.u8.wrap x]).size ≤ 9223372036854775807 := by
    simp only [ByteArray.size_extract, strOfNums_size, List.length_singleton]; omega
  have s2 : ((H.at' v).text.extract 0 a.toNat ++ strOfNums [IntKind.u8.wrap x]).size + ((H.at' v).text.extract (a.toNat + 1) (H.at' v).text.size).size ≤ 9223372036854775807 := by
    simp only [ByteArray.size_append, ByteArray.size_extract, strOfNums_size, List.length_singleton]; omega
  refine aw_drawU 18 10 3 (.live 5 1 (byteRow [IntKind.u8.wrap x])) ?_
  (repeat' (first | refine dk ?_ | refine dn ?_ | refine db y_move ?_ | refine d2 y_move y_move ?_ | refine db y_assign ?_ | refine d2 y_assign y_assign ?_ | refine db y_load ?_ | refine d2 y_load y_load ?_ | refine db (y_faddr_ptr (hs := Nat.le_of_ble_eq_true rfl)) ?_ | refine d2 (y_faddr_ptr (hs := Nat.le_of_ble_eq_true rfl)) (y_faddr_ptr (hs := Nat.le_of_ble_eq_true rfl)) ?_ | refine db y_faddr_ip ?_ | refine d2 y_faddr_ip y_faddr_ip ?_ | refine db y_bw ?_ | refine d2 y_bw y_bw ?_ | refine db y_bin ?_ | refine d2 y_bin y_bin ?_ | refine db y_un ?_ | refine d2 y_un y_un ?_ | refine db y_pick_t ?_ | refine d2 y_pick_t y_pick_t ?_ | refine db y_pick_f ?_ | refine d2 y_pick_f y_pick_f ?_ | refine db y_extract ?_ | refine d2 y_extract y_extract ?_ | refine db y_len ?_ | refine d2 y_len y_len ?_ | refine db y_lens ?_ | refine d2 y_lens y_lens ?_ | refine db y_field ?_ | refine d2 y_field y_field ?_ | refine db y_makeFunc ?_ | refine d2 y_makeFunc y_makeFunc ?_ | refine db y_loadsN ?_ | refine d2 y_loadsN y_loadsN ?_ | refine d2 (y_call (rRef_ok H v i4') (hno := ⟨noOwn_heap H, noOwn_iv _, trivial⟩)) (y_call (rRef_ok H v i4') (hno := ⟨noOwn_heap H, noOwn_iv _, trivial⟩)) ?_ | refine d2 (y_cutsH a.toNat c1 hna) (y_cutsH a.toNat c1 hna) ?_ | refine d2 (y_cutsL (a.toNat + 1) c2 n2) (y_cutsL (a.toNat + 1) c2 n2) ?_ | refine d2 y_conv y_conv ?_ | refine de (y_litU 3) ?_ | refine dh (y_bstrU [IntKind.u8.wrap x]) ?_ | refine d2 (y_adds s1) (y_adds s1) ?_ | refine d2 (y_adds s2) (y_adds s2) ?_ | refine d2 (y_bin64 b1) (y_bin64 b1) ?_ | fail))
  refine iao (H.ref v).toNat hil ?_ (hn := hn)
  refine fp ?_
  refine so ?_ (hq := objs_get hget)
  (repeat' (first | refine sk ?_ | refine mv ?_ | refine asg ?_ | refine ld ?_ | refine fp ?_ | refine fi ?_ | refine ms 1 ?_ | refine ms 30 ?_ | refine ms 63 ?_ | refine sll (c := 2) ?_ | refine sll (c := 8) ?_ | refine sr ?_ | refine rm ?_ | refine qu ?_ | refine bw ?_ | refine bi ?_ | refine un ?_ | refine pt ?_ | refine pf ?_ | refine ex ?_ | refine cv' ?_ | refine ln ?_ | refine lns ?_ | refine fd ?_ | refine la ?_ | refine so ?_ | refine mf ?_ | refine bd ?_ | refine aops_nil ?_ | refine aw_seq ?_ | refine aw_region ?_ | refine aw_cond_t rfl ?_ | refine aw_cond_f rfl ?_ | refine aw_block ?_ | refine aw_exit ?_ | refine aw_skip ?_ | refine aw_ret ?_ | fail))
  have e1 : setByteE H v a x = 0 := by rw [← he, h2]
  have hx : setB (H.at' v).text a.toNat x = (H.at' v).text.extract 0 a.toNat ++ strOfNums [IntKind.u8.wrap x] ++ (H.at' v).text.extract (a.toNat + 1) (H.at' v).text.size := by rw [wrap8 hw2, setB_cut hsl]
  refine fin (sh_heapE (H2 := H.put (H.ref v).toNat { H.at' v with text := setB (H.at' v).text a.toNat x }) (by simp [setByteH, e1]) e1 ?_)
  refine sh_objsrow rfl ?_
  simp only [HHeap.put]
  rw [← objs_set, hx]
  rfl
end Go.Proofs.Ytafbiccgbgcooaa
