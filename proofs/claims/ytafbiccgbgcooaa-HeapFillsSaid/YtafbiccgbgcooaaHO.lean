/- Slices that are cloned. -/
import Derived.Test.YtafbiccgbgcooaaHM
import Derived.Test.YtafbiccgbgcooaaAWn
set_option linter.unusedSimpArgs false
namespace Go.Proofs.Ytafbiccgbgcooaa
open Go Go.Proofs AW
theorem cok_ints (T : Nat → Ob) (xs : List Int) : ∀ c ∈ encInts xs, ∀ y ∈ c, cok1 T y = true := by
  intro c hc y hy
  simp only [encInts, List.mem_map] at hc
  obtain ⟨x, _, rfl⟩ := hc
  simp at hy; subst hy; rfl
theorem cok_objs (T : Nat → Ob) (xs : List HObj) : ∀ c ∈ encObjs xs, ∀ y ∈ c, cok1 T y = true := by
  intro c hc y hy
  simp only [encObjs, List.mem_map] at hc
  obtain ⟨o, _, rfl⟩ := hc
  simp only [encObj, List.mem_cons, List.not_mem_nil, or_false] at hy
  rcases hy with rfl | rfl | rfl | rfl | rfl | rfl <;> rfl
theorem clone_int (m : Nat) (xs : List Int) (hl : xs.length < 1099511627776) : Ok Try.prog 50 [.sl 1 (encInts xs)] (fun x T => x = .own m ∧ T = upd noT m (.live 3 1 (encInts xs))) := by
  refine Ok.row ?_ (fun c hc y hy => by simp only [encInts, List.mem_map] at hc; obtain ⟨x, _, rfl⟩ := hc; simp at hy; subst hy; exact .v _) m
  refine ok_of Try.func50 rfl (Nat.le_of_ble_eq_true rfl) ?_
  (repeat' (first | refine sk ?_ | refine mv ?_ | refine asg ?_ | refine ld ?_ | refine fp ?_ | refine fi ?_ | refine ms 1 ?_ | refine ms 30 ?_ | refine ms 63 ?_ | refine sll (c := 2) ?_ | refine sll (c := 8) ?_ | refine sr ?_ | refine rm ?_ | refine qu ?_ | refine bw ?_ | refine bi ?_ | refine un ?_ | refine pt ?_ | refine pf ?_ | refine ex ?_ | refine cv' ?_ | refine ln ?_ | refine lns ?_ | refine fd ?_ | refine la ?_ | refine so ?_ | refine mf ?_ | refine bd ?_ | refine aops_nil ?_ | refine aw_seq ?_ | refine aw_region ?_ | refine aw_cond_t rfl ?_ | refine aw_cond_f rfl ?_ | refine aw_block ?_ | refine aw_exit ?_ | refine aw_skip ?_ | refine aw_ret ?_ | fail))
  refine isn (fun b hb => ?_)
  (repeat' (first | refine sk ?_ | refine mv ?_ | refine asg ?_ | refine ld ?_ | refine fp ?_ | refine fi ?_ | refine ms 1 ?_ | refine ms 30 ?_ | refine ms 63 ?_ | refine sll (c := 2) ?_ | refine sll (c := 8) ?_ | refine sr ?_ | refine rm ?_ | refine qu ?_ | refine bw ?_ | refine bi ?_ | refine un ?_ | refine pt ?_ | refine pf ?_ | refine ex ?_ | refine cv' ?_ | refine ln ?_ | refine lns ?_ | refine fd ?_ | refine la ?_ | refine so ?_ | refine mf ?_ | refine bd ?_ | refine aops_nil ?_ | refine aw_seq ?_ | refine aw_region ?_ | refine aw_cond_t rfl ?_ | refine aw_cond_f rfl ?_ | refine aw_block ?_ | refine aw_exit ?_ | refine aw_skip ?_ | refine aw_ret ?_ | fail))
  refine aw_cond rfl (fun h => ?_) (fun h => ?_)
  · have hx := hb h
    refine aw_seq ?_
    refine aw_region ?_
    (repeat' (first | refine sk ?_ | refine mv ?_ | refine asg ?_ | refine ld ?_ | refine fp ?_ | refine fi ?_ | refine ms 1 ?_ | refine ms 30 ?_ | refine ms 63 ?_ | refine sll (c := 2) ?_ | refine sll (c := 8) ?_ | refine sr ?_ | refine rm ?_ | refine qu ?_ | refine bw ?_ | refine bi ?_ | refine un ?_ | refine pt ?_ | refine pf ?_ | refine ex ?_ | refine cv' ?_ | refine ln ?_ | refine lns ?_ | refine fd ?_ | refine la ?_ | refine so ?_ | refine mf ?_ | refine bd ?_ | refine aops_nil ?_ | fail))
    refine AWp.ent (ent_nil (t := 2) 0 3 1 rfl rfl) ?_
    refine aw_ret ?_
    refine ⟨.inl rfl, _, rfl, 0, rfl, ?_⟩
    rw [hx]; rfl
  · (repeat' (first | refine sk ?_ | refine mv ?_ | refine asg ?_ | refine ld ?_ | refine fp ?_ | refine fi ?_ | refine ms 1 ?_ | refine ms 30 ?_ | refine ms 63 ?_ | refine sll (c := 2) ?_ | refine sll (c := 8) ?_ | refine sr ?_ | refine rm ?_ | refine qu ?_ | refine bw ?_ | refine bi ?_ | refine un ?_ | refine pt ?_ | refine pf ?_ | refine ex ?_ | refine cv' ?_ | refine ln ?_ | refine lns ?_ | refine fd ?_ | refine la ?_ | refine so ?_ | refine mf ?_ | refine bd ?_ | refine aops_nil ?_ | refine aw_seq ?_ | refine aw_region ?_ | refine aw_cond_t rfl ?_ | refine aw_cond_f rfl ?_ | refine aw_block ?_ | refine aw_exit ?_ | refine aw_skip ?_ | refine aw_ret ?_ | fail))
    refine lit0 1 ?_ rfl
    (repeat' (first | refine sk ?_ | refine mv ?_ | refine asg ?_ | refine ld ?_ | refine fp ?_ | refine fi ?_ | refine ms 1 ?_ | refine ms 30 ?_ | refine ms 63 ?_ | refine sll (c := 2) ?_ | refine sll (c := 8) ?_ | refine sr ?_ | refine rm ?_ | refine qu ?_ | refine bw ?_ | refine bi ?_ | refine un ?_ | refine pt ?_ | refine pf ?_ | refine ex ?_ | refine cv' ?_ | refine ln ?_ | refine lns ?_ | refine fd ?_ | refine la ?_ | refine so ?_ | refine mf ?_ | refine bd ?_ | refine aops_nil ?_ | refine aw_seq ?_ | refine aw_region ?_ | refine aw_cond_t rfl ?_ | refine aw_cond_f rfl ?_ | refine aw_block ?_ | refine aw_exit ?_ | refine aw_skip ?_ | refine aw_ret ?_ | fail))
    refine ap (by_ := 8) 0 rfl (cok_ints _ xs) ?_ ?_ ?_
    · simp; omega
    · simp; omega
    (repeat' (first | refine sk ?_ | refine mv ?_ | refine asg ?_ | refine ld ?_ | refine fp ?_ | refine fi ?_ | refine ms 1 ?_ | refine ms 30 ?_ | refine ms 63 ?_ | refine sll (c := 2) ?_ | refine sll (c := 8) ?_ | refine sr ?_ | refine rm ?_ | refine qu ?_ | refine bw ?_ | refine bi ?_ | refine un ?_ | refine pt ?_ | refine pf ?_ | refine ex ?_ | refine cv' ?_ | refine ln ?_ | refine lns ?_ | refine fd ?_ | refine la ?_ | refine so ?_ | refine mf ?_ | refine bd ?_ | refine aops_nil ?_ | refine aw_seq ?_ | refine aw_region ?_ | refine aw_cond_t rfl ?_ | refine aw_cond_f rfl ?_ | refine aw_block ?_ | refine aw_exit ?_ | refine aw_skip ?_ | refine aw_ret ?_ | fail))
    refine ⟨.inl rfl, _, rfl, 0, rfl, rfl⟩
theorem clone_obj (m : Nat) (xs : List HObj) (hl : xs.length < 1099511627776) : Ok Try.prog 49 [.sl 6 (encObjs xs)] (fun x T => x = .own m ∧ T = upd noT m (.live 46 6 (encObjs xs))) := by
  refine Ok.row ?_ (fun c hc y hy => by simp only [encObjs, List.mem_map] at hc; obtain ⟨o, _, rfl⟩ := hc; exact noOwn_obj o y hy) m
  refine ok_of Try.func49 rfl (Nat.le_of_ble_eq_true rfl) ?_
  (repeat' (first | refine sk ?_ | refine mv ?_ | refine asg ?_ | refine ld ?_ | refine fp ?_ | refine fi ?_ | refine ms 1 ?_ | refine ms 30 ?_ | refine ms 63 ?_ | refine sll (c := 2) ?_ | refine sll (c := 8) ?_ | refine sr ?_ | refine rm ?_ | refine qu ?_ | refine bw ?_ | refine bi ?_ | refine un ?_ | refine pt ?_ | refine pf ?_ | refine ex ?_ | refine cv' ?_ | refine ln ?_ | refine lns ?_ | refine fd ?_ | refine la ?_ | refine so ?_ | refine mf ?_ | refine bd ?_ | refine aops_nil ?_ | refine aw_seq ?_ | refine aw_region ?_ | refine aw_cond_t rfl ?_ | refine aw_cond_f rfl ?_ | refine aw_block ?_ | refine aw_exit ?_ | refine aw_skip ?_ | refine aw_ret ?_ | fail))
  refine isn (fun b hb => ?_)
  (repeat' (first | refine sk ?_ | refine mv ?_ | refine asg ?_ | refine ld ?_ | refine fp ?_ | refine fi ?_ | refine ms 1 ?_ | refine ms 30 ?_ | refine ms 63 ?_ | refine sll (c := 2) ?_ | refine sll (c := 8) ?_ | refine sr ?_ | refine rm ?_ | refine qu ?_ | refine bw ?_ | refine bi ?_ | refine un ?_ | refine pt ?_ | refine pf ?_ | refine ex ?_ | refine cv' ?_ | refine ln ?_ | refine lns ?_ | refine fd ?_ | refine la ?_ | refine so ?_ | refine mf ?_ | refine bd ?_ | refine aops_nil ?_ | refine aw_seq ?_ | refine aw_region ?_ | refine aw_cond_t rfl ?_ | refine aw_cond_f rfl ?_ | refine aw_block ?_ | refine aw_exit ?_ | refine aw_skip ?_ | refine aw_ret ?_ | fail))
  refine aw_cond rfl (fun h => ?_) (fun h => ?_)
  · have hx := hb h
    refine aw_seq ?_
    refine aw_region ?_
    (repeat' (first | refine sk ?_ | refine mv ?_ | refine asg ?_ | refine ld ?_ | refine fp ?_ | refine fi ?_ | refine ms 1 ?_ | refine ms 30 ?_ | refine ms 63 ?_ | refine sll (c := 2) ?_ | refine sll (c := 8) ?_ | refine sr ?_ | refine rm ?_ | refine qu ?_ | refine bw ?_ | refine bi ?_ | refine un ?_ | refine pt ?_ | refine pf ?_ | refine ex ?_ | refine cv' ?_ | refine ln ?_ | refine lns ?_ | refine fd ?_ | refine la ?_ | refine so ?_ | refine mf ?_ | refine bd ?_ | refine aops_nil ?_ | fail))
    refine AWp.ent (ent_nil (t := 2) 0 46 6 rfl rfl) ?_
    refine aw_ret ?_
    refine ⟨.inl rfl, _, rfl, 0, rfl, ?_⟩
    rw [hx]; rfl
  · (repeat' (first | refine sk ?_ | refine mv ?_ | refine asg ?_ | refine ld ?_ | refine fp ?_ | refine fi ?_ | refine ms 1 ?_ | refine ms 30 ?_ | refine ms 63 ?_ | refine sll (c := 2) ?_ | refine sll (c := 8) ?_ | refine sr ?_ | refine rm ?_ | refine qu ?_ | refine bw ?_ | refine bi ?_ | refine un ?_ | refine pt ?_ | refine pf ?_ | refine ex ?_ | refine cv' ?_ | refine ln ?_ | refine lns ?_ | refine fd ?_ | refine la ?_ | refine so ?_ | refine mf ?_ | refine bd ?_ | refine aops_nil ?_ | refine aw_seq ?_ | refine aw_region ?_ | refine aw_cond_t rfl ?_ | refine aw_cond_f rfl ?_ | refine aw_block ?_ | refine aw_exit ?_ | refine aw_skip ?_ | refine aw_ret ?_ | fail))
    refine lit0 1 ?_ rfl
    (repeat' (first | refine sk ?_ | refine mv ?_ | refine asg ?_ | refine ld ?_ | refine fp ?_ | refine fi ?_ | refine ms 1 ?_ | refine ms 30 ?_ | refine ms 63 ?_ | refine sll (c := 2) ?_ | refine sll (c := 8) ?_ | refine sr ?_ | refine rm ?_ | refine qu ?_ | refine bw ?_ | refine bi ?_ | refine un ?_ | refine pt ?_ | refine pf ?_ | refine ex ?_ | refine cv' ?_ | refine ln ?_ | refine lns ?_ | refine fd ?_ | refine la ?_ | refine so ?_ | refine mf ?_ | refine bd ?_ | refine aops_nil ?_ | refine aw_seq ?_ | refine aw_region ?_ | refine aw_cond_t rfl ?_ | refine aw_cond_f rfl ?_ | refine aw_block ?_ | refine aw_exit ?_ | refine aw_skip ?_ | refine aw_ret ?_ | fail))
    refine ap (by_ := 72) 0 rfl (cok_objs _ xs) ?_ ?_ ?_
    · simp; omega
    · simp; omega
    (repeat' (first | refine sk ?_ | refine mv ?_ | refine asg ?_ | refine ld ?_ | refine fp ?_ | refine fi ?_ | refine ms 1 ?_ | refine ms 30 ?_ | refine ms 63 ?_ | refine sll (c := 2) ?_ | refine sll (c := 8) ?_ | refine sr ?_ | refine rm ?_ | refine qu ?_ | refine bw ?_ | refine bi ?_ | refine un ?_ | refine pt ?_ | refine pf ?_ | refine ex ?_ | refine cv' ?_ | refine ln ?_ | refine lns ?_ | refine fd ?_ | refine la ?_ | refine so ?_ | refine mf ?_ | refine bd ?_ | refine aops_nil ?_ | refine aw_seq ?_ | refine aw_region ?_ | refine aw_cond_t rfl ?_ | refine aw_cond_f rfl ?_ | refine aw_block ?_ | refine aw_exit ?_ | refine aw_skip ?_ | refine aw_ret ?_ | fail))
    refine ⟨.inl rfl, _, rfl, 0, rfl, rfl⟩
end Go.Proofs.Ytafbiccgbgcooaa
