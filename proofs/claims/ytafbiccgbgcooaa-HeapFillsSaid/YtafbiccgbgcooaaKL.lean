/- One allocates until the heap is full. -/
import Derived.Test.YtafbiccgbgcooaaKF
set_option linter.unusedSimpArgs false
namespace Go.Proofs.Ytafbiccgbgcooaa
open Go Go.Proofs AW
def fillH (H : HHeap) (kind size : Int) : Nat → HHeap
  | 0 => H
  | k + 1 => allocH (fillH H kind size k) 0 kind size
theorem ref_zero {n : Int} (h : 0 < n) : refI n 0 = 0 := by
  unfold refI
  rw [if_pos ⟨by decide, by simpa using h⟩]; rfl
theorem allocE_of {H : HHeap} {kind size : Int} (hm : mayH H = true) (hl : 0 < H.objs.length) (hf : (H.objs.length : Int) ≠ H.cap) (hk : 0 ≤ kind ∧ kind ≤ 2) (hs : 0 ≤ size ∧ size ≤ 4) (h2 : ¬ (kind = 2 ∧ 0 < size)) : allocE H 0 kind size = 0 := by
  have hr : ¬ refI (H.objs.length : Int) 0 < 0 := by rw [ref_zero (by omega)]; omega
  simp only [allocE, hm, if_true, if_neg hr]
  rw [if_neg (by omega), if_neg (by omega), if_neg hf]
theorem fill_facts {H : HHeap} {kind size : Int} (hin : H.In) (hm : mayH H = true) (hl : 0 < H.objs.length) (hk : 0 ≤ kind ∧ kind ≤ 2) (hs : 0 ≤ size ∧ size ≤ 4) (h2 : ¬ (kind = 2 ∧ 0 < size)) :
    ∀ k : Nat, (H.objs.length : Int) + k ≤ H.cap → (fillH H kind size k).In ∧ mayH (fillH H kind size k) = true ∧ (fillH H kind size k).objs.length = H.objs.length + k ∧ (fillH H kind size k).cap = H.cap
  | 0, _ => ⟨hin, hm, rfl, rfl⟩
  | k + 1, h => by
    obtain ⟨a1, a2, a3, a4⟩ := fill_facts hin hm hl hk hs h2 k (by omega)
    have e0 := allocE_of (H := fillH H kind size k) (kind := kind) (size := size) a2 (by omega) (by rw [a3, a4]; omega) hk hs h2
    obtain ⟨_, _, _, _, _, _, e1⟩ := alloc0 e0
    refine ⟨allocH_in a1, allocH_may e0, ?_, ?_⟩
    · show (allocH _ _ _ _).objs.length = _
      rw [e1]; simp [a3]; omega
    · show (allocH _ _ _ _).cap = _
      rw [e1]; exact a4
set_option maxRecDepth 100000 in
set_option maxHeartbeats 4000000 in
theorem fills_ok (H : HHeap) (hi : H.Big) (kind : Int) (size : Int) : Gives Try.prog 6 [.agg (encHeap H), iv kind, iv size] (bv true) := by
  refine gives_of Try.func6 rfl (Nat.le_of_ble_eq_true rfl) ?_
  by_cases hs : smallH H = true
  rotate_left
  · simp only [Bool.not_eq_true] at hs
    (repeat' (first | refine sk ?_ | refine mv ?_ | refine asg ?_ | refine ld ?_ | refine fp ?_ | refine fi ?_ | refine ms 1 ?_ | refine ms 30 ?_ | refine ms 63 ?_ | refine sll (c := 2) ?_ | refine sll (c := 8) ?_ | refine sr ?_ | refine rm ?_ | refine qu ?_ | refine bt ?_ | refine bf ?_ | refine bw ?_ | refine bi ?_ | refine un ?_ | refine pt ?_ | refine pf ?_ | refine ex ?_ | refine cv' ?_ | refine ln ?_ | refine lns ?_ | refine fd ?_ | refine la ?_ | refine so ?_ | refine mf ?_ | refine bd ?_ | refine aops_nil ?_ | refine aw_seq ?_ | refine aw_region ?_ | refine aw_cond_t rfl ?_ | refine aw_cond_f rfl ?_ | refine aw_block ?_ | refine aw_exit ?_ | refine aw_skip ?_ | refine aw_ret ?_ | refine bx 0 ?_ | refine bx 1 ?_ | refine bx 2 ?_ | refine bx 3 ?_ | refine bx 4 ?_ | refine bx 5 ?_ | refine bx 6 ?_ | refine bx 7 ?_ | refine bx 8 ?_ | refine bx 9 ?_ | refine bx 10 ?_ | refine bx 11 ?_ | refine bx 12 ?_ | refine bx 13 ?_ | refine bx 14 ?_ | refine bx 15 ?_ | refine al 0 ?_ | refine al 1 ?_ | refine al 2 ?_ | refine al 3 ?_ | refine al 4 ?_ | refine al 5 ?_ | refine al 6 ?_ | refine al 7 ?_ | refine al 8 ?_ | refine al 9 ?_ | refine al 10 ?_ | refine al 11 ?_ | refine al 12 ?_ | refine al 13 ?_ | refine al 14 ?_ | refine al 15 ?_ | refine cl fixed_ok ?_ (hno := trivial) | refine cl ((rSmall_ok H hi).to (congrArg bv hs)) ?_ (hno := ⟨noOwn_heap _, trivial⟩) | fail))
    exact fin (sh_bv rfl)
  have hin := small_in hi hs
  by_cases hm : mayH H = true
  rotate_left
  · simp only [Bool.not_eq_true] at hm
    (repeat' (first | refine sk ?_ | refine mv ?_ | refine asg ?_ | refine ld ?_ | refine fp ?_ | refine fi ?_ | refine ms 1 ?_ | refine ms 30 ?_ | refine ms 63 ?_ | refine sll (c := 2) ?_ | refine sll (c := 8) ?_ | refine sr ?_ | refine rm ?_ | refine qu ?_ | refine bt ?_ | refine bf ?_ | refine bw ?_ | refine bi ?_ | refine un ?_ | refine pt ?_ | refine pf ?_ | refine ex ?_ | refine cv' ?_ | refine ln ?_ | refine lns ?_ | refine fd ?_ | refine la ?_ | refine so ?_ | refine mf ?_ | refine bd ?_ | refine aops_nil ?_ | refine aw_seq ?_ | refine aw_region ?_ | refine aw_cond_t rfl ?_ | refine aw_cond_f rfl ?_ | refine aw_block ?_ | refine aw_exit ?_ | refine aw_skip ?_ | refine aw_ret ?_ | refine bx 0 ?_ | refine bx 1 ?_ | refine bx 2 ?_ | refine bx 3 ?_ | refine bx 4 ?_ | refine bx 5 ?_ | refine bx 6 ?_ | refine bx 7 ?_ | refine bx 8 ?_ | refine bx 9 ?_ | refine bx 10 ?_ | refine bx 11 ?_ | refine bx 12 ?_ | refine bx 13 ?_ | refine bx 14 ?_ | refine bx 15 ?_ | refine al 0 ?_ | refine al 1 ?_ | refine al 2 ?_ | refine al 3 ?_ | refine al 4 ?_ | refine al 5 ?_ | refine al 6 ?_ | refine al 7 ?_ | refine al 8 ?_ | refine al 9 ?_ | refine al 10 ?_ | refine al 11 ?_ | refine al 12 ?_ | refine al 13 ?_ | refine al 14 ?_ | refine al 15 ?_ | refine cl fixed_ok ?_ (hno := trivial) | refine cl ((rSmall_ok H hi).to (congrArg bv hs)) ?_ (hno := ⟨noOwn_heap _, trivial⟩) | refine cl ((rMay_ok H hin).to (congrArg bv hm)) ?_ (hno := ⟨noOwn_heap _, trivial⟩) | fail))
    exact fin (sh_bv rfl)
  refine aw_seq ?_
  refine aw_region ?_
  (repeat' (first | refine sk ?_ | refine mv ?_ | refine asg ?_ | refine ld ?_ | refine fp ?_ | refine fi ?_ | refine ms 1 ?_ | refine ms 30 ?_ | refine ms 63 ?_ | refine sll (c := 2) ?_ | refine sll (c := 8) ?_ | refine sr ?_ | refine rm ?_ | refine qu ?_ | refine bw ?_ | refine bi ?_ | refine un ?_ | refine pt ?_ | refine pf ?_ | refine ex ?_ | refine cv' ?_ | refine ln ?_ | refine lns ?_ | refine fd ?_ | refine la ?_ | refine so ?_ | refine mf ?_ | refine bd ?_ | refine aops_nil ?_ | refine bx 0 ?_ | refine bx 1 ?_ | refine bx 2 ?_ | refine bx 3 ?_ | refine al 0 ?_ | refine al 1 ?_ | refine al 2 ?_ | refine al 3 ?_ | fail))
  refine aw_cutE (ι := PLift (H.cap ≤ 40 ∧ 0 < H.objs.length ∧ (0 ≤ kind ∧ kind ≤ 2) ∧ (0 ≤ size ∧ size ≤ 4) ∧ ¬ (kind = 2 ∧ 0 < size))) (fun _ => [(3, .ptr 0 0 0), (1, iv kind), (2, iv size)]) ?_ ?_
  · (repeat' (first | refine sk ?_ | refine mv ?_ | refine asg ?_ | refine ld ?_ | refine fp ?_ | refine fi ?_ | refine ms 1 ?_ | refine ms 30 ?_ | refine ms 63 ?_ | refine sll (c := 2) ?_ | refine sll (c := 8) ?_ | refine sr ?_ | refine rm ?_ | refine qu ?_ | refine bt ?_ | refine bf ?_ | refine bw ?_ | refine bi ?_ | refine un ?_ | refine pt ?_ | refine pf ?_ | refine ex ?_ | refine cv' ?_ | refine ln ?_ | refine lns ?_ | refine fd ?_ | refine la ?_ | refine so ?_ | refine mf ?_ | refine bd ?_ | refine aops_nil ?_ | refine aw_seq ?_ | refine aw_region ?_ | refine aw_cond_t rfl ?_ | refine aw_cond_f rfl ?_ | refine aw_block ?_ | refine aw_exit ?_ | refine aw_skip ?_ | refine aw_ret ?_ | refine bx 0 ?_ | refine bx 1 ?_ | refine bx 2 ?_ | refine bx 3 ?_ | refine bx 4 ?_ | refine bx 5 ?_ | refine bx 6 ?_ | refine bx 7 ?_ | refine bx 8 ?_ | refine bx 9 ?_ | refine bx 10 ?_ | refine bx 11 ?_ | refine bx 12 ?_ | refine bx 13 ?_ | refine bx 14 ?_ | refine bx 15 ?_ | refine al 0 ?_ | refine al 1 ?_ | refine al 2 ?_ | refine al 3 ?_ | refine al 4 ?_ | refine al 5 ?_ | refine al 6 ?_ | refine al 7 ?_ | refine al 8 ?_ | refine al 9 ?_ | refine al 10 ?_ | refine al 11 ?_ | refine al 12 ?_ | refine al 13 ?_ | refine al 14 ?_ | refine al 15 ?_ | refine cl fixed_ok ?_ (hno := trivial) | refine cl ((rSmall_ok H hi).to (congrArg bv hs)) ?_ (hno := ⟨noOwn_heap _, trivial⟩) | refine cl ((rMay_ok H hin).to (congrArg bv hm)) ?_ (hno := ⟨noOwn_heap _, trivial⟩) | refine gs (fun h => ?_) (fun h => ?_) | refine aw_cond rfl (fun h => ?_) (fun h => ?_) | fail))
    all_goals first
      | exact fin (sh_bv rfl)
      | (refine ⟨⟨?_⟩, rfl, rfl, rfl, rfl, trivial⟩; clear hi hin; simp at *; first | omega | grind)
  rintro ⟨g1, g2, g3, g4, g5⟩
  have hcap := (mayH_iff.1 hm).1
  have hlc : (H.objs.length : Int) ≤ H.cap := hcap.2.2.1
  (repeat' (first | refine sk ?_ | refine mv ?_ | refine asg ?_ | refine ld ?_ | refine fp ?_ | refine fi ?_ | refine ms 1 ?_ | refine ms 30 ?_ | refine ms 63 ?_ | refine sll (c := 2) ?_ | refine sll (c := 8) ?_ | refine sr ?_ | refine rm ?_ | refine qu ?_ | refine bw ?_ | refine bi ?_ | refine un ?_ | refine pt ?_ | refine pf ?_ | refine ex ?_ | refine cv' ?_ | refine ln ?_ | refine lns ?_ | refine fd ?_ | refine la ?_ | refine so ?_ | refine mf ?_ | refine bd ?_ | refine aops_nil ?_ | refine aw_seq ?_ | refine aw_region ?_ | refine aw_cond_t rfl ?_ | refine aw_cond_f rfl ?_ | refine aw_block ?_ | refine aw_exit ?_ | refine aw_skip ?_ | refine aw_ret ?_ | refine bx 0 ?_ | refine bx 1 ?_ | refine bx 2 ?_ | refine bx 3 ?_ | refine al 0 ?_ | refine al 1 ?_ | refine al 2 ?_ | refine al 3 ?_ | fail))
  refine aw_for (H.cap.toNat - H.objs.length) (fun k => k ≤ H.cap.toNat - H.objs.length) (fun k => ⟨[(8, iv ((H.objs.length + k : Nat) : Int)), (3, .ptr 0 0 0), (7, .ptr 1 0 0), (1, iv kind), (2, iv size)], tb [(0, .live 24 3 [encHeap H]), (1, .live 24 3 [encHeap (fillH H kind size k)])]⟩) 0 (Nat.zero_le _) ?_ ?_
  · refine ent_tb id [(0, .live 24 3 [encHeap H]), (1, .live 24 3 [encHeap (fillH H kind size 0)])] ⟨.one _ _ _ _ rfl rfl (fzL_all (hcell _)), .one _ _ _ _ rfl rfl (fzL_all (hcell _)), trivial⟩ ⟨⟨_, ?_, fz_v _⟩, ⟨_, rfl, .ptr 0 0 0 0 rfl (by simp [tb, upd])⟩, ⟨_, rfl, .ptr 1 1 0 0 rfl (by simp [tb, upd])⟩, ⟨_, rfl, fz_v _⟩, ⟨_, rfl, fz_v _⟩, trivial⟩
    refine congrArg some (congrArg iv ?_)
    simp
  intro k hk
  obtain ⟨a1, a2, a3, a4⟩ := fill_facts (kind := kind) (size := size) hin hm g2 g3 g4 g5 k (by omega)
  (repeat' (first | refine sk ?_ | refine mv ?_ | refine asg ?_ | refine ld ?_ | refine fp ?_ | refine fi ?_ | refine ms 1 ?_ | refine ms 30 ?_ | refine ms 63 ?_ | refine sll (c := 2) ?_ | refine sll (c := 8) ?_ | refine sr ?_ | refine rm ?_ | refine qu ?_ | refine bw ?_ | refine bi ?_ | refine un ?_ | refine pt ?_ | refine pf ?_ | refine ex ?_ | refine cv' ?_ | refine ln ?_ | refine lns ?_ | refine fd ?_ | refine la ?_ | refine so ?_ | refine mf ?_ | refine bd ?_ | refine aops_nil ?_ | refine aw_seq ?_ | refine aw_region ?_ | refine aw_cond_t rfl ?_ | refine aw_cond_f rfl ?_ | refine aw_block ?_ | refine aw_exit ?_ | refine aw_skip ?_ | refine aw_ret ?_ | fail))
  refine aw_cond rfl (fun h6 => ?_) (fun h6 => ?_) <;> simp at h6
  · have e0 := allocE_of (H := fillH H kind size k) (kind := kind) (size := size) a2 (by omega) (by rw [a3, a4]; omega) g3 g4 g5
    obtain ⟨_, _, _, _, k2, _, e1⟩ := alloc0 e0
    have bin : (allocH (fillH H kind size k) 0 kind size).In := allocH_in a1
    have c1 : Gives Try.prog 11 [.agg (encHeap (fillH H kind size k)), iv 0, iv kind, iv size] (.tup [.agg (encHeap (allocH (fillH H kind size k) 0 kind size)), iv (2 * ((H.objs.length + k : Nat) : Int)), iv 0]) :=
      (Alloc_ok _ a1 0 kind size).to (by rw [e0]; simp only [allocV, e0, if_true, a3])
    have c2 : Gives Try.prog 16 [.agg (encHeap (allocH (fillH H kind size k) 0 kind size))] (bv true) := (rMay_ok _ bin).to (by rw [allocH_may e0])
    have hlb : (allocH (fillH H kind size k) 0 kind size).objs.length = H.objs.length + k + 1 := by rw [e1]; simp [a3]
    have hold : ∀ j, j < H.objs.length + k → (allocH (fillH H kind size k) 0 kind size).objs[j]? = (fillH H kind size k).objs[j]? := by
      intro j hj
      rw [e1]
      exact List.getElem?_append_left (by rw [a3]; exact hj)
    obtain ⟨o, ho, ok, os⟩ : ∃ o, (allocH (fillH H kind size k) 0 kind size).objs[H.objs.length + k]? = some o ∧ o.kind = kind ∧ (o.slots.length : Int) + o.text.size = size := by
      refine ⟨newObj (fillH H kind size k) 0 kind size, ?_, rfl, ?_⟩
      · rw [e1]; simp [a3]
      · have z : (⟨#[]⟩ : ByteArray).size = 0 := rfl
        simp only [newObj]
        by_cases q0 : kind = 0
        · simp [q0, z]; omega
        · by_cases q1 : kind = 1
          · simp [q1, zerosB_size]; omega
          · have := k2 (by omega)
            simp [q0, q1, this, z]
    have hle : (encInts o.slots).length = o.slots.length := len_ints _
    have hob : (o.slots.length : Int) ≤ 4 ∧ (o.text.size : Int) ≤ 4 := by omega
    (repeat' (first | refine sk ?_ | refine mv ?_ | refine asg ?_ | refine ld ?_ | refine fp ?_ | refine fi ?_ | refine ms 1 ?_ | refine ms 30 ?_ | refine ms 63 ?_ | refine sll (c := 2) ?_ | refine sll (c := 8) ?_ | refine sr ?_ | refine rm ?_ | refine qu ?_ | refine bt ?_ | refine bf ?_ | refine bw ?_ | refine bi ?_ | refine un ?_ | refine pt ?_ | refine pf ?_ | refine ex ?_ | refine cv' ?_ | refine ln ?_ | refine lns ?_ | refine fd ?_ | refine la ?_ | refine so ?_ | refine mf ?_ | refine bd ?_ | refine aops_nil ?_ | refine aw_seq ?_ | refine aw_region ?_ | refine aw_cond_t rfl ?_ | refine aw_cond_f rfl ?_ | refine aw_block ?_ | refine aw_exit ?_ | refine aw_skip ?_ | refine aw_ret ?_ | refine bx 0 ?_ | refine bx 1 ?_ | refine bx 2 ?_ | refine bx 3 ?_ | refine bx 4 ?_ | refine bx 5 ?_ | refine bx 6 ?_ | refine bx 7 ?_ | refine bx 8 ?_ | refine bx 9 ?_ | refine bx 10 ?_ | refine bx 11 ?_ | refine bx 12 ?_ | refine bx 13 ?_ | refine bx 14 ?_ | refine bx 15 ?_ | refine al 0 ?_ | refine al 1 ?_ | refine al 2 ?_ | refine al 3 ?_ | refine al 4 ?_ | refine al 5 ?_ | refine al 6 ?_ | refine al 7 ?_ | refine al 8 ?_ | refine al 9 ?_ | refine al 10 ?_ | refine al 11 ?_ | refine al 12 ?_ | refine al 13 ?_ | refine al 14 ?_ | refine al 15 ?_ | refine cl c1 ?_ (hno := ⟨noOwn_heap _, noOwn_iv _, noOwn_iv _, noOwn_iv _, trivial⟩) | fail))
    refine aw_draw 50 none ?_
    (repeat' (first | refine dk ?_ | refine dn ?_ | refine ds y_move ?_ | refine ds y_assign ?_ | refine ds y_load ?_ | refine ds (y_faddr_ptr (hs := Nat.le_of_ble_eq_true rfl)) ?_ | refine ds y_faddr_ip ?_ | refine ds y_bt ?_ | refine ds y_bf ?_ | refine ds y_bw ?_ | refine ds y_bin ?_ | refine ds y_un ?_ | refine ds y_pick_t ?_ | refine ds y_pick_f ?_ | refine ds y_extract ?_ | refine ds y_len ?_ | refine ds y_lens ?_ | refine ds y_field ?_ | refine ds y_makeFunc ?_ | refine ds y_loadsN ?_ | refine ds (y_call c2 (hno := ⟨noOwn_heap _, trivial⟩)) ?_ | refine ds (y_iaddrN (H.objs.length + k) (objs_get ho)) ?_ | fail))
    (repeat' (first | refine sk ?_ | refine mv ?_ | refine asg ?_ | refine ld ?_ | refine fp ?_ | refine fi ?_ | refine ms 1 ?_ | refine ms 30 ?_ | refine ms 63 ?_ | refine sll (c := 2) ?_ | refine sll (c := 8) ?_ | refine sr ?_ | refine rm ?_ | refine qu ?_ | refine bt ?_ | refine bf ?_ | refine bw ?_ | refine bi ?_ | refine un ?_ | refine pt ?_ | refine pf ?_ | refine ex ?_ | refine cv' ?_ | refine ln ?_ | refine lns ?_ | refine fd ?_ | refine la ?_ | refine so ?_ | refine mf ?_ | refine bd ?_ | refine aops_nil ?_ | refine aw_seq ?_ | refine aw_region ?_ | refine aw_cond_t rfl ?_ | refine aw_cond_f rfl ?_ | refine aw_block ?_ | refine aw_exit ?_ | refine aw_skip ?_ | refine aw_ret ?_ | refine bx 0 ?_ | refine bx 1 ?_ | refine bx 2 ?_ | refine bx 3 ?_ | refine bx 4 ?_ | refine bx 5 ?_ | refine bx 6 ?_ | refine bx 7 ?_ | refine bx 8 ?_ | refine bx 9 ?_ | refine bx 10 ?_ | refine bx 11 ?_ | refine bx 12 ?_ | refine bx 13 ?_ | refine bx 14 ?_ | refine bx 15 ?_ | refine al 0 ?_ | refine al 1 ?_ | refine al 2 ?_ | refine al 3 ?_ | refine al 4 ?_ | refine al 5 ?_ | refine al 6 ?_ | refine al 7 ?_ | refine al 8 ?_ | refine al 9 ?_ | refine al 10 ?_ | refine al 11 ?_ | refine al 12 ?_ | refine al 13 ?_ | refine al 14 ?_ | refine al 15 ?_ | fail))
    refine aw_forE (H.objs.length + k) (fun i => i ≤ H.objs.length + k) (fun i => [(12, iv (i : Int)), (8, iv ((H.objs.length + k : Nat) : Int)), (3, .ptr 0 0 0), (7, .ptr 1 0 0), (9, .ptr 2 0 0), (1, iv kind), (2, iv size)])
      0 (Nat.zero_le _) ⟨rfl, rfl, rfl, rfl, rfl, rfl, rfl, trivial⟩ ?_
    intro i hi2
    (repeat' (first | refine sk ?_ | refine mv ?_ | refine asg ?_ | refine ld ?_ | refine fp ?_ | refine fi ?_ | refine ms 1 ?_ | refine ms 30 ?_ | refine ms 63 ?_ | refine sll (c := 2) ?_ | refine sll (c := 8) ?_ | refine sr ?_ | refine rm ?_ | refine qu ?_ | refine bw ?_ | refine bi ?_ | refine un ?_ | refine pt ?_ | refine pf ?_ | refine ex ?_ | refine cv' ?_ | refine ln ?_ | refine lns ?_ | refine fd ?_ | refine la ?_ | refine so ?_ | refine mf ?_ | refine bd ?_ | refine aops_nil ?_ | refine aw_seq ?_ | refine aw_region ?_ | refine aw_cond_t rfl ?_ | refine aw_cond_f rfl ?_ | refine aw_block ?_ | refine aw_exit ?_ | refine aw_skip ?_ | refine aw_ret ?_ | fail))
    refine aw_cond rfl (fun h7 => ?_) (fun h7 => ?_) <;> simp at h7
    · have hia : i < (fillH H kind size k).objs.length := by rw [a3]; omega
      have gp : (fillH H kind size k).objs[i]? = some (fillH H kind size k).objs[i] := List.getElem?_eq_getElem hia
      have gq := (hold i (by omega)).trans gp
      have sl := (a1.1 _ (List.getElem_mem hia)).2.2.2.2.2.1
      (repeat' (first | refine sk ?_ | refine mv ?_ | refine asg ?_ | refine ld ?_ | refine fp ?_ | refine fi ?_ | refine ms 1 ?_ | refine ms 30 ?_ | refine ms 63 ?_ | refine sll (c := 2) ?_ | refine sll (c := 8) ?_ | refine sr ?_ | refine rm ?_ | refine qu ?_ | refine bw ?_ | refine bi ?_ | refine un ?_ | refine pt ?_ | refine pf ?_ | refine ex ?_ | refine cv' ?_ | refine ln ?_ | refine lns ?_ | refine fd ?_ | refine la ?_ | refine so ?_ | refine mf ?_ | refine bd ?_ | refine aops_nil ?_ | refine aw_seq ?_ | refine aw_region ?_ | refine aw_cond_t rfl ?_ | refine aw_cond_f rfl ?_ | refine aw_block ?_ | refine aw_exit ?_ | refine aw_skip ?_ | refine aw_ret ?_ | fail))
      refine aw_draw 12 none ?_
      (repeat' (first | refine dk ?_ | refine dn ?_ | refine ds y_move ?_ | refine ds y_assign ?_ | refine ds y_load ?_ | refine ds (y_faddr_ptr (hs := Nat.le_of_ble_eq_true rfl)) ?_ | refine ds y_faddr_ip ?_ | refine ds y_bt ?_ | refine ds y_bf ?_ | refine ds y_bw ?_ | refine ds y_bin ?_ | refine ds y_un ?_ | refine ds y_pick_t ?_ | refine ds y_pick_f ?_ | refine ds y_extract ?_ | refine ds y_len ?_ | refine ds y_lens ?_ | refine ds y_field ?_ | refine ds y_makeFunc ?_ | refine ds y_loadsN ?_ | refine ds (y_iaddrN i (objs_get gp)) ?_ | refine ds (y_iaddrN i (objs_get gq)) ?_ | refine ds (y_call ((rOne_ok _ _ sl sl).to (by rw [decide_eq_true rfl])) (hno := ⟨noOwn_aobj _, noOwn_aobj _, trivial⟩)) ?_ | fail))
      (repeat' (first | refine sk ?_ | refine mv ?_ | refine asg ?_ | refine ld ?_ | refine fp ?_ | refine fi ?_ | refine ms 1 ?_ | refine ms 30 ?_ | refine ms 63 ?_ | refine sll (c := 2) ?_ | refine sll (c := 8) ?_ | refine sr ?_ | refine rm ?_ | refine qu ?_ | refine bw ?_ | refine bi ?_ | refine un ?_ | refine pt ?_ | refine pf ?_ | refine ex ?_ | refine cv' ?_ | refine ln ?_ | refine lns ?_ | refine fd ?_ | refine la ?_ | refine so ?_ | refine mf ?_ | refine bd ?_ | refine aops_nil ?_ | refine aw_seq ?_ | refine aw_region ?_ | refine aw_cond_t rfl ?_ | refine aw_cond_f rfl ?_ | refine aw_block ?_ | refine aw_exit ?_ | refine aw_skip ?_ | refine aw_ret ?_ | fail))
      exact ⟨by omega, by omega, rfl, rfl, rfl, rfl, rfl, rfl, rfl, rfl, trivial⟩
    · (repeat' (first | refine sk ?_ | refine mv ?_ | refine asg ?_ | refine ld ?_ | refine fp ?_ | refine fi ?_ | refine ms 1 ?_ | refine ms 30 ?_ | refine ms 63 ?_ | refine sll (c := 2) ?_ | refine sll (c := 8) ?_ | refine sr ?_ | refine rm ?_ | refine qu ?_ | refine bw ?_ | refine bi ?_ | refine un ?_ | refine pt ?_ | refine pf ?_ | refine ex ?_ | refine cv' ?_ | refine ln ?_ | refine lns ?_ | refine fd ?_ | refine la ?_ | refine so ?_ | refine mf ?_ | refine bd ?_ | refine aops_nil ?_ | refine aw_seq ?_ | refine aw_region ?_ | refine aw_cond_t rfl ?_ | refine aw_cond_f rfl ?_ | refine aw_block ?_ | refine aw_exit ?_ | refine aw_skip ?_ | refine aw_ret ?_ | fail))
      refine ⟨by omega, by omega, ent_tb id [(0, .live 24 3 [encHeap H]), (1, .live 24 3 [encHeap (fillH H kind size (k + 1))])] ⟨.one _ _ _ _ rfl rfl (fzL_all (hcell _)), .one _ _ _ _ rfl rfl (fzL_all (hcell _)), trivial⟩ ⟨⟨_, ?_, fz_v _⟩, ⟨_, rfl, .ptr 0 0 0 0 rfl (by simp [tb, upd])⟩, ⟨_, rfl, .ptr 1 1 0 0 rfl (by simp [tb, upd])⟩, ⟨_, rfl, fz_v _⟩, ⟨_, rfl, fz_v _⟩, trivial⟩⟩
      exact congrArg some (congrArg iv (by omega))
  · have hkk : (H.objs.length : Int) + k = H.cap := by omega
    have e0 : allocE (fillH H kind size k) 0 kind size = 30 := by
      have hr : ¬ refI ((fillH H kind size k).objs.length : Int) 0 < 0 := by rw [ref_zero (by omega)]; omega
      simp only [allocE, a2, if_true, if_neg hr]
      rw [if_neg (by omega), if_neg (by omega), if_pos (by rw [a3, a4]; omega)]
    have c1 : Gives Try.prog 11 [.agg (encHeap (fillH H kind size k)), iv 0, iv kind, iv size] (.tup [.agg (encHeap (fillH H kind size k)), iv 0, iv 30]) :=
      (Alloc_ok _ a1 0 kind size).to (by rw [e0]; simp [allocV, allocH, e0, keptH])
    (repeat' (first | refine sk ?_ | refine mv ?_ | refine asg ?_ | refine ld ?_ | refine fp ?_ | refine fi ?_ | refine ms 1 ?_ | refine ms 30 ?_ | refine ms 63 ?_ | refine sll (c := 2) ?_ | refine sll (c := 8) ?_ | refine sr ?_ | refine rm ?_ | refine qu ?_ | refine bt ?_ | refine bf ?_ | refine bw ?_ | refine bi ?_ | refine un ?_ | refine pt ?_ | refine pf ?_ | refine ex ?_ | refine cv' ?_ | refine ln ?_ | refine lns ?_ | refine fd ?_ | refine la ?_ | refine so ?_ | refine mf ?_ | refine bd ?_ | refine aops_nil ?_ | refine aw_seq ?_ | refine aw_region ?_ | refine aw_cond_t rfl ?_ | refine aw_cond_f rfl ?_ | refine aw_block ?_ | refine aw_exit ?_ | refine aw_skip ?_ | refine aw_ret ?_ | refine bx 0 ?_ | refine bx 1 ?_ | refine bx 2 ?_ | refine bx 3 ?_ | refine bx 4 ?_ | refine bx 5 ?_ | refine bx 6 ?_ | refine bx 7 ?_ | refine bx 8 ?_ | refine bx 9 ?_ | refine bx 10 ?_ | refine bx 11 ?_ | refine bx 12 ?_ | refine bx 13 ?_ | refine bx 14 ?_ | refine bx 15 ?_ | refine al 0 ?_ | refine al 1 ?_ | refine al 2 ?_ | refine al 3 ?_ | refine al 4 ?_ | refine al 5 ?_ | refine al 6 ?_ | refine al 7 ?_ | refine al 8 ?_ | refine al 9 ?_ | refine al 10 ?_ | refine al 11 ?_ | refine al 12 ?_ | refine al 13 ?_ | refine al 14 ?_ | refine al 15 ?_ | refine cl c1 ?_ (hno := ⟨noOwn_heap _, noOwn_iv _, noOwn_iv _, noOwn_iv _, trivial⟩) | refine cl (rSame_id _ a1) ?_ (hno := ⟨noOwn_heap _, noOwn_heap _, trivial⟩) | fail))
    exact fin (sh_bv rfl)
end Go.Proofs.Ytafbiccgbgcooaa
