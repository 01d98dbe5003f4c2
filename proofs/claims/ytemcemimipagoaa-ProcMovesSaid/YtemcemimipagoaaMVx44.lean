/- What the statements' walks need. -/
import Derived.Test.YtemcemimipagoaaMVa4
import Derived.Test.YtemcemimipagoaaMVx43
set_option linter.unusedVariables false
set_option linter.unusedSimpArgs false
set_option maxRecDepth 100000
namespace Go.Proofs.Ytemcemimipagoaa
open Go Go.Proofs AW
set_option maxHeartbeats 4000000 in
theorem rin_ok (l : List Int) (x : Int) (hl : l.length < 1099511627776) : Gives Try.prog 24 [.sl 1 (encInts l), iv x] (bv (l.contains x)) := by
  have hle : (encInts l).length = l.length := len_ints l
  refine gives_of Try.func24 rfl (Nat.le_of_ble_eq_true rfl) ?_
  (repeat' (first | refine asg ?_ | refine aops_nil ?_ | refine aw_seq ?_ | refine aw_region ?_ | refine aw_block ?_ | fail))
  refine aw_forE l.length (fun k => k ≤ l.length ∧ ∀ (j : Nat) (y : Int), j < k → l[j]? = some y → y ≠ x) (fun k => [(5, iv (k : Int)), (0, .sl 1 (encInts l)), (1, iv x)]) 0 ⟨by omega, by omega⟩ ⟨rfl, rfl, rfl, trivial⟩ ?_
  rintro k ⟨hk, hprev⟩
  (repeat' (first | refine mv ?_ | refine bi ?_ | refine ln ?_ | refine aops_nil ?_ | refine aw_seq ?_ | refine aw_region ?_ | fail))
  refine aw_cond rfl (fun h => ?_) (fun h => ?_) <;> simp at h
  · have g1 : l[k]? = some l[k] := List.getElem?_eq_getElem h
    generalize hx : l[k] = y at g1
    by_cases hy : y = x
    · subst hy
      have hc : l.contains y = true := by simpa using List.mem_of_getElem? g1
      rw [hc]
      (repeat' (first | refine mv ?_ | refine asg ?_ | refine ld ?_ | refine bt ?_ | refine aops_nil ?_ | refine aw_seq ?_ | refine aw_region ?_ | refine aw_cond_t rfl ?_ | refine aw_block ?_ | refine aw_skip ?_ | refine aw_ret ?_ | refine ia k (ints_get g1) ?_ | fail))
      exact fin (sh_bv rfl)
    · (repeat' (first | refine mv ?_ | refine asg ?_ | refine ld ?_ | refine bf ?_ | refine bw ?_ | refine aops_nil ?_ | refine aw_seq ?_ | refine aw_region ?_ | refine aw_cond_f rfl ?_ | refine aw_block ?_ | refine aw_skip ?_ | refine ia k (ints_get g1) ?_ | fail))
      refine ⟨h, ⟨by omega, fun j z hj hjz => ?_⟩, rfl, rfl, rfl, rfl, trivial⟩
      by_cases hjk : j = k
      · subst hjk; rw [g1] at hjz; cases hjz; exact hy
      · exact hprev j z (by omega) hjz
  · have hc : l.contains x = false := by
      cases hcc : l.contains x with
      | false => rfl
      | true =>
        obtain ⟨j, hj⟩ := List.mem_iff_getElem?.1 (show x ∈ l by simpa using hcc)
        exact absurd rfl (hprev j x (by have := (List.getElem?_eq_some_iff.1 hj).1; omega) hj)
    rw [hc]
    (repeat' (first | refine asg ?_ | refine aops_nil ?_ | refine aw_seq ?_ | refine aw_region ?_ | refine aw_exit ?_ | refine aw_ret ?_ | fail))
    exact fin (sh_bv rfl)
def rlE (p : Int) : List (Nat × AV) := [(1, iv p), (6, .own 9), (2, .ptr 0 0 0)]
set_option maxHeartbeats 16000000 in
theorem rplist_ok (H : HHeap) (hi : H.In) (hm : mayH H = true) (p : Int) : Gives Try.prog 8 [.agg (encHeap H), iv p] (.tup [.sl 1 (encInts (lstI H p).1), iv (lstI H p).2]) := by
  have cm := (rMay_ok H hi).to' (congrArg bv hm)
  have hlen := mayH_len hm
  refine gives_of Try.func8 rfl (Nat.le_of_ble_eq_true rfl) ?_
  (repeat' (first | refine asg ?_ | refine un ?_ | refine la ?_ | refine aops_nil ?_ | refine aw_seq ?_ | refine aw_region ?_ | refine aw_cond_f rfl ?_ | refine aw_block ?_ | refine aw_skip ?_ | refine bx 0 ?_ | refine cl (cm) ?_ | refine lit0 9 ?_ rfl | fail))
  refine aw_loop (ι := {i : Nat × List Int × Int // lstF H i.1 i.2.1 i.2.2 = some (lstI H p) ∧ i.2.1.Nodup ∧ ∀ x ∈ i.2.1, prcB H x = true}) (fun i => ⟨rlE i.1.2.2, tb (lsT H i.1.2.1)⟩) (fun i => i.1.1) ⟨(H.objs.length + 1, [], p), lstI_F H p, .nil, by simp⟩ ?_ ?_
  · refine ent_tb id (lsT H []) ?_ ?_ <;> (repeat' (first | exact trivial | exact fz_v _ | exact fz_own rfl (ne_live rfl) | exact .ptr _ _ _ _ rfl (ne_live rfl) | exact fzL_to (noOwn_heapc _) | exact .same _ _ [] rfl rfl (by simp) | refine ⟨_, rfl, ?_⟩ | refine ⟨?_, ?_⟩ | refine .one _ _ _ _ rfl rfl ?_ | fail))
  rintro ⟨⟨k, out, q⟩, hk, hn, ho⟩
  show AWp _ _ _ _ ⟨rlE q, tb (lsT H out)⟩
  have hol : out.length ≤ H.objs.length := room hn fun x hx => (prc_facts (ho x hx)).1.1
  cases k with
  | zero => cases hk
  | succ k =>
    have hk : lstF H (k + 1) out q = some (lstI H p) := hk
    unfold lstF at hk
    by_cases h0 : q = 0
    · rw [if_pos h0] at hk
      injection hk with hk
      (repeat' (first | refine mv ?_ | refine asg ?_ | refine bf ?_ | refine aops_nil ?_ | refine aw_seq ?_ | refine aw_region ?_ | refine aw_cond_f rfl ?_ | refine aw_exit ?_ | refine aw_ret ?_ | fail))
      refine fin ?_
      rw [← hk]
      exact (sh_tup ⟨sh_ints rfl, .same _ (.v _), trivial⟩)
    · rw [if_neg h0] at hk
      by_cases hb : prcB H q = true ∧ out.contains q = false
      · rw [if_pos hb] at hk
        have cp := (rpMay_ok H hi q).to' (show bv (mayH H && prcB H q) = bv true by rw [hm, hb.1]; rfl)
        obtain ⟨⟨f1, f2, f3, f4⟩, _⟩ := prc_facts hb.1
        have cs' := (rSlots_ok H hi q).to' (show _ = .sl 1 (encInts (H.at' q).slots) by rw [slotI, if_pos ⟨f1, f2⟩])
        have g0 := prc_slot hb.1 (k := 0) (by omega)
        have cc := (rin_ok out q (by omega)).to' (congrArg bv hb.2)
        (repeat' (first | refine mv ?_ | refine asg ?_ | refine ld ?_ | refine bt ?_ | refine un ?_ | refine pf ?_ | refine la ?_ | refine aops_nil ?_ | refine aw_seq ?_ | refine aw_region ?_ | refine aw_cond_t rfl ?_ | refine aw_cond_f rfl ?_ | refine aw_block ?_ | refine aw_skip ?_ | refine cl (cp) ?_ | refine cl (cs') ?_ | refine cs cc ?_ (hsh := by exact ⟨sh_ints rfl, .same _ (.v _), trivial⟩) | refine li 10 ?_ | refine ap1 11 ?_ (hl := by rw [len_ints]; omega) | refine ia 0 g0 ?_ | fail))
        have hnew : (out ++ [q]).Nodup := by
          rw [List.nodup_append]
          refine ⟨hn, by simp, fun a ha b hb' => ?_⟩
          simp only [List.mem_singleton] at hb'
          subst hb'
          intro e
          subst e
          simp [ha] at hb
        have hall : ∀ x ∈ out ++ [q], prcB H x = true := by
          intro x hx
          rcases List.mem_append.1 hx with hx | hx
          · exact ho x hx
          · simp only [List.mem_singleton] at hx; subst hx; exact hb.1
        refine ⟨⟨(k, out ++ [q], nxt H q), hk, hnew, hall⟩, Nat.lt_succ_self _, ?_⟩
        refine ent_tb (nm [(9, 11)]) (lsT H (out ++ [q])) ?_ ?_ <;> (repeat' (first | exact trivial | exact fz_v _ | exact fz_own rfl (ne_live rfl) | exact .ptr _ _ _ _ rfl (ne_live rfl) | exact fzL_to (noOwn_heapc _) | exact .same _ _ (encInts out ++ [[iv q]]) rfl (congrArg (Ob.live 3 1) (ints_app out q)) (fun c hc => noOwn_intsc (l := out ++ [q]) (ints_app out q ▸ hc)) | refine ⟨_, rfl, ?_⟩ | refine ⟨?_, ?_⟩ | refine .one _ _ _ _ rfl rfl ?_ | fail))
      · rw [if_neg hb] at hk
        injection hk with hk
        cases hp : prcB H q with
        | false =>
          have cp := (rpMay_ok H hi q).to' (show bv (mayH H && prcB H q) = bv false by rw [hp, Bool.and_false])
          (repeat' (first | refine sk ?_ | refine mv ?_ | refine asg ?_ | refine bt ?_ | refine un ?_ | refine pt ?_ | refine la ?_ | refine aops_nil ?_ | refine aw_seq ?_ | refine aw_region ?_ | refine aw_cond_t rfl ?_ | refine aw_block ?_ | refine aw_skip ?_ | refine aw_ret ?_ | refine cl (cp) ?_ | fail))
          refine fin ?_
          rw [← hk]
          exact sh_tup ⟨.nil 1, .same _ (.v _), trivial⟩
        | true =>
          have hc : out.contains q = true := by
            cases h : out.contains q with
            | true => rfl
            | false => exact absurd ⟨hp, h⟩ hb
          have cp := (rpMay_ok H hi q).to' (show bv (mayH H && prcB H q) = bv true by rw [hm, hp]; rfl)
          have cc := (rin_ok out q (by omega)).to' (congrArg bv hc)
          (repeat' (first | refine mv ?_ | refine asg ?_ | refine bt ?_ | refine un ?_ | refine pf ?_ | refine la ?_ | refine aops_nil ?_ | refine aw_seq ?_ | refine aw_region ?_ | refine aw_cond_t rfl ?_ | refine aw_block ?_ | refine aw_skip ?_ | refine aw_ret ?_ | refine cl (cp) ?_ | refine cs cc ?_ (hsh := by exact ⟨sh_ints rfl, .same _ (.v _), trivial⟩) | fail))
          refine fin ?_
          rw [← hk]
          exact sh_tup ⟨.nil 1, .same _ (.v _), trivial⟩
end Go.Proofs.Ytemcemimipagoaa
