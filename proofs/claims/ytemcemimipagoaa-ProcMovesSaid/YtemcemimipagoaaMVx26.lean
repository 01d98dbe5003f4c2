/- What the statements' walks need. -/
import Derived.Test.YtemcemimipagoaaMVa4
import Derived.Test.YtemcemimipagoaaMVx25
set_option linter.unusedVariables false
set_option linter.unusedSimpArgs false
set_option maxRecDepth 100000
namespace Go.Proofs.Ytemcemimipagoaa
open Go Go.Proofs AW
set_option maxHeartbeats 4000000 in
theorem idx_ok (l : List Int) (x : Int) (hl : l.length < 1099511627776) : Gives Try.prog 40 [.sl 1 (encInts l), iv x] (iv (findI (fun y => y == x) l)) := by
  have hle : (encInts l).length = l.length := len_ints l
  refine gives_of Try.func40 rfl (Nat.le_of_ble_eq_true rfl) ?_
  (repeat' (first | refine mv ?_ | refine asg ?_ | refine ln ?_ | refine aops_nil ?_ | refine aw_seq ?_ | refine aw_region ?_ | refine aw_block ?_ | fail))
  refine aw_forE l.length (fun k => k ≤ l.length ∧ ∀ (j : Nat) (y : Int), j < k → l[j]? = some y → (y == x) = false) (fun k => [(8, iv (k : Int)), (7, iv ((encInts l).length : Int)), (0, .sl 1 (encInts l)), (1, iv x)]) 0 ⟨by omega, by omega⟩ ⟨rfl, rfl, rfl, rfl, trivial⟩ ?_
  rintro k ⟨hk, hprev⟩
  (repeat' (first | refine bi ?_ | refine aops_nil ?_ | refine aw_seq ?_ | refine aw_region ?_ | fail))
  refine aw_cond rfl (fun h => ?_) (fun h => ?_) <;> simp at h
  · have g1 : l[k]? = some l[k] := List.getElem?_eq_getElem h
    generalize hx : l[k] = y at g1
    by_cases hy : x = y
    · subst hy
      (repeat' (first | refine mv ?_ | refine asg ?_ | refine ld ?_ | refine bt ?_ | refine aops_nil ?_ | refine aw_seq ?_ | refine aw_region ?_ | refine aw_cond_t rfl ?_ | refine aw_block ?_ | refine aw_skip ?_ | refine aw_ret ?_ | refine ia k (ints_get g1) ?_ | fail))
      refine fin (sh_iv ?_)
      exact (findI_at g1 (by simp) hprev).symm
    · (repeat' (first | refine mv ?_ | refine asg ?_ | refine ld ?_ | refine bf ?_ | refine bw ?_ | refine aops_nil ?_ | refine aw_seq ?_ | refine aw_region ?_ | refine aw_cond_f rfl ?_ | refine aw_block ?_ | refine aw_skip ?_ | refine ia k (ints_get g1) ?_ | fail))
      refine ⟨h, ⟨by omega, fun j z hj hjz => ?_⟩, rfl, rfl, rfl, rfl, rfl, trivial⟩
      by_cases hjk : j = k
      · subst hjk; rw [g1] at hjz; cases hjz; simp; exact fun e => hy e.symm
      · exact hprev j z (by omega) hjz
  · (repeat' (first | refine asg ?_ | refine aops_nil ?_ | refine aw_seq ?_ | refine aw_region ?_ | refine aw_exit ?_ | refine aw_ret ?_ | fail))
    refine fin (sh_iv ?_)
    exact (findI_none fun j y hj => hprev j y (by have := (List.getElem?_eq_some_iff.1 hj).1; omega) hj).symm
theorem find_cont (l : List Int) (x : Int) : decide (0 ≤ findI (fun y => y == x) l) = l.contains x := by
  unfold findI
  cases h : l.findIdx? (fun y => y == x) with
  | none =>
    rw [List.findIdx?_eq_none_iff] at h
    have : l.contains x = false := by
      cases hc : l.contains x with
      | false => rfl
      | true => have := h x (by simpa using hc); simp at this
    rw [this]; decide
  | some i =>
    rw [List.findIdx?_eq_some_iff_getElem] at h
    obtain ⟨hi, h1, _⟩ := h
    have : l.contains x = true := by
      have h2 : l[i] = x := by simpa using h1
      rw [← h2]; simp
    rw [this]; simp
theorem cont_ok (l : List Int) (x : Int) (hl : l.length < 1099511627776) : Gives Try.prog 33 [.sl 1 (encInts l), iv x] (bv (l.contains x)) := by
  have c1 := idx_ok l x hl
  rw [← find_cont]
  generalize findI (fun y => y == x) l = n at *
  by_cases h : 0 ≤ n
  · rw [decide_eq_true h]
    refine gives_of Try.func33 rfl (Nat.le_of_ble_eq_true rfl) ?_
    (repeat' (first | refine mv ?_ | refine asg ?_ | refine bt ?_ | refine aops_nil ?_ | refine aw_seq ?_ | refine aw_region ?_ | refine aw_ret ?_ | refine cl (c1) ?_ | fail))
    exact fin (sh_bv rfl)
  · rw [decide_eq_false h]
    refine gives_of Try.func33 rfl (Nat.le_of_ble_eq_true rfl) ?_
    (repeat' (first | refine mv ?_ | refine asg ?_ | refine bf ?_ | refine aops_nil ?_ | refine aw_seq ?_ | refine aw_region ?_ | refine aw_ret ?_ | refine cl (c1) ?_ | fail))
    exact fin (sh_bv rfl)
theorem ints_app (l : List Int) (x : Int) : encInts (l ++ [x]) = encInts l ++ [[iv x]] := by simp [encInts]
def lsE (p : Int) : List (Nat × AV) := [(7, iv p), (6, .own 9), (2, .ptr 0 0 0)]
def lsT (H : HHeap) (out : List Int) : List (Nat × Ob) := [(0, .live 24 3 [encHeap H]), (9, .live 3 1 (encInts out))]
def LstR (H : HHeap) (p : Int) (x : AV) (T : Nat → Ob) : Prop :=
  ((lstI H p).2 = 0 ∧ x = .tup [.own 9, iv 0] ∧ T 9 = .live 3 1 (encInts (lstI H p).1)) ∨ (lstI H p = ([], 141) ∧ x = .tup [nilV, iv 141])
set_option maxHeartbeats 16000000 in
theorem plist_raw (H : HHeap) (hi : H.In) (hm : mayH H = true) (p : Int) : Ok Try.prog 12 [.agg (encHeap H), iv p] (LstR H p) := by
  have cm := (May_ok H hi).to' (congrArg bv hm)
  have hlen := mayH_len hm
  refine ok_of Try.func12 rfl (Nat.le_of_ble_eq_true rfl) ?_
  (repeat' (first | refine mv ?_ | refine asg ?_ | refine un ?_ | refine la ?_ | refine aops_nil ?_ | refine aw_seq ?_ | refine aw_region ?_ | refine aw_cond_f rfl ?_ | refine aw_block ?_ | refine aw_skip ?_ | refine bx 0 ?_ | refine cl (cm) ?_ | fail))
  refine AWp.ent (ent_nil (t := 6) 9 3 1 rfl rfl) ?_
  refine aw_loop (ι := {i : Nat × List Int × Int // lstF H i.1 i.2.1 i.2.2 = some (lstI H p) ∧ i.2.1.Nodup ∧ ∀ x ∈ i.2.1, prcB H x = true}) (fun i => ⟨lsE i.1.2.2, tb (lsT H i.1.2.1)⟩) (fun i => i.1.1) ⟨(H.objs.length + 1, [], p), lstI_F H p, .nil, by simp⟩ ?_ ?_
  · refine ent_tb id (lsT H []) ?_ ?_ <;> (repeat' (first | exact trivial | exact fz_v _ | exact fz_own rfl (ne_live rfl) | exact .ptr _ _ _ _ rfl (ne_live rfl) | exact fzL_to (noOwn_heapc _) | exact .same _ _ [] rfl rfl (by simp) | refine ⟨_, rfl, ?_⟩ | refine ⟨?_, ?_⟩ | refine .one _ _ _ _ rfl rfl ?_ | fail))
  rintro ⟨⟨k, out, q⟩, hk, hn, ho⟩
  show AWp _ _ _ _ ⟨lsE q, tb (lsT H out)⟩
  have hol : out.length ≤ H.objs.length := room hn fun x hx => (prc_facts (ho x hx)).1.1
  cases k with
  | zero => cases hk
  | succ k =>
    have hk : lstF H (k + 1) out q = some (lstI H p) := hk
    unfold lstF at hk
    by_cases h0 : q = 0
    · rw [if_pos h0] at hk
      injection hk with hk
      (repeat' (first | refine mv ?_ | refine asg ?_ | refine bf ?_ | refine aops_nil ?_ | refine aw_seq ?_ | refine aw_region ?_ | refine aw_cond_f rfl ?_ | refine aw_exit ?_ | refine aw_ret ?_ | fail))
      exact ⟨.inl rfl, _, rfl, .inl ⟨by rw [← hk], rfl, by rw [← hk]; rfl⟩⟩
    · rw [if_neg h0] at hk
      by_cases hb : prcB H q = true ∧ out.contains q = false
      · rw [if_pos hb] at hk
        have cp := (process_ok H hi q).to' (prcA_yes hb.1)
        have hne := prc_ne hb.1
        have g0 := prc_slot hb.1 (k := 0) (by omega)
        have cc := (cont_ok out q (by omega)).to' (congrArg bv hb.2)
        (repeat' (first | refine mv ?_ | refine asg ?_ | refine ld ?_ | refine bt ?_ | refine pf ?_ | refine la ?_ | refine aops_nil ?_ | refine aw_seq ?_ | refine aw_region ?_ | refine aw_cond_t rfl ?_ | refine aw_cond_f rfl ?_ | refine aw_block ?_ | refine aw_skip ?_ | refine cl (cp) ?_ | refine nle ?_ hne | refine cs cc ?_ (hsh := by exact ⟨sh_ints rfl, .same _ (.v _), trivial⟩) | refine li 10 ?_ | refine ap1 11 ?_ (hl := by rw [len_ints]; omega) | refine ia 0 g0 ?_ | fail))
        have hnew : (out ++ [q]).Nodup := by
          rw [List.nodup_append]
          refine ⟨hn, by simp, fun a ha b hb' => ?_⟩
          simp only [List.mem_singleton] at hb'
          subst hb'
          intro e
          subst e
          simp [ha] at hb
        have hall : ∀ x ∈ out ++ [q], prcB H x = true := by
          intro x hx
          rcases List.mem_append.1 hx with hx | hx
          · exact ho x hx
          · simp only [List.mem_singleton] at hx; subst hx; exact hb.1
        refine ⟨⟨(k, out ++ [q], nxt H q), hk, hnew, hall⟩, Nat.lt_succ_self _, ?_⟩
        refine ent_tb (nm [(9, 11)]) (lsT H (out ++ [q])) ?_ ?_ <;> (repeat' (first | exact trivial | exact fz_v _ | exact fz_own rfl (ne_live rfl) | exact .ptr _ _ _ _ rfl (ne_live rfl) | exact fzL_to (noOwn_heapc _) | exact .same _ _ (encInts out ++ [[iv q]]) rfl (congrArg (Ob.live 3 1) (ints_app out q)) (fun c hc => noOwn_intsc (l := out ++ [q]) (ints_app out q ▸ hc)) | refine ⟨_, rfl, ?_⟩ | refine ⟨?_, ?_⟩ | refine .one _ _ _ _ rfl rfl ?_ | fail))
      · rw [if_neg hb] at hk
        injection hk with hk
        cases hp : prcB H q with
        | false =>
          have cp := (process_ok H hi q).to' (prcA_no hp)
          (repeat' (first | refine sk ?_ | refine mv ?_ | refine asg ?_ | refine bt ?_ | refine pt ?_ | refine la ?_ | refine aops_nil ?_ | refine aw_seq ?_ | refine aw_region ?_ | refine aw_cond_t rfl ?_ | refine aw_block ?_ | refine aw_skip ?_ | refine aw_ret ?_ | refine cl (cp) ?_ | fail))
          exact ⟨.inl rfl, _, rfl, .inr ⟨hk.symm, rfl⟩⟩
        | true =>
          have hc : out.contains q = true := by
            cases h : out.contains q with
            | true => rfl
            | false => exact absurd ⟨hp, h⟩ hb
          have cp := (process_ok H hi q).to' (prcA_yes hp)
          have hne := prc_ne hp
          have cc := (cont_ok out q (by omega)).to' (congrArg bv hc)
          (repeat' (first | refine mv ?_ | refine asg ?_ | refine bt ?_ | refine pf ?_ | refine la ?_ | refine aops_nil ?_ | refine aw_seq ?_ | refine aw_region ?_ | refine aw_cond_t rfl ?_ | refine aw_block ?_ | refine aw_skip ?_ | refine aw_ret ?_ | refine cl (cp) ?_ | refine nle ?_ hne | refine cs cc ?_ (hsh := by exact ⟨sh_ints rfl, .same _ (.v _), trivial⟩) | fail))
          exact ⟨.inl rfl, _, rfl, .inr ⟨hk.symm, rfl⟩⟩
end Go.Proofs.Ytemcemimipagoaa
