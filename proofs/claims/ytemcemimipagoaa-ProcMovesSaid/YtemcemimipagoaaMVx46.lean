/- What the statements' walks need. -/
import Derived.Test.YtemcemimipagoaaMVa4
import Derived.Test.YtemcemimipagoaaMVx45
set_option linter.unusedVariables false
set_option linter.unusedSimpArgs false
set_option maxRecDepth 100000
namespace Go.Proofs.Ytemcemimipagoaa
open Go Go.Proofs AW
section
variable {P : Program} {N : Fr} {Q : Exit → ASt → Prop} {st : ASt} {o : Oper}
theorem y_cutH {z q : Operand} {t e s : Nat} {es es' : List (List AV)} {k : IntKind} {n : Int} (h : Nat) (he : es.take h = es') (hhe : h ≤ es.length) (hn : n = (h : Int)) (ho : o.op = .slice t z none (some q) none := by rfl) (ht : elOf P t = some (e, s) := by rfl)
    (hz : ev st z = some (.sl s es) := by rfl) (hq : ev st q = some (.v (.int k n)) := by rfl) : AYield P N Q o st (.sl s es') := by
  subst he
  subst hn
  have := y_cut (P := P) (N := N) (Q := Q) (l := 0) (h := h) ho ht hz (fun _ h => by cases h) (fun _ => rfl) (fun q' h' => by cases h'; exact ⟨k, hq⟩) (fun h => by cases h) (Nat.zero_le _) hhe
  simpa using this
theorem y_cutL {z q : Operand} {t e s : Nat} {es es' : List (List AV)} {k : IntKind} {n : Int} (l : Nat) (he : es.drop l = es') (hle : l ≤ es.length) (hn : n = (l : Int)) (ho : o.op = .slice t z (some q) none none := by rfl) (ht : elOf P t = some (e, s) := by rfl)
    (hz : ev st z = some (.sl s es) := by rfl) (hq : ev st q = some (.v (.int k n)) := by rfl) : AYield P N Q o st (.sl s es') := by
  subst he
  subst hn
  have := y_cut (P := P) (N := N) (Q := Q) (l := l) (h := es.length) ho ht hz (fun q' h' => by cases h'; exact ⟨k, hq⟩) (fun h => by cases h) (fun _ h => by cases h) (fun _ => rfl) hle (Nat.le_refl _)
  simpa using this
end
set_option maxHeartbeats 4000000 in
theorem plc_ok (l : List Int) (x : Int) (hl : l.length < 1099511627776) : Gives Try.prog 9 [.sl 1 (encInts l), iv x] (iv (findI (fun y => y == x) l)) := by
  have hle : (encInts l).length = l.length := len_ints l
  refine gives_of Try.func9 rfl (Nat.le_of_ble_eq_true rfl) ?_
  (repeat' (first | refine asg ?_ | refine aops_nil ?_ | refine aw_seq ?_ | refine aw_region ?_ | refine aw_block ?_ | fail))
  refine aw_forE l.length (fun k => k ≤ l.length ∧ ∀ (j : Nat) (y : Int), j < k → l[j]? = some y → y ≠ x) (fun k => [(5, iv (k : Int)), (0, .sl 1 (encInts l)), (1, iv x)]) 0 ⟨by omega, by omega⟩ ⟨rfl, rfl, rfl, trivial⟩ ?_
  rintro k ⟨hk, hprev⟩
  (repeat' (first | refine mv ?_ | refine bi ?_ | refine ln ?_ | refine aops_nil ?_ | refine aw_seq ?_ | refine aw_region ?_ | fail))
  refine aw_cond rfl (fun h => ?_) (fun h => ?_) <;> simp at h
  · have g1 : l[k]? = some l[k] := List.getElem?_eq_getElem h
    generalize hx : l[k] = y at g1
    by_cases hy : y = x
    · subst hy
      (repeat' (first | refine mv ?_ | refine asg ?_ | refine ld ?_ | refine bt ?_ | refine aops_nil ?_ | refine aw_seq ?_ | refine aw_region ?_ | refine aw_cond_t rfl ?_ | refine aw_block ?_ | refine aw_skip ?_ | refine aw_ret ?_ | refine ia k (ints_get g1) ?_ | fail))
      exact fin (sh_iv (findI_at g1 (by simp) fun j z hj hz => by simpa using hprev j z hj hz).symm)
    · (repeat' (first | refine mv ?_ | refine asg ?_ | refine ld ?_ | refine bf ?_ | refine bw ?_ | refine aops_nil ?_ | refine aw_seq ?_ | refine aw_region ?_ | refine aw_cond_f rfl ?_ | refine aw_block ?_ | refine aw_skip ?_ | refine ia k (ints_get g1) ?_ | fail))
      refine ⟨h, ⟨by omega, fun j z hj hjz => ?_⟩, rfl, rfl, rfl, rfl, trivial⟩
      by_cases hjk : j = k
      · subst hjk; rw [g1] at hjz; cases hjz; exact hy
      · exact hprev j z (by omega) hjz
  · have hc : l.contains x = false := by
      cases hcc : l.contains x with
      | false => rfl
      | true =>
        obtain ⟨j, hj⟩ := List.mem_iff_getElem?.1 (show x ∈ l by simpa using hcc)
        exact absurd rfl (hprev j x (by have := (List.getElem?_eq_some_iff.1 hj).1; omega) hj)
    (repeat' (first | refine asg ?_ | refine aops_nil ?_ | refine aw_seq ?_ | refine aw_region ?_ | refine aw_exit ?_ | refine aw_ret ?_ | fail))
    exact fin (sh_iv (find_no hc).symm)
theorem chn_mono {H G : HHeap} : ∀ {r : List Int} {p : Int}, Chn H p r → (∀ q ∈ r, prcB G q = prcB H q ∧ nxt G q = nxt H q) → Chn G p r
  | [], _, h, _ => h
  | q :: r, p, ⟨h1, h2, h3⟩, hg => by
    obtain ⟨g1, g2⟩ := hg q (.head _)
    exact ⟨h1, by rw [g1]; exact h2, by rw [g2]; exact chn_mono h3 fun x hx => hg x (.tail _ hx)⟩
theorem move_facts {H : HHeap} (hi : H.In) (hm : mayH H = true) {first other : Int} {t m : List Int} (h0 : lstI H first = (first :: t, 0)) (h1 : lstI H other = (m, 0)) (hd : ∀ x ∈ m, x ∉ first :: t) :
    ∃ (A B : HHeap) (k : Nat) (to : Int), A.In ∧ B.In ∧ mayH B = true ∧ k ≤ m.length ∧ takeR H first = .tup [.agg (encHeap A), iv first, iv (t.headD 0), iv 0] ∧ pinR A other first (insL A other first) = .tup [.agg (encHeap B), iv to, iv 0] ∧
      lstI B (t.headD 0) = (t, 0) ∧ lstI B to = (m.take k ++ first :: m.drop k, 0) := by
  have e0 : (lstI H first).2 = 0 := by rw [h0]
  have e1 : (lstI H other).2 = 0 := by rw [h1]
  obtain ⟨c0, n0⟩ := lstI_ok e0
  obtain ⟨c1, n1⟩ := lstI_ok e1
  have l0 : lstL H first = first :: t := by rw [lstL_l hm, h0]
  have l1 : lstL H other = m := by rw [lstL_l hm, h1]
  rw [h0] at c0 n0
  rw [h1] at c1 n1
  have hpf : prcB H first = true := c0.2.1
  have hone := has_one hpf
  have hnx : nxt H first = t.headD 0 := chn_hd c0.2.2
  have hN := List.nodup_cons.1 n0
  have eA : woH H (first :: t) 0 = setH H first 0 0 := by
    show setH (lnkH H t) first 0 0 = _
    rw [lnk_same hm t _ c0.2.2]
  have hse := prc_setE hm hpf (k := 0) (by omega) (at0 hone)
  have hte : takeE H first = 0 := by rw [takeE, if_pos (lstE_0 hm e0), l0]; simp
  have hAi : (setH H first 0 0).In := setH_in hi
  have hAm : mayH (setH H first 0 0) = true := setH_may hse
  have hpA : ∀ q, prcB (setH H first 0 0) q = prcB H q := fun q => set_prc hpf hse (by decide) q
  have hnA : ∀ q, 0 ≤ H.ref q → nxt (setH H first 0 0) q = if q = first then 0 else nxt H q := fun q hq => set_nxt hpf hse hq
  have hrf : ∀ q, prcB H q = true → 0 ≤ H.ref q := fun q hq => (prc_facts hq).1.1
  have hmf : first ∉ m := fun h => hd first h (.head _)
  have cA : Chn (setH H first 0 0) other m := chn_mono c1 fun q hq => by
    have hne : q ≠ first := fun e => by subst e; exact hmf hq
    exact ⟨hpA q, by rw [hnA q (hrf q (chn_prc c1 q hq)), if_neg hne]⟩
  have lA := lstI_of cA n1
  have hnf : nxt (setH H first 0 0) first = 0 := by rw [hnA first (hrf first hpf), if_pos rfl]
  have hlen : (setH H first 0 0).objs.length = H.objs.length := set_len hse
  have hrA : ∀ q, (setH H first 0 0).ref q = H.ref q := fun q => set_ref hse q
  generalize setH H first 0 0 = A at *
  have lLA : lstL A other = m := by rw [lstL_l hAm, lA]
  have hpe : pinE A other first = 0 := by
    rw [pinE, if_pos (lstE_0 hAm (by rw [lA])), if_pos ⟨by rw [hpA]; exact hpf, hnf, by rw [lLA]; simpa using hmf⟩]
  have hk : insAt A m first ≤ m.length := insAt_le _ _ _
  have eL : insL A other first = m.take (insAt A m first) ++ first :: m.drop (insAt A m first) := by rw [insL, lLA, pinAt]
  generalize insAt A m first = k at *
  have hall : ∀ x ∈ m.take k ++ first :: m.drop k, prcB A x = true := pin_all (H := A) (fun x hx => by rw [hpA]; exact chn_prc c1 x hx) (by rw [hpA]; exact hpf)
  have hmem : ∀ x ∈ m.take k ++ first :: m.drop k, x = first ∨ x ∈ m := by
    intro x hx
    rcases List.mem_append.1 hx with h | h
    · exact .inr (List.mem_of_mem_take h)
    · rcases List.mem_cons.1 h with h | h
      · exact .inl h
      · exact .inr (List.mem_of_mem_drop h)
  have hnd : (m.take k ++ first :: m.drop k).Nodup := by
    have hp : (m.take k ++ first :: m.drop k).Perm (first :: m) := by
      have h := List.perm_middle (a := first) (l₁ := m.take k) (l₂ := m.drop k)
      rw [List.take_append_drop] at h
      exact h
    exact hp.nodup_iff.2 (List.nodup_cons.2 ⟨hmf, n1⟩)
  obtain ⟨f1, f2, f3, f4, f5⟩ := lnk_facts hAm (by omega) _ hall
  refine ⟨A, lnkH A (m.take k ++ first :: m.drop k), k, (m.take k ++ first :: m.drop k).headD 0, hAi, f5 hAi, f1, hk, ?_, ?_, ?_, ?_⟩
  · rw [takeR, hte, takeHp, if_pos hte, takeP, if_pos hte, takeV, if_pos hte, l0, eA]; rfl
  · rw [pinR, hpe, pinHp, if_pos hpe, pinV, if_pos hpe, eL]
  · refine lstI_of (chn_mono (hnx ▸ c0.2.2) fun q hq => ?_) hN.2
    have hpq := chn_prc c0.2.2 q hq
    have hqf : q ≠ first := fun e => by subst e; exact hN.1 hq
    have hqm : q ∉ m := fun h => hd q h (.tail _ hq)
    refine ⟨by rw [f4, hpA], ?_⟩
    rw [lnk_nxt hAm (by omega) _ hall q (by rw [hrA]; exact hrf q hpq) (fun h => (hmem q h).elim hqf hqm), hnA q (hrf q hpq), if_neg hqf]
  · exact lstI_of (lnk_chn hAm (by omega) _ hall hnd) hnd
theorem ints_cat (l r : List Int) : encInts l ++ encInts r = encInts (l ++ r) := by simp [encInts]
def pmvE (m l : List Int) (H : HHeap) (first other : Int) (k : Nat) : List (Nat × AV) := [(11, iv (k : Int)), (9, .sl 1 (encInts m)), (7, .sl 1 (encInts l)), (3, .ptr 0 0 0), (1, iv first), (2, iv other)]
set_option maxRecDepth 100000 in
set_option maxHeartbeats 16000000 in
theorem pmove_ok (H : HHeap) (hi : H.Big) (first other : Int) : Gives Try.prog 3 [.agg (encHeap H), iv first, iv other] (bv true) := by
  have hlo : (encObjs H.objs).length = H.objs.length := len_objs _
  by_cases hs : smallH H = true
  rotate_left
  · simp only [Bool.not_eq_true] at hs
    have csm := (rSmall_ok H hi).to' (congrArg bv hs)
    refine gives_of Try.func3 rfl (Nat.le_of_ble_eq_true rfl) ?_
    (repeat' (first | refine sk ?_ | refine mv ?_ | refine asg ?_ | refine un ?_ | refine pt ?_ | refine pf ?_ | refine la ?_ | refine aops_nil ?_ | refine aw_seq ?_ | refine aw_region ?_ | refine aw_cond_t rfl ?_ | refine aw_ret ?_ | refine bx 0 ?_ | refine cl (fixed14_ok) ?_ | refine cl (csm) ?_ | fail))
    exact fin (sh_bv rfl)
  have hin := small_in hi hs
  have csm := (rSmall_ok H hi).to' (congrArg bv hs)
  by_cases hl : H.objs.length ≤ 60
  rotate_left
  · skip
    refine gives_of Try.func3 rfl (Nat.le_of_ble_eq_true rfl) ?_
    (repeat' (first | refine sk ?_ | refine mv ?_ | refine asg ?_ | refine ld ?_ | refine fp ?_ | refine bt ?_ | refine un ?_ | refine pt ?_ | refine pf ?_ | refine ln ?_ | refine la ?_ | refine aops_nil ?_ | refine aw_seq ?_ | refine aw_region ?_ | refine aw_cond_t rfl ?_ | refine aw_ret ?_ | refine bx 0 ?_ | refine cl (fixed14_ok) ?_ | refine cl (csm) ?_ | fail))
    exact fin (sh_bv rfl)
  by_cases hm : mayH H = true
  rotate_left
  · simp only [Bool.not_eq_true] at hm
    have cm := (rMay_ok H hin).to' (congrArg bv hm)
    refine gives_of Try.func3 rfl (Nat.le_of_ble_eq_true rfl) ?_
    (repeat' (first | refine mv ?_ | refine asg ?_ | refine ld ?_ | refine fp ?_ | refine bf ?_ | refine un ?_ | refine pf ?_ | refine ln ?_ | refine la ?_ | refine aops_nil ?_ | refine aw_seq ?_ | refine aw_region ?_ | refine aw_cond_t rfl ?_ | refine aw_ret ?_ | refine bx 0 ?_ | refine cl (fixed14_ok) ?_ | refine cl (csm) ?_ | refine cl (cm) ?_ | fail))
    exact fin (sh_bv rfl)
  have cm := (rMay_ok H hin).to' (congrArg bv hm)
  have cl' := rplist_ok H hin hm first
  have cl2 := rplist_ok H hin hm other
  by_cases h0 : (lstI H first).2 = 0
  rotate_left
  · refine gives_of Try.func3 rfl (Nat.le_of_ble_eq_true rfl) ?_
    (repeat' (first | refine sk ?_ | refine mv ?_ | refine asg ?_ | refine ld ?_ | refine fp ?_ | refine bt ?_ | refine bf ?_ | refine un ?_ | refine pt ?_ | refine pf ?_ | refine ex ?_ | refine ln ?_ | refine la ?_ | refine aops_nil ?_ | refine aw_seq ?_ | refine aw_region ?_ | refine aw_cond_t rfl ?_ | refine aw_cond_f rfl ?_ | refine aw_skip ?_ | refine aw_ret ?_ | refine bx 0 ?_ | refine cl (fixed14_ok) ?_ | refine cl (csm) ?_ | refine cl (cm) ?_ | refine cl (cl') ?_ | refine cl (cl2) ?_ | fail))
    exact fin (sh_bv rfl)
  rw [h0] at cl'
  have q0 : lstI H first = ((lstI H first).1, 0) := Prod.ext rfl h0
  have hch := (lstI_ok h0).1
  have hle : (encInts (lstI H first).1).length = (lstI H first).1.length := len_ints _
  have hll := lst_len h0
  by_cases h1 : (lstI H other).2 = 0
  rotate_left
  · generalize (lstI H first).1 = l at *
    refine gives_of Try.func3 rfl (Nat.le_of_ble_eq_true rfl) ?_
    (repeat' (first | refine sk ?_ | refine mv ?_ | refine asg ?_ | refine ld ?_ | refine fp ?_ | refine bt ?_ | refine bf ?_ | refine un ?_ | refine pt ?_ | refine pf ?_ | refine ex ?_ | refine ln ?_ | refine la ?_ | refine aops_nil ?_ | refine aw_seq ?_ | refine aw_region ?_ | refine aw_cond_t rfl ?_ | refine aw_cond_f rfl ?_ | refine aw_skip ?_ | refine aw_ret ?_ | refine bx 0 ?_ | refine cl (fixed14_ok) ?_ | refine cl (csm) ?_ | refine cl (cm) ?_ | refine cl (cl') ?_ | refine cl (cl2) ?_ | fail))
    exact fin (sh_bv rfl)
  rw [h1] at cl2
  have q1 : lstI H other = ((lstI H other).1, 0) := Prod.ext rfl h1
  have hme : (encInts (lstI H other).1).length = (lstI H other).1.length := len_ints _
  have hml := lst_len h1
  generalize (lstI H first).1 = l at *
  generalize (lstI H other).1 = m at *
  match l, hch with
  | [], _ =>
    refine gives_of Try.func3 rfl (Nat.le_of_ble_eq_true rfl) ?_
    (repeat' (first | refine mv ?_ | refine asg ?_ | refine ld ?_ | refine fp ?_ | refine bt ?_ | refine bf ?_ | refine un ?_ | refine pf ?_ | refine ex ?_ | refine ln ?_ | refine la ?_ | refine aops_nil ?_ | refine aw_seq ?_ | refine aw_region ?_ | refine aw_cond_t rfl ?_ | refine aw_cond_f rfl ?_ | refine aw_skip ?_ | refine aw_ret ?_ | refine bx 0 ?_ | refine cl (fixed14_ok) ?_ | refine cl (csm) ?_ | refine cl (cm) ?_ | refine cl (cl') ?_ | refine cl (cl2) ?_ | fail))
    exact fin (sh_bv rfl)
  | f0 :: t, hch =>
    obtain ⟨rfl, _, _⟩ := hch
    have hne : ¬ ((encInts (first :: t)).length : Int) = 0 := by rw [hle]; simp; omega
    have hne2 : ¬ encInts (first :: t) = [] := by simp [encInts]
    have cF := fun x => plc_ok (first :: t) x (by omega)
    refine gives_of Try.func3 rfl (Nat.le_of_ble_eq_true rfl) ?_
    (repeat' (first | refine mv ?_ | refine asg ?_ | refine ld ?_ | refine fp ?_ | refine bf ?_ | refine un ?_ | refine pf ?_ | refine ex ?_ | refine ln ?_ | refine la ?_ | refine aops_nil ?_ | refine aw_seq ?_ | refine aw_region ?_ | refine aw_cond_f rfl ?_ | refine aw_block ?_ | refine aw_skip ?_ | refine bx 0 ?_ | refine cl (fixed14_ok) ?_ | refine cl (csm) ?_ | refine cl (cm) ?_ | refine cl (cl') ?_ | refine cl (cl2) ?_ | fail))
    refine aw_forE m.length (fun k => k ≤ m.length ∧ ∀ (j : Nat) (y : Int), j < k → m[j]? = some y → y ∉ first :: t) (pmvE m (first :: t) H first other) 0 ⟨Nat.zero_le _, by omega⟩ ⟨rfl, rfl, rfl, rfl, rfl, rfl, trivial⟩ ?_
    rintro k ⟨hk, hprev⟩
    (repeat' (first | refine mv ?_ | refine bi ?_ | refine ln ?_ | refine aops_nil ?_ | refine aw_seq ?_ | refine aw_region ?_ | fail))
    refine aw_cond rfl (fun h => ?_) (fun h => ?_) <;> simp at h
    · have g1 : m[k]? = some m[k] := List.getElem?_eq_getElem h
      generalize hx : m[k] = y at g1
      have hf := find_cont (first :: t) y
      have cf := cF y
      have gi := ints_get g1
      generalize findI (fun z => z == y) (first :: t) = n at *
      unfold pmvE
      cases hc : (first :: t).contains y with
      | true =>
        have hn : 0 ≤ n := by rw [hc] at hf; simpa using hf
        (repeat' (first | refine mv ?_ | refine asg ?_ | refine ld ?_ | refine bt ?_ | refine aops_nil ?_ | refine aw_seq ?_ | refine aw_region ?_ | refine aw_cond_t rfl ?_ | refine aw_block ?_ | refine aw_skip ?_ | refine aw_ret ?_ | refine cl (cf) ?_ | refine ia k gi ?_ | fail))
        exact fin (sh_bv rfl)
      | false =>
        have hn : ¬ 0 ≤ n := by rw [hc] at hf; simpa using hf
        (repeat' (first | refine mv ?_ | refine asg ?_ | refine ld ?_ | refine bf ?_ | refine bw ?_ | refine aops_nil ?_ | refine aw_seq ?_ | refine aw_region ?_ | refine aw_cond_f rfl ?_ | refine aw_block ?_ | refine aw_skip ?_ | refine cl (cf) ?_ | refine ia k gi ?_ | fail))
        refine ⟨h, ⟨by omega, fun j z hj hjz => ?_⟩, rfl, rfl, rfl, rfl, rfl, rfl, rfl, trivial⟩
        by_cases hjk : j = k
        · subst hjk
          rw [g1] at hjz
          cases hjz
          intro hmm
          have : (first :: t).contains y = true := by simpa using hmm
          rw [hc] at this; cases this
        · exact hprev j z (by omega) hjz
    · have hd : ∀ x ∈ m, x ∉ first :: t := fun x hx => by
        obtain ⟨j, hj⟩ := List.mem_iff_getElem?.1 hx
        exact hprev j x (by have := (List.getElem?_eq_some_iff.1 hj).1; omega) hj
      obtain ⟨A, B, k', to, hAi, hBi, hBm, hk', e1, e2, e3, e4⟩ := move_facts hin hm q0 q1 hd
      have cT := (Take_ok H hin first).to' e1
      have cI := (Insert_ok A hAi other first).to' e2
      have cx := (plist_ok B hBi hBm (t.headD 0)).to' (show _ = AV.tup [.sl 1 (encInts t), iv 0] by rw [e3])
      have cy := (plist_ok B hBi hBm to).to' (show _ = AV.tup [.sl 1 (encInts (m.take k' ++ first :: m.drop k')), iv 0] by rw [e4])
      have htl : t.length < 1099511627776 := by simp at hll; omega
      have c1 := (rInts_ok t t htl htl).to' (congrArg bv (decide_eq_true rfl))
      have c2 := (rInts_ok m m (by omega) (by omega)).to' (congrArg bv (decide_eq_true rfl))
      have hlY : (m.take k' ++ first :: m.drop k').length = m.length + 1 := by simp; omega
      have hgY : (m.take k' ++ first :: m.drop k')[k']? = some first := by
        rw [List.getElem?_append_right (by simp; omega), List.length_take, Nat.min_eq_left hk', Nat.sub_self]; rfl
      have cP := (plc_ok (m.take k' ++ first :: m.drop k') first (by omega)).to' (congrArg iv (findI_at hgY (by simp) fun j y hj hy => by
        rw [List.getElem?_append_left (by simp; omega)] at hy
        have hym : y ∈ m := List.mem_of_mem_take (List.mem_of_getElem? hy)
        have : y ≠ first := fun e => by subst e; exact hd _ hym (.head _)
        simpa using this))
      have hY1 : (encInts (m.take k' ++ first :: m.drop k')).take k' = encInts (m.take k') := by
        rw [← ints_cat, List.take_append_of_le_length (by rw [len_ints, List.length_take]; omega), List.take_of_length_le (by rw [len_ints, List.length_take]; omega)]
      have hY2 : (encInts (m.take k' ++ first :: m.drop k')).drop (k' + 1) = encInts (m.drop k') := by
        rw [show m.take k' ++ first :: m.drop k' = (m.take k' ++ [first]) ++ m.drop k' by simp, ← ints_cat, List.drop_append_of_le_length (by rw [len_ints]; simp; omega), List.drop_of_length_le (by rw [len_ints]; simp; omega)]
        rfl
      have hcat : encInts (m.take k') ++ encInts (m.drop k') = encInts m := by rw [ints_cat, List.take_append_drop]
      have hlE : (encInts (m.take k' ++ first :: m.drop k')).length = m.length + 1 := by rw [len_ints, hlY]
      generalize (m.take k' ++ first :: m.drop k') = Y at *
      have b1 : (([] : List (List AV)).length + (encInts (m.take k')).length) * 8 ≤ 140737488355328 := by rw [len_ints, List.length_take]; simp; omega
      have b2 : ([] : List (List AV)).length + (encInts (m.take k')).length ≤ 9223372036854775807 := by rw [len_ints, List.length_take]; simp; omega
      have b3 : ((encInts (m.take k')).length + (encInts (m.drop k')).length) * 8 ≤ 140737488355328 := by rw [len_ints, len_ints, List.length_take, List.length_drop]; omega
      have b4 : (encInts (m.take k')).length + (encInts (m.drop k')).length ≤ 9223372036854775807 := by rw [len_ints, len_ints, List.length_take, List.length_drop]; omega
      have gf : (encInts (first :: t))[0]? = some [iv first] := rfl
      unfold pmvE
      (repeat' (first | refine mv ?_ | refine asg ?_ | refine ld ?_ | refine bf ?_ | refine bw ?_ | refine un ?_ | refine pf ?_ | refine ex ?_ | refine ln ?_ | refine la ?_ | refine so ?_ | refine aops_nil ?_ | refine aw_seq ?_ | refine aw_region ?_ | refine aw_cond_f rfl ?_ | refine aw_exit ?_ | refine aw_skip ?_ | refine al 1 ?_ | refine al 2 ?_ | refine cl (cT) ?_ | refine cl (cI) ?_ | refine cl (cx) ?_ | refine cl (cy) ?_ | refine cl (c1) ?_ | refine cl (cP) ?_ | refine ia 0 gf ?_ | refine st1 (y_cutL 1 rfl (by rw [hle]; simp) rfl) ?_ | fail))
      refine aw_drawP 16 [(3, 5, .live 3 1 [], none), (7, 6, .live 3 1 (encInts (m.take k')), some 5), (12, 7, .live 3 1 (encInts (m.take k') ++ encInts (m.drop k')), some 6)] ?_
      (repeat' (first | refine dPn ?_ | refine dP (fun _ => y_move) ?_ | refine dP (fun _ => y_bt) ?_ | refine dP (fun _ => y_bw) ?_ | refine dP (fun _ => y_pick_t) ?_ | refine dPE (fun _ => y_lit0E 5) ?_ | refine dP (fun _ => (y_cutH k' hY1 (by omega) rfl)) ?_ | refine dP (fun _ => (y_cutL (k' + 1) hY2 (by omega) rfl)) ?_ | refine dPE2 (fun _ => y_appE 6 b1 b2 (cok_ints _ _)) ?_ | refine dPE2 (fun _ => y_appE 7 b3 b4 (cok_ints _ _)) ?_ | refine dP (fun _ => (y_callS (hok := c2) (ho := rfl) (hz := rfl) (hl := rfl) (hg := rfl) (hfl := rfl) (hsh := ⟨sh_ints (congrArg (Ob.live 3 1) hcat), .same _ (by simp), trivial⟩))) ?_ | fail))
      (repeat' (first | refine asg ?_ | refine aops_nil ?_ | refine aw_ret ?_ | fail))
      exact fin (sh_bv rfl)
end Go.Proofs.Ytemcemimipagoaa
