/- What the statements' walks need. -/
import Derived.Test.YtemcemimipagoaaMVa4
import Derived.Test.YtemcemimipagoaaMVx23
import Derived.Test.YtemcemimipagoaaMVx24
set_option linter.unusedVariables false
set_option linter.unusedSimpArgs false
set_option maxRecDepth 100000
namespace Go.Proofs.Ytemcemimipagoaa
open Go Go.Proofs AW
abbrev nilV : AV := .v (.slice none 0 0)
def slA (H : HHeap) (v cls : Int) (many : Nat) : AV := if slB H v cls many = true then .sl 1 (encInts (H.at' v).slots) else nilV
theorem slA_no {H : HHeap} {v cls : Int} {many : Nat} (h : slB H v cls many = false) : slA H v cls many = nilV := by rw [slA, if_neg (by rw [h]; simp)]
theorem slA_yes {H : HHeap} {v cls : Int} {many : Nat} (h : slB H v cls many = true) : slA H v cls many = .sl 1 (encInts (H.at' v).slots) := by rw [slA, if_pos h]
theorem pref_ok (v : Int) : Gives Try.prog 43 [iv v] (bv (isAt v)) := by
  have c1 := At_ok v
  refine gives_of Try.func43 rfl (Nat.le_of_ble_eq_true rfl) ?_
  (repeat' (first | refine mv ?_ | refine asg ?_ | refine ex ?_ | refine aops_nil ?_ | refine aw_seq ?_ | refine aw_region ?_ | refine aw_ret ?_ | refine cl (c1) ?_ | fail))
  exact fin (sh_bv rfl)
set_option maxHeartbeats 8000000 in
theorem pslots_ok (H : HHeap) (hi : H.In) (v cls : Int) (many : Nat) : Gives Try.prog 41 [.agg (encHeap H), iv v, iv cls, iv (many : Int)] (slA H v (refV cls) many) := by
  have cr := Ref_ok cls
  have hlo : (encObjs H.objs).length = H.objs.length := len_objs _
  rcases ref_cases H v with ⟨h3, h4⟩ | ⟨a1, a2, a3, a4⟩ | ⟨a1, a2, a3, a4⟩
  · have c1 : Gives Try.prog 57 [iv v] (.tup [iv (atI v), bv false]) := (At_ok v).to' (by rw [h3])
    rw [slA, if_neg (by simp [slB, h4])]
    refine gives_of Try.func41 rfl (Nat.le_of_ble_eq_true rfl) ?_
    (repeat' (first | refine sk ?_ | refine mv ?_ | refine asg ?_ | refine un ?_ | refine pt ?_ | refine ex ?_ | refine aops_nil ?_ | refine aw_seq ?_ | refine aw_region ?_ | refine aw_cond_t rfl ?_ | refine aw_ret ?_ | refine bx 0 ?_ | refine cl (c1) ?_ | refine cl (cr) ?_ | fail))
    exact fin (.same _ (.v _))
  · have c1 : Gives Try.prog 57 [iv v] (.tup [iv (v / 2), bv true]) := (At_ok v).to' (by rw [a1, a2])
    rw [slA, if_neg (by simp [slB, a4])]
    refine gives_of Try.func41 rfl (Nat.le_of_ble_eq_true rfl) ?_
    (repeat' (first | refine sk ?_ | refine mv ?_ | refine asg ?_ | refine ld ?_ | refine fp ?_ | refine bt ?_ | refine un ?_ | refine pt ?_ | refine pf ?_ | refine ex ?_ | refine ln ?_ | refine aops_nil ?_ | refine aw_seq ?_ | refine aw_region ?_ | refine aw_cond_t rfl ?_ | refine aw_ret ?_ | refine bx 0 ?_ | refine cl (c1) ?_ | refine cl (cr) ?_ | fail))
    exact fin (.same _ (.v _))
  · have c1 : Gives Try.prog 57 [iv v] (.tup [iv (H.ref v), bv true]) := (At_ok v).to' (by rw [a1, a2])
    have hg : (encObjs H.objs)[(H.ref v).toNat]? = some (encObj (H.at' v)) := objs_get (at_get a3)
    have hq : H.ref v = ((H.ref v).toNat : Int) := (Int.toNat_of_nonneg a3).symm
    have hls : (encInts (H.at' v).slots).length = (H.at' v).slots.length := len_ints _
    refine gives_of Try.func41 rfl (Nat.le_of_ble_eq_true rfl) ?_
    (repeat' (first | refine sk ?_ | refine mv ?_ | refine asg ?_ | refine ld ?_ | refine fp ?_ | refine fi ?_ | refine bf ?_ | refine bi ?_ | refine un ?_ | refine pt ?_ | refine pf ?_ | refine ex ?_ | refine ln ?_ | refine aops_nil ?_ | refine aw_seq ?_ | refine aw_region ?_ | refine aw_cond_t rfl ?_ | refine aw_skip ?_ | refine aw_ret ?_ | refine bx 0 ?_ | refine cl (c1) ?_ | refine cl (cr) ?_ | refine ia (H.ref v).toNat hg ?_ (hn := hq) | refine gs (fun h => ?_) (fun h => ?_) | refine aw_cond rfl (fun h => ?_) (fun h => ?_) | fail))
    · have e : slB H v (refV cls) many = false := by simp [bne_iff_ne] at h; simp [slB, h]
      rw [slA_no e]; exact fin (.same _ (.v _))
    · have e : slB H v (refV cls) many = false := by simp [bne_iff_ne] at h; simp [slB, h]
      rw [slA_no e]; exact fin (.same _ (.v _))
    · have e : slB H v (refV cls) many = false := by
        rw [hls] at h
        simp [bne_iff_ne] at h; simp [slB]; intro _ _ _ h2; omega
      rw [slA_no e]; exact fin (.same _ (.v _))
    · rename_i x1 x2
      rw [hls] at h
      simp at x1 x2 h
      have e : slB H v (refV cls) many = true := by simp [slB, a3, x1, x2]; omega
      rw [slA_yes e]; exact fin (.same _ (by simp))
def prcH' (H : HHeap) (s : Int) : Bool := mayH H && prcB H s
def prcA (H : HHeap) (p : Int) : AV := if prcB H p = true then .sl 1 (encInts (H.at' p).slots) else nilV
theorem ints_ne {l : List Int} (h : 0 < l.length) : encInts l ≠ [] := by
  intro e
  have := congrArg List.length e
  rw [len_ints] at this
  simp only [List.length_nil] at this
  omega
set_option maxHeartbeats 16000000 in
theorem process_ok (H : HHeap) (hi : H.In) (p : Int) : Gives Try.prog 29 [.agg (encHeap H), iv p] (prcA H p) := by
  cases hs : slB H p 14 4 with
  | false =>
    have cs' := (pslots_ok H hi p 7 4).to' (show slA H p (refV 7) 4 = nilV from slA_no hs)
    rw [prcA, if_neg (by simp [prcB, hs])]
    by_cases h0 : p = 0
    · refine gives_of Try.func29 rfl (Nat.le_of_ble_eq_true rfl) ?_
      (repeat' (first | refine sk ?_ | refine mv ?_ | refine asg ?_ | refine bt ?_ | refine pt ?_ | refine la ?_ | refine aops_nil ?_ | refine aw_seq ?_ | refine aw_region ?_ | refine aw_cond_t rfl ?_ | refine aw_ret ?_ | refine bx 0 ?_ | refine cl (cs') ?_ | fail))
      exact fin (.same _ (.v _))
    · refine gives_of Try.func29 rfl (Nat.le_of_ble_eq_true rfl) ?_
      (repeat' (first | refine sk ?_ | refine mv ?_ | refine asg ?_ | refine bt ?_ | refine bf ?_ | refine pt ?_ | refine pf ?_ | refine la ?_ | refine aops_nil ?_ | refine aw_seq ?_ | refine aw_region ?_ | refine aw_cond_t rfl ?_ | refine aw_ret ?_ | refine bx 0 ?_ | refine cl (cs') ?_ | fail))
      exact fin (.same _ (.v _))
  | true =>
    have cs' := (pslots_ok H hi p 7 4).to' (show slA H p (refV 7) 4 = .sl 1 (encInts (H.at' p).slots) from slA_yes hs)
    obtain ⟨f1, f2, f3, f4⟩ := slB_facts hs
    have hne := ints_ne (l := (H.at' p).slots) (by omega)
    have g0 := ints_get (sl_get (o := H.at' p) (k := 0) (by omega))
    have g1 := ints_get (sl_get (o := H.at' p) (k := 1) (by omega))
    have g2 := ints_get (sl_get (o := H.at' p) (k := 2) (by omega))
    have g3 := ints_get (sl_get (o := H.at' p) (k := 3) (by omega))
    have c0 := pref_ok ((H.at' p).sl 0)
    have c1 := pref_ok ((H.at' p).sl 1)
    have c3 := pref_ok ((H.at' p).sl 3)
    have c2 := N_ok ((H.at' p).sl 2)
    have hE : prcA H p = if (decide (p ≠ 0) && (isAt ((H.at' p).sl 0) && (isAt ((H.at' p).sl 1) && (isAt ((H.at' p).sl 3) && (isN ((H.at' p).sl 2) && (decide (0 ≤ nI ((H.at' p).sl 2)) && decide (nI ((H.at' p).sl 2) ≤ 7))))))) = true then .sl 1 (encInts (H.at' p).slots) else nilV := by
      rw [prcA, prcB, hs, Bool.true_and]
      simp only [Bool.decide_and, Bool.decide_eq_true]
    rw [hE]
    generalize isAt ((H.at' p).sl 0) = b0 at *
    generalize isAt ((H.at' p).sl 1) = b1 at *
    generalize isAt ((H.at' p).sl 3) = b3 at *
    generalize isN ((H.at' p).sl 2) = b2 at *
    generalize nI ((H.at' p).sl 2) = n at *
    refine gives_of Try.func29 rfl (Nat.le_of_ble_eq_true rfl) ?_
    (repeat' (first | refine sk ?_ | refine mv ?_ | refine asg ?_ | refine ld ?_ | refine bi ?_ | refine un ?_ | refine pt ?_ | refine pf ?_ | refine ex ?_ | refine la ?_ | refine aops_nil ?_ | refine aw_seq ?_ | refine aw_region ?_ | refine aw_cond_t rfl ?_ | refine aw_skip ?_ | refine aw_ret ?_ | refine bx 0 ?_ | refine cl (cs') ?_ | refine nle ?_ hne | refine cl (c0) ?_ | refine cl (c1) ?_ | refine cl (c3) ?_ | refine cl (c2) ?_ | refine ia 0 g0 ?_ | refine ia 1 g1 ?_ | refine ia 3 g3 ?_ | refine ia 2 g2 ?_ | refine gs (fun h => ?_) (fun h => ?_) | refine aw_cond rfl (fun h => ?_) (fun h => ?_) | fail))
    all_goals refine fin ?_
    all_goals clear hE cs' c0 c1 c2 c3 g0 g1 g2 g3 hne hi
    all_goals split <;> rename_i hc
    all_goals first
      | exact .same _ (.v _)
      | exact .same _ (noOwn_ints 1 _)
      | (exfalso
         simp only [Bool.and_eq_true, decide_eq_true_eq] at hc
         obtain ⟨e0, e1, e2, e3, e4, e5, e6⟩ := hc
         first | (simp [e0, e1, e2, e3, e4] at h; done) | (simp at h; omega))
      | (exfalso
         rename_i x1 x2 x3 x4 x5 x6
         simp at x1 x2 x3 x4 x5 x6 h
         refine hc ?_
         simp only [Bool.and_eq_true, decide_eq_true_eq]
         exact ⟨x1, x2, x3, x4, x5, by omega, by omega⟩)
theorem prcA_no {H : HHeap} {p : Int} (h : prcB H p = false) : prcA H p = nilV := by rw [prcA, if_neg (by rw [h]; simp)]
theorem prcA_yes {H : HHeap} {p : Int} (h : prcB H p = true) : prcA H p = .sl 1 (encInts (H.at' p).slots) := by rw [prcA, if_pos h]
theorem prc_slot {H : HHeap} {p : Int} (h : prcB H p = true) {k : Nat} (hk : k < 4) : (encInts (H.at' p).slots)[k]? = some [iv ((H.at' p).sl k)] := ints_get (sl_get (by have := (prc_facts h).1.2.2.2; omega))
theorem prc_ne {H : HHeap} {p : Int} (h : prcB H p = true) : encInts (H.at' p).slots ≠ [] := ints_ne (by have := (prc_facts h).1.2.2.2; omega)
theorem pMay_ok (H : HHeap) (hi : H.In) (p : Int) : Gives Try.prog 20 [.agg (encHeap H), iv p] (bv (prcH' H p)) := by
  unfold prcH'
  cases hm : mayH H with
  | false =>
    have cm := (May_ok H hi).to' (congrArg bv hm)
    refine gives_of Try.func20 rfl (Nat.le_of_ble_eq_true rfl) ?_
    (repeat' (first | refine sk ?_ | refine mv ?_ | refine asg ?_ | refine pf ?_ | refine la ?_ | refine aops_nil ?_ | refine aw_seq ?_ | refine aw_region ?_ | refine aw_ret ?_ | refine bx 0 ?_ | refine cl (cm) ?_ | fail))
    exact fin (sh_bv rfl)
  | true =>
    have cm := (May_ok H hi).to' (congrArg bv hm)
    cases hp : prcB H p with
    | false =>
      have cp := (process_ok H hi p).to' (prcA_no hp)
      refine gives_of Try.func20 rfl (Nat.le_of_ble_eq_true rfl) ?_
      (repeat' (first | refine mv ?_ | refine asg ?_ | refine bf ?_ | refine pt ?_ | refine la ?_ | refine aops_nil ?_ | refine aw_seq ?_ | refine aw_region ?_ | refine aw_ret ?_ | refine bx 0 ?_ | refine cl (cm) ?_ | refine cl (cp) ?_ | fail))
      exact fin (sh_bv rfl)
    | true =>
      have cp := (process_ok H hi p).to' (prcA_yes hp)
      have hne := prc_ne hp
      refine gives_of Try.func20 rfl (Nat.le_of_ble_eq_true rfl) ?_
      (repeat' (first | refine mv ?_ | refine asg ?_ | refine pt ?_ | refine la ?_ | refine aops_nil ?_ | refine aw_seq ?_ | refine aw_region ?_ | refine aw_ret ?_ | refine bx 0 ?_ | refine cl (cm) ?_ | refine cl (cp) ?_ | refine nlE ?_ hne | fail))
      exact fin (sh_bv rfl)
set_option maxHeartbeats 8000000 in
theorem Sem_ok (H : HHeap) (hi : H.In) (s : Int) : Gives Try.prog 21 [.agg (encHeap H), iv s] (bv (mayH H && semB H s)) := by
  have cm0 := May_ok H hi
  cases hs : slB H s 16 2 with
  | false =>
    have cs' := (pslots_ok H hi s 8 2).to' (show slA H s (refV 8) 2 = nilV from slA_no hs)
    rw [show semB H s = false by simp [semB, hs], Bool.and_false]
    cases hm : mayH H with
    | false =>
      have cm := (May_ok H hi).to' (congrArg bv hm)
      refine gives_of Try.func21 rfl (Nat.le_of_ble_eq_true rfl) ?_
      (repeat' (first | refine sk ?_ | refine mv ?_ | refine asg ?_ | refine un ?_ | refine pt ?_ | refine la ?_ | refine aops_nil ?_ | refine aw_seq ?_ | refine aw_region ?_ | refine aw_cond_t rfl ?_ | refine aw_ret ?_ | refine bx 0 ?_ | refine cl (cs') ?_ | refine cl (cm) ?_ | fail))
      exact fin (sh_bv rfl)
    | true =>
      have cm := (May_ok H hi).to' (congrArg bv hm)
      refine gives_of Try.func21 rfl (Nat.le_of_ble_eq_true rfl) ?_
      (repeat' (first | refine mv ?_ | refine asg ?_ | refine bt ?_ | refine un ?_ | refine pf ?_ | refine la ?_ | refine aops_nil ?_ | refine aw_seq ?_ | refine aw_region ?_ | refine aw_cond_t rfl ?_ | refine aw_ret ?_ | refine bx 0 ?_ | refine cl (cs') ?_ | refine cl (cm) ?_ | fail))
      exact fin (sh_bv rfl)
  | true =>
    have cs' := (pslots_ok H hi s 8 2).to' (show slA H s (refV 8) 2 = .sl 1 (encInts (H.at' s).slots) from slA_yes hs)
    obtain ⟨f1, f2, f3, f4⟩ := slB_facts hs
    have hne := ints_ne (l := (H.at' s).slots) (by omega)
    have g0 := ints_get (sl_get (o := H.at' s) (k := 0) (by omega))
    have g1 := ints_get (sl_get (o := H.at' s) (k := 1) (by omega))
    have c0 := N_ok ((H.at' s).sl 0)
    have c1 := pref_ok ((H.at' s).sl 1)
    cases hm : mayH H with
    | false =>
      have cm := (May_ok H hi).to' (congrArg bv hm)
      rw [Bool.false_and]
      refine gives_of Try.func21 rfl (Nat.le_of_ble_eq_true rfl) ?_
      (repeat' (first | refine sk ?_ | refine mv ?_ | refine asg ?_ | refine un ?_ | refine pt ?_ | refine la ?_ | refine aops_nil ?_ | refine aw_seq ?_ | refine aw_region ?_ | refine aw_cond_t rfl ?_ | refine aw_ret ?_ | refine bx 0 ?_ | refine cl (cs') ?_ | refine cl (cm) ?_ | fail))
      exact fin (sh_bv rfl)
    | true =>
      have cm := (May_ok H hi).to' (congrArg bv hm)
      have hE : semB H s = (isN ((H.at' s).sl 0) && (decide (0 ≤ nI ((H.at' s).sl 0)) && isAt ((H.at' s).sl 1))) := by
        rw [semB, hs, Bool.true_and, Bool.decide_and, Bool.decide_eq_true, Bool.and_assoc]
      rw [Bool.true_and, hE]
      clear hE
      generalize isAt ((H.at' s).sl 1) = b1 at *
      generalize isN ((H.at' s).sl 0) = b0 at *
      generalize nI ((H.at' s).sl 0) = n at *
      refine gives_of Try.func21 rfl (Nat.le_of_ble_eq_true rfl) ?_
      (repeat' (first | refine sk ?_ | refine mv ?_ | refine asg ?_ | refine ld ?_ | refine bi ?_ | refine un ?_ | refine pt ?_ | refine pf ?_ | refine ex ?_ | refine la ?_ | refine aops_nil ?_ | refine aw_seq ?_ | refine aw_region ?_ | refine aw_cond_f rfl ?_ | refine aw_skip ?_ | refine aw_ret ?_ | refine bx 0 ?_ | refine cl (cs') ?_ | refine cl (cm) ?_ | refine nle ?_ hne | refine cl (c0) ?_ | refine cl (c1) ?_ | refine ia 0 g0 ?_ | refine ia 1 g1 ?_ | refine gs (fun h => ?_) (fun h => ?_) | fail))
      all_goals refine fin (sh_bv ?_)
      all_goals clear cs' cm c0 c1 g0 g1 hne hi
      all_goals (cases b0 <;> cases b1 <;> by_cases hn : 0 ≤ n <;> simp_all)
end Go.Proofs.Ytemcemimipagoaa
