/- What the statements' walks need. -/
import Derived.Test.YtbmldjcddpblnaaMQa4
import Derived.Test.YtbmldjcddpblnaaMQx34
import Derived.Test.YtbmldjcddpblnaaMQx29
import Derived.Test.YtbmldjcddpblnaaMQa3
set_option linter.unusedVariables false
set_option linter.unusedSimpArgs false
set_option maxRecDepth 100000
namespace Go.Proofs.Ytbmldjcddpblnaa
open Go Go.Proofs AW
set_option maxHeartbeats 4000000 in
theorem rMethods_same (x : HMethod) (h1 : x.code.length < 1099511627776) (h2 : x.lits.length < 1099511627776) : Gives Try.prog 19 [.agg (encMethod x), .agg (encMethod x)] (bv true) := by
  have c1 := (riSame_ok x.code x.code h1 h1).to' (y := bv true) (by simp)
  have c2 := (rInts_ok x.lits x.lits h2 h2).to' (y := bv true) (by simp)
  refine gives_of Try.func19 rfl (Nat.le_of_ble_eq_true rfl) ?_
  (repeat' (first | refine mv ?_ | refine asg ?_ | refine ld ?_ | refine fp ?_ | refine bt ?_ | refine pt ?_ | refine aops_nil ?_ | refine aw_seq ?_ | refine aw_region ?_ | refine aw_ret ?_ | refine bx 0 ?_ | refine bx 1 ?_ | refine cl c1 ?_ (hno := ⟨noOwn_code _ _, noOwn_code _ _, trivial⟩) | refine cl (c2) ?_ | fail))
  exact fin (sh_bv rfl)
set_option maxHeartbeats 4000000 in
theorem rvalues_ok (H : HHeap) (hi : H.In) (l : List Int) (hl : l.length < 1099511627776) : Gives Try.prog 66 [.agg (encHeap H), .sl 1 (encInts l)] (bv (l.all (hasB H.objs.length))) := by
  have hle : (encInts l).length = l.length := len_ints l
  refine gives_of Try.func66 rfl (Nat.le_of_ble_eq_true rfl) ?_
  (repeat' (first | refine asg ?_ | refine aops_nil ?_ | refine aw_seq ?_ | refine aw_region ?_ | refine aw_block ?_ | refine bx 0 ?_ | fail))
  refine aw_forE l.length (fun k => k ≤ l.length ∧ ∀ (j : Nat) (x : Int), j < k → l[j]? = some x → hasB H.objs.length x = true) (fun k => [(5, iv (k : Int)), (2, .ptr 0 0 0), (1, .sl 1 (encInts l))])
    0 ⟨by omega, by omega⟩ ⟨rfl, rfl, rfl, trivial⟩ ?_
  rintro k ⟨hk, hprev⟩
  (repeat' (first | refine mv ?_ | refine bi ?_ | refine ln ?_ | refine aops_nil ?_ | refine aw_seq ?_ | refine aw_region ?_ | fail))
  refine aw_cond rfl (fun h => ?_) (fun h => ?_) <;> simp at h
  · (repeat' (first | refine aw_seq ?_ | refine aw_block ?_ | refine aw_skip ?_ | fail))
    have g1 : l[k]? = some l[k] := List.getElem?_eq_getElem h
    generalize hx : l[k] = x at g1
    have hm : x ∈ l := List.mem_of_getElem? g1
    cases hb : hasB H.objs.length x with
    | false =>
      have c1 := (rhas_c H hi x).to' (congrArg bv hb)
      refine aw_drawP 7 [] ?_
      (repeat' (first | refine dPn ?_ | refine dP (fun _ => y_move) ?_ | refine dP (fun _ => y_load) ?_ | refine dP (fun _ => y_un) ?_ | refine dP (fun _ => y_loadsN) ?_ | refine dP (fun _ => y_iaddrN k (ints_get g1)) ?_ | refine dP (fun _ => y_call (c1)) ?_ | fail))
      (repeat' (first | refine asg ?_ | refine aops_nil ?_ | refine aw_seq ?_ | refine aw_region ?_ | refine aw_cond_t rfl ?_ | refine aw_ret ?_ | fail))
      exact fin (sh_bv (x := false) (by symm; exact List.all_eq_false.2 ⟨x, hm, by simp [hb]⟩))
    | true =>
      have c1 := (rhas_c H hi x).to' (congrArg bv hb)
      refine aw_drawP 7 [] ?_
      (repeat' (first | refine dPn ?_ | refine dP (fun _ => y_move) ?_ | refine dP (fun _ => y_load) ?_ | refine dP (fun _ => y_un) ?_ | refine dP (fun _ => y_loadsN) ?_ | refine dP (fun _ => y_iaddrN k (ints_get g1)) ?_ | refine dP (fun _ => y_call (c1)) ?_ | fail))
      (repeat' (first | refine mv ?_ | refine asg ?_ | refine bw ?_ | refine aops_nil ?_ | refine aw_region ?_ | refine aw_cond_f rfl ?_ | refine aw_skip ?_ | fail))
      refine ⟨h, ⟨by omega, fun j y hj hjy => ?_⟩, rfl, rfl, rfl, rfl, trivial⟩
      by_cases hjk : j = k
      · subst hjk; rw [g1] at hjy; cases hjy; exact hb
      · exact hprev j y (by omega) hjy
  · (repeat' (first | refine asg ?_ | refine aops_nil ?_ | refine aw_seq ?_ | refine aw_region ?_ | refine aw_exit ?_ | refine aw_ret ?_ | fail))
    refine fin (sh_bv (x := true) ?_)
    symm
    refine List.all_eq_true.2 fun x hx => ?_
    obtain ⟨j, hj, rfl⟩ := List.getElem_of_mem hx
    exact hprev j _ (by omega) (List.getElem?_eq_getElem hj)
end Go.Proofs.Ytbmldjcddpblnaa
namespace Go.Proofs.Ytbmldjcddpblnaa
open Go Go.Proofs AW
def newSl (H : HHeap) (s m r home : Int) (args : List Int) : List Int :=
  [s, 1, 2 * (mthX H m).temps + 1, m, r, if home = 0 then 2 * (H.objs.length : Int) else home] ++ args ++ List.replicate (16 - args.length) 0
def newOk (H : HHeap) (m : Int) (args : List Int) : Bool := methB H m && decide ((args.length : Int) = (mthX H m).args)
def newRf (H : HHeap) (s r home : Int) (args : List Int) : Bool :=
  decide (0 ≤ H.ref s) && (decide (0 ≤ H.ref home) && (hasB H.objs.length r && (args.all (hasB H.objs.length) && decide (7 ≤ H.objs.length))))
def newE (H : HHeap) (s m r home : Int) (args : List Int) : Int :=
  if newOk H m args = true then (if newRf H s r home args = true then allocE H 12 0 22 else 31) else 120
def newV (H : HHeap) (s m r home : Int) (args : List Int) : Int := if newE H s m r home args = 0 then 2 * (H.objs.length : Int) else 0
def newHp (H : HHeap) (s m r home : Int) (args : List Int) : HHeap :=
  if newE H s m r home args = 0 then ⟨H.objs ++ [{ newObj H 12 0 22 with slots := newSl H s m r home args }], H.cap, nextI H.last⟩ else H
theorem New1_ok (H : HHeap) (hi : H.In) (v : Int) : Gives Try.prog 61 [iv v, .ip (encHeap H)] (bv !(hasB H.objs.length v)) := by
  refine gives_of Try.func61 rfl (Nat.le_of_ble_eq_true rfl) ?_
  (repeat' (first | refine mv ?_ | refine asg ?_ | refine un ?_ | refine la ?_ | refine aops_nil ?_ | refine aw_seq ?_ | refine aw_region ?_ | refine aw_ret ?_ | refine cl (fhas_ok H v) ?_ | fail))
  exact fin (sh_bv rfl)
theorem cpd_ints (a b : List Int) (k : Nat) : cpd (encInts a) (encInts b) k = encInts (a.take k ++ b ++ a.drop (k + b.length)) := by
  simp [cpd, encInts, List.map_take, List.map_drop]
theorem ref12 {H : HHeap} : (0 ≤ H.ref 12) ↔ 7 ≤ H.objs.length := by
  have h12 : isAt 12 = true := rfl
  by_cases h : (12 : Int) / 2 < (H.objs.length : Int)
  · have : H.ref 12 = 12 / 2 := by simp only [HHeap.ref, refI]; rw [if_pos ⟨h12, h⟩]
    rw [this]; omega
  · have : H.ref 12 = -1 := by simp only [HHeap.ref, refI]; rw [if_neg (fun e => h e.2)]
    rw [this]; omega
theorem mth_args {H : HHeap} {m : Int} (h : mthB H m = true) : 0 ≤ (mthX H m).args ∧ (mthX H m).args ≤ 4 ∧ (mthX H m).args ≤ (mthX H m).temps ∧ (mthX H m).temps ≤ 8 := by
  have h1 := h
  simp only [mthB, Bool.and_eq_true, decide_eq_true_eq] at h1
  have h2 := sm_rng ((H.at' m).sl 1) 4
  have h3 : (mthX H m).args = smI ((H.at' m).sl 1) 4 := rfl
  have h4 := mth_temps H m
  have h5 := h1.2.2.2.1
  rw [← h3] at h2
  omega
set_option maxHeartbeats 16000000 in
theorem New_no (H : HHeap) (hi : H.In) (s m r home : Int) (args : List Int) (ha : args.length < 1099511627776) (hne : newE H s m r home args ≠ 0) : Gives Try.prog 22 [.agg (encHeap H), iv s, iv m, iv r, iv home, .sl 1 (encInts args)]
    (.tup [.agg (encHeap (newHp H s m r home args)), iv (newV H s m r home args), iv (newE H s m r home args)]) := by
  have c1 := Method_ok H hi m
  have hla : (encInts args).length = args.length := len_ints _
  have bad : ∀ e, newE H s m r home args = e → e ≠ 0 → newHp H s m r home args = H ∧ newV H s m r home args = 0 := fun e h1 h2 => by
    constructor
    · rw [newHp, if_neg (by rw [h1]; exact h2)]
    · rw [newV, if_neg (by rw [h1]; exact h2)]
  by_cases hm : methB H m = true
  rotate_left
  · have hE : newE H s m r home args = 120 := by simp [newE, newOk, hm]
    have e1 : methE H m = 120 := by rw [methE, if_neg hm]
    have e2 : methM H m = noMth := by rw [methM, if_neg hm]
    rw [e1, e2] at c1
    refine gives_of Try.func22 rfl (Nat.le_of_ble_eq_true rfl) ?_
    (repeat' (first | refine sk ?_ | refine mv ?_ | refine asg ?_ | refine bt ?_ | refine pt ?_ | refine ex ?_ | refine la ?_ | refine so ?_ | refine aops_nil ?_ | refine aw_seq ?_ | refine aw_region ?_ | refine aw_cond_t rfl ?_ | refine aw_ret ?_ | refine bx 0 ?_ | refine al 1 ?_ | refine al 2 ?_ | refine cl (c1) ?_ | fail))
    exact fin (sh_keep3 (H := H) (v := 0) (bad _ hE (by decide)).1.symm (bad _ hE (by decide)).2.symm hE.symm)
  have e1 : methE H m = 0 := by rw [methE, if_pos hm]
  have e2 : methM H m = mthX H m := by rw [methM, if_pos hm]
  rw [e1, e2] at c1
  by_cases hn : (args.length : Int) = (mthX H m).args
  rotate_left
  · have hE : newE H s m r home args = 120 := by simp [newE, newOk, hn]
    refine gives_of Try.func22 rfl (Nat.le_of_ble_eq_true rfl) ?_
    (repeat' (first | refine mv ?_ | refine asg ?_ | refine ld ?_ | refine fp ?_ | refine bt ?_ | refine bf ?_ | refine pf ?_ | refine ex ?_ | refine ln ?_ | refine la ?_ | refine so ?_ | refine aops_nil ?_ | refine aw_seq ?_ | refine aw_region ?_ | refine aw_cond_t rfl ?_ | refine aw_ret ?_ | refine bx 0 ?_ | refine al 1 ?_ | refine al 2 ?_ | refine cl (c1) ?_ | fail))
    exact fin (sh_keep3 (H := H) (v := 0) (bad _ hE (by decide)).1.symm (bad _ hE (by decide)).2.symm hE.symm)
  have hO : newOk H m args = true := by simp [newOk, hm, hn]
  have hmth : mthB H m = true := by simp only [methB, Bool.and_eq_true] at hm; exact hm.2
  obtain ⟨a0, a1, a2, a3⟩ := mth_args hmth
  by_cases hs : 0 ≤ H.ref s
  rotate_left
  · have hE : newE H s m r home args = 31 := by simp [newE, hO, newRf, hs]
    have cS := (there_ok H s).to' (congrArg bv (decide_eq_false hs))
    refine gives_of Try.func22 rfl (Nat.le_of_ble_eq_true rfl) ?_
    (repeat' (first | refine sk ?_ | refine mv ?_ | refine asg ?_ | refine ld ?_ | refine fp ?_ | refine bf ?_ | refine un ?_ | refine pt ?_ | refine pf ?_ | refine ex ?_ | refine ln ?_ | refine la ?_ | refine so ?_ | refine aops_nil ?_ | refine aw_seq ?_ | refine aw_region ?_ | refine aw_cond_t rfl ?_ | refine aw_cond_f rfl ?_ | refine aw_skip ?_ | refine aw_ret ?_ | refine bx 0 ?_ | refine al 1 ?_ | refine al 2 ?_ | refine cl (c1) ?_ | refine cl (cS) ?_ | fail))
    exact fin (sh_keep3 (H := H) (v := 0) (bad _ hE (by decide)).1.symm (bad _ hE (by decide)).2.symm hE.symm)
  have cS := (there_ok H s).to' (congrArg bv (decide_eq_true hs))
  by_cases hh : 0 ≤ H.ref home
  rotate_left
  · have hE : newE H s m r home args = 31 := by simp [newE, hO, newRf, hh]
    have ch := (there_ok H home).to' (congrArg bv (decide_eq_false hh))
    refine gives_of Try.func22 rfl (Nat.le_of_ble_eq_true rfl) ?_
    (repeat' (first | refine sk ?_ | refine mv ?_ | refine asg ?_ | refine ld ?_ | refine fp ?_ | refine bf ?_ | refine un ?_ | refine pt ?_ | refine pf ?_ | refine ex ?_ | refine ln ?_ | refine la ?_ | refine so ?_ | refine aops_nil ?_ | refine aw_seq ?_ | refine aw_region ?_ | refine aw_cond_t rfl ?_ | refine aw_cond_f rfl ?_ | refine aw_skip ?_ | refine aw_ret ?_ | refine bx 0 ?_ | refine al 1 ?_ | refine al 2 ?_ | refine cl (c1) ?_ | refine cl (cS) ?_ | refine cl (ch) ?_ | fail))
    exact fin (sh_keep3 (H := H) (v := 0) (bad _ hE (by decide)).1.symm (bad _ hE (by decide)).2.symm hE.symm)
  have ch := (there_ok H home).to' (congrArg bv (decide_eq_true hh))
  by_cases hr : hasB H.objs.length r = true
  rotate_left
  · have hE : newE H s m r home args = 31 := by simp [newE, hO, newRf, hr]
    have cr := (fhas_ok H r).to' (congrArg bv (eq_false_of_ne_true hr))
    refine gives_of Try.func22 rfl (Nat.le_of_ble_eq_true rfl) ?_
    (repeat' (first | refine sk ?_ | refine mv ?_ | refine asg ?_ | refine ld ?_ | refine fp ?_ | refine bf ?_ | refine un ?_ | refine pt ?_ | refine pf ?_ | refine ex ?_ | refine ln ?_ | refine la ?_ | refine so ?_ | refine aops_nil ?_ | refine aw_seq ?_ | refine aw_region ?_ | refine aw_cond_t rfl ?_ | refine aw_cond_f rfl ?_ | refine aw_skip ?_ | refine aw_ret ?_ | refine bx 0 ?_ | refine al 1 ?_ | refine al 2 ?_ | refine cl (c1) ?_ | refine cl (cS) ?_ | refine cl (ch) ?_ | refine cl (cr) ?_ | fail))
    exact fin (sh_keep3 (H := H) (v := 0) (bad _ hE (by decide)).1.symm (bad _ hE (by decide)).2.symm hE.symm)
  have cr := (fhas_ok H r).to' (congrArg bv hr)
  have ca := containsFunc_int args 61 [.ip (encHeap H)] (fun v => !(hasB H.objs.length v)) rfl ⟨by rw [noOwn_ip]; exact noOwn_heapc H, trivial⟩ (fun x _ => New1_ok H hi x) ha
  by_cases hl : args.all (hasB H.objs.length) = true
  rotate_left
  · have hE : newE H s m r home args = 31 := by
      rw [newE, if_pos hO]; simp only [newRf, eq_false_of_ne_true hl]; simp
    have hany : (args.any fun v => !(hasB H.objs.length v)) = true := by
      have := any_not args (hasB H.objs.length)
      rw [eq_false_of_ne_true hl] at this; simpa using this
    rw [hany] at ca
    refine gives_of Try.func22 rfl (Nat.le_of_ble_eq_true rfl) ?_
    (repeat' (first | refine mv ?_ | refine asg ?_ | refine ld ?_ | refine fp ?_ | refine bf ?_ | refine un ?_ | refine pf ?_ | refine ex ?_ | refine ln ?_ | refine la ?_ | refine so ?_ | refine mf ?_ | refine aops_nil ?_ | refine aw_seq ?_ | refine aw_region ?_ | refine aw_cond_t rfl ?_ | refine aw_cond_f rfl ?_ | refine aw_skip ?_ | refine aw_ret ?_ | refine bx 0 ?_ | refine al 1 ?_ | refine al 2 ?_ | refine cl (c1) ?_ | refine cl (cS) ?_ | refine cl (ch) ?_ | refine cl (cr) ?_ | refine cs ca ?_ (hsh := by exact ⟨.same _ (by simp), sh_clo ⟨sh_box rfl ⟨.same _ (by simp), .same _ (.v _), .same _ (.v _), trivial⟩, trivial⟩, trivial⟩) | fail))
    exact fin (sh_keep3 (H := H) (v := 0) (bad _ hE (by decide)).1.symm (bad _ hE (by decide)).2.symm hE.symm)
  have hany : (args.any fun v => !(hasB H.objs.length v)) = false := by
    have := any_not args (hasB H.objs.length)
    rw [hl] at this; simpa using this
  rw [hany] at ca
  have c6 := ref6_ok
  by_cases h7 : 7 ≤ H.objs.length
  rotate_left
  · have hE : newE H s m r home args = 31 := by simp [newE, hO, newRf, h7]
    have ct := (there_ok H 12).to' (congrArg bv (decide_eq_false (fun e => h7 (ref12.1 e))))
    refine gives_of Try.func22 rfl (Nat.le_of_ble_eq_true rfl) ?_
    (repeat' (first | refine mv ?_ | refine asg ?_ | refine ld ?_ | refine fp ?_ | refine bf ?_ | refine un ?_ | refine pf ?_ | refine ex ?_ | refine ln ?_ | refine la ?_ | refine so ?_ | refine mf ?_ | refine aops_nil ?_ | refine aw_seq ?_ | refine aw_region ?_ | refine aw_cond_t rfl ?_ | refine aw_cond_f rfl ?_ | refine aw_skip ?_ | refine aw_ret ?_ | refine bx 0 ?_ | refine al 1 ?_ | refine al 2 ?_ | refine cl (c1) ?_ | refine cl (cS) ?_ | refine cl (ch) ?_ | refine cl (cr) ?_ | refine cl (c6) ?_ | refine cl (ct) ?_ | refine cs ca ?_ (hsh := by exact ⟨.same _ (by simp), sh_clo ⟨sh_box rfl ⟨.same _ (by simp), .same _ (.v _), .same _ (.v _), trivial⟩, trivial⟩, trivial⟩) | fail))
    exact fin (sh_keep3 (H := H) (v := 0) (bad _ hE (by decide)).1.symm (bad _ hE (by decide)).2.symm hE.symm)
  have ct := (there_ok H 12).to' (congrArg bv (decide_eq_true (ref12.2 h7)))
  have hR : newRf H s r home args = true := by simp only [newRf, hl, hr]; simp [hs, hh, h7]
  have hEa : newE H s m r home args = allocE H 12 0 22 := by rw [newE, if_pos hO, if_pos hR]
  by_cases h0 : allocE H 12 0 22 = 0
  rotate_left
  · have hm0 : mayH H = true := by simp only [methB, Bool.and_eq_true] at hm; exact hm.1
    have h30 : allocE H 12 0 22 = 30 := by
      have h12 : ¬ refI H.objs.length 12 < 0 := by have := ref12.2 h7; simp only [HHeap.ref] at this; omega
      simp only [allocE, hm0, if_true, if_neg h12] at h0 ⊢
      by_cases hc : (H.objs.length : Int) = H.cap
      · simp [hc]
      · simp [hc] at h0
    have k1 := Alloc_ok H hi 12 0 22
    rw [show allocV H 12 0 22 = 0 by rw [allocV, if_neg h0], h30] at k1
    rw [h30] at hEa
    refine gives_of Try.func22 rfl (Nat.le_of_ble_eq_true rfl) ?_
    (repeat' (first | refine mv ?_ | refine asg ?_ | refine ld ?_ | refine fp ?_ | refine bt ?_ | refine bf ?_ | refine un ?_ | refine pf ?_ | refine ex ?_ | refine ln ?_ | refine la ?_ | refine so ?_ | refine mf ?_ | refine aops_nil ?_ | refine aw_seq ?_ | refine aw_region ?_ | refine aw_cond_t rfl ?_ | refine aw_cond_f rfl ?_ | refine aw_skip ?_ | refine aw_ret ?_ | refine bx 0 ?_ | refine al 1 ?_ | refine al 2 ?_ | refine al 3 ?_ | refine cl (c1) ?_ | refine cl (cS) ?_ | refine cl (ch) ?_ | refine cl (cr) ?_ | refine cl (c6) ?_ | refine cl (ct) ?_ | refine cl (k1) ?_ | refine cs ca ?_ (hsh := by exact ⟨.same _ (by simp), sh_clo ⟨sh_box rfl ⟨.same _ (by simp), .same _ (.v _), .same _ (.v _), trivial⟩, trivial⟩, trivial⟩) | fail))
    exact fin (sh_keep3 (H := H) (v := 0) (bad _ hEa (by decide)).1.symm (bad _ hEa (by decide)).2.symm hEa.symm)
  exact absurd (by rw [hEa, h0]) hne
end Go.Proofs.Ytbmldjcddpblnaa
