/- What the statements' walks need. -/
import Derived.Test.YtbmldjcddpblnaaMQa4
import Derived.Test.YtbmldjcddpblnaaMQx21
import Derived.Test.YtbmldjcddpblnaaMQx25
import Derived.Test.YtbmldjcddpblnaaMQx26
import Derived.Test.YtbmldjcddpblnaaMQa3
set_option linter.unusedVariables false
set_option linter.unusedSimpArgs false
set_option maxRecDepth 100000
namespace Go.Proofs.Ytbmldjcddpblnaa
open Go Go.Proofs AW
theorem read_ok (H : HHeap) (hi : H.In) (c : Int) : Gives Try.prog 55 [.agg (encHeap H), iv c] (.tup [.agg (encCtx (ctxV H c)), bv (ctxB H c)]) := by
  by_cases hn : mayH H = true ∧ H.is c 0 ∧ (H.at' c).cls = 12 ∧ (H.at' c).slots.length = 22
  rotate_left
  · exact read_no H hi c hn
  obtain ⟨h0, h1, h2, h3⟩ := hn
  by_cases hm : mthB H ((H.at' c).sl 3) = true
  rotate_left
  · exact read_a H hi c h0 h1 h2 h3 (eq_false_of_ne_true hm)
  by_cases r0 : 0 ≤ H.ref ((H.at' c).sl 0)
  rotate_left
  · exact read_b H hi c h0 h1 h2 h3 hm r0
  by_cases r5 : 0 ≤ H.ref ((H.at' c).sl 5)
  · exact read_d H hi c h0 h1 h2 h3 hm r0 r5
  · exact read_c H hi c h0 h1 h2 h3 hm r0 r5
theorem FMay_ok (H : HHeap) (hi : H.In) (c : Int) : Gives Try.prog 20 [.agg (encHeap H), iv c] (bv (ctxB H c)) := by
  refine gives_of Try.func20 rfl (Nat.le_of_ble_eq_true rfl) ?_
  (repeat' (first | refine mv ?_ | refine asg ?_ | refine ex ?_ | refine la ?_ | refine so ?_ | refine aops_nil ?_ | refine aw_seq ?_ | refine aw_region ?_ | refine aw_ret ?_ | refine bx 0 ?_ | refine al 1 ?_ | refine cl (read_ok H hi c) ?_ (hno := ⟨noOwn_heap _, noOwn_iv _, trivial⟩) | fail))
  exact fin (sh_bv rfl)
theorem ctx_yes {H : HHeap} {c : Int} (h : ctxB H c = true) : ctxV H c = ctxX H c ∧ 0 ≤ (ctxX H c).ip ∧ (ctxX H c).mth.temps ≤ (ctxX H c).sp ∧ (H.at' c).slots.length = 22 ∧ mthB H ((H.at' c).sl 3) = true ∧ mayH H = true ∧ H.is c 0 := by
  simp only [ctxB, Bool.and_eq_true] at h
  obtain ⟨h1, h2⟩ := h
  refine ⟨by rw [ctxV, if_pos h1], ?_⟩
  simp only [ctxB2, decide_eq_true_eq] at h2
  simp only [ctxB1, Bool.and_eq_true, decide_eq_true_eq] at h1
  exact ⟨h2.1, h2.2, h1.1.2.2.2, h1.2.1, h1.1.1, h1.1.2.1⟩
theorem sm_rng (v most : Int) : smI v most ≤ most ∨ smI v most = -1 := by
  simp only [smI]; split
  · left; omega
  · right; rfl
def tempE (H : HHeap) (c k : Int) : Int := if ctxB H c = true then (if 0 ≤ k ∧ k < (ctxX H c).mth.temps then 0 else 121) else 120
def tempI (H : HHeap) (c k : Int) : Int := if tempE H c k = 0 then (H.at' c).sl (6 + k.toNat) else 0
theorem mth_temps (H : HHeap) (m : Int) : (mthX H m).temps ≤ 8 := by
  have := sm_rng ((H.at' m).sl 2) 8
  show smI ((H.at' m).sl 2) 8 ≤ 8
  omega
set_option maxHeartbeats 4000000 in
theorem Temp_ok (H : HHeap) (hi : H.In) (c k : Int) : Gives Try.prog 17 [.agg (encHeap H), iv c, iv k] (.tup [iv (tempI H c k), iv (tempE H c k)]) := by
  have cr := read_ok H hi c
  by_cases h : ctxB H c = true
  rotate_left
  · have h' := eq_false_of_ne_true h
    have hE : tempE H c k = 120 := by rw [tempE, if_neg h]
    have hI : tempI H c k = 0 := by rw [tempI, hE]; rfl
    rw [h'] at cr
    refine gives_of Try.func17 rfl (Nat.le_of_ble_eq_true rfl) ?_
    (repeat' (first | refine mv ?_ | refine asg ?_ | refine un ?_ | refine ex ?_ | refine la ?_ | refine so ?_ | refine aops_nil ?_ | refine aw_seq ?_ | refine aw_region ?_ | refine aw_cond_t rfl ?_ | refine aw_block ?_ | refine aw_ret ?_ | refine bx 0 ?_ | refine al 1 ?_ | refine cl cr ?_ (hno := ⟨noOwn_heap _, noOwn_iv _, trivial⟩) | fail))
    exact fin (sh_ii hI.symm hE.symm)
  obtain ⟨e1, e2, e3, e4, _⟩ := ctx_yes h
  rw [h, e1] at cr
  by_cases h0 : 0 ≤ k
  rotate_left
  · have hE : tempE H c k = 121 := by rw [tempE, if_pos h, if_neg (fun e => h0 e.1)]
    have hI : tempI H c k = 0 := by rw [tempI, hE]; rfl
    refine gives_of Try.func17 rfl (Nat.le_of_ble_eq_true rfl) ?_
    (repeat' (first | refine sk ?_ | refine mv ?_ | refine asg ?_ | refine bt ?_ | refine un ?_ | refine pt ?_ | refine ex ?_ | refine la ?_ | refine so ?_ | refine aops_nil ?_ | refine aw_seq ?_ | refine aw_region ?_ | refine aw_cond_t rfl ?_ | refine aw_cond_f rfl ?_ | refine aw_block ?_ | refine aw_ret ?_ | refine bx 0 ?_ | refine al 1 ?_ | refine cl cr ?_ (hno := ⟨noOwn_heap _, noOwn_iv _, trivial⟩) | fail))
    exact fin (sh_ii hI.symm hE.symm)
  by_cases h1 : k < (ctxX H c).mth.temps
  rotate_left
  · have hE : tempE H c k = 121 := by rw [tempE, if_pos h, if_neg (fun e => h1 e.2)]
    have hI : tempI H c k = 0 := by rw [tempI, hE]; rfl
    refine gives_of Try.func17 rfl (Nat.le_of_ble_eq_true rfl) ?_
    (repeat' (first | refine mv ?_ | refine asg ?_ | refine ld ?_ | refine fp ?_ | refine bt ?_ | refine bf ?_ | refine un ?_ | refine pf ?_ | refine ex ?_ | refine la ?_ | refine so ?_ | refine aops_nil ?_ | refine aw_seq ?_ | refine aw_region ?_ | refine aw_cond_t rfl ?_ | refine aw_cond_f rfl ?_ | refine aw_block ?_ | refine aw_ret ?_ | refine bx 0 ?_ | refine al 1 ?_ | refine cl cr ?_ (hno := ⟨noOwn_heap _, noOwn_iv _, trivial⟩) | fail))
    exact fin (sh_ii hI.symm hE.symm)
  have hE : tempE H c k = 0 := by rw [tempE, if_pos h, if_pos ⟨h0, h1⟩]
  have hI : tempI H c k = (H.at' c).sl (6 + k.toNat) := by rw [tempI, if_pos hE]
  have h8 := mth_temps H ((H.at' c).sl 3)
  have h9 : (ctxX H c).mth.temps ≤ 8 := h8
  have hg := ints_get (sl_get (o := H.at' c) (k := 6 + k.toNat) (by omega))
  have hle : (encInts (H.at' c).slots).length = 22 := by rw [len_ints, e4]
  have hn : 6 + k = ((6 + k.toNat : Nat) : Int) := by omega
  refine gives_of Try.func17 rfl (Nat.le_of_ble_eq_true rfl) ?_
  (repeat' (first | refine mv ?_ | refine asg ?_ | refine ld ?_ | refine fp ?_ | refine bf ?_ | refine bw ?_ | refine un ?_ | refine pf ?_ | refine ex ?_ | refine la ?_ | refine so ?_ | refine aops_nil ?_ | refine aw_seq ?_ | refine aw_region ?_ | refine aw_cond_f rfl ?_ | refine aw_block ?_ | refine aw_skip ?_ | refine aw_ret ?_ | refine bx 0 ?_ | refine al 1 ?_ | refine cl cr ?_ (hno := ⟨noOwn_heap _, noOwn_iv _, trivial⟩) | refine ia (6 + k.toNat) hg ?_ (hn := hn) | fail))
  exact fin (sh_ii hI.symm hE.symm)
end Go.Proofs.Ytbmldjcddpblnaa
namespace Go.Proofs.Ytbmldjcddpblnaa
open Go Go.Proofs AW
def noIns : HInstr := ⟨0, 0⟩
def atE (H : HHeap) (c : Int) : Int := if ctxB H c = true then 0 else 120
def atP (H : HHeap) (c : Int) : Int := if ctxB H c = true then (ctxX H c).ip else 0
def atN (H : HHeap) (c : Int) : HInstr := if ctxB H c = true then ((ctxX H c).mth.code[(ctxX H c).ip.toNat]?).getD noIns else noIns
theorem ctx_ip {H : HHeap} {c : Int} (h : ctxB H c = true) : ∃ n : Nat, (ctxX H c).ip = n ∧ ∃ x, (ctxX H c).mth.code[n]? = some x ∧ atN H c = x := by
  obtain ⟨e1, e2, e3, e4, _⟩ := ctx_yes h
  have e5 : (ctxX H c).ip ≤ ((ctxX H c).mth.code.length : Int) - 1 := by
    have h5 := sm_rng ((H.at' c).sl 1) ((mthX H ((H.at' c).sl 3)).code.length - 1)
    have e6 : (ctxX H c).ip = smI ((H.at' c).sl 1) ((mthX H ((H.at' c).sl 3)).code.length - 1) := rfl
    have e7 : (ctxX H c).mth.code = (mthX H ((H.at' c).sl 3)).code := rfl
    rw [e7]; omega
  have hlt : (ctxX H c).ip.toNat < (ctxX H c).mth.code.length := by omega
  refine ⟨(ctxX H c).ip.toNat, by omega, _, List.getElem?_eq_getElem hlt, ?_⟩
  rw [atN, if_pos h, List.getElem?_eq_getElem hlt]; rfl
set_option maxHeartbeats 4000000 in
theorem At_f_ok (H : HHeap) (hi : H.In) (c : Int) : Gives Try.prog 15 [.agg (encHeap H), iv c] (.tup [iv (atP H c), .agg (encInstr (atN H c)), iv (atE H c)]) := by
  have cr := read_ok H hi c
  by_cases h : ctxB H c = true
  rotate_left
  · have h' := eq_false_of_ne_true h
    rw [h'] at cr
    refine gives_of Try.func15 rfl (Nat.le_of_ble_eq_true rfl) ?_
    (repeat' (first | refine mv ?_ | refine asg ?_ | refine un ?_ | refine ex ?_ | refine la ?_ | refine so ?_ | refine bd ?_ | refine aops_nil ?_ | refine aw_seq ?_ | refine aw_region ?_ | refine aw_cond_t rfl ?_ | refine aw_ret ?_ | refine bx 0 ?_ | refine al 1 ?_ | refine al 2 ?_ | refine cl cr ?_ (hno := ⟨noOwn_heap _, noOwn_iv _, trivial⟩) | fail))
    exact fin (sh_tup (l := [iv 0, .agg [iv 0, iv 0], iv 120]) ⟨sh_iv (by rw [atP, if_neg h]), by rw [atN, if_neg h]; exact .same _ (noOwn_instr noIns), sh_iv (by rw [atE, if_neg h]), trivial⟩)
  obtain ⟨e1, _⟩ := ctx_yes h
  obtain ⟨n, e2, x, e3, e4⟩ := ctx_ip h
  rw [h, e1] at cr
  have hg := code_get e3
  refine gives_of Try.func15 rfl (Nat.le_of_ble_eq_true rfl) ?_
  (repeat' (first | refine mv ?_ | refine asg ?_ | refine un ?_ | refine ex ?_ | refine la ?_ | refine so ?_ | refine aops_nil ?_ | refine aw_seq ?_ | refine aw_region ?_ | refine aw_cond_f rfl ?_ | refine aw_skip ?_ | refine bx 0 ?_ | refine al 1 ?_ | refine al 2 ?_ | refine cl cr ?_ (hno := ⟨noOwn_heap _, noOwn_iv _, trivial⟩) | fail))
  refine aw_wipe 4 ?_
  refine aw_draw 10 none ?_
  (repeat' (first | refine dn ?_ | refine ds y_assign ?_ | refine ds y_load ?_ | refine ds (y_faddr_ptr (hs := Nat.le_of_ble_eq_true rfl)) ?_ | refine ds y_loadsN ?_ | refine ds (y_iaddrN n hg (hn := e2)) ?_ | fail))
  (repeat' (first | refine asg ?_ | refine so ?_ | refine aops_nil ?_ | refine aw_ret ?_ | fail))
  exact fin (sh_tup (l := [iv (ctxX H c).ip, .agg (encInstr x), iv 0]) ⟨sh_iv (by rw [atP, if_pos h]), by rw [e4]; exact .same _ (noOwn_instr x), sh_iv (by rw [atE, if_pos h]), trivial⟩)
end Go.Proofs.Ytbmldjcddpblnaa
namespace Go.Proofs.Ytbmldjcddpblnaa
open Go Go.Proofs AW
theorem noOwn_heapc (H : HHeap) : ∀ x ∈ encHeap H, NoOwn x := by
  have := noOwn_heap H
  rwa [noOwn_agg] at this
@[simp] theorem noOwn_heapI (H : HHeap) : (∀ x ∈ encHeap H, NoOwn x) ↔ True := ⟨fun _ => trivial, fun _ => noOwn_heapc H⟩
@[simp] theorem noOwn_objI (o : HObj) : (∀ x ∈ encObj o, NoOwn x) ↔ True := ⟨fun _ => trivial, fun _ => noOwn_obj o⟩
@[simp] theorem noOwn_mthI (o : HMethod) : (∀ x ∈ encMethod o, NoOwn x) ↔ True := ⟨fun _ => trivial, fun _ => noOwn_mth o⟩
@[simp] theorem noOwn_ctxI (o : HCtx) : (∀ x ∈ encCtx o, NoOwn x) ↔ True := ⟨fun _ => trivial, fun _ => noOwn_ctx o⟩
def encPairs (l : List (Int × Int)) : List (List AV) := l.map fun x => [iv x.1, iv x.2]
@[simp] theorem len_pairsE (l : List (Int × Int)) : (encPairs l).length = l.length := by simp [encPairs]
theorem pairs_get {l : List (Int × Int)} {k : Nat} {x : Int × Int} (h : l[k]? = some x) : (encPairs l)[k]? = some [iv x.1, iv x.2] := by simp [encPairs, h]
theorem noOwn_pairs (l : List (Int × Int)) : ∀ c ∈ encPairs l, ∀ x ∈ c, NoOwn x := by
  intro c hc x hx
  simp only [encPairs, List.mem_map] at hc
  obtain ⟨p, _, rfl⟩ := hc
  simp only [List.mem_cons, List.not_mem_nil, or_false] at hx
  rcases hx with rfl | rfl <;> exact .v _
@[simp] theorem noOwn_apairs (l : List (Int × Int)) : NoOwn (.sl 2 (encPairs l)) := by rw [noOwn_sl]; exact noOwn_pairs l
def putL (H : HHeap) (c : Int) (l : List (Int × Int)) : HHeap := l.foldl (fun H x => setH H c x.1 x.2) H
theorem putL_in {H : HHeap} (h : H.In) (c : Int) (l : List (Int × Int)) : (putL H c l).In := by
  induction l generalizing H with
  | nil => exact h
  | cons x l ih => exact ih (setH_in h)
theorem putL_take {H : HHeap} {c : Int} {l : List (Int × Int)} {k : Nat} {x : Int × Int} (h : l[k]? = some x) : putL H c (l.take (k + 1)) = setH (putL H c (l.take k)) c x.1 x.2 := by
  rw [List.take_add_one, h]; simp [putL]
def putT (H : HHeap) : List (Nat × Ob) := [(0, .live 24 3 [encHeap H]), (1, .live 24 3 [[.v (.slice none 0 0), iv 0, iv 0]])]
def putE (c : Int) (l : List (Int × Int)) (k : Nat) : List (Nat × AV) := [(11, iv (k : Int)), (3, .ptr 0 0 0), (6, .ptr 1 0 0), (1, iv c), (9, .sl 2 (encPairs l)), (10, iv ((encPairs l).length : Int))]
set_option maxHeartbeats 4000000 in
theorem put_ok (H : HHeap) (hi : H.In) (c : Int) (l : List (Int × Int)) (hl : l.length < 1099511627776) : Gives Try.prog 69 [.agg (encHeap H), iv c, .sl 2 (encPairs l)] (.agg (encHeap (putL H c l))) := by
  have hle : (encPairs l).length = l.length := len_pairsE l
  refine gives_of Try.func69 rfl (Nat.le_of_ble_eq_true rfl) ?_
  (repeat' (first | refine mv ?_ | refine ln ?_ | refine aops_nil ?_ | refine aw_seq ?_ | refine aw_region ?_ | refine aw_block ?_ | refine bx 0 ?_ | refine al 1 ?_ | fail))
  refine aw_for l.length (fun k => k ≤ l.length) (fun k => ⟨putE c l k, tb (putT (putL H c (l.take k)))⟩) 0 (Nat.zero_le _) ?_ ?_
  · refine ent_tb id (putT H) ?_ ?_ <;> (repeat' (first | exact trivial | exact fz_v _ | exact .ptr _ _ _ _ rfl (ne_live rfl) | exact fzL_to (noOwn_heapc _) | (refine .same _ ?_; (simp; done)) | refine ⟨_, rfl, ?_⟩ | refine ⟨?_, ?_⟩ | refine .one _ _ _ _ rfl rfl ?_ | fail))
  intro k hk
  have hin := putL_in hi c (l.take k)
  (repeat' (first | refine bi ?_ | refine aops_nil ?_ | refine aw_seq ?_ | refine aw_region ?_ | fail))
  refine aw_cond rfl (fun h6 => ?_) (fun h6 => ?_) <;> simp at h6
  · have hx : l[k]? = some l[k] := List.getElem?_eq_getElem h6
    (repeat' (first | refine mv ?_ | refine ld ?_ | refine bw ?_ | refine ex ?_ | refine la ?_ | refine so ?_ | refine aops_nil ?_ | refine iar ?_ | refine aw_seq ?_ | refine aw_region ?_ | refine aw_block ?_ | refine aw_skip ?_ | refine al 2 ?_ | refine ia k (pairs_get hx) ?_ | refine cl (Set_ok _ hin c l[k].1 l[k].2) ?_ | fail))
    refine ⟨h6, by omega, ?_⟩
    rw [putL_take hx]
    refine ent_tb id _ ?_ ?_ <;> (repeat' (first | exact trivial | exact fz_v _ | exact .ptr _ _ _ _ rfl (ne_live rfl) | exact fzL_to (noOwn_heapc _) | (refine .same _ ?_; (simp; done)) | refine ⟨_, rfl, ?_⟩ | refine ⟨?_, ?_⟩ | refine .one _ _ _ _ rfl rfl ?_ | fail))
  · have hks : k = l.length := by omega
    subst hks
    rw [List.take_length]
    (repeat' (first | refine la ?_ | refine so ?_ | refine aops_nil ?_ | refine aw_seq ?_ | refine aw_region ?_ | refine aw_exit ?_ | refine aw_ret ?_ | fail))
    exact fin (.same _ (noOwn_heap _))
end Go.Proofs.Ytbmldjcddpblnaa
