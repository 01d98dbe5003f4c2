/- What the statements' walks need. -/
import Derived.Test.YtbmldjcddpblnaaMQa4
import Derived.Test.YtbmldjcddpblnaaMQx35
import Derived.Test.YtbmldjcddpblnaaMQx25
set_option linter.unusedVariables false
set_option linter.unusedSimpArgs false
set_option maxRecDepth 100000
namespace Go.Proofs.Ytbmldjcddpblnaa
open Go Go.Proofs AW
theorem new_yes {H : HHeap} {s m r home : Int} {args : List Int} (h : newE H s m r home args = 0) : methB H m = true ∧ (args.length : Int) = (mthX H m).args ∧ 0 ≤ H.ref s ∧ 0 ≤ H.ref home ∧ hasB H.objs.length r = true ∧ args.all (hasB H.objs.length) = true ∧ 7 ≤ H.objs.length ∧ allocE H 12 0 22 = 0 := by
  by_cases h1 : newOk H m args = true
  · by_cases h2 : newRf H s r home args = true
    · rw [newE, if_pos h1, if_pos h2] at h
      simp only [newOk, Bool.and_eq_true, decide_eq_true_eq] at h1
      simp only [newRf, Bool.and_eq_true, decide_eq_true_eq] at h2
      exact ⟨h1.1, h1.2, h2.1, h2.2.1, h2.2.2.1, h2.2.2.2.1, h2.2.2.2.2, h⟩
    · rw [newE, if_pos h1, if_neg h2] at h; simp at h
  · rw [newE, if_neg h1] at h; simp at h
theorem newSl_cpd (H : HHeap) (s m r home : Int) (args : List Int) (ha : args.length ≤ 16) (hm : Int) (hh : hm = if home = 0 then 2 * (H.objs.length : Int) else home) :
    cpd (cpd (encInts (List.replicate 22 0)) (encInts [s, 1, 2 * (mthX H m).temps + 1, m, r, hm]) 0) (encInts args) 6 = encInts (newSl H s m r home args) := by
  rw [cpd_ints, cpd_ints]
  congr 1
  have e1 : List.take 0 (List.replicate 22 (0 : Int)) ++ [s, 1, 2 * (mthX H m).temps + 1, m, r, hm] ++ List.drop (0 + [s, 1, 2 * (mthX H m).temps + 1, m, r, hm].length) (List.replicate 22 0) = [s, 1, 2 * (mthX H m).temps + 1, m, r, hm] ++ List.replicate 16 0 := by simp
  rw [e1, newSl, ← hh]
  have e2 : ([s, 1, 2 * (mthX H m).temps + 1, m, r, hm] ++ List.replicate 16 0).take 6 = [s, 1, 2 * (mthX H m).temps + 1, m, r, hm] := by simp
  have e3 : ([s, 1, 2 * (mthX H m).temps + 1, m, r, hm] ++ List.replicate 16 0).drop (6 + args.length) = List.replicate (16 - args.length) 0 := by
    have h6 : 6 + args.length = [s, 1, 2 * (mthX H m).temps + 1, m, r, hm].length + args.length := rfl
    rw [h6, ← List.drop_drop, List.drop_left, List.drop_replicate]
  rw [e2, e3]
set_option maxHeartbeats 16000000 in
theorem New_yes_ok (H : HHeap) (hi : H.In) (s m r home : Int) (args : List Int) (ha : args.length < 1099511627776) (hE : newE H s m r home args = 0) : Gives Try.prog 22 [.agg (encHeap H), iv s, iv m, iv r, iv home, .sl 1 (encInts args)]
    (.tup [.agg (encHeap (newHp H s m r home args)), iv (newV H s m r home args), iv (newE H s m r home args)]) := by
  obtain ⟨hm, hn, hs, hh, hr, hl, h7, h0⟩ := new_yes hE
  have hla : (encInts args).length = args.length := len_ints _
  have c1 := Method_ok H hi m
  have e1 : methE H m = 0 := by rw [methE, if_pos hm]
  have e2 : methM H m = mthX H m := by rw [methM, if_pos hm]
  rw [e1, e2] at c1
  have hmth : mthB H m = true := by simp only [methB, Bool.and_eq_true] at hm; exact hm.2
  obtain ⟨a0, a1, a2, a3⟩ := mth_args hmth
  have cS := (there_ok H s).to' (congrArg bv (decide_eq_true hs))
  have ch := (there_ok H home).to' (congrArg bv (decide_eq_true hh))
  have cr := (fhas_ok H r).to' (congrArg bv hr)
  have ca := containsFunc_int args 61 [.ip (encHeap H)] (fun v => !(hasB H.objs.length v)) rfl ⟨by rw [noOwn_ip]; exact noOwn_heapc H, trivial⟩ (fun x _ => New1_ok H hi x) ha
  have hany : (args.any fun v => !(hasB H.objs.length v)) = false := by
    have := any_not args (hasB H.objs.length)
    rw [hl] at this; simpa using this
  rw [hany] at ca
  have c6 := ref6_ok
  have ct := (there_ok H 12).to' (congrArg bv (decide_eq_true (ref12.2 h7)))
  have k1 := AllocP_own H hi 12 22 h0
  have n0 := (Int_ok 0).to' (y := .tup [iv 1, bv true]) (by rfl)
  have n1 := (Int_ok (mthX H m).temps).to' (y := .tup [iv (2 * (mthX H m).temps + 1), bv true]) (by rw [numV, smallB, if_pos (by omega), decide_eq_true (by omega)]; congr 3; omega)
  have hol : H.objs.length < 1099511627776 := hi.2.2.2
  have hlen : (encObjs H.objs ++ [encOwn (newObj H 12 0 22) 21]).length = H.objs.length + 1 := by simp
  have hq : H.objs.length < (encObjs H.objs ++ [encOwn (newObj H 12 0 22) 21]).length := by omega
  have hnq : ((encObjs H.objs ++ [encOwn (newObj H 12 0 22) 21]).length : Int) - 1 = (H.objs.length : Int) := by rw [hlen]; omega
  have hgl : (encObjs H.objs ++ [encOwn (newObj H 12 0 22) 21])[H.objs.length]? = some (encOwn (newObj H 12 0 22) 21) := by
    rw [List.getElem?_append_right (by simp)]; simp
  have z22 : encInts (List.replicate (22 : Int).toNat 0) = encInts (List.replicate 22 0) := rfl
  have l0 : 0 < (encInts (List.replicate (22 : Int).toNat 0)).length := by decide
  have l6 : ∀ a b c d e f : Int, ([[iv a], [iv b], [iv c], [iv d], [iv e], [iv f]] : List (List AV)).length ≤ (encInts (List.replicate (22 : Int).toNat 0)).length := fun _ _ _ _ _ _ => by show 6 ≤ _; decide
  refine gives_of Try.func22 rfl (Nat.le_of_ble_eq_true rfl) ?_
  have h4 : args.length ≤ 4 := by omega
  have l16 : ∀ hm : Int, 6 + (encInts args).length ≤ (cpd (encInts (List.replicate (22 : Int).toNat 0)) [[iv s], [iv 1], [iv (2 * (mthX H m).temps + 1)], [iv m], [iv r], [iv hm]] 0).length := fun hm => by
    rw [len_ints]; show 6 + args.length ≤ 22; omega
  have l17 : ∀ hm : Int, 6 < (cpd (encInts (List.replicate (22 : Int).toNat 0)) [[iv s], [iv 1], [iv (2 * (mthX H m).temps + 1)], [iv m], [iv r], [iv hm]] 0).length := fun hm => by
    show 6 < 22; omega
  have fnl : ∀ (T : Nat → Ob) (hm : Int), hm = (if home = 0 then 2 * (H.objs.length : Int) else home) → T 20 = .live 59 6 (encObjs H.objs ++ [encOwn (newObj H 12 0 22) 21]) →
      T 21 = .live 3 1 (cpd (cpd (encInts (List.replicate (22 : Int).toNat 0)) [[iv s], [iv 1], [iv (2 * (mthX H m).temps + 1)], [iv m], [iv r], [iv hm]] 0) (encInts args) 6) →
      Sh T (.tup [.agg [.own 20, iv H.cap, iv (nextI H.last)], iv (2 * (H.objs.length : Int)), iv 0]) (.tup [.agg (encHeap (newHp H s m r home args)), iv (newV H s m r home args), iv (newE H s m r home args)]) := by
    intro T hm hhm h20 h21
    have e3 : cpd (cpd (encInts (List.replicate (22 : Int).toNat 0)) [[iv s], [iv 1], [iv (2 * (mthX H m).temps + 1)], [iv m], [iv r], [iv hm]] 0) (encInts args) 6 = encInts (newSl H s m r home args) := newSl_cpd H s m r home args (by omega) hm hhm
    rw [e3] at h21
    have e4 : newHp H s m r home args = ⟨H.objs ++ [{ newObj H 12 0 22 with slots := newSl H s m r home args }], H.cap, nextI H.last⟩ := by rw [newHp, if_pos hE]
    rw [e4, hE, show newV H s m r home args = 2 * (H.objs.length : Int) by rw [newV, if_pos hE]]
    refine sh_tup ⟨sh_agg ⟨?_, .same _ (.v _), .same _ (.v _), trivial⟩, .same _ (.v _), .same _ (.v _), trivial⟩
    exact sh_app h20 ⟨.same _ (.v _), .same _ (.v _), sh_ints h21, .same _ (.v _), .same _ (.v _), .same _ (.v _), trivial⟩
  by_cases hz : home = 0
  · (repeat' (first | refine mv ?_ | refine asg ?_ | refine ld ?_ | refine fp ?_ | refine bt ?_ | refine bf ?_ | refine bw ?_ | refine un ?_ | refine pf ?_ | refine ex ?_ | refine ln ?_ | refine la ?_ | refine so ?_ | refine mf ?_ | refine aops_nil ?_ | refine aw_seq ?_ | refine aw_region ?_ | refine aw_cond_t rfl ?_ | refine aw_cond_f rfl ?_ | refine aw_skip ?_ | refine aw_ret ?_ | refine bx 0 ?_ | refine al 1 ?_ | refine al 2 ?_ | refine al 3 ?_ | refine cl (c1) ?_ | refine cl (cS) ?_ | refine cl (ch) ?_ | refine cl (cr) ?_ | refine cl (c6) ?_ | refine cl (ct) ?_ | refine cl (n0) ?_ | refine cl (n1) ?_ | refine cm2 k1 ?_ | refine cs ca ?_ (hsh := by exact ⟨.same _ (by simp), sh_clo ⟨sh_box rfl ⟨.same _ (by simp), .same _ (.v _), .same _ (.v _), trivial⟩, trivial⟩, trivial⟩) | refine iao H.objs.length hq ?_ (hn := hnq) | refine ldP hgl ?_ | refine li 30 ?_ | refine cpo (l6 _ _ _ _ _ _) l0 (cok_ints _ [_, _, _, _, _, _]) ?_ | refine cps (kn := 6) (l16 _) (l17 _) (cok_ints _ _) ?_ | fail))
    exact fin (fnl _ (2 * (H.objs.length : Int)) (by rw [if_pos hz]) rfl rfl)
  · (repeat' (first | refine mv ?_ | refine asg ?_ | refine ld ?_ | refine fp ?_ | refine bf ?_ | refine bw ?_ | refine un ?_ | refine pf ?_ | refine ex ?_ | refine ln ?_ | refine la ?_ | refine so ?_ | refine mf ?_ | refine aops_nil ?_ | refine aw_seq ?_ | refine aw_region ?_ | refine aw_cond_f rfl ?_ | refine aw_skip ?_ | refine aw_ret ?_ | refine bx 0 ?_ | refine al 1 ?_ | refine al 2 ?_ | refine al 3 ?_ | refine cl (c1) ?_ | refine cl (cS) ?_ | refine cl (ch) ?_ | refine cl (cr) ?_ | refine cl (c6) ?_ | refine cl (ct) ?_ | refine cl (n0) ?_ | refine cl (n1) ?_ | refine cm2 k1 ?_ | refine cs ca ?_ (hsh := by exact ⟨.same _ (by simp), sh_clo ⟨sh_box rfl ⟨.same _ (by simp), .same _ (.v _), .same _ (.v _), trivial⟩, trivial⟩, trivial⟩) | refine iao H.objs.length hq ?_ (hn := hnq) | refine ldP hgl ?_ | refine li 30 ?_ | refine cpo (l6 _ _ _ _ _ _) l0 (cok_ints _ [_, _, _, _, _, _]) ?_ | refine cps (kn := 6) (l16 _) (l17 _) (cok_ints _ _) ?_ | fail))
    exact fin (fnl _ home (by rw [if_neg hz]) rfl rfl)
theorem New_ok (H : HHeap) (hi : H.In) (s m r home : Int) (args : List Int) (ha : args.length < 1099511627776) : Gives Try.prog 22 [.agg (encHeap H), iv s, iv m, iv r, iv home, .sl 1 (encInts args)]
    (.tup [.agg (encHeap (newHp H s m r home args)), iv (newV H s m r home args), iv (newE H s m r home args)]) := by
  by_cases hE : newE H s m r home args = 0
  · exact New_yes_ok H hi s m r home args ha hE
  · exact New_no H hi s m r home args ha hE
end Go.Proofs.Ytbmldjcddpblnaa
namespace Go.Proofs.Ytbmldjcddpblnaa
open Go Go.Proofs AW
def nHk (H : HHeap) (l : List Int) (k : Nat) : HHeap := ⟨H.objs ++ [{ newObj H 12 0 22 with slots := l.take k ++ List.replicate (22 - k) 0 }], H.cap, nextI H.last⟩
theorem nHk_zero {H : HHeap} {l : List Int} (h0 : allocE H 12 0 22 = 0) : nHk H l 0 = allocH H 12 0 22 := by
  rw [allocH, if_pos h0]; rfl
theorem take_set {l : List Int} {k n : Nat} {x : Int} (hx : l[k]? = some x) (hk : k < n) : (l.take k ++ List.replicate (n - k) 0).set k x = l.take (k + 1) ++ List.replicate (n - (k + 1)) 0 := by
  have hl : k < l.length := (List.getElem?_eq_some_iff.1 hx).1
  have h1 : (l.take k).length = k := by simp; omega
  rw [List.set_append_right _ _ (by omega), h1, Nat.sub_self, show n - k = (n - (k + 1)) + 1 by omega, List.replicate_succ]
  simp [List.take_add_one, hx]
theorem nHk_set {H : HHeap} {l : List Int} {k : Nat} {x : Int} (hn : H.objs.length ≤ 256) (hm : mayH (nHk H l k) = true) (hx : l[k]? = some x) (hk : k < 22) (hb : hasB ((H.objs.length : Int) + 1) x = true) :
    setE (nHk H l k) (2 * (H.objs.length : Int)) k x = 0 ∧ setH (nHk H l k) (2 * (H.objs.length : Int)) k x = nHk H l (k + 1) := by
  have hlen : (nHk H l k).objs.length = H.objs.length + 1 := by simp [nHk]
  have hat : isAt (2 * (H.objs.length : Int)) = true := by simp [isAt]; omega
  have href : (nHk H l k).ref (2 * (H.objs.length : Int)) = H.objs.length := by
    simp only [HHeap.ref, refI]
    rw [if_pos ⟨hat, by rw [hlen]; omega⟩]; omega
  have hgt : (nHk H l k).at' (2 * (H.objs.length : Int)) = { newObj H 12 0 22 with slots := l.take k ++ List.replicate (22 - k) 0 } := by
    rw [HHeap.at', href]; simp [nHk]
  have hkl : k < l.length := (List.getElem?_eq_some_iff.1 hx).1
  have hsl : (l.take k ++ List.replicate (22 - k) (0 : Int)).length = 22 := by simp; omega
  have hw : wrongE (nHk H l k) (2 * (H.objs.length : Int)) 0 k = 0 := by
    rw [wrongE, hm, href, hgt]
    simp only [hsl]
    rw [if_neg (by decide), if_neg (by omega), if_neg (by simp [newObj]), if_neg (by omega)]
  have hE : setE (nHk H l k) (2 * (H.objs.length : Int)) k x = 0 := by
    rw [setE, if_pos hw, hlen, if_pos (by simpa using hb)]
  refine ⟨hE, ?_⟩
  rw [setH, if_pos hE, href, hgt]
  simp only [HHeap.put, nHk, Int.toNat_natCast, take_set hx hk]
  congr 1
  rw [List.set_append_right _ _ (by simp)]
  simp
theorem nHk_may {H : HHeap} {l : List Int} (h0 : allocE H 12 0 22 = 0) (hl : l.length ≤ 22) (hb : ∀ x ∈ l, hasB ((H.objs.length : Int) + 1) x = true) : ∀ k, k ≤ l.length → mayH (nHk H l k) = true
  | 0, _ => by rw [nHk_zero h0]; exact allocH_may h0
  | k + 1, hk => by
    have ih := nHk_may h0 hl hb k (by omega)
    have hx : l[k]? = some l[k] := List.getElem?_eq_getElem (by omega)
    have hn := mayH_len (alloc0 h0).1
    obtain ⟨h1, h2⟩ := nHk_set hn.1 ih hx (by omega) (hb _ (List.getElem_mem _))
    rw [← h2]; exact setH_may h1
def newLs (H : HHeap) (s m r home : Int) (args : List Int) : List Int := [s, 1, 2 * (mthX H m).temps + 1, m, r, if home = 0 then 2 * (H.objs.length : Int) else home] ++ args
theorem nHk_all {H : HHeap} {s m r home : Int} {args : List Int} (ha : args.length ≤ 16) : nHk H (newLs H s m r home args) (newLs H s m r home args).length = ⟨H.objs ++ [{ newObj H 12 0 22 with slots := newSl H s m r home args }], H.cap, nextI H.last⟩ := by
  have h1 : (newLs H s m r home args).length = 6 + args.length := by simp [newLs]; omega
  rw [nHk, List.take_length, h1]
  simp only [newSl, newLs, show 22 - (6 + args.length) = 16 - args.length by omega]
theorem hasN {n k : Int} (h : -1073741824 ≤ k ∧ k ≤ 1073741823) : hasB n (2 * k + 1) = true := by
  have : isN (2 * k + 1) = true := by simp [isN]; omega
  simp [hasB, this]
theorem has_ref {H : HHeap} {v : Int} (h : 0 ≤ H.ref v) : hasB ((H.objs.length : Int) + 1) v = true := by
  have h1 : hasB (H.objs.length : Int) v = true := by simp only [hasB]; rw [decide_eq_true (show 0 ≤ refI H.objs.length v from h)]; simp
  exact hasB_mono (by omega) h1
theorem newLs_has {H : HHeap} {s m r home : Int} {args : List Int} (h : newE H s m r home args = 0) : ∀ x ∈ newLs H s m r home args, hasB ((H.objs.length : Int) + 1) x = true := by
  obtain ⟨hm, hn, hs, hh, hr, hl, h7, h0⟩ := new_yes h
  have hmth : mthB H m = true := by simp only [methB, Bool.and_eq_true] at hm; exact hm.2
  obtain ⟨a0, a1, a2, a3⟩ := mth_args hmth
  have h256 := mayH_len (alloc0 h0).1
  have hmr : 0 ≤ H.ref m := by
    simp only [mthB, Bool.and_eq_true, decide_eq_true_eq] at hmth
    exact hmth.1.1.1
  intro x hx
  simp only [newLs, List.cons_append, List.nil_append, List.mem_cons] at hx
  rcases hx with rfl | rfl | rfl | rfl | rfl | rfl | hx
  · exact has_ref hs
  · exact hasN (k := 0) (by omega)
  · exact hasN (by omega)
  · exact has_ref hmr
  · exact hasB_mono (by omega) hr
  · split
    · have : isAt (2 * (H.objs.length : Int)) = true := by simp [isAt]; omega
      have h2 : 0 ≤ refI ((H.objs.length : Int) + 1) (2 * (H.objs.length : Int)) := by
        simp only [refI]; rw [if_pos ⟨this, by omega⟩]; omega
      simp only [hasB]; rw [decide_eq_true h2]; simp
    · exact has_ref hh
  · exact hasB_mono (by omega) (List.all_eq_true.1 hl x hx)
end Go.Proofs.Ytbmldjcddpblnaa
