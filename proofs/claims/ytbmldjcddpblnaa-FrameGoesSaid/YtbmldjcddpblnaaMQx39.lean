/- What the statements' walks need. -/
import Derived.Test.YtbmldjcddpblnaaMQa4
import Derived.Test.YtbmldjcddpblnaaMQx37
import Derived.Test.YtbmldjcddpblnaaMQx38
set_option linter.unusedVariables false
set_option linter.unusedSimpArgs false
set_option maxRecDepth 100000
namespace Go.Proofs.Ytbmldjcddpblnaa
open Go Go.Proofs AW
theorem cok_of {T : Nat → Ob} {es : List (List AV)} (h : (es.all fun c => c.all (cok1 T)) = true) : ∀ c ∈ es, ∀ y ∈ c, cok1 T y = true := fun c hc y hy => List.all_eq_true.1 (List.all_eq_true.1 h c hc) y hy
def zObj : HObj := ⟨0, 0, [], ⟨#[]⟩, 0, 0⟩
def litH : HHeap := ⟨List.replicate 7 zObj ++ [⟨0, 0, [1, 3, 5, 16, 18], ⟨#[]⟩, 0, 0⟩, ⟨0, 1, [], ⟨#[2, 1, 14, 0]⟩, 0, 0⟩, ⟨0, 0, [7], ⟨#[]⟩, 0, 0⟩], 12, 0⟩
def zC : List AV := [iv 0, iv 0, .v (.slice none 0 0), sv ⟨#[]⟩, iv 0, iv 0]
def litT (k : Nat) : List (Nat × Ob) := [(0, .live 24 3 [[.v (.slice none 0 0), iv 0, iv 0]]), (1, .live 24 3 [[.own 4, iv 12, iv 0]]), (4, .live 59 6 (List.replicate k zC))]
theorem noOwn_zC (k : Nat) : ∀ c ∈ List.replicate k zC, ∀ x ∈ c, NoOwn x := by
  intro c hc x hx
  rw [List.eq_of_mem_replicate hc] at hx
  simp only [zC, List.mem_cons, List.not_mem_nil, or_false] at hx
  rcases hx with rfl | rfl | rfl | rfl | rfl | rfl <;> exact .v _
set_option maxHeartbeats 4000000 in
theorem little_ok : Gives Try.prog 47 [] (.agg (encHeap litH)) := by
  refine gives_of Try.func47 rfl (Nat.le_of_ble_eq_true rfl) ?_
  (repeat' (first | refine asg ?_ | refine so ?_ | refine bd ?_ | refine aops_nil ?_ | refine aw_seq ?_ | refine aw_region ?_ | refine aw_block ?_ | refine al 0 ?_ | refine al 1 ?_ | fail))
  refine AWp.ent (ent_nilT 4 59 6 (i := 1) (r := 0) rfl rfl rfl) ?_
  refine aw_for 7 (fun k => k ≤ 7) (fun k => ⟨[(2, iv (k : Int)), (0, .ptr 0 0 0), (1, .ptr 1 0 0)], tb (litT k)⟩) 0 (by omega) ?_ ?_
  · refine ent_tb id (litT 0) ?_ ?_ <;> (repeat' (first | exact trivial | exact fz_v _ | exact fz_own rfl (ne_live rfl) | exact .ptr _ _ _ _ rfl (ne_live rfl) | refine .same _ _ [] rfl rfl (by simp) | refine ⟨_, rfl, ?_⟩ | refine ⟨?_, ?_⟩ | refine .one _ _ _ _ rfl rfl ?_ | fail))
  intro k hk
  (repeat' (first | refine mv ?_ | refine bi ?_ | refine aops_nil ?_ | refine aw_seq ?_ | refine aw_region ?_ | fail))
  refine aw_cond rfl (fun h => ?_) (fun h => ?_) <;> simp at h
  · have hl : (List.replicate k zC).length < 1099511627776 := by simp; omega
    (repeat' (first | refine mv ?_ | refine asg ?_ | refine ld ?_ | refine fp ?_ | refine bw ?_ | refine so ?_ | refine bd ?_ | refine aops_nil ?_ | refine aw_seq ?_ | refine aw_region ?_ | refine aw_block ?_ | refine aw_skip ?_ | refine li 5 ?_ | refine ap1 6 ?_ (hl := hl) | fail))
    refine ⟨by omega, by omega, ?_⟩
    refine ent_tb (nm [(4, 6)]) (litT (k + 1)) ⟨.one _ _ _ _ rfl rfl ⟨fz_v _, fz_v _, fz_v _, trivial⟩, .one _ _ _ _ rfl rfl ⟨fz_own rfl (ne_live rfl), fz_v _, fz_v _, trivial⟩, .same _ _ (List.replicate k zC ++ [zC]) rfl ?_ ?_, trivial⟩
      ⟨⟨_, rfl, fz_v _⟩, ⟨_, rfl, .ptr 0 0 0 0 rfl (ne_live rfl)⟩, ⟨_, rfl, .ptr 1 1 0 0 rfl (ne_live rfl)⟩, trivial⟩
    · show Ob.live _ 6 (List.replicate (k + 1) zC) = _
      rw [List.replicate_succ']
    · rw [← List.replicate_succ']; exact noOwn_zC _
  · have hk7 : k = 7 := by omega
    subst hk7
    (repeat' (first | refine ld ?_ | refine fp ?_ | refine bd ?_ | refine aw_seq ?_ | refine aw_region ?_ | refine aw_exit ?_ | refine li 5 ?_ | refine li 6 ?_ | refine li 7 ?_ | fail))
    refine ap (by_ := 72) (es := List.replicate 7 zC) (es2 := [[iv 0, iv 0, .own 5, sv ⟨#[]⟩, iv 0, iv 0], [iv 0, iv 1, .v (.slice none 0 0), sv ⟨#[2, 1, 14, 0]⟩, iv 0, iv 0], [iv 0, iv 0, .own 6, sv ⟨#[]⟩, iv 0, iv 0]]) 8 rfl (cok_of rfl) (by decide) (by decide) ?_
    (repeat' (first | refine fp ?_ | refine la ?_ | refine so ?_ | refine aops_nil ?_ | refine aw_seq ?_ | refine aw_region ?_ | refine aw_ret ?_ | fail))
    refine fin (sh_agg (l := [.own 8, iv 12, iv 0]) ⟨?_, .same _ (.v _), .same _ (.v _), trivial⟩)
    refine sh_rows (e := 59) (es := List.replicate 7 zC ++ [[iv 0, iv 0, .own 5, sv ⟨#[]⟩, iv 0, iv 0], [iv 0, iv 1, .v (.slice none 0 0), sv ⟨#[2, 1, 14, 0]⟩, iv 0, iv 0], [iv 0, iv 0, .own 6, sv ⟨#[]⟩, iv 0, iv 0]]) rfl rfl (fun c hc => len_obj hc) fun q c c' hq hq' => ?_
    have hz : ∀ T, ShL T zC (encObj zObj) := fun T => ⟨.same _ (.v _), .same _ (.v _), .nil 1, .same _ (.v _), .same _ (.v _), .same _ (.v _), trivial⟩
    match q, hq, hq' with
    | 0, hq, hq' | 1, hq, hq' | 2, hq, hq' | 3, hq, hq' | 4, hq, hq' | 5, hq, hq' | 6, hq, hq' => cases hq; cases hq'; exact hz _
    | 7, hq, hq' => cases hq; cases hq'; exact ⟨.same _ (.v _), .same _ (.v _), sh_ints (l := [1, 3, 5, 16, 18]) rfl, .same _ (.v _), .same _ (.v _), .same _ (.v _), trivial⟩
    | 8, hq, hq' => cases hq; cases hq'; exact ⟨.same _ (.v _), .same _ (.v _), .nil 1, .same _ (.v _), .same _ (.v _), .same _ (.v _), trivial⟩
    | 9, hq, hq' => cases hq; cases hq'; exact ⟨.same _ (.v _), .same _ (.v _), sh_ints (l := [7]) rfl, .same _ (.v _), .same _ (.v _), .same _ (.v _), trivial⟩
    | q + 10, hq, hq' => cases hq
end Go.Proofs.Ytbmldjcddpblnaa
namespace Go.Proofs.Ytbmldjcddpblnaa
open Go Go.Proofs AW
theorem rNew_ok (H : HHeap) (hi : H.In) (s m r home : Int) (args : List Int) (ha : args.length < 1099511627776) : Gives Try.prog 23 [.agg (encHeap H), iv s, iv m, iv r, iv home, .sl 1 (encInts args)]
    (.tup [.agg (encHeap (newHp H s m r home args)), iv (newV H s m r home args), iv (newE H s m r home args)]) := by
  by_cases hE : newE H s m r home args = 0
  · exact rNew_yes_ok H hi s m r home args ha hE
  · exact rNew_no H hi s m r home args ha hE
theorem nHk_in {H : HHeap} (hi : H.In) {l : List Int} (h0 : allocE H 12 0 22 = 0) (hl : l.length ≤ 22) (hb : ∀ x ∈ l, hasB ((H.objs.length : Int) + 1) x = true) : ∀ k, k ≤ l.length → (nHk H l k).In := by
  intro k
  have h256 := mayH_len (alloc0 h0).1
  induction k with
  | zero => intro _; rw [nHk_zero h0]; exact allocH_in hi
  | succ k ih =>
    intro hk
    have hx : l[k]? = some l[k] := List.getElem?_eq_getElem (by omega)
    rw [← (nHk_set h256.1 (nHk_may h0 hl hb k (by omega)) hx (by omega) (hb _ (List.getElem_mem _))).2]
    exact setH_in (ih (by omega))
theorem newLs_len {H : HHeap} {s m r home : Int} {args : List Int} (h : newE H s m r home args = 0) : (newLs H s m r home args).length = 6 + args.length ∧ args.length ≤ 4 := by
  obtain ⟨hm, hn, _⟩ := new_yes h
  have hmth : mthB H m = true := by simp only [methB, Bool.and_eq_true] at hm; exact hm.2
  obtain ⟨a0, a1, a2, a3⟩ := mth_args hmth
  exact ⟨by simp [newLs]; omega, by omega⟩
theorem newHp_eq {H : HHeap} {s m r home : Int} {args : List Int} (h : newE H s m r home args = 0) : newHp H s m r home args = nHk H (newLs H s m r home args) (newLs H s m r home args).length := by
  rw [nHk_all (by have := (newLs_len h).2; omega), newHp, if_pos h]
theorem newHp_in {H : HHeap} (hi : H.In) {s m r home : Int} {args : List Int} : (newHp H s m r home args).In := by
  by_cases h : newE H s m r home args = 0
  · have h1 := newLs_len h
    rw [newHp_eq h]
    exact nHk_in hi (new_yes h).2.2.2.2.2.2.2 (by omega) (newLs_has h) _ (Nat.le_refl _)
  · rw [newHp, if_neg h]; exact hi
theorem newHp_may {H : HHeap} {s m r home : Int} {args : List Int} (h : newE H s m r home args = 0) : mayH (newHp H s m r home args) = true := by
  have h1 := newLs_len h
  rw [newHp_eq h]
  exact nHk_may (new_yes h).2.2.2.2.2.2.2 (by omega) (newLs_has h) _ (Nat.le_refl _)
theorem pushH_in {H : HHeap} (hi : H.In) {c v : Int} : (pushH H c v).In := by
  rw [pushH]; split
  · exact putL_in hi _ _
  · exact hi
theorem popH_in {H : HHeap} (hi : H.In) {c : Int} : (popH H c).In := by
  rw [popH]; split
  · exact putL_in hi _ _
  · exact hi
theorem sTmpH_in {H : HHeap} (hi : H.In) {c k v : Int} : (sTmpH H c k v).In := by
  rw [sTmpH]; split
  · exact putL_in hi _ _
  · exact hi
theorem goH_in {H : HHeap} (hi : H.In) {c ip : Int} : (goH H c ip).In := by
  rw [goH]; split
  · exact putL_in hi _ _
  · exact hi
theorem in_lit : litH.In := by simp [litH, zObj, HHeap.In, HObj.In, In64] <;> decide
def fxG : HHeap := newHp litH 0 14 7 0 [9]
def fxP : HHeap := pushH fxG 20 11
def fxO : HHeap := popH fxP 20
def fxN : HHeap := goH fxO 20 1
theorem in_fxG : fxG.In := newHp_in in_lit
theorem in_fxP : fxP.In := pushH_in in_fxG
theorem in_fxO : fxO.In := popH_in in_fxP
theorem in_fxN : fxN.In := goH_in in_fxO
theorem fx1 : Gives Try.prog 13 [.agg (encHeap litH), iv 14] (.tup [.agg (encMethod ⟨0, 1, 2, [⟨2, 1⟩, ⟨14, 0⟩], [7]⟩), iv 0]) := (Method_ok litH in_lit 14).to' (by rw [show methM litH 14 = ⟨0, 1, 2, [⟨2, 1⟩, ⟨14, 0⟩], [7]⟩ by decide +kernel, show methE litH 14 = 0 by decide +kernel])
theorem fx2 : Gives Try.prog 22 [.agg (encHeap litH), iv 0, iv 14, iv 7, iv 0, .sl 1 (encInts [9])] (.tup [.agg (encHeap fxG), iv 20, iv 0]) :=
  (New_ok litH in_lit 0 14 7 0 [9] (by decide)).to' (by rw [show newV litH 0 14 7 0 [9] = 20 by decide +kernel, show newE litH 0 14 7 0 [9] = 0 by decide +kernel]; rfl)
theorem fx3 : Gives Try.prog 20 [.agg (encHeap fxG), iv 20] (bv true) := (FMay_ok fxG in_fxG 20).to' (by rw [show ctxB fxG 20 = true by decide +kernel])
theorem fx4 : Gives Try.prog 20 [.agg (encHeap fxG), iv 14] (bv false) := (FMay_ok fxG in_fxG 14).to' (by rw [show ctxB fxG 14 = false by decide +kernel])
theorem fx5 : Gives Try.prog 26 [.agg (encHeap fxG), iv 20, iv 11] (.tup [.agg (encHeap fxP), iv 0]) := (Push_ok fxG in_fxG 20 11).to' (by rw [show pushE fxG 20 11 = 0 by decide +kernel]; rfl)
theorem fx6 : Gives Try.prog 27 [.agg (encHeap fxP), iv 20] (.tup [.agg (encHeap fxO), iv 11, iv 0]) := (Pop_ok fxP in_fxP 20).to' (by rw [show popE fxP 20 = 0 by decide +kernel, show popV fxP 20 = 11 by decide +kernel]; rfl)
theorem fx7 : Gives Try.prog 27 [.agg (encHeap fxO), iv 20] (.tup [.agg (encHeap fxO), iv 0, iv 121]) := (Pop_ok fxO in_fxO 20).to' (by rw [show popE fxO 20 = 121 by decide +kernel, show popV fxO 20 = 0 by decide +kernel, show popH fxO 20 = fxO by decide +kernel])
theorem fx8 : Gives Try.prog 17 [.agg (encHeap fxO), iv 20, iv 0] (.tup [iv 9, iv 0]) := (Temp_ok fxO in_fxO 20 0).to' (by rw [show tempI fxO 20 0 = 9 by decide +kernel, show tempE fxO 20 0 = 0 by decide +kernel])
theorem fx9 : Gives Try.prog 31 [.agg (encHeap fxO), iv 20, iv 1] (.tup [.agg (encHeap fxN), iv 0]) := (Go_ok fxO in_fxO 20 1).to' (by rw [show goE fxO 20 1 = 0 by decide +kernel]; rfl)
theorem fx10 : Gives Try.prog 15 [.agg (encHeap fxN), iv 20] (.tup [iv 1, .agg (encInstr ⟨14, 0⟩), iv 0]) := (At_f_ok fxN in_fxN 20).to' (by rw [show atP fxN 20 = 1 by decide +kernel, show atN fxN 20 = ⟨14, 0⟩ by decide +kernel, show atE fxN 20 = 0 by decide +kernel])
theorem fx11 : Gives Try.prog 22 [.agg (encHeap litH), iv 0, iv 14, iv 7, iv 0, .sl 1 (encInts [])] (.tup [.agg (encHeap litH), iv 0, iv 120]) :=
  (New_ok litH in_lit 0 14 7 0 [] (by decide)).to' (by rw [show newV litH 0 14 7 0 [] = 0 by decide +kernel, show newE litH 0 14 7 0 [] = 120 by decide +kernel, show newHp litH 0 14 7 0 [] = litH by decide +kernel])
theorem fx12 : Gives Try.prog 26 [.agg (encHeap fxN), iv 0, iv 1] (.tup [.agg (encHeap fxN), iv 120]) := (Push_ok fxN in_fxN 0 1).to' (by rw [show pushE fxN 0 1 = 120 by decide +kernel, show pushH fxN 0 1 = fxN by decide +kernel])
end Go.Proofs.Ytbmldjcddpblnaa
