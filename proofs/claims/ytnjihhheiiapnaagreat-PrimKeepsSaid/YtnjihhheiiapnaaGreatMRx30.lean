/- What the statements' walks need. -/
import Derived.Test.YtnjihhheiiapnaaGreatMRa4
import Derived.Test.YtnjihhheiiapnaaGreatMRx29
set_option linter.unusedVariables false
set_option linter.unusedSimpArgs false
set_option maxRecDepth 100000
namespace Go.Proofs.YtnjihhheiiapnaaGreat
open Go Go.Proofs AW
theorem at_may {H : HHeap} (hm : mayH H = true) {v : Int} (h : 0 ≤ H.ref v) : mayObj H.objs.length (H.at' v) = true := by
  have h1 := at_get h
  simp only [mayH, Bool.and_eq_true, List.all_eq_true] at hm
  exact hm.2 _ (List.mem_of_getElem? h1)
theorem okV_facts {H : HHeap} {s : Int} {a : List Int} (h : okV H s a = true) : mayH H = true ∧ 12 ≤ H.objs.length ∧ hasB H.objs.length s = true ∧ a.all (hasB H.objs.length) = true := by
  simp only [okV, Bool.and_eq_true, decide_eq_true_eq] at h
  exact ⟨h.1.1.1, h.1.1.2, h.1.2, h.2⟩
theorem has_cases {H : HHeap} {s : Int} (h : hasB H.objs.length s = true) : (isN s = true ∧ isAt s = false) ∨ (isN s = false ∧ 0 ≤ H.ref s) := by
  simp only [hasB, Bool.or_eq_true, decide_eq_true_eq] at h
  cases hn : isN s with
  | true => left; refine ⟨rfl, ?_⟩; simp [isN] at hn; simp [isAt]; omega
  | false => right; refine ⟨rfl, ?_⟩; rw [hn] at h; simpa [HHeap.ref] using h
def sizeV (H : HHeap) (s : Int) : AV := if isN s = false ∧ (H.at' s).kind ≠ 2 then doV H (((H.at' s).slots.length + (H.at' s).text.size : Int) * 2 + 1) 0 else doV H 0 130
theorem Do_10 (H : HHeap) (hi : H.In) (s : Int) (hok : okV H s [] = true) : Gives Tryz.prog 11 [.agg (encHeap H), iv 10, iv s, .sl 1 (encInts [])] (sizeV H s) := by
  obtain ⟨o1, o2, o3, o4⟩ := okV_facts hok
  rcases has_cases o3 with ⟨h1, h2⟩ | ⟨h1, h2⟩
  · rw [sizeV, if_neg (by rw [h1]; simp)]
    exact Do_fail H hi s _ [] (k := 9) (n := 0) rfl rfl trivial hok rfl (by omega) (size_f1 H s h2)
  · by_cases hk : (H.at' s).kind = 2
    · rw [sizeV, if_neg (fun e => e.2 hk)]
      exact Do_fail H hi s _ [] (k := 9) (n := 0) rfl rfl trivial hok rfl (by omega) (size_f2 H s h2 hk)
    · have hm := at_may o1 h2
      simp only [mayObj, restB, Bool.and_eq_true, decide_eq_true_eq] at hm
      rw [sizeV, if_pos ⟨h1, hk⟩]
      exact Do_yes H H hi s _ [] (k := 9) (n := 0) rfl rfl trivial hok rfl (by omega) (size_y H s h2 hk hm.2.2.1.1 hm.2.2.1.2.1)
def hashV (H : HHeap) (s : Int) : AV := if isN s = true then doV H s 0 else doV H ((H.at' s).hash * 2 + 1) 0
theorem Do_15 (H : HHeap) (hi : H.In) (s : Int) (hok : okV H s [] = true) : Gives Tryz.prog 11 [.agg (encHeap H), iv 15, iv s, .sl 1 (encInts [])] (hashV H s) := by
  obtain ⟨o1, o2, o3, o4⟩ := okV_facts hok
  rcases has_cases o3 with ⟨h1, h2⟩ | ⟨h1, h2⟩
  · rw [hashV, if_pos h1]
    exact Do_yes H H hi s _ [] (k := 14) (n := 0) rfl rfl trivial hok rfl (by omega) (hash_n H s h1)
  · have hm := at_may o1 h2
    simp only [mayObj, headB, Bool.and_eq_true, decide_eq_true_eq] at hm
    rw [hashV, if_neg (by rw [h1]; simp)]
    exact Do_yes H H hi s _ [] (k := 14) (n := 0) rfl rfl trivial hok rfl (by omega) (hash_y H s h1 h2 (by simp [smallB]; omega))
theorem alloc_cases {H : HHeap} (hm : mayH H = true) {s kind size : Int} (hs : 0 ≤ H.ref s) (hk : kind = 0 ∨ kind = 1) (hz : 0 ≤ size ∧ size ≤ 64) : allocE H s kind size = 0 ∨ allocE H s kind size = 30 := by
  have hs' : ¬ refI H.objs.length s < 0 := by simp [HHeap.ref] at hs; omega
  unfold allocE
  rw [if_pos hm, if_neg hs', if_neg (by omega), if_neg (by omega)]
  split
  · exact .inr rfl
  · exact .inl rfl
def newV (H : HHeap) (s kind size : Int) : AV := if allocE H s kind size = 0 then doV (allocH H s kind size) (2 * H.objs.length) 0 else doV H 0 30
def freshV (H : HHeap) (s : Int) : AV := if clsB H s = true then newV H s 0 (szF H s) else doV H 0 130
theorem Do_11 (H : HHeap) (hi : H.In) (s : Int) (hok : okV H s [] = true) : Gives Tryz.prog 11 [.agg (encHeap H), iv 11, iv s, .sl 1 (encInts [])] (freshV H s) := by
  obtain ⟨o1, o2, o3, o4⟩ := okV_facts hok
  cases hc : clsB H s with
  | false =>
    rw [freshV, if_neg (by rw [hc]; simp)]
    exact Do_fail H hi s _ [] (k := 10) (n := 0) rfl rfl trivial hok rfl (by omega) (fresh_f1 H hi s (by rw [o1, hc]; rfl))
  | true =>
    have hb : (mayH H && clsB H s) = true := by rw [o1, hc]; rfl
    obtain ⟨f1, f2, f3, f4, f5, f6, f7⟩ := cls_facts hc
    rw [freshV, if_pos hc]
    rcases alloc_cases o1 f1 (.inl rfl) ⟨f6, f7⟩ with he | he
    · rw [newV, if_pos he]
      exact Do_yes H _ hi s _ [] (k := 10) (n := 0) rfl rfl trivial hok rfl (by omega) (fresh_y H hi s hb he)
    · rw [newV, if_neg (by rw [he]; decide)]
      exact Do_fail H hi s _ [] (k := 10) (n := 0) rfl rfl trivial hok rfl (by omega) (fresh_f2 H hi s hb he)
def sizedV (H : HHeap) (kind s x : Int) : AV := if clsB H s = true ∧ isN x = true then (if allocE H s kind (nI x) = 0 then doV (allocH H s kind (nI x)) (2 * H.objs.length) 0 else if allocE H s kind (nI x) = 30 then doV H 0 30 else doV H 0 130) else doV H 0 130
theorem sized_do {k : Nat} {kind : Int} {f : Nat} (hk : primRows[k]? = some [iv ((1 : Nat) : Int), .clo f []]) (hg : goFn Tryz.prog f = true) (H : HHeap) (hi : H.In) (s x : Int) (hok : okV H s [x] = true)
    (hf : ∀ e, Fails Tryz.prog 68 (cR H s [x]) [.ptr 1000 0 0, iv kind] (failV e) → Fails Tryz.prog f (cR H s [x]) [.ptr 1000 0 0] (failV e))
    (hy : ∀ y G, Mut Tryz.prog 68 (cR H s [x]) [.ptr 1000 0 0, iv kind] (iv y) (cR G s [x]) → Mut Tryz.prog f (cR H s [x]) [.ptr 1000 0 0] (iv y) (cR G s [x])) :
    Gives Tryz.prog 11 [.agg (encHeap H), iv ((k : Int) + 1), iv s, .sl 1 (encInts [x])] (sizedV H kind s x) := by
  obtain ⟨o1, o2, o3, o4⟩ := okV_facts hok
  cases hc : clsB H s with
  | false =>
    rw [sizedV, if_neg (by rw [hc]; simp)]
    exact Do_fail H hi s _ [x] hk hg trivial hok rfl (by omega) (hf _ (sized_f1 H hi kind s x (by rw [o1, hc]; rfl)))
  | true =>
    have hb : (mayH H && clsB H s) = true := by rw [o1, hc]; rfl
    cases hx : isN x with
    | false =>
      rw [sizedV, if_neg (by rw [hx]; simp)]
      exact Do_fail H hi s _ [x] hk hg trivial hok rfl (by omega) (hf _ (sized_f2 H hi kind s x hb hx))
    | true =>
      rw [sizedV, if_pos ⟨hc, hx⟩]
      by_cases he : allocE H s kind (nI x) = 0
      · rw [if_pos he]
        exact Do_yes H _ hi s _ [x] hk hg trivial hok rfl (by omega) (hy _ _ (sized_y H hi kind s x hb hx he))
      · rw [if_neg he]
        by_cases he2 : allocE H s kind (nI x) = 30
        · rw [if_pos he2]
          exact Do_fail H hi s _ [x] hk hg trivial hok rfl (by omega) (hf _ (sized_f H hi kind s x 30 hb hx (palloc_full H hi s [x] s kind (nI x) he2)))
        · rw [if_neg he2]
          exact Do_fail H hi s _ [x] hk hg trivial hok rfl (by omega) (hf _ (sized_f H hi kind s x 130 hb hx (palloc_no H hi s [x] s kind (nI x) he he2)))
theorem Do_12 (H : HHeap) (hi : H.In) (s x : Int) (hok : okV H s [x] = true) : Gives Tryz.prog 11 [.agg (encHeap H), iv 12, iv s, .sl 1 (encInts [x])] (sizedV H 0 s x) :=
  sized_do (k := 11) rfl rfl H hi s x hok (fun e h => pr7_f H s x e h) (fun y G h => pr7_y H s x y G h)
theorem Do_27 (H : HHeap) (hi : H.In) (s x : Int) (hok : okV H s [x] = true) : Gives Tryz.prog 11 [.agg (encHeap H), iv 27, iv s, .sl 1 (encInts [x])] (sizedV H 1 s x) :=
  sized_do (k := 26) rfl rfl H hi s x hok (fun e h => pr12_f H s x e h) (fun y G h => pr12_y H s x y G h)
end Go.Proofs.YtnjihhheiiapnaaGreat
namespace Go.Proofs.YtnjihhheiiapnaaGreat
open Go Go.Proofs AW
def lessV (H : HHeap) (s x : Int) : AV := if isN s = true ∧ isN x = true then doV H (truI (decide (nI s < nI x))) 0 else doV H 0 130
theorem Do_6 (H : HHeap) (hi : H.In) (s x : Int) (hok : okV H s [x] = true) : Gives Tryz.prog 11 [.agg (encHeap H), iv 6, iv s, .sl 1 (encInts [x])] (lessV H s x) := by
  by_cases h : isN s = true ∧ isN x = true
  · rw [lessV, if_pos h]
    exact Do_yes H H hi s _ [x] (k := 5) (n := 1) rfl rfl trivial hok rfl (by omega) (pr5_y H s x h.1 h.2)
  · rw [lessV, if_neg h]
    exact Do_fail H hi s _ [x] (k := 5) (n := 1) rfl rfl trivial hok rfl (by omega) (pr5_f H s x h)
def sameV (H : HHeap) (s x : Int) : AV := if isN s = true ∧ isN x = true then doV H (truI (nI s == nI x)) 0 else doV H 0 130
theorem Do_7 (H : HHeap) (hi : H.In) (s x : Int) (hok : okV H s [x] = true) : Gives Tryz.prog 11 [.agg (encHeap H), iv 7, iv s, .sl 1 (encInts [x])] (sameV H s x) := by
  by_cases h : isN s = true ∧ isN x = true
  · rw [sameV, if_pos h]
    exact Do_yes H H hi s _ [x] (k := 6) (n := 1) rfl rfl trivial hok rfl (by omega) (pr6_y H s x h.1 h.2)
  · rw [sameV, if_neg h]
    exact Do_fail H hi s _ [x] (k := 6) (n := 1) rfl rfl trivial hok rfl (by omega) (pr6_f H s x h)
theorem Do_14 (H : HHeap) (hi : H.In) (s x : Int) (hok : okV H s [x] = true) : Gives Tryz.prog 11 [.agg (encHeap H), iv 14, iv s, .sl 1 (encInts [x])] (doV H (truI (s == x)) 0) :=
  Do_yes H H hi s _ [x] (k := 13) (n := 1) rfl rfl trivial hok rfl (by omega) (pr8_y H s x)
def byteV (H : HHeap) (s x : Int) : AV := if isN x = true ∧ wrongE H s 1 (nI x - 1) = 0 then doV H (byteI H s (nI x - 1) * 2 + 1) 0 else doV H 0 130
theorem Do_25 (H : HHeap) (hi : H.In) (s x : Int) (hok : okV H s [x] = true) : Gives Tryz.prog 11 [.agg (encHeap H), iv 25, iv s, .sl 1 (encInts [x])] (byteV H s x) := by
  cases h : isN x with
  | false =>
    rw [byteV, if_neg (by rw [h]; simp)]
    exact Do_fail H hi s _ [x] (k := 24) (n := 1) rfl rfl trivial hok rfl (by omega) (byteAt_f1 H s x h)
  | true =>
    by_cases hw : wrongE H s 1 (nI x - 1) = 0
    · rw [byteV, if_pos ⟨h, hw⟩]
      exact Do_yes H H hi s _ [x] (k := 24) (n := 1) rfl rfl trivial hok rfl (by omega) (byteAt_y H hi s x h hw)
    · rw [byteV, if_neg (fun e => hw e.2)]
      exact Do_fail H hi s _ [x] (k := 24) (n := 1) rfl rfl trivial hok rfl (by omega) (byteAt_f2 H hi s x h hw)
def putbV (H : HHeap) (s x y : Int) : AV := if (isN x = true ∧ isN y = true) ∧ setByteE H s (nI x - 1) (nI y) = 0 then doV (setByteH H s (nI x - 1) (nI y)) y 0 else doV H 0 130
theorem setByteE_cases (H : HHeap) (s a y : Int) : setByteE H s a y ≠ 30 := by
  unfold setByteE wrongE
  repeat' split
  all_goals decide
theorem Do_26 (H : HHeap) (hi : H.In) (s x y : Int) (hok : okV H s [x, y] = true) : Gives Tryz.prog 11 [.agg (encHeap H), iv 26, iv s, .sl 1 (encInts [x, y])] (putbV H s x y) := by
  by_cases h : isN x = true ∧ isN y = true
  · by_cases hw : setByteE H s (nI x - 1) (nI y) = 0
    · rw [putbV, if_pos ⟨h, hw⟩]
      exact Do_yes H _ hi s _ [x, y] (k := 25) (n := 2) rfl rfl trivial hok rfl (by omega) (bytePut_y H hi s x y h.1 h.2 hw)
    · rw [putbV, if_neg (fun e => hw e.2)]
      exact Do_fail H hi s _ [x, y] (k := 25) (n := 2) rfl rfl trivial hok rfl (by omega) (bytePut_f2 H hi s x y h.1 h.2 hw (setByteE_cases _ _ _ _))
  · rw [putbV, if_neg (fun e => h e.1)]
    exact Do_fail H hi s _ [x, y] (k := 25) (n := 2) rfl rfl trivial hok rfl (by omega) (bytePut_f1 H hi s x y h)
end Go.Proofs.YtnjihhheiiapnaaGreat
