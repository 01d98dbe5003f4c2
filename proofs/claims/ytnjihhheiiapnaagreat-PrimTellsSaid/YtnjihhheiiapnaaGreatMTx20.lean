/- What the statements' walks need. -/
import Derived.Test.YtnjihhheiiapnaaGreatMTa4
import Derived.Test.YtnjihhheiiapnaaGreatMTx19
set_option linter.unusedVariables false
set_option linter.unusedSimpArgs false
set_option maxRecDepth 100000
namespace Go.Proofs.YtnjihhheiiapnaaGreat
open Go Go.Proofs AW
theorem gives_sh {f : Nat} {args : List AV} {y : AV} (h : Ok Tryz.prog f args (fun x T => Sh T x y)) : Gives Tryz.prog f args y := by
  intro I0 w vs hI hvs
  refine (h I0 w vs hI hvs).mono ?_
  rintro e w' (hF | ⟨v, x, T, β, rfl, h1, h2, h3, h4⟩)
  · exact hF.elim
  · exact .inr ⟨v, y, noT, noβ, rfl, ⟨rfl, rfl⟩, h2, Objs.noT _, h1.rep h3 v h4⟩
theorem Do_err (H : HHeap) (hi : H.In) (num s : Int) (a : List Int) (hn : In64 num) (hl : a.length < 1099511627776) (h : okV H s a = false) :
    Gives Tryz.prog 11 [.agg (encHeap H), iv num, iv s, .sl 1 (encInts a)] (doV emptyH 0 1) :=
  gives_sh (Do_ok H hi num s a hn hl _ (fun _ => rfl) (fun e => by rw [h] at e; cases e) (fun e => by rw [h] at e; cases e))
theorem Do_args (H : HHeap) (hi : H.In) (num s : Int) (a : List Int) (hn : In64 num) (hl : a.length < 1099511627776) (h : okV H s a = true) (h2 : ¬ (argsB num = true ∧ argsI num = a.length)) :
    Gives Tryz.prog 11 [.agg (encHeap H), iv num, iv s, .sl 1 (encInts a)] (doV H 0 130) :=
  gives_sh (Do_ok H hi num s a hn hl _ (fun e => by rw [h] at e; cases e) (fun _ _ => rfl) (fun _ e1 e2 => absurd ⟨e1, e2⟩ h2))
theorem prim_num {k n f : Nat} {caps : List AV} (hk : primRows[k]? = some [iv n, .clo f caps]) : k < 27 ∧ argsI ((k : Int) + 1) = n ∧ argsB ((k : Int) + 1) = true := by
  have h1 : k < 27 := by have := (List.getElem?_eq_some_iff.1 hk).1; simpa [primRows] using this
  obtain ⟨c, hc, r, e⟩ := prim_args h1
  rw [hk] at hc
  cases hc
  have h2 : (n : Int) = argsL.getD k 0 := by
    have h3 := (List.cons.inj e).1
    injection h3 with h3
    injection h3 with _ h3
  refine ⟨h1, ?_, ?_⟩
  · rw [argsI, if_neg (by omega), h2]
    congr 1
    omega
  · simp [argsB]; omega
theorem Do_yes (H G : HHeap) (hi : H.In) (s v : Int) (a : List Int) {k n f : Nat} {caps : List AV} (hk : primRows[k]? = some [iv n, .clo f caps]) (hg : goFn Tryz.prog f = true) (hc : NoOwnL caps) (hok : okV H s a = true) (hl : a.length = n) (hn : n ≤ 2)
    (hM : Mut Tryz.prog f (cR H s a) ([.ptr 1000 0 0] ++ caps) (iv v) (cR G s a)) :
    Gives Tryz.prog 11 [.agg (encHeap H), iv ((k : Int) + 1), iv s, .sl 1 (encInts a)] (doV G v 0) := by
  obtain ⟨h1, h2, h3⟩ := prim_num hk
  exact gives_sh (Do_ok H hi _ s a ⟨by omega, by omega⟩ (by omega) _ (fun e => by rw [hok] at e; cases e) (fun _ e => absurd ⟨h3, by rw [h2, hl]⟩ e) (fun _ _ _ => ⟨k, n, f, caps, hk, rfl, hg, hc, .inl ⟨G, v, hM, rfl⟩⟩))
theorem Do_fail (H : HHeap) (hi : H.In) (s e : Int) (a : List Int) {k n f : Nat} {caps : List AV} (hk : primRows[k]? = some [iv n, .clo f caps]) (hg : goFn Tryz.prog f = true) (hc : NoOwnL caps) (hok : okV H s a = true) (hl : a.length = n) (hn : n ≤ 2)
    (hM : Fails Tryz.prog f (cR H s a) ([.ptr 1000 0 0] ++ caps) (failV e)) :
    Gives Tryz.prog 11 [.agg (encHeap H), iv ((k : Int) + 1), iv s, .sl 1 (encInts a)] (doV H 0 e) := by
  obtain ⟨h1, h2, h3⟩ := prim_num hk
  exact gives_sh (Do_ok H hi _ s a ⟨by omega, by omega⟩ (by omega) _ (fun e => by rw [hok] at e; cases e) (fun _ e => absurd ⟨h3, by rw [h2, hl]⟩ e) (fun _ _ _ => ⟨k, n, f, caps, hk, rfl, hg, hc, .inr ⟨e, hM, rfl⟩⟩))
def arithI (num a b : Int) : Option Int :=
  if num = 1 then some (a + b) else if num = 2 then some (a - b) else if num = 3 then some (a * b) else if b = 0 then none else if num = 4 then some (overI a b) else some (a - b * overI a b)
def outV (H : HHeap) : Option Int → AV
  | some c => if smallB c = true then doV H (c * 2 + 1) 0 else doV H 0 130
  | none => doV H 0 130
def wholeV (H : HHeap) (num s x : Int) : AV := if isN s = true ∧ isN x = true then outV H (arithI num (nI s) (nI x)) else doV H 0 130
theorem two_do {k g : Nat} (hk : primRows[k]? = some [iv ((1 : Nat) : Int), .clo 117 [.ip [.clo g []]]]) (hg : goFn Tryz.prog g = true) (H : HHeap) (hi : H.In) (s x : Int) (hok : okV H s [x] = true) (r : Option Int)
    (hr : isN s = true → isN x = true → match r with | some c => Gives Tryz.prog g [iv (nI s), iv (nI x)] (iv c) | none => Fails Tryz.prog g [] [iv (nI s), iv (nI x)] (failV 130)) :
    Gives Tryz.prog 11 [.agg (encHeap H), iv ((k : Int) + 1), iv s, .sl 1 (encInts [x])]
      (if isN s = true ∧ isN x = true then outV H r else doV H 0 130) := by
  have hno : NoOwnL [AV.ip [.clo g []]] := ⟨by simp, trivial⟩
  by_cases h : isN s = true ∧ isN x = true
  · rw [if_pos h]
    have hr' := hr h.1 h.2
    cases r with
    | some c =>
      cases hc : smallB c with
      | true =>
        rw [outV, if_pos hc]
        exact Do_yes H H hi s _ [x] hk rfl hno hok rfl (by omega) (two_y g hg H s x c h.1 h.2 hr' hc)
      | false =>
        rw [outV, if_neg (by rw [hc]; simp)]
        exact Do_fail H hi s _ [x] hk rfl hno hok rfl (by omega) (two_f3 g hg H s x c h.1 h.2 hr' hc)
    | none => exact Do_fail H hi s _ [x] hk rfl hno hok rfl (by omega) (two_f2 g hg H s x h.1 h.2 hr')
  · rw [if_neg h]
    exact Do_fail H hi s _ [x] hk rfl hno hok rfl (by omega) (two_f1 g H s x h)
theorem in30 {v : Int} (h : isN v = true) : In30 (nI v) := nI_rng h
theorem Do_1 (H : HHeap) (hi : H.In) (s x : Int) (hok : okV H s [x] = true) : Gives Tryz.prog 11 [.agg (encHeap H), iv 1, iv s, .sl 1 (encInts [x])] (wholeV H 1 s x) :=
  two_do (k := 0) rfl rfl H hi s x hok (some (nI s + nI x)) fun h1 h2 => pr1_ok _ _ (in30 h1) (in30 h2)
theorem Do_2 (H : HHeap) (hi : H.In) (s x : Int) (hok : okV H s [x] = true) : Gives Tryz.prog 11 [.agg (encHeap H), iv 2, iv s, .sl 1 (encInts [x])] (wholeV H 2 s x) :=
  two_do (k := 1) rfl rfl H hi s x hok (some (nI s - nI x)) fun h1 h2 => pr2_ok _ _ (in30 h1) (in30 h2)
theorem Do_3 (H : HHeap) (hi : H.In) (s x : Int) (hok : okV H s [x] = true) : Gives Tryz.prog 11 [.agg (encHeap H), iv 3, iv s, .sl 1 (encInts [x])] (wholeV H 3 s x) :=
  two_do (k := 2) rfl rfl H hi s x hok (some (nI s * nI x)) fun h1 h2 => pr3_ok _ _ (in30 h1) (in30 h2)
theorem arith4 (a b : Int) : arithI 4 a b = if b = 0 then none else some (overI a b) := rfl
theorem arith5 (a b : Int) : arithI 5 a b = if b = 0 then none else some (a - b * overI a b) := rfl
theorem Do_4 (H : HHeap) (hi : H.In) (s x : Int) (hok : okV H s [x] = true) : Gives Tryz.prog 11 [.agg (encHeap H), iv 4, iv s, .sl 1 (encInts [x])] (wholeV H 4 s x) :=
  two_do (k := 3) rfl rfl H hi s x hok (arithI 4 (nI s) (nI x)) fun h1 h2 => by
    rw [arith4]
    by_cases h0 : nI x = 0
    · rw [if_pos h0, h0]; exact over_f _
    · rw [if_neg h0]; exact over_ok _ _ (in30 h1) (in30 h2) h0
theorem Do_5 (H : HHeap) (hi : H.In) (s x : Int) (hok : okV H s [x] = true) : Gives Tryz.prog 11 [.agg (encHeap H), iv 5, iv s, .sl 1 (encInts [x])] (wholeV H 5 s x) :=
  two_do (k := 4) rfl rfl H hi s x hok (arithI 5 (nI s) (nI x)) fun h1 h2 => by
    rw [arith5]
    by_cases h0 : nI x = 0
    · rw [if_pos h0, h0]; exact pr4_f _
    · rw [if_neg h0]; exact pr4_ok _ _ (in30 h1) (in30 h2) h0
end Go.Proofs.YtnjihhheiiapnaaGreat
namespace Go.Proofs.YtnjihhheiiapnaaGreat
open Go Go.Proofs AW
def atV (H : HHeap) (s x : Int) : AV := if isN x = true ∧ wrongE H s 0 (nI x - 1) = 0 then doV H (getI H s (nI x - 1)) 0 else doV H 0 130
theorem Do_8 (H : HHeap) (hi : H.In) (s x : Int) (hok : okV H s [x] = true) : Gives Tryz.prog 11 [.agg (encHeap H), iv 8, iv s, .sl 1 (encInts [x])] (atV H s x) := by
  cases h : isN x with
  | false =>
    rw [atV, if_neg (by rw [h]; simp)]
    exact Do_fail H hi s _ [x] (k := 7) (n := 1) rfl rfl trivial hok rfl (by omega) (at_f1 H s x h)
  | true =>
    by_cases hw : wrongE H s 0 (nI x - 1) = 0
    · rw [atV, if_pos ⟨h, hw⟩]
      exact Do_yes H H hi s _ [x] (k := 7) (n := 1) rfl rfl trivial hok rfl (by omega) (at_y H hi s x h hw)
    · rw [atV, if_neg (fun e => hw e.2)]
      exact Do_fail H hi s _ [x] (k := 7) (n := 1) rfl rfl trivial hok rfl (by omega) (at_f2 H hi s x h hw)
def putV (H : HHeap) (s x y : Int) : AV := if isN x = true ∧ setE H s (nI x - 1) y = 0 then doV (setH H s (nI x - 1) y) y 0 else doV H 0 130
theorem setE_cases (H : HHeap) (s a y : Int) : setE H s a y ≠ 30 := by
  unfold setE wrongE
  repeat' split
  all_goals decide
theorem Do_9 (H : HHeap) (hi : H.In) (s x y : Int) (hok : okV H s [x, y] = true) : Gives Tryz.prog 11 [.agg (encHeap H), iv 9, iv s, .sl 1 (encInts [x, y])] (putV H s x y) := by
  cases h : isN x with
  | false =>
    rw [putV, if_neg (by rw [h]; simp)]
    exact Do_fail H hi s _ [x, y] (k := 8) (n := 2) rfl rfl trivial hok rfl (by omega) (atPut_f1 H hi s x y h)
  | true =>
    by_cases hw : setE H s (nI x - 1) y = 0
    · rw [putV, if_pos ⟨h, hw⟩]
      exact Do_yes H _ hi s _ [x, y] (k := 8) (n := 2) rfl rfl trivial hok rfl (by omega) (atPut_y H hi s x y h hw)
    · rw [putV, if_neg (fun e => hw e.2)]
      exact Do_fail H hi s _ [x, y] (k := 8) (n := 2) rfl rfl trivial hok rfl (by omega) (atPut_f2 H hi s x y h hw (setE_cases _ _ _ _))
theorem Do_13 (H : HHeap) (hi : H.In) (s : Int) (hok : okV H s [] = true) : Gives Tryz.prog 11 [.agg (encHeap H), iv 13, iv s, .sl 1 (encInts [])] (doV H (ofV H s) 0) :=
  Do_yes H H hi s _ [] (k := 12) (n := 0) rfl rfl trivial hok rfl (by omega) (class_y H hi s)
def becV (H : HHeap) (s x : Int) : AV := if hiB s = true ∧ hiB x = true then doV (becomeH H s x) s 0 else doV H 0 130
theorem Do_16 (H : HHeap) (hi : H.In) (s x : Int) (hok : okV H s [x] = true) (he : hiB s = true → hiB x = true → becomeE H s x = 0) : Gives Tryz.prog 11 [.agg (encHeap H), iv 16, iv s, .sl 1 (encInts [x])] (becV H s x) := by
  cases h : hiB s with
  | false =>
    rw [becV, if_neg (by rw [h]; simp)]
    exact Do_fail H hi s _ [x] (k := 15) (n := 1) rfl rfl trivial hok rfl (by omega) (become_f1 H s x h)
  | true =>
    cases h2 : hiB x with
    | false =>
      rw [becV, if_neg (by rw [h2]; simp)]
      exact Do_fail H hi s _ [x] (k := 15) (n := 1) rfl rfl trivial hok rfl (by omega) (become_f2 H s x h h2)
    | true =>
      rw [becV, if_pos ⟨h, h2⟩]
      exact Do_yes H _ hi s _ [x] (k := 15) (n := 1) rfl rfl trivial hok rfl (by omega) (become_y H hi s x h h2 (he h h2))
end Go.Proofs.YtnjihhheiiapnaaGreat
namespace Go.Proofs.YtnjihhheiiapnaaGreat
open Go Go.Proofs AW
theorem at_may {H : HHeap} (hm : mayH H = true) {v : Int} (h : 0 ≤ H.ref v) : mayObj H.objs.length (H.at' v) = true := by
  have h1 := at_get h
  simp only [mayH, Bool.and_eq_true, List.all_eq_true] at hm
  exact hm.2 _ (List.mem_of_getElem? h1)
theorem okV_facts {H : HHeap} {s : Int} {a : List Int} (h : okV H s a = true) : mayH H = true ∧ 12 ≤ H.objs.length ∧ hasB H.objs.length s = true ∧ a.all (hasB H.objs.length) = true := by
  simp only [okV, Bool.and_eq_true, decide_eq_true_eq] at h
  exact ⟨h.1.1.1, h.1.1.2, h.1.2, h.2⟩
theorem has_cases {H : HHeap} {s : Int} (h : hasB H.objs.length s = true) : (isN s = true ∧ isAt s = false) ∨ (isN s = false ∧ 0 ≤ H.ref s) := by
  simp only [hasB, Bool.or_eq_true, decide_eq_true_eq] at h
  cases hn : isN s with
  | true => left; refine ⟨rfl, ?_⟩; simp [isN] at hn; simp [isAt]; omega
  | false => right; refine ⟨rfl, ?_⟩; rw [hn] at h; simpa [HHeap.ref] using h
def sizeV (H : HHeap) (s : Int) : AV := if isN s = false ∧ (H.at' s).kind ≠ 2 then doV H (((H.at' s).slots.length + (H.at' s).text.size : Int) * 2 + 1) 0 else doV H 0 130
theorem Do_10 (H : HHeap) (hi : H.In) (s : Int) (hok : okV H s [] = true) : Gives Tryz.prog 11 [.agg (encHeap H), iv 10, iv s, .sl 1 (encInts [])] (sizeV H s) := by
  obtain ⟨o1, o2, o3, o4⟩ := okV_facts hok
  rcases has_cases o3 with ⟨h1, h2⟩ | ⟨h1, h2⟩
  · rw [sizeV, if_neg (by rw [h1]; simp)]
    exact Do_fail H hi s _ [] (k := 9) (n := 0) rfl rfl trivial hok rfl (by omega) (size_f1 H s h2)
  · by_cases hk : (H.at' s).kind = 2
    · rw [sizeV, if_neg (fun e => e.2 hk)]
      exact Do_fail H hi s _ [] (k := 9) (n := 0) rfl rfl trivial hok rfl (by omega) (size_f2 H s h2 hk)
    · have hm := at_may o1 h2
      simp only [mayObj, restB, Bool.and_eq_true, decide_eq_true_eq] at hm
      rw [sizeV, if_pos ⟨h1, hk⟩]
      exact Do_yes H H hi s _ [] (k := 9) (n := 0) rfl rfl trivial hok rfl (by omega) (size_y H s h2 hk hm.2.2.1.1 hm.2.2.1.2.1)
def hashV (H : HHeap) (s : Int) : AV := if isN s = true then doV H s 0 else doV H ((H.at' s).hash * 2 + 1) 0
theorem Do_15 (H : HHeap) (hi : H.In) (s : Int) (hok : okV H s [] = true) : Gives Tryz.prog 11 [.agg (encHeap H), iv 15, iv s, .sl 1 (encInts [])] (hashV H s) := by
  obtain ⟨o1, o2, o3, o4⟩ := okV_facts hok
  rcases has_cases o3 with ⟨h1, h2⟩ | ⟨h1, h2⟩
  · rw [hashV, if_pos h1]
    exact Do_yes H H hi s _ [] (k := 14) (n := 0) rfl rfl trivial hok rfl (by omega) (hash_n H s h1)
  · have hm := at_may o1 h2
    simp only [mayObj, headB, Bool.and_eq_true, decide_eq_true_eq] at hm
    rw [hashV, if_neg (by rw [h1]; simp)]
    exact Do_yes H H hi s _ [] (k := 14) (n := 0) rfl rfl trivial hok rfl (by omega) (hash_y H s h1 h2 (by simp [smallB]; omega))
theorem alloc_cases {H : HHeap} (hm : mayH H = true) {s kind size : Int} (hs : 0 ≤ H.ref s) (hk : kind = 0 ∨ kind = 1) (hz : 0 ≤ size ∧ size ≤ 64) : allocE H s kind size = 0 ∨ allocE H s kind size = 30 := by
  have hs' : ¬ refI H.objs.length s < 0 := by simp [HHeap.ref] at hs; omega
  unfold allocE
  rw [if_pos hm, if_neg hs', if_neg (by omega), if_neg (by omega)]
  split
  · exact .inr rfl
  · exact .inl rfl
def newV (H : HHeap) (s kind size : Int) : AV := if allocE H s kind size = 0 then doV (allocH H s kind size) (2 * H.objs.length) 0 else doV H 0 30
def freshV (H : HHeap) (s : Int) : AV := if clsB H s = true then newV H s 0 (szF H s) else doV H 0 130
theorem Do_11 (H : HHeap) (hi : H.In) (s : Int) (hok : okV H s [] = true) : Gives Tryz.prog 11 [.agg (encHeap H), iv 11, iv s, .sl 1 (encInts [])] (freshV H s) := by
  obtain ⟨o1, o2, o3, o4⟩ := okV_facts hok
  cases hc : clsB H s with
  | false =>
    rw [freshV, if_neg (by rw [hc]; simp)]
    exact Do_fail H hi s _ [] (k := 10) (n := 0) rfl rfl trivial hok rfl (by omega) (fresh_f1 H hi s (by rw [o1, hc]; rfl))
  | true =>
    have hb : (mayH H && clsB H s) = true := by rw [o1, hc]; rfl
    obtain ⟨f1, f2, f3, f4, f5, f6, f7⟩ := cls_facts hc
    rw [freshV, if_pos hc]
    rcases alloc_cases o1 f1 (.inl rfl) ⟨f6, f7⟩ with he | he
    · rw [newV, if_pos he]
      exact Do_yes H _ hi s _ [] (k := 10) (n := 0) rfl rfl trivial hok rfl (by omega) (fresh_y H hi s hb he)
    · rw [newV, if_neg (by rw [he]; decide)]
      exact Do_fail H hi s _ [] (k := 10) (n := 0) rfl rfl trivial hok rfl (by omega) (fresh_f2 H hi s hb he)
def sizedV (H : HHeap) (kind s x : Int) : AV := if clsB H s = true ∧ isN x = true then (if allocE H s kind (nI x) = 0 then doV (allocH H s kind (nI x)) (2 * H.objs.length) 0 else if allocE H s kind (nI x) = 30 then doV H 0 30 else doV H 0 130) else doV H 0 130
theorem sized_do {k : Nat} {kind : Int} {f : Nat} (hk : primRows[k]? = some [iv ((1 : Nat) : Int), .clo f []]) (hg : goFn Tryz.prog f = true) (H : HHeap) (hi : H.In) (s x : Int) (hok : okV H s [x] = true)
    (hf : ∀ e, Fails Tryz.prog 68 (cR H s [x]) [.ptr 1000 0 0, iv kind] (failV e) → Fails Tryz.prog f (cR H s [x]) [.ptr 1000 0 0] (failV e))
    (hy : ∀ y G, Mut Tryz.prog 68 (cR H s [x]) [.ptr 1000 0 0, iv kind] (iv y) (cR G s [x]) → Mut Tryz.prog f (cR H s [x]) [.ptr 1000 0 0] (iv y) (cR G s [x])) :
    Gives Tryz.prog 11 [.agg (encHeap H), iv ((k : Int) + 1), iv s, .sl 1 (encInts [x])] (sizedV H kind s x) := by
  obtain ⟨o1, o2, o3, o4⟩ := okV_facts hok
  cases hc : clsB H s with
  | false =>
    rw [sizedV, if_neg (by rw [hc]; simp)]
    exact Do_fail H hi s _ [x] hk hg trivial hok rfl (by omega) (hf _ (sized_f1 H hi kind s x (by rw [o1, hc]; rfl)))
  | true =>
    have hb : (mayH H && clsB H s) = true := by rw [o1, hc]; rfl
    cases hx : isN x with
    | false =>
      rw [sizedV, if_neg (by rw [hx]; simp)]
      exact Do_fail H hi s _ [x] hk hg trivial hok rfl (by omega) (hf _ (sized_f2 H hi kind s x hb hx))
    | true =>
      rw [sizedV, if_pos ⟨hc, hx⟩]
      by_cases he : allocE H s kind (nI x) = 0
      · rw [if_pos he]
        exact Do_yes H _ hi s _ [x] hk hg trivial hok rfl (by omega) (hy _ _ (sized_y H hi kind s x hb hx he))
      · rw [if_neg he]
        by_cases he2 : allocE H s kind (nI x) = 30
        · rw [if_pos he2]
          exact Do_fail H hi s _ [x] hk hg trivial hok rfl (by omega) (hf _ (sized_f H hi kind s x 30 hb hx (palloc_full H hi s [x] s kind (nI x) he2)))
        · rw [if_neg he2]
          exact Do_fail H hi s _ [x] hk hg trivial hok rfl (by omega) (hf _ (sized_f H hi kind s x 130 hb hx (palloc_no H hi s [x] s kind (nI x) he he2)))
theorem Do_12 (H : HHeap) (hi : H.In) (s x : Int) (hok : okV H s [x] = true) : Gives Tryz.prog 11 [.agg (encHeap H), iv 12, iv s, .sl 1 (encInts [x])] (sizedV H 0 s x) :=
  sized_do (k := 11) rfl rfl H hi s x hok (fun e h => pr7_f H s x e h) (fun y G h => pr7_y H s x y G h)
theorem Do_27 (H : HHeap) (hi : H.In) (s x : Int) (hok : okV H s [x] = true) : Gives Tryz.prog 11 [.agg (encHeap H), iv 27, iv s, .sl 1 (encInts [x])] (sizedV H 1 s x) :=
  sized_do (k := 26) rfl rfl H hi s x hok (fun e h => pr12_f H s x e h) (fun y G h => pr12_y H s x y G h)
end Go.Proofs.YtnjihhheiiapnaaGreat
namespace Go.Proofs.YtnjihhheiiapnaaGreat
open Go Go.Proofs AW
def lessV (H : HHeap) (s x : Int) : AV := if isN s = true ∧ isN x = true then doV H (truI (decide (nI s < nI x))) 0 else doV H 0 130
theorem Do_6 (H : HHeap) (hi : H.In) (s x : Int) (hok : okV H s [x] = true) : Gives Tryz.prog 11 [.agg (encHeap H), iv 6, iv s, .sl 1 (encInts [x])] (lessV H s x) := by
  by_cases h : isN s = true ∧ isN x = true
  · rw [lessV, if_pos h]
    exact Do_yes H H hi s _ [x] (k := 5) (n := 1) rfl rfl trivial hok rfl (by omega) (pr5_y H s x h.1 h.2)
  · rw [lessV, if_neg h]
    exact Do_fail H hi s _ [x] (k := 5) (n := 1) rfl rfl trivial hok rfl (by omega) (pr5_f H s x h)
def sameV (H : HHeap) (s x : Int) : AV := if isN s = true ∧ isN x = true then doV H (truI (nI s == nI x)) 0 else doV H 0 130
theorem Do_7 (H : HHeap) (hi : H.In) (s x : Int) (hok : okV H s [x] = true) : Gives Tryz.prog 11 [.agg (encHeap H), iv 7, iv s, .sl 1 (encInts [x])] (sameV H s x) := by
  by_cases h : isN s = true ∧ isN x = true
  · rw [sameV, if_pos h]
    exact Do_yes H H hi s _ [x] (k := 6) (n := 1) rfl rfl trivial hok rfl (by omega) (pr6_y H s x h.1 h.2)
  · rw [sameV, if_neg h]
    exact Do_fail H hi s _ [x] (k := 6) (n := 1) rfl rfl trivial hok rfl (by omega) (pr6_f H s x h)
theorem Do_14 (H : HHeap) (hi : H.In) (s x : Int) (hok : okV H s [x] = true) : Gives Tryz.prog 11 [.agg (encHeap H), iv 14, iv s, .sl 1 (encInts [x])] (doV H (truI (s == x)) 0) :=
  Do_yes H H hi s _ [x] (k := 13) (n := 1) rfl rfl trivial hok rfl (by omega) (pr8_y H s x)
def byteV (H : HHeap) (s x : Int) : AV := if isN x = true ∧ wrongE H s 1 (nI x - 1) = 0 then doV H (byteI H s (nI x - 1) * 2 + 1) 0 else doV H 0 130
theorem Do_25 (H : HHeap) (hi : H.In) (s x : Int) (hok : okV H s [x] = true) : Gives Tryz.prog 11 [.agg (encHeap H), iv 25, iv s, .sl 1 (encInts [x])] (byteV H s x) := by
  cases h : isN x with
  | false =>
    rw [byteV, if_neg (by rw [h]; simp)]
    exact Do_fail H hi s _ [x] (k := 24) (n := 1) rfl rfl trivial hok rfl (by omega) (byteAt_f1 H s x h)
  | true =>
    by_cases hw : wrongE H s 1 (nI x - 1) = 0
    · rw [byteV, if_pos ⟨h, hw⟩]
      exact Do_yes H H hi s _ [x] (k := 24) (n := 1) rfl rfl trivial hok rfl (by omega) (byteAt_y H hi s x h hw)
    · rw [byteV, if_neg (fun e => hw e.2)]
      exact Do_fail H hi s _ [x] (k := 24) (n := 1) rfl rfl trivial hok rfl (by omega) (byteAt_f2 H hi s x h hw)
def putbV (H : HHeap) (s x y : Int) : AV := if (isN x = true ∧ isN y = true) ∧ setByteE H s (nI x - 1) (nI y) = 0 then doV (setByteH H s (nI x - 1) (nI y)) y 0 else doV H 0 130
theorem setByteE_cases (H : HHeap) (s a y : Int) : setByteE H s a y ≠ 30 := by
  unfold setByteE wrongE
  repeat' split
  all_goals decide
theorem Do_26 (H : HHeap) (hi : H.In) (s x y : Int) (hok : okV H s [x, y] = true) : Gives Tryz.prog 11 [.agg (encHeap H), iv 26, iv s, .sl 1 (encInts [x, y])] (putbV H s x y) := by
  by_cases h : isN x = true ∧ isN y = true
  · by_cases hw : setByteE H s (nI x - 1) (nI y) = 0
    · rw [putbV, if_pos ⟨h, hw⟩]
      exact Do_yes H _ hi s _ [x, y] (k := 25) (n := 2) rfl rfl trivial hok rfl (by omega) (bytePut_y H hi s x y h.1 h.2 hw)
    · rw [putbV, if_neg (fun e => hw e.2)]
      exact Do_fail H hi s _ [x, y] (k := 25) (n := 2) rfl rfl trivial hok rfl (by omega) (bytePut_f2 H hi s x y h.1 h.2 hw (setByteE_cases _ _ _ _))
  · rw [putbV, if_neg (fun e => h e.1)]
    exact Do_fail H hi s _ [x, y] (k := 25) (n := 2) rfl rfl trivial hok rfl (by omega) (bytePut_f1 H hi s x y h)
end Go.Proofs.YtnjihhheiiapnaaGreat
