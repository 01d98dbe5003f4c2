/- What the statements' walks need. -/
import Derived.Test.YtnjihhheiiapnaaGreatMRa4
import Derived.Test.YtnjihhheiiapnaaGreatMRx28
set_option linter.unusedVariables false
set_option linter.unusedSimpArgs false
set_option maxRecDepth 100000
namespace Go.Proofs.YtnjihhheiiapnaaGreat
open Go Go.Proofs AW
theorem gives_sh {f : Nat} {args : List AV} {y : AV} (h : Ok Tryz.prog f args (fun x T => Sh T x y)) : Gives Tryz.prog f args y := by
  intro I0 w vs hI hvs
  refine (h I0 w vs hI hvs).mono ?_
  rintro e w' (hF | ⟨v, x, T, β, rfl, h1, h2, h3, h4⟩)
  · exact hF.elim
  · exact .inr ⟨v, y, noT, noβ, rfl, ⟨rfl, rfl⟩, h2, Objs.noT _, h1.rep h3 v h4⟩
theorem Do_err (H : HHeap) (hi : H.In) (num s : Int) (a : List Int) (hn : In64 num) (hl : a.length < 1099511627776) (h : okV H s a = false) :
    Gives Tryz.prog 11 [.agg (encHeap H), iv num, iv s, .sl 1 (encInts a)] (doV emptyH 0 1) :=
  gives_sh (Do_ok H hi num s a hn hl _ (fun _ => rfl) (fun e => by rw [h] at e; cases e) (fun e => by rw [h] at e; cases e))
theorem Do_args (H : HHeap) (hi : H.In) (num s : Int) (a : List Int) (hn : In64 num) (hl : a.length < 1099511627776) (h : okV H s a = true) (h2 : ¬ (argsB num = true ∧ argsI num = a.length)) :
    Gives Tryz.prog 11 [.agg (encHeap H), iv num, iv s, .sl 1 (encInts a)] (doV H 0 130) :=
  gives_sh (Do_ok H hi num s a hn hl _ (fun e => by rw [h] at e; cases e) (fun _ _ => rfl) (fun _ e1 e2 => absurd ⟨e1, e2⟩ h2))
theorem prim_num {k n f : Nat} {caps : List AV} (hk : primRows[k]? = some [iv n, .clo f caps]) : k < 27 ∧ argsI ((k : Int) + 1) = n ∧ argsB ((k : Int) + 1) = true := by
  have h1 : k < 27 := by have := (List.getElem?_eq_some_iff.1 hk).1; simpa [primRows] using this
  obtain ⟨c, hc, r, e⟩ := prim_args h1
  rw [hk] at hc
  cases hc
  have h2 : (n : Int) = argsL.getD k 0 := by
    have h3 := (List.cons.inj e).1
    injection h3 with h3
    injection h3 with _ h3
  refine ⟨h1, ?_, ?_⟩
  · rw [argsI, if_neg (by omega), h2]
    congr 1
    omega
  · simp [argsB]; omega
theorem Do_yes (H G : HHeap) (hi : H.In) (s v : Int) (a : List Int) {k n f : Nat} {caps : List AV} (hk : primRows[k]? = some [iv n, .clo f caps]) (hg : goFn Tryz.prog f = true) (hc : NoOwnL caps) (hok : okV H s a = true) (hl : a.length = n) (hn : n ≤ 2)
    (hM : Mut Tryz.prog f (cR H s a) ([.ptr 1000 0 0] ++ caps) (iv v) (cR G s a)) :
    Gives Tryz.prog 11 [.agg (encHeap H), iv ((k : Int) + 1), iv s, .sl 1 (encInts a)] (doV G v 0) := by
  obtain ⟨h1, h2, h3⟩ := prim_num hk
  exact gives_sh (Do_ok H hi _ s a ⟨by omega, by omega⟩ (by omega) _ (fun e => by rw [hok] at e; cases e) (fun _ e => absurd ⟨h3, by rw [h2, hl]⟩ e) (fun _ _ _ => ⟨k, n, f, caps, hk, rfl, hg, hc, .inl ⟨G, v, hM, rfl⟩⟩))
theorem Do_fail (H : HHeap) (hi : H.In) (s e : Int) (a : List Int) {k n f : Nat} {caps : List AV} (hk : primRows[k]? = some [iv n, .clo f caps]) (hg : goFn Tryz.prog f = true) (hc : NoOwnL caps) (hok : okV H s a = true) (hl : a.length = n) (hn : n ≤ 2)
    (hM : Fails Tryz.prog f (cR H s a) ([.ptr 1000 0 0] ++ caps) (failV e)) :
    Gives Tryz.prog 11 [.agg (encHeap H), iv ((k : Int) + 1), iv s, .sl 1 (encInts a)] (doV H 0 e) := by
  obtain ⟨h1, h2, h3⟩ := prim_num hk
  exact gives_sh (Do_ok H hi _ s a ⟨by omega, by omega⟩ (by omega) _ (fun e => by rw [hok] at e; cases e) (fun _ e => absurd ⟨h3, by rw [h2, hl]⟩ e) (fun _ _ _ => ⟨k, n, f, caps, hk, rfl, hg, hc, .inr ⟨e, hM, rfl⟩⟩))
def arithI (num a b : Int) : Option Int :=
  if num = 1 then some (a + b) else if num = 2 then some (a - b) else if num = 3 then some (a * b) else if b = 0 then none else if num = 4 then some (overI a b) else some (a - b * overI a b)
def outV (H : HHeap) : Option Int → AV
  | some c => if smallB c = true then doV H (c * 2 + 1) 0 else doV H 0 130
  | none => doV H 0 130
def wholeV (H : HHeap) (num s x : Int) : AV := if isN s = true ∧ isN x = true then outV H (arithI num (nI s) (nI x)) else doV H 0 130
theorem two_do {k g : Nat} (hk : primRows[k]? = some [iv ((1 : Nat) : Int), .clo 117 [.ip [.clo g []]]]) (hg : goFn Tryz.prog g = true) (H : HHeap) (hi : H.In) (s x : Int) (hok : okV H s [x] = true) (r : Option Int)
    (hr : isN s = true → isN x = true → match r with | some c => Gives Tryz.prog g [iv (nI s), iv (nI x)] (iv c) | none => Fails Tryz.prog g [] [iv (nI s), iv (nI x)] (failV 130)) :
    Gives Tryz.prog 11 [.agg (encHeap H), iv ((k : Int) + 1), iv s, .sl 1 (encInts [x])]
      (if isN s = true ∧ isN x = true then outV H r else doV H 0 130) := by
  have hno : NoOwnL [AV.ip [.clo g []]] := ⟨by simp, trivial⟩
  by_cases h : isN s = true ∧ isN x = true
  · rw [if_pos h]
    have hr' := hr h.1 h.2
    cases r with
    | some c =>
      cases hc : smallB c with
      | true =>
        rw [outV, if_pos hc]
        exact Do_yes H H hi s _ [x] hk rfl hno hok rfl (by omega) (two_y g hg H s x c h.1 h.2 hr' hc)
      | false =>
        rw [outV, if_neg (by rw [hc]; simp)]
        exact Do_fail H hi s _ [x] hk rfl hno hok rfl (by omega) (two_f3 g hg H s x c h.1 h.2 hr' hc)
    | none => exact Do_fail H hi s _ [x] hk rfl hno hok rfl (by omega) (two_f2 g hg H s x h.1 h.2 hr')
  · rw [if_neg h]
    exact Do_fail H hi s _ [x] hk rfl hno hok rfl (by omega) (two_f1 g H s x h)
theorem in30 {v : Int} (h : isN v = true) : In30 (nI v) := nI_rng h
theorem Do_1 (H : HHeap) (hi : H.In) (s x : Int) (hok : okV H s [x] = true) : Gives Tryz.prog 11 [.agg (encHeap H), iv 1, iv s, .sl 1 (encInts [x])] (wholeV H 1 s x) :=
  two_do (k := 0) rfl rfl H hi s x hok (some (nI s + nI x)) fun h1 h2 => pr1_ok _ _ (in30 h1) (in30 h2)
theorem Do_2 (H : HHeap) (hi : H.In) (s x : Int) (hok : okV H s [x] = true) : Gives Tryz.prog 11 [.agg (encHeap H), iv 2, iv s, .sl 1 (encInts [x])] (wholeV H 2 s x) :=
  two_do (k := 1) rfl rfl H hi s x hok (some (nI s - nI x)) fun h1 h2 => pr2_ok _ _ (in30 h1) (in30 h2)
theorem Do_3 (H : HHeap) (hi : H.In) (s x : Int) (hok : okV H s [x] = true) : Gives Tryz.prog 11 [.agg (encHeap H), iv 3, iv s, .sl 1 (encInts [x])] (wholeV H 3 s x) :=
  two_do (k := 2) rfl rfl H hi s x hok (some (nI s * nI x)) fun h1 h2 => pr3_ok _ _ (in30 h1) (in30 h2)
theorem arith4 (a b : Int) : arithI 4 a b = if b = 0 then none else some (overI a b) := rfl
theorem arith5 (a b : Int) : arithI 5 a b = if b = 0 then none else some (a - b * overI a b) := rfl
theorem Do_4 (H : HHeap) (hi : H.In) (s x : Int) (hok : okV H s [x] = true) : Gives Tryz.prog 11 [.agg (encHeap H), iv 4, iv s, .sl 1 (encInts [x])] (wholeV H 4 s x) :=
  two_do (k := 3) rfl rfl H hi s x hok (arithI 4 (nI s) (nI x)) fun h1 h2 => by
    rw [arith4]
    by_cases h0 : nI x = 0
    · rw [if_pos h0, h0]; exact over_f _
    · rw [if_neg h0]; exact over_ok _ _ (in30 h1) (in30 h2) h0
theorem Do_5 (H : HHeap) (hi : H.In) (s x : Int) (hok : okV H s [x] = true) : Gives Tryz.prog 11 [.agg (encHeap H), iv 5, iv s, .sl 1 (encInts [x])] (wholeV H 5 s x) :=
  two_do (k := 4) rfl rfl H hi s x hok (arithI 5 (nI s) (nI x)) fun h1 h2 => by
    rw [arith5]
    by_cases h0 : nI x = 0
    · rw [if_pos h0, h0]; exact pr4_f _
    · rw [if_neg h0]; exact pr4_ok _ _ (in30 h1) (in30 h2) h0
end Go.Proofs.YtnjihhheiiapnaaGreat
namespace Go.Proofs.YtnjihhheiiapnaaGreat
open Go Go.Proofs AW
def atV (H : HHeap) (s x : Int) : AV := if isN x = true ∧ wrongE H s 0 (nI x - 1) = 0 then doV H (getI H s (nI x - 1)) 0 else doV H 0 130
theorem Do_8 (H : HHeap) (hi : H.In) (s x : Int) (hok : okV H s [x] = true) : Gives Tryz.prog 11 [.agg (encHeap H), iv 8, iv s, .sl 1 (encInts [x])] (atV H s x) := by
  cases h : isN x with
  | false =>
    rw [atV, if_neg (by rw [h]; simp)]
    exact Do_fail H hi s _ [x] (k := 7) (n := 1) rfl rfl trivial hok rfl (by omega) (at_f1 H s x h)
  | true =>
    by_cases hw : wrongE H s 0 (nI x - 1) = 0
    · rw [atV, if_pos ⟨h, hw⟩]
      exact Do_yes H H hi s _ [x] (k := 7) (n := 1) rfl rfl trivial hok rfl (by omega) (at_y H hi s x h hw)
    · rw [atV, if_neg (fun e => hw e.2)]
      exact Do_fail H hi s _ [x] (k := 7) (n := 1) rfl rfl trivial hok rfl (by omega) (at_f2 H hi s x h hw)
def putV (H : HHeap) (s x y : Int) : AV := if isN x = true ∧ setE H s (nI x - 1) y = 0 then doV (setH H s (nI x - 1) y) y 0 else doV H 0 130
theorem setE_cases (H : HHeap) (s a y : Int) : setE H s a y ≠ 30 := by
  unfold setE wrongE
  repeat' split
  all_goals decide
theorem Do_9 (H : HHeap) (hi : H.In) (s x y : Int) (hok : okV H s [x, y] = true) : Gives Tryz.prog 11 [.agg (encHeap H), iv 9, iv s, .sl 1 (encInts [x, y])] (putV H s x y) := by
  cases h : isN x with
  | false =>
    rw [putV, if_neg (by rw [h]; simp)]
    exact Do_fail H hi s _ [x, y] (k := 8) (n := 2) rfl rfl trivial hok rfl (by omega) (atPut_f1 H hi s x y h)
  | true =>
    by_cases hw : setE H s (nI x - 1) y = 0
    · rw [putV, if_pos ⟨h, hw⟩]
      exact Do_yes H _ hi s _ [x, y] (k := 8) (n := 2) rfl rfl trivial hok rfl (by omega) (atPut_y H hi s x y h hw)
    · rw [putV, if_neg (fun e => hw e.2)]
      exact Do_fail H hi s _ [x, y] (k := 8) (n := 2) rfl rfl trivial hok rfl (by omega) (atPut_f2 H hi s x y h hw (setE_cases _ _ _ _))
theorem Do_13 (H : HHeap) (hi : H.In) (s : Int) (hok : okV H s [] = true) : Gives Tryz.prog 11 [.agg (encHeap H), iv 13, iv s, .sl 1 (encInts [])] (doV H (ofV H s) 0) :=
  Do_yes H H hi s _ [] (k := 12) (n := 0) rfl rfl trivial hok rfl (by omega) (class_y H hi s)
def becV (H : HHeap) (s x : Int) : AV := if hiB s = true ∧ hiB x = true then doV (becomeH H s x) s 0 else doV H 0 130
theorem Do_16 (H : HHeap) (hi : H.In) (s x : Int) (hok : okV H s [x] = true) (he : hiB s = true → hiB x = true → becomeE H s x = 0) : Gives Tryz.prog 11 [.agg (encHeap H), iv 16, iv s, .sl 1 (encInts [x])] (becV H s x) := by
  cases h : hiB s with
  | false =>
    rw [becV, if_neg (by rw [h]; simp)]
    exact Do_fail H hi s _ [x] (k := 15) (n := 1) rfl rfl trivial hok rfl (by omega) (become_f1 H s x h)
  | true =>
    cases h2 : hiB x with
    | false =>
      rw [becV, if_neg (by rw [h2]; simp)]
      exact Do_fail H hi s _ [x] (k := 15) (n := 1) rfl rfl trivial hok rfl (by omega) (become_f2 H s x h h2)
    | true =>
      rw [becV, if_pos ⟨h, h2⟩]
      exact Do_yes H _ hi s _ [x] (k := 15) (n := 1) rfl rfl trivial hok rfl (by omega) (become_y H hi s x h h2 (he h h2))
end Go.Proofs.YtnjihhheiiapnaaGreat
