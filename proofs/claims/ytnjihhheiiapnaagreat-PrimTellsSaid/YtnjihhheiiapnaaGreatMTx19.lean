/- What the statements' walks need. -/
import Derived.Test.YtnjihhheiiapnaaGreatMTa4
import Derived.Test.YtnjihhheiiapnaaGreatMTx18
set_option linter.unusedVariables false
set_option linter.unusedSimpArgs false
set_option maxRecDepth 100000
namespace Go.Proofs.YtnjihhheiiapnaaGreat
open Go Go.Proofs AW
def argsL : List Int := [1, 1, 1, 1, 1, 1, 1, 1, 2, 0, 0, 1, 0, 1, 0, 1, 1, 1, 1, 1, 1, 1, 0, 0, 1, 2, 1]
def argsI (n : Int) : Int := if n < 1 ∨ n > 27 then 0 else argsL.getD (n - 1).toNat 0
def argsB (n : Int) : Bool := !decide (n < 1 ∨ n > 27)
theorem prim_args {k : Nat} (h : k < 27) : ∃ c, primRows[k]? = some c ∧ ∃ r, c = iv (argsL.getD k 0) :: r := by
  have : ∀ k < 27, ∃ c, primRows[k]? = some c ∧ ∃ r, c = iv (argsL.getD k 0) :: r := by
    intro k hk
    match k, hk with
    | 0, _ | 1, _ | 2, _ | 3, _ | 4, _ | 5, _ | 6, _ | 7, _ | 8, _ | 9, _ | 10, _ | 11, _ | 12, _ | 13, _ | 14, _ | 15, _ | 16, _ | 17, _ | 18, _ | 19, _ | 20, _ | 21, _ | 22, _ | 23, _ | 24, _ | 25, _ | 26, _ => exact ⟨_, rfl, _, rfl⟩
    | k + 27, hk => omega
  exact this k h
theorem Args_ok (n : Int) (hn : In64 n) : Gives Tryz.prog 13 [iv n] (.tup [iv (argsI n), bv (argsB n)]) := by
  have hl : primRows.length = 27 := rfl
  obtain ⟨n1, n2⟩ := hn
  by_cases h : n < 1 ∨ n > 27
  · refine gives_of Tryz.func13 rfl (Nat.le_of_ble_eq_true rfl) ?_
    (repeat' (first | refine sk ?_ | refine mv ?_ | refine asg ?_ | refine bi ?_ | refine pt ?_ | refine pf ?_ | refine ln ?_ | refine aops_nil ?_ | refine aw_seq ?_ | refine aw_region ?_ | refine aw_cond_t rfl ?_ | refine aw_skip ?_ | refine aw_ret ?_ | refine cl primitives_ok ?_ | refine gs (fun h => ?_) (fun h => ?_) | refine aw_cond rfl (fun h => ?_) (fun h => ?_) | fail))
    all_goals first
      | ((have h9 : n < 1 ∨ n > 27 := by assumption); refine fin (sh_ib ?_ ?_); (rw [argsI, if_pos h9]); (rw [argsB, decide_eq_true h9]; rfl))
      | (exfalso; simp_all; omega)
  · obtain ⟨c, hc, r, rfl⟩ := prim_args (k := (n - 1).toNat) (by omega)
    refine gives_of Tryz.func13 rfl (Nat.le_of_ble_eq_true rfl) ?_
    (repeat' (first | refine mv ?_ | refine asg ?_ | refine ld ?_ | refine fi ?_ | refine bf ?_ | refine bw ?_ | refine pf ?_ | refine ln ?_ | refine aops_nil ?_ | refine aw_seq ?_ | refine aw_region ?_ | refine aw_cond_f rfl ?_ | refine aw_skip ?_ | refine aw_ret ?_ | refine cl primitives_ok ?_ | refine ia (n - 1).toNat hc ?_ (hn := by omega) | fail))
    refine fin (sh_ib ?_ ?_)
    · rw [argsI, if_neg h]
    · simp [argsB, h]
theorem vMay_ok (v : Int) : Gives Tryz.prog 52 [iv v] (bv (isN v || isAt v)) := by
  refine gives_of Tryz.func52 rfl (Nat.le_of_ble_eq_true rfl) ?_
  (repeat' (first | refine sk ?_ | refine mv ?_ | refine asg ?_ | refine pt ?_ | refine pf ?_ | refine ex ?_ | refine aops_nil ?_ | refine aw_seq ?_ | refine aw_region ?_ | refine aw_ret ?_ | refine cl (N_ok v) ?_ | refine cl (At_ok v) ?_ | refine gs (fun h => ?_) (fun h => ?_) | fail))
  all_goals (refine fin (sh_bv ?_); simp_all)
theorem phas_ok (H : HHeap) (v : Int) : Gives Tryz.prog 25 [.agg (encHeap H), iv v] (bv (hasB H.objs.length v)) := by
  refine gives_of Tryz.func25 rfl (Nat.le_of_ble_eq_true rfl) ?_
  (repeat' (first | refine sk ?_ | refine mv ?_ | refine asg ?_ | refine ld ?_ | refine fp ?_ | refine bi ?_ | refine un ?_ | refine pt ?_ | refine pf ?_ | refine ex ?_ | refine ln ?_ | refine aops_nil ?_ | refine aw_seq ?_ | refine aw_region ?_ | refine aw_ret ?_ | refine bx 0 ?_ | refine cl (vMay_ok v) ?_ | refine cl (At_ok v) ?_ | refine gs (fun h => ?_) (fun h => ?_) | fail))
  all_goals (refine fin (sh_bv ?_); simp [hasB, refI, atI, isAt, isN] at *; first | omega | grind)
end Go.Proofs.YtnjihhheiiapnaaGreat
namespace Go.Proofs.YtnjihhheiiapnaaGreat
open Go Go.Proofs AW
def doL (H G : HHeap) (x y : Int) : List (Nat × Ob) := [(0, .live 24 3 [encHeap H]), (1, .live 24 3 [encHeap G]), (2, .live 3 1 [[iv x]]), (3, .live 30 1 [[iv y]])]
theorem doL_same (H G : HHeap) (x y : Int) {T : Nat → Ob} (h0 : T 0 = tb (doL H G x y) 0) (h1 : T 1 = tb (doL H G x y) 1) (h2 : T 2 = tb (doL H G x y) 2) (h3 : T 3 = tb (doL H G x y) 3) : FzAll id T (tb (doL H G x y)) ((doL H G x y).map (·.1)) :=
  ⟨.same _ _ _ h0 rfl (by simp), .same _ _ _ h1 rfl (by simp), .same _ _ _ h2 rfl (by simp), .same _ _ _ h3 rfl (by simp), trivial⟩
set_option maxHeartbeats 4000000 in
theorem do1_ret (H G : HHeap) (x y : Int) : OkD Tryz.prog 26 (doL H G x y) (boxesA [0, 1, 2, 3]) .returning fun u L' => u = .returning ∧ ∃ z, z = AV.tup [] ∧ L' = doL H G x y := by
  refine okD_of (R := fun z L' => z = AV.tup [] ∧ L' = doL H G x y) .ret Tryz.func26 rfl (Nat.le_of_ble_eq_true rfl) ?_
  (repeat' (first | refine mv ?_ | refine bf ?_ | refine aops_nil ?_ | refine aw_seq ?_ | refine aw_region ?_ | refine aw_cond_f rfl ?_ | refine aw_skip ?_ | fail))
  exact finMn (doL H G x y) ⟨rfl, rfl⟩ (doL_same H G x y rfl rfl rfl rfl) (.same _ (.tup [] (by simp)))
def doZ (H : HHeap) : List (Nat × Ob) := [(0, .live 24 3 [encHeap H]), (1, .live 24 3 [[.v (.slice none 0 0), iv 0, iv 0]]), (2, .live 3 1 [[iv 0]]), (3, .live 30 1 [[iv 0]])]
set_option maxHeartbeats 4000000 in
theorem do1_pan (H : HHeap) (e : Int) : OkD Tryz.prog 26 (doZ H) (boxesA [0, 1, 2, 3]) (.panicking (raisedA (failV e))) fun u L' => u = .panicking [{ v := failV e, recovered := true }] ∧ ∃ z, z = AV.tup [] ∧ L' = doL H H 0 e := by
  refine okD_of (R := fun z L' => z = AV.tup [] ∧ L' = doL H H 0 e) (.pan _) Tryz.func26 rfl (Nat.le_of_ble_eq_true rfl) ?_
  (repeat' (first | refine mv ?_ | refine asg ?_ | refine bt ?_ | refine un ?_ | refine ex ?_ | refine so ?_ | refine aops_nil ?_ | refine aw_seq ?_ | refine aw_region ?_ | refine aw_cond_t rfl ?_ | refine aw_cond_f rfl ?_ | refine aw_skip ?_ | refine al 4 ?_ | refine ta ?_ | fail))
  refine aw_drawP 6 [(3, 1, .live 24 3 [encHeap H], none), (4, 2, .live 3 1 [[iv 0]], none), (5, 3, .live 30 1 [[iv e]], none)] ?_
  (repeat' (first | refine dPn ?_ | refine dP (fun _ => y_load) ?_ | refine dP (fun _ => y_faddr_ptr (hs := Nat.le_of_ble_eq_true rfl)) ?_ | refine dP (fun _ => y_loadsN) ?_ | refine dPS (fun _ => y_storeV) ?_ | fail))
  (repeat' (first | refine aops_nil ?_ | fail))
  exact finMn (doL H H 0 e) ⟨rfl, rfl⟩ (doL_same H H 0 e rfl rfl rfl rfl) (.same _ (.tup [] (by simp)))
end Go.Proofs.YtnjihhheiiapnaaGreat
namespace Go.Proofs.YtnjihhheiiapnaaGreat
open Go Go.Proofs AW
def okV (H : HHeap) (s : Int) (a : List Int) : Bool := (mayH H && decide (12 ≤ H.objs.length) && hasB H.objs.length s) && a.all (hasB H.objs.length)
def doV (H : HHeap) (v e : Int) : AV := .tup [.agg (encHeap H), iv v, iv e]
theorem inz_cons {z : List Nat} {x : AV} {l : List AV} (h : InZ z x) (k : InZL z l) : InZL z ([x] ++ l) := ⟨h, k⟩
theorem sh_doE {T : Nat → Ob} : Sh T (.tup [.agg [.v (.slice none 0 0), iv 0, iv 0], iv 0, iv 1]) (doV emptyH 0 1) :=
  sh_tup ⟨sh_agg ⟨.nil 6, .same _ (.v _), .same _ (.v _), trivial⟩, .same _ (.v _), .same _ (.v _), trivial⟩
theorem sh_do {T : Nat → Ob} {H : HHeap} {v e : Int} : Sh T (doV H v e) (doV H v e) := .same _ (by simp [doV])
def doJ (H : HHeap) (num s : Int) (a : List Int) (b : Bool) : List (Nat × AV) :=
  [(11, bv b), (1, iv num), (2, iv s), (3, .sl 1 (encInts a)), (4, .ptr 0 0 0), (8, .ptr 1 0 0), (9, .ptr 2 0 0), (10, .ptr 3 0 0)]
theorem tk_all {a : List Int} {k : Nat} (h : k < a.length) {b : Bool} {p : Int → Bool} : (b && (a.take (k + 1)).all p) = ((b && (a.take k).all p) && p a[k]) := by
  rw [List.take_succ_eq_append_getElem h, List.all_append]; simp only [List.all_cons, List.all_nil, Bool.and_true, Bool.and_assoc]
set_option maxHeartbeats 8000000 in
theorem Do_ok (H : HHeap) (hi : H.In) (num s : Int) (a : List Int) (hn : In64 num) (hl : a.length < 1099511627776) (y : AV)
    (h1 : okV H s a = false → y = doV emptyH 0 1) (h2 : okV H s a = true → ¬ (argsB num = true ∧ argsI num = a.length) → y = doV H 0 130)
    (h3 : okV H s a = true → argsB num = true → argsI num = a.length → ∃ (k n f : Nat) (caps : List AV), primRows[k]? = some [iv n, .clo f caps] ∧ num = k + 1 ∧ goFn Tryz.prog f = true ∧ NoOwnL caps ∧
      ((∃ (G : HHeap) (v : Int), Mut Tryz.prog f (cR H s a) ([.ptr 1000 0 0] ++ caps) (iv v) (cR G s a) ∧ y = doV G v 0) ∨ (∃ e : Int, Fails Tryz.prog f (cR H s a) ([.ptr 1000 0 0] ++ caps) (failV e) ∧ y = doV H 0 e))) :
    Ok Tryz.prog 11 [.agg (encHeap H), iv num, iv s, .sl 1 (encInts a)] (fun x T => Sh T x y) := by
  have hle : (encInts a).length = a.length := len_ints a
  have ⟨n1, n2⟩ := hn
  refine okD_top Tryz.func11 rfl (Nat.le_of_ble_eq_true rfl) fun D0 w0 hK => ?_
  refine raw_seq ?_
  refine aw_region ?_
  (repeat' (first | refine aops_nil ?_ | refine bx 0 ?_ | refine al 1 ?_ | refine al 2 ?_ | refine al 3 ?_ | fail))
  refine raw_cut (ι := {b : Bool // b = (mayH H && decide (12 ≤ H.objs.length) && hasB H.objs.length s)}) (fun b => doJ H num s a b.1) ?_ ?_
  · refine aw_region ?_
    cases hm : mayH H with
    | false =>
      have cm := (May_ok H hi).to' (congrArg bv hm)
      (repeat' (first | refine sk ?_ | refine mv ?_ | refine asg ?_ | refine pf ?_ | refine la ?_ | refine aops_nil ?_ | refine cl cm ?_ | fail))
      exact ⟨⟨false, by simp⟩, rfl, rfl, rfl, rfl, rfl, rfl, rfl, rfl, rfl, trivial⟩
    | true =>
      have cm := (May_ok H hi).to' (congrArg bv hm)
      have ch := phas_ok H s
      (repeat' (first | refine sk ?_ | refine mv ?_ | refine asg ?_ | refine ld ?_ | refine fp ?_ | refine bi ?_ | refine pt ?_ | refine pf ?_ | refine ln ?_ | refine la ?_ | refine aops_nil ?_ | refine cl cm ?_ | refine cl ch ?_ | refine gs (fun h => ?_) (fun h => ?_) | fail))
      · exact ⟨⟨hasB H.objs.length s, by simp at h; simp; intro _; omega⟩, rfl, rfl, rfl, rfl, rfl, rfl, rfl, rfl, rfl, trivial⟩
      · exact ⟨⟨false, by simp at h; simp; intro _; omega⟩, rfl, rfl, rfl, rfl, rfl, rfl, rfl, rfl, rfl, trivial⟩
  rintro ⟨b, hb⟩
  refine raw_cut (ι := {c : Bool // c = okV H s a}) (fun c => doJ H num s a c.1) ?_ ?_
  · refine aw_seq ?_
    refine aw_region ?_
    (repeat' (first | refine mv ?_ | refine ln ?_ | refine aops_nil ?_ | refine aw_block ?_ | fail))
    refine aw_forE a.length (fun k => k ≤ a.length) (fun k => (32, iv (k : Int)) :: (31, iv (a.length : Int)) :: (30, .sl 1 (encInts a)) :: doJ H num s a (b && (a.take k).all (hasB H.objs.length))) 0 (by omega) ⟨rfl, by rw [← hle]; rfl, rfl, ?_, rfl, rfl, rfl, rfl, rfl, rfl, rfl, trivial⟩ ?_
    · simp; rfl
    intro k hk
    (repeat' (first | refine bi ?_ | refine aops_nil ?_ | refine aw_seq ?_ | refine aw_region ?_ | fail))
    refine aw_cond rfl (fun h => ?_) (fun h => ?_) <;> simp at h
    · have g1 : a[k]? = some a[k] := List.getElem?_eq_getElem h
      have ch := phas_ok H a[k]
      cases hbk : (b && (a.take k).all (hasB H.objs.length)) with
      | false =>
        (repeat' (first | refine sk ?_ | refine mv ?_ | refine asg ?_ | refine ld ?_ | refine bw ?_ | refine pf ?_ | refine aops_nil ?_ | refine aw_seq ?_ | refine aw_region ?_ | refine aw_block ?_ | refine aw_skip ?_ | refine ia k (ints_get g1) ?_ | fail))
        refine ⟨h, by omega, rfl, rfl, rfl, rfl, ?_, rfl, rfl, rfl, rfl, rfl, rfl, rfl, trivial⟩
        rw [tk_all h, hbk]; rfl
      | true =>
        (repeat' (first | refine mv ?_ | refine asg ?_ | refine ld ?_ | refine bw ?_ | refine pt ?_ | refine la ?_ | refine aops_nil ?_ | refine aw_seq ?_ | refine aw_region ?_ | refine aw_block ?_ | refine aw_skip ?_ | refine ia k (ints_get g1) ?_ | refine cl ch ?_ | fail))
        refine ⟨h, by omega, rfl, rfl, rfl, rfl, ?_, rfl, rfl, rfl, rfl, rfl, rfl, rfl, trivial⟩
        rw [tk_all h, hbk]; rfl
    · (repeat' (first | refine aw_exit ?_ | fail))
      refine ⟨⟨okV H s a, rfl⟩, rfl, ?_, rfl, rfl, rfl, rfl, rfl, rfl, rfl, trivial⟩
      have hka : k = a.length := by omega
      subst hka
      show some (bv (b && (a.take a.length).all (hasB H.objs.length))) = some (bv (okV H s a))
      rw [List.take_length, hb]; rfl
  rintro ⟨c, hc⟩
  show RawW _ _ _ _ _ _ (ASt.mk (doJ H num s a c) _)
  cases c with
  | false =>
    have hok : okV H s a = false := hc.symm
    have hy := h1 hok
    subst hy
    refine raw_seq ?_
    (repeat' (first | refine mv ?_ | refine un ?_ | refine so ?_ | refine bd ?_ | refine aops_nil ?_ | refine aw_seq ?_ | refine aw_region ?_ | refine aw_cond_t rfl ?_ | refine aw_ret ?_ | fail))
    exact raw_ret hK (.inl rfl) rfl sh_doE
  | true =>
    have hok : okV H s a = true := hc.symm
    refine raw_seq ?_
    (repeat' (first | refine mv ?_ | refine un ?_ | refine aops_nil ?_ | refine aw_seq ?_ | refine aw_region ?_ | refine aw_cond_f rfl ?_ | refine aw_skip ?_ | fail))
    cases hB : argsB num with
    | false =>
      have hy := h2 hok (by simp [hB])
      have cA := (Args_ok num hn).to' (by rw [hB])
      subst hy
      refine raw_seq ?_
      (repeat' (first | refine sk ?_ | refine mv ?_ | refine asg ?_ | refine un ?_ | refine pt ?_ | refine ex ?_ | refine la ?_ | refine so ?_ | refine aops_nil ?_ | refine aw_seq ?_ | refine aw_region ?_ | refine aw_cond_t rfl ?_ | refine aw_ret ?_ | refine cl cA ?_ | fail))
      exact raw_ret hK (.inl rfl) rfl sh_do
    | true =>
      have cA := (Args_ok num hn).to' (by rw [hB])
      by_cases hA : argsI num = a.length
      rotate_left
      · have hy := h2 hok (by simp [hA])
        subst hy
        refine raw_seq ?_
        have hA' : ¬ argsI num = ((encInts a).length : Int) := by rw [hle]; exact hA
        (repeat' (first | refine mv ?_ | refine asg ?_ | refine bt ?_ | refine un ?_ | refine pf ?_ | refine ex ?_ | refine ln ?_ | refine la ?_ | refine so ?_ | refine aops_nil ?_ | refine aw_seq ?_ | refine aw_region ?_ | refine aw_cond_t rfl ?_ | refine aw_ret ?_ | refine cl cA ?_ | fail))
        exact raw_ret hK (.inl rfl) rfl sh_do
      obtain ⟨k, n, f, caps, hk, hnum, hg, hcn, hgo⟩ := h3 hok hB hA
      refine raw_seq ?_
      have hA' : argsI num = ((encInts a).length : Int) := by rw [hle]; exact hA
      (repeat' (first | refine mv ?_ | refine asg ?_ | refine bf ?_ | refine un ?_ | refine pf ?_ | refine ex ?_ | refine ln ?_ | refine aops_nil ?_ | refine aw_seq ?_ | refine aw_region ?_ | refine aw_cond_f rfl ?_ | refine aw_skip ?_ | refine cl cA ?_ | fail))
      refine raw_defer (z := [0, 1, 2, 3]) hK ?_
      rcases hgo with ⟨G, v, hM, rfl⟩ | ⟨e, hF, rfl⟩
      · (repeat' (first | refine mv ?_ | refine asg ?_ | refine ld ?_ | refine fi ?_ | refine bw ?_ | refine la ?_ | refine so ?_ | refine bd ?_ | refine aops_nil ?_ | refine aw_seq ?_ | refine aw_region ?_ | refine bx 1000 ?_ | refine cl primitives_ok ?_ | refine ia k hk ?_ (hn := by omega) | refine cM hM ?_ (hg' := hg) (hno := inz_cons (.ptr _ _ _ rfl) (inZL_no hcn.mem)) | fail))
        refine aw_drawP 8 [(5, 1, .live 24 3 [encHeap G], none), (6, 2, .live 3 1 [[iv v]], none), (7, 3, .live 30 1 [[iv 0]], none)] ?_
        (repeat' (first | refine dPn ?_ | refine dP (fun _ => y_move) ?_ | refine dP (fun _ => y_load) ?_ | refine dP (fun _ => y_faddr_ptr (hs := Nat.le_of_ble_eq_true rfl)) ?_ | refine dP (fun _ => y_nilcP) ?_ | refine dP (fun _ => y_loadsN) ?_ | refine dPS (fun _ => y_storeV) ?_ | fail))
        (repeat' (first | refine aops_nil ?_ | refine aw_ret ?_ | fail))
        refine ⟨doL H G v 0, _, rfl, ⟨rfl, rfl, rfl, rfl, trivial⟩, ?_, rfl, do1_ret H G v 0, ?_⟩
        · repeat' (first | exact trivial | (refine inZLL_no ?_; simp <;> fail) | refine ⟨?_, ?_⟩)
        · rintro u' L' ⟨rfl, z, rfl, rfl⟩
          refine ⟨rfl, fit_of ?_, _, rfl, sh_do⟩
          repeat' (first | exact trivial | exact ⟨_, rfl, rfl⟩ | refine ⟨?_, ?_⟩)
      · (repeat' (first | refine mv ?_ | refine asg ?_ | refine ld ?_ | refine fi ?_ | refine bw ?_ | refine la ?_ | refine bd ?_ | refine aops_nil ?_ | refine aw_seq ?_ | refine aw_region ?_ | refine bx 1000 ?_ | refine cl primitives_ok ?_ | refine ia k hk ?_ (hn := by omega) | refine cFx hF ?_ (hg' := hg) (hno := inz_cons (.ptr _ _ _ rfl) (inZL_no hcn.mem)) | fail))
        refine ⟨doZ H, _, rfl, ⟨rfl, rfl, rfl, rfl, trivial⟩, ?_, rfl, do1_pan H e, ?_⟩
        · repeat' (first | exact trivial | (refine inZLL_no ?_; simp <;> fail) | refine ⟨?_, ?_⟩)
        · rintro u' L' ⟨rfl, z, rfl, rfl⟩
          refine ⟨rfl, fit_of ?_, _, rfl, sh_do⟩
          repeat' (first | exact trivial | exact ⟨_, rfl, rfl⟩ | refine ⟨?_, ?_⟩)
end Go.Proofs.YtnjihhheiiapnaaGreat
