/- What the statements' walks need. -/
import Derived.Test.YtnjihhheiiapnaaGreatMSa4
import Derived.Test.YtnjihhheiiapnaaGreatMSx29
set_option linter.unusedVariables false
set_option linter.unusedSimpArgs false
set_option maxRecDepth 100000
namespace Go.Proofs.YtnjihhheiiapnaaGreat
open Go Go.Proofs AW
def okV (H : HHeap) (s : Int) (a : List Int) : Bool := (mayH H && decide (12 ≤ H.objs.length) && hasB H.objs.length s) && a.all (hasB H.objs.length)
def doV (H : HHeap) (v e : Int) : AV := .tup [.agg (encHeap H), iv v, iv e]
theorem inz_cons {z : List Nat} {x : AV} {l : List AV} (h : InZ z x) (k : InZL z l) : InZL z ([x] ++ l) := ⟨h, k⟩
theorem sh_doE {T : Nat → Ob} : Sh T (.tup [.agg [.v (.slice none 0 0), iv 0, iv 0], iv 0, iv 1]) (doV emptyH 0 1) :=
  sh_tup ⟨sh_agg ⟨.nil 6, .same _ (.v _), .same _ (.v _), trivial⟩, .same _ (.v _), .same _ (.v _), trivial⟩
theorem sh_do {T : Nat → Ob} {H : HHeap} {v e : Int} : Sh T (doV H v e) (doV H v e) := .same _ (by simp [doV])
def doJ (H : HHeap) (num s : Int) (a : List Int) (b : Bool) : List (Nat × AV) :=
  [(11, bv b), (1, iv num), (2, iv s), (3, .sl 1 (encInts a)), (4, .ptr 0 0 0), (8, .ptr 1 0 0), (9, .ptr 2 0 0), (10, .ptr 3 0 0)]
theorem tk_all {a : List Int} {k : Nat} (h : k < a.length) {b : Bool} {p : Int → Bool} : (b && (a.take (k + 1)).all p) = ((b && (a.take k).all p) && p a[k]) := by
  rw [List.take_succ_eq_append_getElem h, List.all_append]; simp only [List.all_cons, List.all_nil, Bool.and_true, Bool.and_assoc]
set_option maxHeartbeats 8000000 in
theorem Do_ok (H : HHeap) (hi : H.In) (num s : Int) (a : List Int) (hn : In64 num) (hl : a.length < 1099511627776) (y : AV)
    (h1 : okV H s a = false → y = doV emptyH 0 1) (h2 : okV H s a = true → ¬ (argsB num = true ∧ argsI num = a.length) → y = doV H 0 130)
    (h3 : okV H s a = true → argsB num = true → argsI num = a.length → ∃ (k n f : Nat) (caps : List AV), primRows[k]? = some [iv n, .clo f caps] ∧ num = k + 1 ∧ goFn Tryz.prog f = true ∧ NoOwnL caps ∧
      ((∃ (G : HHeap) (v : Int), Mut Tryz.prog f (cR H s a) ([.ptr 1000 0 0] ++ caps) (iv v) (cR G s a) ∧ y = doV G v 0) ∨ (∃ e : Int, Fails Tryz.prog f (cR H s a) ([.ptr 1000 0 0] ++ caps) (failV e) ∧ y = doV H 0 e))) :
    Ok Tryz.prog 11 [.agg (encHeap H), iv num, iv s, .sl 1 (encInts a)] (fun x T => Sh T x y) := by
  have hle : (encInts a).length = a.length := len_ints a
  have ⟨n1, n2⟩ := hn
  refine okD_top Tryz.func11 rfl (Nat.le_of_ble_eq_true rfl) fun D0 w0 hK => ?_
  refine raw_seq ?_
  refine aw_region ?_
  (repeat' (first | refine aops_nil ?_ | refine bx 0 ?_ | refine al 1 ?_ | refine al 2 ?_ | refine al 3 ?_ | fail))
  refine raw_cut (ι := {b : Bool // b = (mayH H && decide (12 ≤ H.objs.length) && hasB H.objs.length s)}) (fun b => doJ H num s a b.1) ?_ ?_
  · refine aw_region ?_
    cases hm : mayH H with
    | false =>
      have cm := (May_ok H hi).to' (congrArg bv hm)
      (repeat' (first | refine sk ?_ | refine mv ?_ | refine asg ?_ | refine pf ?_ | refine la ?_ | refine aops_nil ?_ | refine cl cm ?_ | fail))
      exact ⟨⟨false, by simp⟩, rfl, rfl, rfl, rfl, rfl, rfl, rfl, rfl, rfl, trivial⟩
    | true =>
      have cm := (May_ok H hi).to' (congrArg bv hm)
      have ch := phas_ok H s
      (repeat' (first | refine sk ?_ | refine mv ?_ | refine asg ?_ | refine ld ?_ | refine fp ?_ | refine bi ?_ | refine pt ?_ | refine pf ?_ | refine ln ?_ | refine la ?_ | refine aops_nil ?_ | refine cl cm ?_ | refine cl ch ?_ | refine gs (fun h => ?_) (fun h => ?_) | fail))
      · exact ⟨⟨hasB H.objs.length s, by simp at h; simp; intro _; omega⟩, rfl, rfl, rfl, rfl, rfl, rfl, rfl, rfl, rfl, trivial⟩
      · exact ⟨⟨false, by simp at h; simp; intro _; omega⟩, rfl, rfl, rfl, rfl, rfl, rfl, rfl, rfl, rfl, trivial⟩
  rintro ⟨b, hb⟩
  refine raw_cut (ι := {c : Bool // c = okV H s a}) (fun c => doJ H num s a c.1) ?_ ?_
  · refine aw_seq ?_
    refine aw_region ?_
    (repeat' (first | refine mv ?_ | refine ln ?_ | refine aops_nil ?_ | refine aw_block ?_ | fail))
    refine aw_forE a.length (fun k => k ≤ a.length) (fun k => (32, iv (k : Int)) :: (31, iv (a.length : Int)) :: (30, .sl 1 (encInts a)) :: doJ H num s a (b && (a.take k).all (hasB H.objs.length))) 0 (by omega) ⟨rfl, by rw [← hle]; rfl, rfl, ?_, rfl, rfl, rfl, rfl, rfl, rfl, rfl, trivial⟩ ?_
    · simp; rfl
    intro k hk
    (repeat' (first | refine bi ?_ | refine aops_nil ?_ | refine aw_seq ?_ | refine aw_region ?_ | fail))
    refine aw_cond rfl (fun h => ?_) (fun h => ?_) <;> simp at h
    · have g1 : a[k]? = some a[k] := List.getElem?_eq_getElem h
      have ch := phas_ok H a[k]
      cases hbk : (b && (a.take k).all (hasB H.objs.length)) with
      | false =>
        (repeat' (first | refine sk ?_ | refine mv ?_ | refine asg ?_ | refine ld ?_ | refine bw ?_ | refine pf ?_ | refine aops_nil ?_ | refine aw_seq ?_ | refine aw_region ?_ | refine aw_block ?_ | refine aw_skip ?_ | refine ia k (ints_get g1) ?_ | fail))
        refine ⟨h, by omega, rfl, rfl, rfl, rfl, ?_, rfl, rfl, rfl, rfl, rfl, rfl, rfl, trivial⟩
        rw [tk_all h, hbk]; rfl
      | true =>
        (repeat' (first | refine mv ?_ | refine asg ?_ | refine ld ?_ | refine bw ?_ | refine pt ?_ | refine la ?_ | refine aops_nil ?_ | refine aw_seq ?_ | refine aw_region ?_ | refine aw_block ?_ | refine aw_skip ?_ | refine ia k (ints_get g1) ?_ | refine cl ch ?_ | fail))
        refine ⟨h, by omega, rfl, rfl, rfl, rfl, ?_, rfl, rfl, rfl, rfl, rfl, rfl, rfl, trivial⟩
        rw [tk_all h, hbk]; rfl
    · (repeat' (first | refine aw_exit ?_ | fail))
      refine ⟨⟨okV H s a, rfl⟩, rfl, ?_, rfl, rfl, rfl, rfl, rfl, rfl, rfl, trivial⟩
      have hka : k = a.length := by omega
      subst hka
      show some (bv (b && (a.take a.length).all (hasB H.objs.length))) = some (bv (okV H s a))
      rw [List.take_length, hb]; rfl
  rintro ⟨c, hc⟩
  show RawW _ _ _ _ _ _ (ASt.mk (doJ H num s a c) _)
  cases c with
  | false =>
    have hok : okV H s a = false := hc.symm
    have hy := h1 hok
    subst hy
    refine raw_seq ?_
    (repeat' (first | refine mv ?_ | refine un ?_ | refine so ?_ | refine bd ?_ | refine aops_nil ?_ | refine aw_seq ?_ | refine aw_region ?_ | refine aw_cond_t rfl ?_ | refine aw_ret ?_ | fail))
    exact raw_ret hK (.inl rfl) rfl sh_doE
  | true =>
    have hok : okV H s a = true := hc.symm
    refine raw_seq ?_
    (repeat' (first | refine mv ?_ | refine un ?_ | refine aops_nil ?_ | refine aw_seq ?_ | refine aw_region ?_ | refine aw_cond_f rfl ?_ | refine aw_skip ?_ | fail))
    cases hB : argsB num with
    | false =>
      have hy := h2 hok (by simp [hB])
      have cA := (Args_ok num hn).to' (by rw [hB])
      subst hy
      refine raw_seq ?_
      (repeat' (first | refine sk ?_ | refine mv ?_ | refine asg ?_ | refine un ?_ | refine pt ?_ | refine ex ?_ | refine la ?_ | refine so ?_ | refine aops_nil ?_ | refine aw_seq ?_ | refine aw_region ?_ | refine aw_cond_t rfl ?_ | refine aw_ret ?_ | refine cl cA ?_ | fail))
      exact raw_ret hK (.inl rfl) rfl sh_do
    | true =>
      have cA := (Args_ok num hn).to' (by rw [hB])
      by_cases hA : argsI num = a.length
      rotate_left
      · have hy := h2 hok (by simp [hA])
        subst hy
        refine raw_seq ?_
        have hA' : ¬ argsI num = ((encInts a).length : Int) := by rw [hle]; exact hA
        (repeat' (first | refine mv ?_ | refine asg ?_ | refine bt ?_ | refine un ?_ | refine pf ?_ | refine ex ?_ | refine ln ?_ | refine la ?_ | refine so ?_ | refine aops_nil ?_ | refine aw_seq ?_ | refine aw_region ?_ | refine aw_cond_t rfl ?_ | refine aw_ret ?_ | refine cl cA ?_ | fail))
        exact raw_ret hK (.inl rfl) rfl sh_do
      obtain ⟨k, n, f, caps, hk, hnum, hg, hcn, hgo⟩ := h3 hok hB hA
      refine raw_seq ?_
      have hA' : argsI num = ((encInts a).length : Int) := by rw [hle]; exact hA
      (repeat' (first | refine mv ?_ | refine asg ?_ | refine bf ?_ | refine un ?_ | refine pf ?_ | refine ex ?_ | refine ln ?_ | refine aops_nil ?_ | refine aw_seq ?_ | refine aw_region ?_ | refine aw_cond_f rfl ?_ | refine aw_skip ?_ | refine cl cA ?_ | fail))
      refine raw_defer (z := [0, 1, 2, 3]) hK ?_
      rcases hgo with ⟨G, v, hM, rfl⟩ | ⟨e, hF, rfl⟩
      · (repeat' (first | refine mv ?_ | refine asg ?_ | refine ld ?_ | refine fi ?_ | refine bw ?_ | refine la ?_ | refine so ?_ | refine bd ?_ | refine aops_nil ?_ | refine aw_seq ?_ | refine aw_region ?_ | refine bx 1000 ?_ | refine cl primitives_ok ?_ | refine ia k hk ?_ (hn := by omega) | refine cM hM ?_ (hg' := hg) (hno := inz_cons (.ptr _ _ _ rfl) (inZL_no hcn.mem)) | fail))
        refine aw_drawP 8 [(5, 1, .live 24 3 [encHeap G], none), (6, 2, .live 3 1 [[iv v]], none), (7, 3, .live 30 1 [[iv 0]], none)] ?_
        (repeat' (first | refine dPn ?_ | refine dP (fun _ => y_move) ?_ | refine dP (fun _ => y_load) ?_ | refine dP (fun _ => y_faddr_ptr (hs := Nat.le_of_ble_eq_true rfl)) ?_ | refine dP (fun _ => y_nilcP) ?_ | refine dP (fun _ => y_loadsN) ?_ | refine dPS (fun _ => y_storeV) ?_ | fail))
        (repeat' (first | refine aops_nil ?_ | refine aw_ret ?_ | fail))
        refine ⟨doL H G v 0, _, rfl, ⟨rfl, rfl, rfl, rfl, trivial⟩, ?_, rfl, do1_ret H G v 0, ?_⟩
        · repeat' (first | exact trivial | (refine inZLL_no ?_; simp <;> fail) | refine ⟨?_, ?_⟩)
        · rintro u' L' ⟨rfl, z, rfl, rfl⟩
          refine ⟨rfl, fit_of ?_, _, rfl, sh_do⟩
          repeat' (first | exact trivial | exact ⟨_, rfl, rfl⟩ | refine ⟨?_, ?_⟩)
      · (repeat' (first | refine mv ?_ | refine asg ?_ | refine ld ?_ | refine fi ?_ | refine bw ?_ | refine la ?_ | refine bd ?_ | refine aops_nil ?_ | refine aw_seq ?_ | refine aw_region ?_ | refine bx 1000 ?_ | refine cl primitives_ok ?_ | refine ia k hk ?_ (hn := by omega) | refine cFx hF ?_ (hg' := hg) (hno := inz_cons (.ptr _ _ _ rfl) (inZL_no hcn.mem)) | fail))
        refine ⟨doZ H, _, rfl, ⟨rfl, rfl, rfl, rfl, trivial⟩, ?_, rfl, do1_pan H e, ?_⟩
        · repeat' (first | exact trivial | (refine inZLL_no ?_; simp <;> fail) | refine ⟨?_, ?_⟩)
        · rintro u' L' ⟨rfl, z, rfl, rfl⟩
          refine ⟨rfl, fit_of ?_, _, rfl, sh_do⟩
          repeat' (first | exact trivial | exact ⟨_, rfl, rfl⟩ | refine ⟨?_, ?_⟩)
end Go.Proofs.YtnjihhheiiapnaaGreat
