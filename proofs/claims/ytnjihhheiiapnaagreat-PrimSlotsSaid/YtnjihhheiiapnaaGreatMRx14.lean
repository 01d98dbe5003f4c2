/- What the statements' walks need. -/
import Derived.Test.YtnjihhheiiapnaaGreatMRa4
import Derived.Test.YtnjihhheiiapnaaGreatMRx12
import Derived.Test.YtnjihhheiiapnaaGreatMRx13
import Derived.Test.YtnjihhheiiapnaaGreatMRa2
import Derived.Test.YtnjihhheiiapnaaGreatMRx8
import Derived.Test.YtnjihhheiiapnaaGreatMRa3
set_option linter.unusedVariables false
set_option linter.unusedSimpArgs false
set_option maxRecDepth 100000
namespace Go.Proofs.YtnjihhheiiapnaaGreat
open Go Go.Proofs AW
theorem mayH_iff {H : HHeap} : mayH H = true ↔ (1 ≤ H.cap ∧ H.cap ≤ 256 ∧ (H.objs.length : Int) ≤ H.cap ∧ 0 ≤ H.last ∧ H.last ≤ 1073741823) ∧ ∀ o ∈ H.objs, mayObj H.objs.length o = true := by
  simp [mayH]
@[simp] theorem put_len (H : HHeap) (i : Nat) (o : HObj) : (H.put i o).objs.length = H.objs.length := by simp [HHeap.put]
@[simp] theorem put_ref (H : HHeap) (i : Nat) (o : HObj) (v : Int) : (H.put i o).ref v = H.ref v := by simp [HHeap.ref]
theorem put_in {H : HHeap} (h : H.In) {o : HObj} (ho : o.In) (i : Nat) : (H.put i o).In := by
  refine ⟨fun p hp => ?_, h.2.1, h.2.2.1, by rw [put_len]; exact h.2.2.2⟩
  rcases List.mem_or_eq_of_mem_set hp with hp | rfl
  · exact h.1 p hp
  · exact ho
theorem put_may {H : HHeap} (h : mayH H = true) {o : HObj} (ho : mayObj H.objs.length o = true) (i : Nat) : mayH (H.put i o) = true := by
  rw [mayH_iff] at h ⊢
  rw [put_len]
  refine ⟨h.1, fun p hp => ?_⟩
  rcases List.mem_or_eq_of_mem_set hp with hp | rfl
  · exact h.2 p hp
  · exact ho
theorem put_at_same {H : HHeap} {v : Int} (h : 0 ≤ H.ref v) (o : HObj) : (H.put (H.ref v).toNat o).at' v = o := by
  simp only [HHeap.at', put_ref]
  simp only [HHeap.put]
  rw [List.getElem?_set_self (ref_lt h)]
  rfl
theorem put_at_other {H : HHeap} {v : Int} {i : Nat} (h : (H.ref v).toNat ≠ i) (o : HObj) : (H.put i o).at' v = H.at' v := by
  simp only [HHeap.at', put_ref]
  simp only [HHeap.put]
  rw [List.getElem?_set_ne (Ne.symm h)]
theorem put_put (H : HHeap) (i : Nat) (o p : HObj) : (H.put i o).put i p = H.put i p := by simp [HHeap.put]
theorem put_self {H : HHeap} {v : Int} (h : 0 ≤ H.ref v) : H.put (H.ref v).toNat (H.at' v) = H := by
  refine heap_ext rfl rfl ?_
  have := at_get h
  simp only [HHeap.put]
  apply List.ext_getElem?
  intro j
  by_cases hj : (H.ref v).toNat = j
  · subst hj; rw [List.getElem?_set_self (ref_lt h), this]
  · rw [List.getElem?_set_ne hj]
theorem at_in {H : HHeap} (h : H.In) {v : Int} (hv : 0 ≤ H.ref v) : (H.at' v).In := h.1 _ (at_mem hv)
theorem has_in {n v : Int} (h : hasB n v = true) (hn : n < 1099511627776) : In64 v := by
  simp only [hasB, Bool.or_eq_true, decide_eq_true_eq] at h
  unfold In64
  rcases h with h | h
  · simp only [isN, decide_eq_true_eq] at h; omega
  · unfold refI at h
    split at h
    · rename_i hc; simp only [isAt, decide_eq_true_eq] at hc; omega
    · omega
theorem set0 {H : HHeap} {v slot x : Int} (h : setE H v slot x = 0) : wrongE H v 0 slot = 0 ∧ hasB H.objs.length x = true ∧ setH H v slot x = H.put (H.ref v).toNat { H.at' v with slots := (H.at' v).slots.set slot.toNat x } := by
  have h' := h
  simp only [setE] at h
  split at h
  · rename_i h1
    split at h
    · rename_i h2
      exact ⟨h1, h2, by simp [setH, h']⟩
    · omega
  · exact absurd h (by assumption)
theorem slots_in {o : HObj} (h : o.In) {k : Nat} {x : Int} (hx : In64 x) : ({ o with slots := o.slots.set k x } : HObj).In := by
  obtain ⟨h1, h2, h3, h4, h5, h6, h7⟩ := h
  refine ⟨h1, h2, fun y hy => ?_, h4, h5, by simpa using h6, h7⟩
  rcases List.mem_or_eq_of_mem_set hy with hy | rfl
  · exact h3 y hy
  · exact hx
theorem slots_may {n : Int} {o : HObj} (h : mayObj n o = true) {k : Nat} {x : Int} (hx : hasB n x = true) : mayObj n { o with slots := o.slots.set k x } = true := by
  simp only [mayObj, headB, kindB, restB, Bool.and_eq_true, decide_eq_true_eq, List.length_set, List.all_eq_true] at h ⊢
  refine ⟨h.1, h.2.1, h.2.2.1, fun y hy => ?_⟩
  rcases List.mem_or_eq_of_mem_set hy with hy | rfl
  · exact h.2.2.2 y hy
  · exact hx
theorem keptH_in {H : HHeap} (h : H.In) (e : Int) : (keptH H e).In := by
  unfold keptH; split
  · simp [emptyH, HHeap.In, In64]
  · exact h
theorem setH_in {H : HHeap} (h : H.In) {v slot x : Int} : (setH H v slot x).In := by
  by_cases he : setE H v slot x = 0
  · obtain ⟨h1, h2, h3⟩ := set0 he
    obtain ⟨_, hr, _⟩ := wrong0 h1
    rw [h3]
    exact put_in h (slots_in (at_in h hr) (has_in h2 (by have := h.2.2.2; omega))) _
  · simp only [setH, he, if_false]; exact keptH_in h _
theorem setH_may {H : HHeap} {v slot x : Int} (he : setE H v slot x = 0) : mayH (setH H v slot x) = true := by
  obtain ⟨h1, h2, h3⟩ := set0 he
  obtain ⟨hm, hr, _⟩ := wrong0 h1
  rw [h3]
  exact put_may hm (slots_may (may_obj hm (at_mem hr)) h2) _
theorem wrong_put {H : HHeap} {v : Int} (hm : mayH H = true) (hr : 0 ≤ H.ref v) {o : HObj} (ho : mayObj H.objs.length o = true) (hk : o.kind = (H.at' v).kind) (hl : o.slots.length = (H.at' v).slots.length) (ht : o.text.size = (H.at' v).text.size)
    (w kind a : Int) : wrongE (H.put (H.ref v).toNat o) w kind a = wrongE H w kind a := by
  have h1 := put_may hm ho (H.ref v).toNat
  simp only [wrongE, h1, hm, put_ref]
  by_cases hw : H.ref w < 0
  · simp [hw]
  · by_cases hvw : (H.ref w).toNat = (H.ref v).toNat
    · have e1 : H.ref w = H.ref v := by omega
      have e2 : (H.put (H.ref v).toNat o).at' w = o := by rw [← e1]; exact put_at_same (by omega) o
      have e3 : H.at' w = H.at' v := by simp only [HHeap.at', e1]
      rw [e2, e3, hk, hl, ht]
    · rw [put_at_other hvw]
theorem set_wrong {H : HHeap} {v slot x : Int} (he : setE H v slot x = 0) (w kind a : Int) : wrongE (setH H v slot x) w kind a = wrongE H w kind a := by
  obtain ⟨h1, h2, h3⟩ := set0 he
  obtain ⟨hm, hr, _⟩ := wrong0 h1
  rw [h3]
  exact wrong_put hm hr (slots_may (may_obj hm (at_mem hr)) h2) rfl (by simp) rfl w kind a
theorem set_ref {H : HHeap} {v slot x : Int} (he : setE H v slot x = 0) (w : Int) : (setH H v slot x).ref w = H.ref w := by
  rw [(set0 he).2.2, put_ref]
theorem set_len {H : HHeap} {v slot x : Int} (he : setE H v slot x = 0) : (setH H v slot x).objs.length = H.objs.length := by
  rw [(set0 he).2.2, put_len]
theorem slot_lt {H : HHeap} {v a : Int} (h : wrongE H v 0 a = 0) : a.toNat < (H.at' v).slots.length := by
  obtain ⟨hm, hr, hk, ha, hb⟩ := wrong0 h
  have := (kind_lens hm hr).2 (by omega)
  omega
theorem setH_get {H : HHeap} {v slot x : Int} (he : setE H v slot x = 0) : getI (setH H v slot x) v slot = x := by
  obtain ⟨h1, h2, h3⟩ := set0 he
  obtain ⟨hm, hr, _, ha, _⟩ := wrong0 h1
  have hl := slot_lt h1
  simp only [getI, set_wrong he, h1, if_true]
  rw [h3, put_at_same hr]
  simp [hl]
theorem set_back {H : HHeap} {v slot x : Int} (he : setE H v slot x = 0) : setE (setH H v slot x) v slot (getI H v slot) = 0 ∧ setH (setH H v slot x) v slot (getI H v slot) = H := by
  obtain ⟨h1, h2, h3⟩ := set0 he
  obtain ⟨hm, hr, _, ha, _⟩ := wrong0 h1
  have hl := slot_lt h1
  have hg : getI H v slot = (H.at' v).slots[slot.toNat] := by simp [getI, h1, hl]
  have ho := may_obj hm (at_mem hr)
  have hh : hasB H.objs.length (getI H v slot) = true := by
    simp only [mayObj, restB, Bool.and_eq_true, List.all_eq_true] at ho
    rw [hg]; exact ho.2.2.2 _ (List.getElem_mem hl)
  have e0 : setE (setH H v slot x) v slot (getI H v slot) = 0 := by
    simp only [setE, set_wrong he, h1, if_true, set_len he, hh]
  refine ⟨e0, ?_⟩
  obtain ⟨_, _, h4⟩ := set0 e0
  rw [h4, set_ref he]
  rw [h3, put_at_same hr, put_put]
  have : ({ ({ H.at' v with slots := (H.at' v).slots.set slot.toNat x } : HObj) with slots := ((H.at' v).slots.set slot.toNat x).set slot.toNat (getI H v slot) } : HObj) = H.at' v := by
    rw [hg, List.set_set, List.set_getElem_self]
  rw [this]
  exact put_self hr
end Go.Proofs.YtnjihhheiiapnaaGreat
namespace Go.Proofs.YtnjihhheiiapnaaGreat
open Go Go.Proofs AW
theorem ref_cases (H : HHeap) (v : Int) : (isAt v = false ∧ H.ref v = -1) ∨ (isAt v = true ∧ atI v = v / 2 ∧ (H.objs.length : Int) ≤ v / 2 ∧ H.ref v = -1) ∨ (isAt v = true ∧ atI v = H.ref v ∧ 0 ≤ H.ref v ∧ H.ref v < H.objs.length) := by
  cases h : isAt v with
  | false => left; exact ⟨rfl, by simp [HHeap.ref, refI, h]⟩
  | true =>
    have h' : v % 2 = 0 ∧ 0 ≤ v ∧ v ≤ 2097150 := by simpa [isAt] using h
    by_cases h2 : v / 2 < (H.objs.length : Int)
    · right; right
      have e : H.ref v = v / 2 := by simp [HHeap.ref, refI, h, h2]
      exact ⟨rfl, by simp [atI, h, e], by omega, by omega⟩
    · right; left
      exact ⟨rfl, by simp [atI, h], by omega, by simp [HHeap.ref, refI, h, h2]⟩
def numV (n : Int) : Int := if -1073741824 ≤ n ∧ n ≤ 1073741823 then n * 2 + 1 else 0
def smallB (n : Int) : Bool := decide (-1073741824 ≤ n ∧ n ≤ 1073741823)
theorem Int_ok (n : Int) : Gives Tryz.prog 145 [iv n] (.tup [iv (numV n), bv (smallB n)]) := by
  refine gives_of Tryz.func145 rfl (Nat.le_of_ble_eq_true rfl) ?_
  by_cases h : -1073741824 ≤ n ∧ n ≤ 1073741823
  · (repeat' (first | refine mv ?_ | refine asg ?_ | refine o1 ?_ | refine sll (c := 2) ?_ | refine un ?_ | refine aops_nil ?_ | refine aw_seq ?_ | refine aw_region ?_ | refine aw_cond_f rfl ?_ | refine aw_skip ?_ | refine aw_ret ?_ | refine cl ((small_ok n).to' (congrArg bv (decide_eq_true h))) ?_ | fail))
    exact fin (sh_ib (x := n * 2 + 1) (y := true) (by simp only [numV, if_pos h]) (decide_eq_true h).symm)
  · (repeat' (first | refine mv ?_ | refine asg ?_ | refine un ?_ | refine aops_nil ?_ | refine aw_seq ?_ | refine aw_region ?_ | refine aw_cond_t rfl ?_ | refine aw_ret ?_ | refine cl ((small_ok n).to' (congrArg bv (decide_eq_false h))) ?_ | fail))
    exact fin (sh_ib (x := 0) (y := false) (by simp only [numV, if_neg h]) (by simp only [smallB]; exact (decide_eq_false h).symm))
end Go.Proofs.YtnjihhheiiapnaaGreat
namespace Go.Proofs.YtnjihhheiiapnaaGreat
open Go Go.Proofs AW
@[simp] theorem all_heap (H : HHeap) : (∀ x ∈ encHeap H, NoOwn x) ↔ True := ⟨fun _ => trivial, fun _ => by have := noOwn_heap H; rwa [noOwn_agg] at this⟩
@[simp] theorem all_obj (o : HObj) : (∀ x ∈ encObj o, NoOwn x) ↔ True := ⟨fun _ => trivial, fun _ => noOwn_obj o⟩
@[simp] theorem all_objs (l : List HObj) : (∀ c ∈ encObjs l, ∀ x ∈ c, NoOwn x) ↔ True := ⟨fun _ => trivial, fun _ c hc => by obtain ⟨o, _, rfl⟩ := List.mem_map.1 hc; exact noOwn_obj o⟩
@[simp] theorem all_ints (l : List Int) : (∀ c ∈ encInts l, ∀ x ∈ c, NoOwn x) ↔ True := ⟨fun _ => trivial, fun _ c hc => noOwn_intsc hc⟩
def failV (e : Int) : Value := .iface 48 (.agg #[.int .i64 e])
theorem need_yes : Gives Tryz.prog 119 [bv true] (.tup []) := by
  refine gives_of Tryz.func119 rfl (Nat.le_of_ble_eq_true rfl) ?_
  (repeat' (first | refine mv ?_ | refine un ?_ | refine aops_nil ?_ | refine aw_seq ?_ | refine aw_region ?_ | refine aw_cond_f rfl ?_ | refine aw_skip ?_ | fail))
  exact finN (.same _ (.tup [] (by simp)))
theorem need_no : Fails Tryz.prog 119 [] [bv false] (failV 130) := by
  refine okM_of Tryz.func119 rfl (Nat.le_of_ble_eq_true rfl) ?_
  (repeat' (first | refine mv ?_ | refine un ?_ | refine bd ?_ | refine aops_nil ?_ | refine aw_seq ?_ | refine aw_region ?_ | refine aw_cond_t rfl ?_ | refine mi ?_ | exact pc (fun _ => panE rfl) | fail))
theorem psmall_yes (v : Int) (h : isN v = true) : Gives Tryz.prog 61 [iv v] (iv (nI v)) := by
  have cn := (N_ok v).to' (by rw [h])
  refine gives_of Tryz.func61 rfl (Nat.le_of_ble_eq_true rfl) ?_
  (repeat' (first | refine mv ?_ | refine asg ?_ | refine ex ?_ | refine aops_nil ?_ | refine aw_seq ?_ | refine aw_region ?_ | refine aw_ret ?_ | refine cl cn ?_ | refine cl need_yes ?_ | fail))
  exact fin (sh_iv rfl)
theorem psmall_no (v : Int) (h : isN v = false) : Fails Tryz.prog 61 [] [iv v] (failV 130) := by
  have cn := (N_ok v).to' (by rw [h])
  refine okM_of Tryz.func61 rfl (Nat.le_of_ble_eq_true rfl) ?_
  (repeat' (first | refine mv ?_ | refine asg ?_ | refine ex ?_ | refine aops_nil ?_ | refine aw_seq ?_ | refine aw_region ?_ | refine cl cn ?_ | exact cF need_no (fun _ => panE rfl) | fail))
end Go.Proofs.YtnjihhheiiapnaaGreat
namespace Go.Proofs.YtnjihhheiiapnaaGreat
open Go Go.Proofs AW
abbrev callC (H : HHeap) (s : Int) (a : List Int) : List AV := [.sl 6 (encObjs H.objs), iv H.cap, iv H.last, iv s, .sl 1 (encInts a)]
def cR (H : HHeap) (s : Int) (a : List Int) : List (Nat × Ob) := [(1000, .live 52 5 [callC H s a])]
theorem cR_same (H : HHeap) (s : Int) (a : List Int) {T : Nat → Ob} (h : T 1000 = .live 52 5 [callC H s a]) : FzAll id T (tb (cR H s a)) ((cR H s a).map (·.1)) :=
  ⟨.same _ _ _ h rfl (by simp), trivial⟩
theorem object_no (H : HHeap) (s : Int) (a : List Int) (v : Int) (h : isAt v = false) : Fails Tryz.prog 124 (cR H s a) [.ptr 1000 0 0, iv v] (failV 130) := by
  have ca := (At_ok v).to' (by rw [h])
  refine okM_of Tryz.func124 rfl (Nat.le_of_ble_eq_true rfl) ?_
  (repeat' (first | refine mv ?_ | refine asg ?_ | refine ex ?_ | refine aops_nil ?_ | refine aw_seq ?_ | refine aw_region ?_ | refine cl ca ?_ | exact cF need_no (fun _ => panE rfl) | fail))
theorem object_yes (H : HHeap) (s : Int) (a : List Int) (v : Int) (h : 0 ≤ H.ref v) : Mut Tryz.prog 124 (cR H s a) [.ptr 1000 0 0, iv v] (.ip (encObj (H.at' v))) (cR H s a) := by
  obtain ⟨e1, e2, e3, e4⟩ := (ref_cases H v).resolve_left (fun e => by omega) |>.resolve_left (fun e => by omega)
  have ca := (At_ok v).to' (by rw [e1, e2])
  refine okM_of Tryz.func124 rfl (Nat.le_of_ble_eq_true rfl) ?_
  (repeat' (first | refine mv ?_ | refine asg ?_ | refine ld ?_ | refine fp ?_ | refine ex ?_ | refine nkp ?_ | refine aops_nil ?_ | refine aw_seq ?_ | refine aw_region ?_ | refine cl ca ?_ | refine cl need_yes ?_ | fail))
  refine ia (H.ref v).toNat (objs_get (at_get (H := H) (v := v) h)) ?_ (hn := by omega)
  (repeat' (first | refine asg ?_ | refine aops_nil ?_ | refine aw_ret ?_ | fail))
  exact finM (cR H s a) ⟨rfl, rfl⟩ (cR_same H s a rfl) (.same _ (.ip _ (by simp [encObj])))
theorem took_yes (H G : HHeap) (s : Int) (a : List Int) : Mut Tryz.prog 122 (cR H s a) [.ptr 1000 0 0, .agg (encHeap G), iv 0] (.tup []) (cR G s a) := by
  refine okM_of Tryz.func122 rfl (Nat.le_of_ble_eq_true rfl) ?_
  (repeat' (first | refine mv ?_ | refine fp ?_ | refine bt ?_ | refine bf ?_ | refine la ?_ | refine so ?_ | refine nkp ?_ | refine aops_nil ?_ | refine aw_seq ?_ | refine aw_region ?_ | refine aw_cond_f rfl ?_ | refine aw_skip ?_ | refine bx 0 ?_ | refine cl need_yes ?_ | fail))
  exact finMn (cR G s a) ⟨rfl, rfl⟩ (cR_same G s a rfl) (.same _ (.tup [] (by simp)))
theorem took_full (H G : HHeap) (s : Int) (a : List Int) : Fails Tryz.prog 122 (cR H s a) [.ptr 1000 0 0, .agg (encHeap G), iv 30] (failV 30) := by
  refine okM_of Tryz.func122 rfl (Nat.le_of_ble_eq_true rfl) ?_
  (repeat' (first | refine mv ?_ | refine bt ?_ | refine bd ?_ | refine aops_nil ?_ | refine aw_seq ?_ | refine aw_region ?_ | refine aw_cond_t rfl ?_ | refine bx 0 ?_ | refine mi ?_ | exact pc (fun _ => panE rfl) | fail))
theorem took_no (H G : HHeap) (s : Int) (a : List Int) (e : Int) (h0 : e ≠ 0) (h1 : e ≠ 30) : Fails Tryz.prog 122 (cR H s a) [.ptr 1000 0 0, .agg (encHeap G), iv e] (failV 130) := by
  refine okM_of Tryz.func122 rfl (Nat.le_of_ble_eq_true rfl) ?_
  (repeat' (first | refine mv ?_ | refine bf ?_ | refine aops_nil ?_ | refine aw_seq ?_ | refine aw_region ?_ | refine aw_cond_f rfl ?_ | refine aw_skip ?_ | refine bx 0 ?_ | exact cF need_no (fun _ => panE rfl) | fail))
end Go.Proofs.YtnjihhheiiapnaaGreat
