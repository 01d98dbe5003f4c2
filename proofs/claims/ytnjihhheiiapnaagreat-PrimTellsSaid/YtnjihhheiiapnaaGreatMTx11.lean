/- What the statements' walks need. -/
import Derived.Test.YtnjihhheiiapnaaGreatMTa4
import Derived.Test.YtnjihhheiiapnaaGreatMTx8
import Derived.Test.YtnjihhheiiapnaaGreatMTx9
import Derived.Test.YtnjihhheiiapnaaGreatMTa2
import Derived.Test.YtnjihhheiiapnaaGreatMTx5
import Derived.Test.YtnjihhheiiapnaaGreatMTa3
import Derived.Test.YtnjihhheiiapnaaGreatMTx7
set_option linter.unusedVariables false
set_option linter.unusedSimpArgs false
set_option maxRecDepth 100000
namespace Go.Proofs.YtnjihhheiiapnaaGreat
open Go Go.Proofs AW
theorem mayH_iff {H : HHeap} : mayH H = true ↔ (1 ≤ H.cap ∧ H.cap ≤ 256 ∧ (H.objs.length : Int) ≤ H.cap ∧ 0 ≤ H.last ∧ H.last ≤ 1073741823) ∧ ∀ o ∈ H.objs, mayObj H.objs.length o = true := by
  simp [mayH]
@[simp] theorem put_len (H : HHeap) (i : Nat) (o : HObj) : (H.put i o).objs.length = H.objs.length := by simp [HHeap.put]
@[simp] theorem put_ref (H : HHeap) (i : Nat) (o : HObj) (v : Int) : (H.put i o).ref v = H.ref v := by simp [HHeap.ref]
theorem put_in {H : HHeap} (h : H.In) {o : HObj} (ho : o.In) (i : Nat) : (H.put i o).In := by
  refine ⟨fun p hp => ?_, h.2.1, h.2.2.1, by rw [put_len]; exact h.2.2.2⟩
  rcases List.mem_or_eq_of_mem_set hp with hp | rfl
  · exact h.1 p hp
  · exact ho
theorem at_in {H : HHeap} (h : H.In) {v : Int} (hv : 0 ≤ H.ref v) : (H.at' v).In := h.1 _ (at_mem hv)
theorem has_in {n v : Int} (h : hasB n v = true) (hn : n < 1099511627776) : In64 v := by
  simp only [hasB, Bool.or_eq_true, decide_eq_true_eq] at h
  unfold In64
  rcases h with h | h
  · simp only [isN, decide_eq_true_eq] at h; omega
  · unfold refI at h
    split at h
    · rename_i hc; simp only [isAt, decide_eq_true_eq] at hc; omega
    · omega
theorem set0 {H : HHeap} {v slot x : Int} (h : setE H v slot x = 0) : wrongE H v 0 slot = 0 ∧ hasB H.objs.length x = true ∧ setH H v slot x = H.put (H.ref v).toNat { H.at' v with slots := (H.at' v).slots.set slot.toNat x } := by
  have h' := h
  simp only [setE] at h
  split at h
  · rename_i h1
    split at h
    · rename_i h2
      exact ⟨h1, h2, by simp [setH, h']⟩
    · omega
  · exact absurd h (by assumption)
theorem slots_in {o : HObj} (h : o.In) {k : Nat} {x : Int} (hx : In64 x) : ({ o with slots := o.slots.set k x } : HObj).In := by
  obtain ⟨h1, h2, h3, h4, h5, h6, h7⟩ := h
  refine ⟨h1, h2, fun y hy => ?_, h4, h5, by simpa using h6, h7⟩
  rcases List.mem_or_eq_of_mem_set hy with hy | rfl
  · exact h3 y hy
  · exact hx
theorem keptH_in {H : HHeap} (h : H.In) (e : Int) : (keptH H e).In := by
  unfold keptH; split
  · simp [emptyH, HHeap.In, In64]
  · exact h
theorem setH_in {H : HHeap} (h : H.In) {v slot x : Int} : (setH H v slot x).In := by
  by_cases he : setE H v slot x = 0
  · obtain ⟨h1, h2, h3⟩ := set0 he
    obtain ⟨_, hr, _⟩ := wrong0 h1
    rw [h3]
    exact put_in h (slots_in (at_in h hr) (has_in h2 (by have := h.2.2.2; omega))) _
  · simp only [setH, he, if_false]; exact keptH_in h _
end Go.Proofs.YtnjihhheiiapnaaGreat
namespace Go.Proofs.YtnjihhheiiapnaaGreat
open Go Go.Proofs AW
theorem ref_cases (H : HHeap) (v : Int) : (isAt v = false ∧ H.ref v = -1) ∨ (isAt v = true ∧ atI v = v / 2 ∧ (H.objs.length : Int) ≤ v / 2 ∧ H.ref v = -1) ∨ (isAt v = true ∧ atI v = H.ref v ∧ 0 ≤ H.ref v ∧ H.ref v < H.objs.length) := by
  cases h : isAt v with
  | false => left; exact ⟨rfl, by simp [HHeap.ref, refI, h]⟩
  | true =>
    have h' : v % 2 = 0 ∧ 0 ≤ v ∧ v ≤ 2097150 := by simpa [isAt] using h
    by_cases h2 : v / 2 < (H.objs.length : Int)
    · right; right
      have e : H.ref v = v / 2 := by simp [HHeap.ref, refI, h, h2]
      exact ⟨rfl, by simp [atI, h, e], by omega, by omega⟩
    · right; left
      exact ⟨rfl, by simp [atI, h], by omega, by simp [HHeap.ref, refI, h, h2]⟩
def smI (v most : Int) : Int := if isN v = true ∧ 0 ≤ nI v ∧ nI v ≤ most then nI v else -1
def numV (n : Int) : Int := if -1073741824 ≤ n ∧ n ≤ 1073741823 then n * 2 + 1 else 0
def smallB (n : Int) : Bool := decide (-1073741824 ≤ n ∧ n ≤ 1073741823)
theorem Int_ok (n : Int) : Gives Tryz.prog 145 [iv n] (.tup [iv (numV n), bv (smallB n)]) := by
  refine gives_of Tryz.func145 rfl (Nat.le_of_ble_eq_true rfl) ?_
  by_cases h : -1073741824 ≤ n ∧ n ≤ 1073741823
  · (repeat' (first | refine mv ?_ | refine asg ?_ | refine o1 ?_ | refine sll (c := 2) ?_ | refine un ?_ | refine aops_nil ?_ | refine aw_seq ?_ | refine aw_region ?_ | refine aw_cond_f rfl ?_ | refine aw_skip ?_ | refine aw_ret ?_ | refine cl ((small_ok n).to' (congrArg bv (decide_eq_true h))) ?_ | fail))
    exact fin (sh_ib (x := n * 2 + 1) (y := true) (by simp only [numV, if_pos h]) (decide_eq_true h).symm)
  · (repeat' (first | refine mv ?_ | refine asg ?_ | refine un ?_ | refine aops_nil ?_ | refine aw_seq ?_ | refine aw_region ?_ | refine aw_cond_t rfl ?_ | refine aw_ret ?_ | refine cl ((small_ok n).to' (congrArg bv (decide_eq_false h))) ?_ | fail))
    exact fin (sh_ib (x := 0) (y := false) (by simp only [numV, if_neg h]) (by simp only [smallB]; exact (decide_eq_false h).symm))
end Go.Proofs.YtnjihhheiiapnaaGreat
namespace Go.Proofs.YtnjihhheiiapnaaGreat
open Go Go.Proofs AW
@[simp] theorem all_heap (H : HHeap) : (∀ x ∈ encHeap H, NoOwn x) ↔ True := ⟨fun _ => trivial, fun _ => by have := noOwn_heap H; rwa [noOwn_agg] at this⟩
@[simp] theorem all_obj (o : HObj) : (∀ x ∈ encObj o, NoOwn x) ↔ True := ⟨fun _ => trivial, fun _ => noOwn_obj o⟩
@[simp] theorem all_objs (l : List HObj) : (∀ c ∈ encObjs l, ∀ x ∈ c, NoOwn x) ↔ True := ⟨fun _ => trivial, fun _ c hc => by obtain ⟨o, _, rfl⟩ := List.mem_map.1 hc; exact noOwn_obj o⟩
@[simp] theorem all_ints (l : List Int) : (∀ c ∈ encInts l, ∀ x ∈ c, NoOwn x) ↔ True := ⟨fun _ => trivial, fun _ c hc => noOwn_intsc hc⟩
def failV (e : Int) : Value := .iface 48 (.agg #[.int .i64 e])
theorem need_yes : Gives Tryz.prog 119 [bv true] (.tup []) := by
  refine gives_of Tryz.func119 rfl (Nat.le_of_ble_eq_true rfl) ?_
  (repeat' (first | refine mv ?_ | refine un ?_ | refine aops_nil ?_ | refine aw_seq ?_ | refine aw_region ?_ | refine aw_cond_f rfl ?_ | refine aw_skip ?_ | fail))
  exact finN (.same _ (.tup [] (by simp)))
theorem need_no : Fails Tryz.prog 119 [] [bv false] (failV 130) := by
  refine okM_of Tryz.func119 rfl (Nat.le_of_ble_eq_true rfl) ?_
  (repeat' (first | refine mv ?_ | refine un ?_ | refine bd ?_ | refine aops_nil ?_ | refine aw_seq ?_ | refine aw_region ?_ | refine aw_cond_t rfl ?_ | refine mi ?_ | exact pc (fun _ => panE rfl) | fail))
theorem psmall_yes (v : Int) (h : isN v = true) : Gives Tryz.prog 61 [iv v] (iv (nI v)) := by
  have cn := (N_ok v).to' (by rw [h])
  refine gives_of Tryz.func61 rfl (Nat.le_of_ble_eq_true rfl) ?_
  (repeat' (first | refine mv ?_ | refine asg ?_ | refine ex ?_ | refine aops_nil ?_ | refine aw_seq ?_ | refine aw_region ?_ | refine aw_ret ?_ | refine cl cn ?_ | refine cl need_yes ?_ | fail))
  exact fin (sh_iv rfl)
theorem psmall_no (v : Int) (h : isN v = false) : Fails Tryz.prog 61 [] [iv v] (failV 130) := by
  have cn := (N_ok v).to' (by rw [h])
  refine okM_of Tryz.func61 rfl (Nat.le_of_ble_eq_true rfl) ?_
  (repeat' (first | refine mv ?_ | refine asg ?_ | refine ex ?_ | refine aops_nil ?_ | refine aw_seq ?_ | refine aw_region ?_ | refine cl cn ?_ | exact cF need_no (fun _ => panE rfl) | fail))
end Go.Proofs.YtnjihhheiiapnaaGreat
namespace Go.Proofs.YtnjihhheiiapnaaGreat
open Go Go.Proofs AW
abbrev callC (H : HHeap) (s : Int) (a : List Int) : List AV := [.sl 6 (encObjs H.objs), iv H.cap, iv H.last, iv s, .sl 1 (encInts a)]
def cR (H : HHeap) (s : Int) (a : List Int) : List (Nat × Ob) := [(1000, .live 52 5 [callC H s a])]
theorem cR_same (H : HHeap) (s : Int) (a : List Int) {T : Nat → Ob} (h : T 1000 = .live 52 5 [callC H s a]) : FzAll id T (tb (cR H s a)) ((cR H s a).map (·.1)) :=
  ⟨.same _ _ _ h rfl (by simp), trivial⟩
theorem object_no (H : HHeap) (s : Int) (a : List Int) (v : Int) (h : isAt v = false) : Fails Tryz.prog 124 (cR H s a) [.ptr 1000 0 0, iv v] (failV 130) := by
  have ca := (At_ok v).to' (by rw [h])
  refine okM_of Tryz.func124 rfl (Nat.le_of_ble_eq_true rfl) ?_
  (repeat' (first | refine mv ?_ | refine asg ?_ | refine ex ?_ | refine aops_nil ?_ | refine aw_seq ?_ | refine aw_region ?_ | refine cl ca ?_ | exact cF need_no (fun _ => panE rfl) | fail))
theorem object_yes (H : HHeap) (s : Int) (a : List Int) (v : Int) (h : 0 ≤ H.ref v) : Mut Tryz.prog 124 (cR H s a) [.ptr 1000 0 0, iv v] (.ip (encObj (H.at' v))) (cR H s a) := by
  obtain ⟨e1, e2, e3, e4⟩ := (ref_cases H v).resolve_left (fun e => by omega) |>.resolve_left (fun e => by omega)
  have ca := (At_ok v).to' (by rw [e1, e2])
  refine okM_of Tryz.func124 rfl (Nat.le_of_ble_eq_true rfl) ?_
  (repeat' (first | refine mv ?_ | refine asg ?_ | refine ld ?_ | refine fp ?_ | refine ex ?_ | refine nkp ?_ | refine aops_nil ?_ | refine aw_seq ?_ | refine aw_region ?_ | refine cl ca ?_ | refine cl need_yes ?_ | fail))
  refine ia (H.ref v).toNat (objs_get (at_get (H := H) (v := v) h)) ?_ (hn := by omega)
  (repeat' (first | refine asg ?_ | refine aops_nil ?_ | refine aw_ret ?_ | fail))
  exact finM (cR H s a) ⟨rfl, rfl⟩ (cR_same H s a rfl) (.same _ (.ip _ (by simp [encObj])))
theorem took_yes (H G : HHeap) (s : Int) (a : List Int) : Mut Tryz.prog 122 (cR H s a) [.ptr 1000 0 0, .agg (encHeap G), iv 0] (.tup []) (cR G s a) := by
  refine okM_of Tryz.func122 rfl (Nat.le_of_ble_eq_true rfl) ?_
  (repeat' (first | refine mv ?_ | refine fp ?_ | refine bt ?_ | refine bf ?_ | refine la ?_ | refine so ?_ | refine nkp ?_ | refine aops_nil ?_ | refine aw_seq ?_ | refine aw_region ?_ | refine aw_cond_f rfl ?_ | refine aw_skip ?_ | refine bx 0 ?_ | refine cl need_yes ?_ | fail))
  exact finMn (cR G s a) ⟨rfl, rfl⟩ (cR_same G s a rfl) (.same _ (.tup [] (by simp)))
theorem took_full (H G : HHeap) (s : Int) (a : List Int) : Fails Tryz.prog 122 (cR H s a) [.ptr 1000 0 0, .agg (encHeap G), iv 30] (failV 30) := by
  refine okM_of Tryz.func122 rfl (Nat.le_of_ble_eq_true rfl) ?_
  (repeat' (first | refine mv ?_ | refine bt ?_ | refine bd ?_ | refine aops_nil ?_ | refine aw_seq ?_ | refine aw_region ?_ | refine aw_cond_t rfl ?_ | refine bx 0 ?_ | refine mi ?_ | exact pc (fun _ => panE rfl) | fail))
theorem took_no (H G : HHeap) (s : Int) (a : List Int) (e : Int) (h0 : e ≠ 0) (h1 : e ≠ 30) : Fails Tryz.prog 122 (cR H s a) [.ptr 1000 0 0, .agg (encHeap G), iv e] (failV 130) := by
  refine okM_of Tryz.func122 rfl (Nat.le_of_ble_eq_true rfl) ?_
  (repeat' (first | refine mv ?_ | refine bf ?_ | refine aops_nil ?_ | refine aw_seq ?_ | refine aw_region ?_ | refine aw_cond_f rfl ?_ | refine aw_skip ?_ | refine bx 0 ?_ | exact cF need_no (fun _ => panE rfl) | fail))
end Go.Proofs.YtnjihhheiiapnaaGreat
namespace Go.Proofs.YtnjihhheiiapnaaGreat
open Go Go.Proofs AW
structure HMethod where
  prim : Int
  args : Int
  temps : Int
  code : List HInstr
  lits : List Int
  deriving DecidableEq
def HObj.sl (o : HObj) (k : Nat) : Int := (o.slots[k]?).getD 0
theorem sl_get {o : HObj} {k : Nat} (h : k < o.slots.length) : o.slots[k]? = some (o.sl k) := by simp [HObj.sl, h]
def HHeap.is (H : HHeap) (v kind : Int) : Prop := 0 ≤ H.ref v ∧ (H.at' v).kind = kind
instance (H : HHeap) (v kind : Int) : Decidable (H.is v kind) := inferInstanceAs (Decidable (_ ∧ _))
end Go.Proofs.YtnjihhheiiapnaaGreat
namespace Go.Proofs.YtnjihhheiiapnaaGreat
open Go Go.Proofs AW
theorem rsmall_ok' (v most : Int) : Gives Tryz.prog 94 [iv v, iv most] (iv (smI v most)) := by
  refine gives_of Tryz.func94 rfl (Nat.le_of_ble_eq_true rfl) ?_
  (repeat' (first | refine sk ?_ | refine mv ?_ | refine asg ?_ | refine bi ?_ | refine un ?_ | refine pt ?_ | refine pf ?_ | refine ex ?_ | refine aops_nil ?_ | refine aw_seq ?_ | refine aw_region ?_ | refine aw_cond_t rfl ?_ | refine aw_skip ?_ | refine aw_ret ?_ | refine cl (rN_ok v) ?_ | refine gs (fun h => ?_) (fun h => ?_) | refine aw_cond rfl (fun h => ?_) (fun h => ?_) | fail))
  all_goals refine fin (sh_iv ?_)
  all_goals (simp at *; simp [smI]; first | done | omega | grind)
theorem rkind_ok (H : HHeap) (hi : H.In) (v k : Int) : Gives Tryz.prog 139 [.agg (encHeap H), iv v, iv k] (bv (decide (0 ≤ H.ref v ∧ (H.at' v).kind = k))) := by
  have c1 : Gives Tryz.prog 22 [.agg (encHeap H), iv v] (iv (H.ref v)) := rRef_ok H v hi.2.2.2
  by_cases h : 0 ≤ H.ref v
  · have hget := at_get h
    have hn : H.ref v = ((H.ref v).toNat : Int) := (Int.toNat_of_nonneg h).symm
    refine gives_of Tryz.func139 rfl (Nat.le_of_ble_eq_true rfl) ?_
    (repeat' (first | refine mv ?_ | refine asg ?_ | refine ld ?_ | refine fp ?_ | refine fi ?_ | refine bt ?_ | refine bi ?_ | refine pt ?_ | refine la ?_ | refine aops_nil ?_ | refine aw_seq ?_ | refine aw_region ?_ | refine aw_ret ?_ | refine bx 0 ?_ | refine cl c1 ?_ (hno := ⟨noOwn_heap _, noOwn_iv _, trivial⟩) | refine ia (H.ref v).toNat (objs_get hget) ?_ (hn := hn) | fail))
    exact fin (sh_bv (x := decide ((H.at' v).kind = k)) (by simp [h]))
  · refine gives_of Tryz.func139 rfl (Nat.le_of_ble_eq_true rfl) ?_
    (repeat' (first | refine sk ?_ | refine mv ?_ | refine asg ?_ | refine bf ?_ | refine pf ?_ | refine la ?_ | refine aops_nil ?_ | refine aw_seq ?_ | refine aw_region ?_ | refine aw_ret ?_ | refine bx 0 ?_ | refine cl c1 ?_ (hno := ⟨noOwn_heap _, noOwn_iv _, trivial⟩) | fail))
    exact fin (sh_bv (x := false) (by simp [h]))
def slotI (H : HHeap) (v : Int) : List Int := if H.is v 0 then (H.at' v).slots else []
theorem rSlots_ok (H : HHeap) (hi : H.In) (v : Int) : Gives Tryz.prog 95 [.agg (encHeap H), iv v] (.sl 1 (encInts (slotI H v))) := by
  have c1 : Gives Tryz.prog 22 [.agg (encHeap H), iv v] (iv (H.ref v)) := rRef_ok H v hi.2.2.2
  by_cases h : H.is v 0
  · have c0 := (rkind_ok H hi v 0).to' (congrArg bv (decide_eq_true h))
    have hget := at_get h.1
    have hn : H.ref v = ((H.ref v).toNat : Int) := (Int.toNat_of_nonneg h.1).symm
    refine gives_of Tryz.func95 rfl (Nat.le_of_ble_eq_true rfl) ?_
    (repeat' (first | refine mv ?_ | refine asg ?_ | refine un ?_ | refine la ?_ | refine aops_nil ?_ | refine aw_seq ?_ | refine aw_region ?_ | refine aw_cond_f rfl ?_ | refine aw_skip ?_ | refine bx 0 ?_ | refine cl c0 ?_ (hno := ⟨noOwn_heap _, noOwn_iv _, noOwn_iv _, trivial⟩) | fail))
    refine aw_draw 8 none ?_
    (repeat' (first | refine dn ?_ | refine ds y_move ?_ | refine ds y_load ?_ | refine ds (y_faddr_ptr (hs := Nat.le_of_ble_eq_true rfl)) ?_ | refine ds y_faddr_ip ?_ | refine ds y_loadsN ?_ | refine ds (y_call c1 (hno := ⟨noOwn_heap _, noOwn_iv _, trivial⟩)) ?_ | refine ds (y_iaddrN (H.ref v).toNat (objs_get hget) (hn := hn)) ?_ | fail))
    (repeat' (first | refine asg ?_ | refine aops_nil ?_ | refine aw_ret ?_ | fail))
    have hs : ∀ T, Sh T (.sl 1 (encInts (H.at' v).slots)) (.sl 1 (encInts (slotI H v))) := fun T => by rw [slotI, if_pos h]; exact .same _ (noOwn_ints _ _)
    exact fin (hs _)
  · have c0 := (rkind_ok H hi v 0).to' (congrArg bv (decide_eq_false h))
    refine gives_of Tryz.func95 rfl (Nat.le_of_ble_eq_true rfl) ?_
    (repeat' (first | refine mv ?_ | refine asg ?_ | refine un ?_ | refine la ?_ | refine aops_nil ?_ | refine aw_seq ?_ | refine aw_region ?_ | refine aw_cond_t rfl ?_ | refine aw_ret ?_ | refine bx 0 ?_ | refine cl c0 ?_ (hno := ⟨noOwn_heap _, noOwn_iv _, noOwn_iv _, trivial⟩) | fail))
    have hs : ∀ T, Sh T (.v (.slice none 0 0)) (.sl 1 (encInts (slotI H v))) := fun T => by rw [slotI, if_neg h]; exact .nil 1
    exact fin (hs _)
end Go.Proofs.YtnjihhheiiapnaaGreat
