/- What the statements' walks need. -/
import Derived.Test.YtnjihhheiiapnaaGreatMSa4
import Derived.Test.YtnjihhheiiapnaaGreatMSx15
import Derived.Test.YtnjihhheiiapnaaGreatMSa3
set_option linter.unusedVariables false
set_option linter.unusedSimpArgs false
set_option maxRecDepth 100000
namespace Go.Proofs.YtnjihhheiiapnaaGreat
open Go Go.Proofs AW
@[simp] theorem all_heap (H : HHeap) : (∀ x ∈ encHeap H, NoOwn x) ↔ True := ⟨fun _ => trivial, fun _ => by have := noOwn_heap H; rwa [noOwn_agg] at this⟩
@[simp] theorem all_obj (o : HObj) : (∀ x ∈ encObj o, NoOwn x) ↔ True := ⟨fun _ => trivial, fun _ => noOwn_obj o⟩
@[simp] theorem all_objs (l : List HObj) : (∀ c ∈ encObjs l, ∀ x ∈ c, NoOwn x) ↔ True := ⟨fun _ => trivial, fun _ c hc => by obtain ⟨o, _, rfl⟩ := List.mem_map.1 hc; exact noOwn_obj o⟩
@[simp] theorem all_ints (l : List Int) : (∀ c ∈ encInts l, ∀ x ∈ c, NoOwn x) ↔ True := ⟨fun _ => trivial, fun _ c hc => noOwn_intsc hc⟩
def failV (e : Int) : Value := .iface 48 (.agg #[.int .i64 e])
theorem need_yes : Gives Tryz.prog 119 [bv true] (.tup []) := by
  refine gives_of Tryz.func119 rfl (Nat.le_of_ble_eq_true rfl) ?_
  (repeat' (first | refine mv ?_ | refine un ?_ | refine aops_nil ?_ | refine aw_seq ?_ | refine aw_region ?_ | refine aw_cond_f rfl ?_ | refine aw_skip ?_ | fail))
  exact finN (.same _ (.tup [] (by simp)))
theorem need_no : Fails Tryz.prog 119 [] [bv false] (failV 130) := by
  refine okM_of Tryz.func119 rfl (Nat.le_of_ble_eq_true rfl) ?_
  (repeat' (first | refine mv ?_ | refine un ?_ | refine bd ?_ | refine aops_nil ?_ | refine aw_seq ?_ | refine aw_region ?_ | refine aw_cond_t rfl ?_ | refine mi ?_ | exact pc (fun _ => panE rfl) | fail))
theorem psmall_yes (v : Int) (h : isN v = true) : Gives Tryz.prog 61 [iv v] (iv (nI v)) := by
  have cn := (N_ok v).to' (by rw [h])
  refine gives_of Tryz.func61 rfl (Nat.le_of_ble_eq_true rfl) ?_
  (repeat' (first | refine mv ?_ | refine asg ?_ | refine ex ?_ | refine aops_nil ?_ | refine aw_seq ?_ | refine aw_region ?_ | refine aw_ret ?_ | refine cl cn ?_ | refine cl need_yes ?_ | fail))
  exact fin (sh_iv rfl)
theorem psmall_no (v : Int) (h : isN v = false) : Fails Tryz.prog 61 [] [iv v] (failV 130) := by
  have cn := (N_ok v).to' (by rw [h])
  refine okM_of Tryz.func61 rfl (Nat.le_of_ble_eq_true rfl) ?_
  (repeat' (first | refine mv ?_ | refine asg ?_ | refine ex ?_ | refine aops_nil ?_ | refine aw_seq ?_ | refine aw_region ?_ | refine cl cn ?_ | exact cF need_no (fun _ => panE rfl) | fail))
end Go.Proofs.YtnjihhheiiapnaaGreat
namespace Go.Proofs.YtnjihhheiiapnaaGreat
open Go Go.Proofs AW
abbrev callC (H : HHeap) (s : Int) (a : List Int) : List AV := [.sl 6 (encObjs H.objs), iv H.cap, iv H.last, iv s, .sl 1 (encInts a)]
def cR (H : HHeap) (s : Int) (a : List Int) : List (Nat × Ob) := [(1000, .live 52 5 [callC H s a])]
theorem cR_same (H : HHeap) (s : Int) (a : List Int) {T : Nat → Ob} (h : T 1000 = .live 52 5 [callC H s a]) : FzAll id T (tb (cR H s a)) ((cR H s a).map (·.1)) :=
  ⟨.same _ _ _ h rfl (by simp), trivial⟩
theorem object_yes (H : HHeap) (s : Int) (a : List Int) (v : Int) (h : 0 ≤ H.ref v) : Mut Tryz.prog 124 (cR H s a) [.ptr 1000 0 0, iv v] (.ip (encObj (H.at' v))) (cR H s a) := by
  obtain ⟨e1, e2, e3, e4⟩ := (ref_cases H v).resolve_left (fun e => by omega) |>.resolve_left (fun e => by omega)
  have ca := (At_ok v).to' (by rw [e1, e2])
  refine okM_of Tryz.func124 rfl (Nat.le_of_ble_eq_true rfl) ?_
  (repeat' (first | refine mv ?_ | refine asg ?_ | refine ld ?_ | refine fp ?_ | refine ex ?_ | refine nkp ?_ | refine aops_nil ?_ | refine aw_seq ?_ | refine aw_region ?_ | refine cl ca ?_ | refine cl need_yes ?_ | fail))
  refine ia (H.ref v).toNat (objs_get (at_get (H := H) (v := v) h)) ?_ (hn := by omega)
  (repeat' (first | refine asg ?_ | refine aops_nil ?_ | refine aw_ret ?_ | fail))
  exact finM (cR H s a) ⟨rfl, rfl⟩ (cR_same H s a rfl) (.same _ (.ip _ (by simp [encObj])))
theorem took_yes (H G : HHeap) (s : Int) (a : List Int) : Mut Tryz.prog 122 (cR H s a) [.ptr 1000 0 0, .agg (encHeap G), iv 0] (.tup []) (cR G s a) := by
  refine okM_of Tryz.func122 rfl (Nat.le_of_ble_eq_true rfl) ?_
  (repeat' (first | refine mv ?_ | refine fp ?_ | refine bt ?_ | refine bf ?_ | refine la ?_ | refine so ?_ | refine nkp ?_ | refine aops_nil ?_ | refine aw_seq ?_ | refine aw_region ?_ | refine aw_cond_f rfl ?_ | refine aw_skip ?_ | refine bx 0 ?_ | refine cl need_yes ?_ | fail))
  exact finMn (cR G s a) ⟨rfl, rfl⟩ (cR_same G s a rfl) (.same _ (.tup [] (by simp)))
theorem took_full (H G : HHeap) (s : Int) (a : List Int) : Fails Tryz.prog 122 (cR H s a) [.ptr 1000 0 0, .agg (encHeap G), iv 30] (failV 30) := by
  refine okM_of Tryz.func122 rfl (Nat.le_of_ble_eq_true rfl) ?_
  (repeat' (first | refine mv ?_ | refine bt ?_ | refine bd ?_ | refine aops_nil ?_ | refine aw_seq ?_ | refine aw_region ?_ | refine aw_cond_t rfl ?_ | refine bx 0 ?_ | refine mi ?_ | exact pc (fun _ => panE rfl) | fail))
end Go.Proofs.YtnjihhheiiapnaaGreat
