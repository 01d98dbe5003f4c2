/- What the statements' walks need. -/
import Derived.Test.YtnjihhheiiapnaaGreatMSa4
import Derived.Test.YtnjihhheiiapnaaGreatMSx21
import Derived.Test.YtnjihhheiiapnaaGreatMSx22
import Derived.Test.YtnjihhheiiapnaaGreatMSx16
set_option linter.unusedVariables false
set_option linter.unusedSimpArgs false
set_option maxRecDepth 100000
namespace Go.Proofs.YtnjihhheiiapnaaGreat
open Go Go.Proofs AW
theorem palloc_yes (H : HHeap) (hi : H.In) (s : Int) (a : List Int) (cls kind size : Int) (h0 : allocE H cls kind size = 0) :
    Mut Tryz.prog 126 (cR H s a) [.ptr 1000 0 0, iv cls, iv kind, iv size] (iv (2 * H.objs.length)) (cR (allocH H cls kind size) s a) := by
  have ca := (Alloc_ok H hi cls kind size).to' (by rw [h0, show allocV H cls kind size = 2 * H.objs.length by rw [allocV, if_pos h0]])
  refine okM_of Tryz.func126 rfl (Nat.le_of_ble_eq_true rfl) ?_
  (repeat' (first | refine mv ?_ | refine asg ?_ | refine fp ?_ | refine ex ?_ | refine la ?_ | refine so ?_ | refine nkp ?_ | refine aops_nil ?_ | refine aw_seq ?_ | refine aw_region ?_ | refine aw_ret ?_ | refine al 0 ?_ | refine cl ca ?_ | refine cM (took_yes H (allocH H cls kind size) s a) ?_ | fail))
  exact finM (cR (allocH H cls kind size) s a) ⟨rfl, rfl⟩ (cR_same _ s a rfl) (.same _ (.v _))
theorem palloc_full (H : HHeap) (hi : H.In) (s : Int) (a : List Int) (cls kind size : Int) (h0 : allocE H cls kind size = 30) :
    Fails Tryz.prog 126 (cR H s a) [.ptr 1000 0 0, iv cls, iv kind, iv size] (failV 30) := by
  have ca := (Alloc_ok H hi cls kind size).to' (by rw [h0])
  refine okM_of Tryz.func126 rfl (Nat.le_of_ble_eq_true rfl) ?_
  (repeat' (first | refine mv ?_ | refine asg ?_ | refine fp ?_ | refine ex ?_ | refine la ?_ | refine so ?_ | refine nkp ?_ | refine aops_nil ?_ | refine aw_seq ?_ | refine aw_region ?_ | refine al 0 ?_ | refine cl ca ?_ | exact cF (took_full H (allocH H cls kind size) s a) (fun _ => panE rfl) | fail))
def cRo (H : HHeap) (cap last : Int) (s : Int) (a : List Int) (l : List HObj) : List (Nat × Ob) :=
  [(1000, .live 52 5 [[.own 20, iv cap, iv last, iv s, .sl 1 (encInts a)]]), (20, .live 41 6 (encObjs l))]
theorem took_own (H : HHeap) (cap last : Int) (s : Int) (a : List Int) (l : List HObj) :
    Mut Tryz.prog 122 (cR H s a ++ [(20, .live 41 6 (encObjs l))]) [.ptr 1000 0 0, .agg [.own 20, iv cap, iv last], iv 0] (.tup []) (cRo H cap last s a l) := by
  refine okM_of Tryz.func122 rfl (Nat.le_of_ble_eq_true rfl) ?_
  (repeat' (first | refine mv ?_ | refine fp ?_ | refine bt ?_ | refine bf ?_ | refine la ?_ | refine so ?_ | refine nkp ?_ | refine aops_nil ?_ | refine aw_seq ?_ | refine aw_region ?_ | refine aw_cond_f rfl ?_ | refine aw_skip ?_ | refine bx 0 ?_ | refine cl need_yes ?_ | fail))
  exact finMn (cRo H cap last s a l) ⟨rfl, rfl⟩ ⟨.one _ _ _ _ rfl rfl ⟨fz_own rfl (ne_live rfl), fz_v _, fz_v _, fz_v _, .same _ (by simp), trivial⟩, .same _ _ _ rfl rfl (by simp), trivial⟩ (.same _ (.tup [] (by simp)))
theorem palloc_own (H : HHeap) (hi : H.In) (s : Int) (a : List Int) (cls : Int) (h0 : allocE H cls 2 0 = 0) :
    Mut Tryz.prog 126 (cR H s a) [.ptr 1000 0 0, iv cls, iv 2, iv 0] (iv (2 * H.objs.length)) (cRo H H.cap (nextI H.last) s a (H.objs ++ [newObj H cls 2 0])) := by
  have ca := AllocO_own H hi cls 2 0 (by decide) h0
  refine okM_of Tryz.func126 rfl (Nat.le_of_ble_eq_true rfl) ?_
  (repeat' (first | refine mv ?_ | refine asg ?_ | refine fp ?_ | refine ex ?_ | refine la ?_ | refine so ?_ | refine nkp ?_ | refine aops_nil ?_ | refine aw_seq ?_ | refine aw_region ?_ | refine aw_ret ?_ | refine al 0 ?_ | refine cm1 ca ?_ | refine cM (took_own H H.cap (nextI H.last) s a (H.objs ++ [newObj H cls 2 0])) ?_ | fail))
  exact finM (cRo H H.cap (nextI H.last) s a (H.objs ++ [newObj H cls 2 0])) ⟨rfl, rfl⟩ ⟨.one _ _ _ _ rfl rfl ⟨fz_own rfl (ne_live rfl), fz_v _, fz_v _, fz_v _, .same _ (by simp), trivial⟩, .same _ _ _ rfl rfl (by simp), trivial⟩ (.same _ (.v _))
end Go.Proofs.YtnjihhheiiapnaaGreat
