/- What the statements' walks need. -/
import Derived.Test.YtnjihhheiiapnaaGreatMTa4
import Derived.Test.YtnjihhheiiapnaaGreatMTx11
import Derived.Test.YtnjihhheiiapnaaGreatMTx10
import Derived.Test.YtnjihhheiiapnaaGreatMTx9
import Derived.Test.YtnjihhheiiapnaaGreatMTx1
import Derived.Test.YtnjihhheiiapnaaGreatMTx5
set_option linter.unusedVariables false
set_option linter.unusedSimpArgs false
set_option maxRecDepth 100000
namespace Go.Proofs.YtnjihhheiiapnaaGreat
open Go Go.Proofs AW
theorem palloc_yes (H : HHeap) (hi : H.In) (s : Int) (a : List Int) (cls kind size : Int) (h0 : allocE H cls kind size = 0) :
    Mut Tryz.prog 126 (cR H s a) [.ptr 1000 0 0, iv cls, iv kind, iv size] (iv (2 * H.objs.length)) (cR (allocH H cls kind size) s a) := by
  have ca := (Alloc_ok H hi cls kind size).to' (by rw [h0, show allocV H cls kind size = 2 * H.objs.length by rw [allocV, if_pos h0]])
  refine okM_of Tryz.func126 rfl (Nat.le_of_ble_eq_true rfl) ?_
  (repeat' (first | refine mv ?_ | refine asg ?_ | refine fp ?_ | refine ex ?_ | refine la ?_ | refine so ?_ | refine nkp ?_ | refine aops_nil ?_ | refine aw_seq ?_ | refine aw_region ?_ | refine aw_ret ?_ | refine al 0 ?_ | refine cl ca ?_ | refine cM (took_yes H (allocH H cls kind size) s a) ?_ | fail))
  exact finM (cR (allocH H cls kind size) s a) ⟨rfl, rfl⟩ (cR_same _ s a rfl) (.same _ (.v _))
theorem palloc_full (H : HHeap) (hi : H.In) (s : Int) (a : List Int) (cls kind size : Int) (h0 : allocE H cls kind size = 30) :
    Fails Tryz.prog 126 (cR H s a) [.ptr 1000 0 0, iv cls, iv kind, iv size] (failV 30) := by
  have ca := (Alloc_ok H hi cls kind size).to' (by rw [h0])
  refine okM_of Tryz.func126 rfl (Nat.le_of_ble_eq_true rfl) ?_
  (repeat' (first | refine mv ?_ | refine asg ?_ | refine fp ?_ | refine ex ?_ | refine la ?_ | refine so ?_ | refine nkp ?_ | refine aops_nil ?_ | refine aw_seq ?_ | refine aw_region ?_ | refine al 0 ?_ | refine cl ca ?_ | exact cF (took_full H (allocH H cls kind size) s a) (fun _ => panE rfl) | fail))
theorem palloc_no (H : HHeap) (hi : H.In) (s : Int) (a : List Int) (cls kind size : Int) (h0 : allocE H cls kind size ≠ 0) (h1 : allocE H cls kind size ≠ 30) :
    Fails Tryz.prog 126 (cR H s a) [.ptr 1000 0 0, iv cls, iv kind, iv size] (failV 130) := by
  have ca := Alloc_ok H hi cls kind size
  refine okM_of Tryz.func126 rfl (Nat.le_of_ble_eq_true rfl) ?_
  (repeat' (first | refine mv ?_ | refine asg ?_ | refine fp ?_ | refine ex ?_ | refine la ?_ | refine so ?_ | refine nkp ?_ | refine aops_nil ?_ | refine aw_seq ?_ | refine aw_region ?_ | refine al 0 ?_ | refine cl ca ?_ | exact cF (took_no H (allocH H cls kind size) s a _ h0 h1) (fun _ => panE rfl) | fail))
def cRo (H : HHeap) (cap last : Int) (s : Int) (a : List Int) (l : List HObj) : List (Nat × Ob) :=
  [(1000, .live 52 5 [[.own 20, iv cap, iv last, iv s, .sl 1 (encInts a)]]), (20, .live 41 6 (encObjs l))]
theorem took_own (H : HHeap) (cap last : Int) (s : Int) (a : List Int) (l : List HObj) :
    Mut Tryz.prog 122 (cR H s a ++ [(20, .live 41 6 (encObjs l))]) [.ptr 1000 0 0, .agg [.own 20, iv cap, iv last], iv 0] (.tup []) (cRo H cap last s a l) := by
  refine okM_of Tryz.func122 rfl (Nat.le_of_ble_eq_true rfl) ?_
  (repeat' (first | refine mv ?_ | refine fp ?_ | refine bt ?_ | refine bf ?_ | refine la ?_ | refine so ?_ | refine nkp ?_ | refine aops_nil ?_ | refine aw_seq ?_ | refine aw_region ?_ | refine aw_cond_f rfl ?_ | refine aw_skip ?_ | refine bx 0 ?_ | refine cl need_yes ?_ | fail))
  exact finMn (cRo H cap last s a l) ⟨rfl, rfl⟩ ⟨.one _ _ _ _ rfl rfl ⟨fz_own rfl (ne_live rfl), fz_v _, fz_v _, fz_v _, .same _ (by simp), trivial⟩, .same _ _ _ rfl rfl (by simp), trivial⟩ (.same _ (.tup [] (by simp)))
theorem palloc_own (H : HHeap) (hi : H.In) (s : Int) (a : List Int) (cls : Int) (h0 : allocE H cls 2 0 = 0) :
    Mut Tryz.prog 126 (cR H s a) [.ptr 1000 0 0, iv cls, iv 2, iv 0] (iv (2 * H.objs.length)) (cRo H H.cap (nextI H.last) s a (H.objs ++ [newObj H cls 2 0])) := by
  have ca := AllocO_own H hi cls 2 0 (by decide) h0
  refine okM_of Tryz.func126 rfl (Nat.le_of_ble_eq_true rfl) ?_
  (repeat' (first | refine mv ?_ | refine asg ?_ | refine fp ?_ | refine ex ?_ | refine la ?_ | refine so ?_ | refine nkp ?_ | refine aops_nil ?_ | refine aw_seq ?_ | refine aw_region ?_ | refine aw_ret ?_ | refine al 0 ?_ | refine cm1 ca ?_ | refine cM (took_own H H.cap (nextI H.last) s a (H.objs ++ [newObj H cls 2 0])) ?_ | fail))
  exact finM (cRo H H.cap (nextI H.last) s a (H.objs ++ [newObj H cls 2 0])) ⟨rfl, rfl⟩ ⟨.one _ _ _ _ rfl rfl ⟨fz_own rfl (ne_live rfl), fz_v _, fz_v _, fz_v _, .same _ (by simp), trivial⟩, .same _ _ _ rfl rfl (by simp), trivial⟩ (.same _ (.v _))
end Go.Proofs.YtnjihhheiiapnaaGreat
namespace Go.Proofs.YtnjihhheiiapnaaGreat
open Go Go.Proofs AW
set_option maxHeartbeats 4000000 in
theorem lobj_some (H : HHeap) (v : Int) (h1 : 0 ≤ H.ref v) : Gives Tryz.prog 151 [.agg (encHeap H), iv v] (.ip (encObj (H.at' v))) := by
  rcases ref_cases H v with ⟨_, h3⟩ | ⟨_, _, _, h3⟩ | ⟨a1, a2, a3, a4⟩
  · omega
  · omega
  have c1 : Gives Tryz.prog 51 [iv v] (.tup [iv (H.ref v), bv true]) := (At_ok v).to' (by rw [a1, a2])
  have hget := at_get h1
  have hn : H.ref v = ((H.ref v).toNat : Int) := (Int.toNat_of_nonneg h1).symm
  refine gives_of Tryz.func151 rfl (Nat.le_of_ble_eq_true rfl) ?_
  (repeat' (first | refine mv ?_ | refine asg ?_ | refine ld ?_ | refine fp ?_ | refine bf ?_ | refine un ?_ | refine pf ?_ | refine ex ?_ | refine ln ?_ | refine aops_nil ?_ | refine aw_seq ?_ | refine aw_region ?_ | refine aw_cond_f rfl ?_ | refine aw_skip ?_ | refine aw_ret ?_ | refine bx 0 ?_ | refine cl c1 ?_ | refine ia (H.ref v).toNat (objs_get hget) ?_ (hn := hn) | fail))
  exact fin (.same _ (by rw [noOwn_ip]; exact noOwn_obj _))
set_option maxHeartbeats 4000000 in
theorem lobj_none (H : HHeap) (v : Int) (h : H.ref v < 0) : Gives Tryz.prog 151 [.agg (encHeap H), iv v] (.v (.pointer none)) := by
  rcases ref_cases H v with ⟨h3, h4⟩ | ⟨a1, a2, a3, a4⟩ | ⟨a1, a2, a3, a4⟩
  · have c1 : Gives Tryz.prog 51 [iv v] (.tup [iv (atI v), bv false]) := (At_ok v).to' (by rw [h3])
    refine gives_of Tryz.func151 rfl (Nat.le_of_ble_eq_true rfl) ?_
    (repeat' (first | refine sk ?_ | refine mv ?_ | refine asg ?_ | refine un ?_ | refine pt ?_ | refine ex ?_ | refine aops_nil ?_ | refine aw_seq ?_ | refine aw_region ?_ | refine aw_cond_t rfl ?_ | refine aw_ret ?_ | refine bx 0 ?_ | refine cl c1 ?_ | fail))
    exact fin (.same _ (.v _))
  · have c1 : Gives Tryz.prog 51 [iv v] (.tup [iv (v / 2), bv true]) := (At_ok v).to' (by rw [a1, a2])
    refine gives_of Tryz.func151 rfl (Nat.le_of_ble_eq_true rfl) ?_
    (repeat' (first | refine mv ?_ | refine asg ?_ | refine ld ?_ | refine fp ?_ | refine bt ?_ | refine un ?_ | refine pf ?_ | refine ex ?_ | refine ln ?_ | refine aops_nil ?_ | refine aw_seq ?_ | refine aw_region ?_ | refine aw_cond_t rfl ?_ | refine aw_ret ?_ | refine bx 0 ?_ | refine cl c1 ?_ | fail))
    exact fin (.same _ (.v _))
  · omega
def pairsB (H : HHeap) (v : Int) : Bool := decide (H.ref v = 0 ∨ (0 ≤ H.ref v ∧ (H.at' v).kind = 0))
def pairsA (H : HHeap) (v : Int) : AV := if H.ref v ≠ 0 ∧ 0 ≤ H.ref v ∧ (H.at' v).kind = 0 then .sl 1 (encInts (H.at' v).slots) else .v (.slice none 0 0)
set_option maxHeartbeats 4000000 in
theorem pairs_ok (H : HHeap) (v : Int) : Gives Tryz.prog 158 [.agg (encHeap H), iv v] (.tup [pairsA H v, bv (pairsB H v)]) := by
  by_cases h : 0 ≤ H.ref v
  rotate_left
  · have co := lobj_none H v (by omega)
    have ca := At_ok v
    have e1 : pairsA H v = .v (.slice none 0 0) := by rw [pairsA, if_neg (by omega)]
    have e2 : pairsB H v = false := by simp [pairsB]; omega
    rw [e1, e2]
    refine gives_of Tryz.func158 rfl (Nat.le_of_ble_eq_true rfl) ?_
    (repeat' (first | refine sk ?_ | refine mv ?_ | refine asg ?_ | refine bt ?_ | refine bf ?_ | refine pt ?_ | refine pf ?_ | refine ex ?_ | refine la ?_ | refine aops_nil ?_ | refine aw_seq ?_ | refine aw_region ?_ | refine aw_cond_t rfl ?_ | refine aw_cond_f rfl ?_ | refine aw_skip ?_ | refine aw_ret ?_ | refine bx 0 ?_ | refine cl co ?_ | refine cl ca ?_ | fail))
    exact fin (.same _ (by simp))
  obtain ⟨a1, a2, a3, a4⟩ := (ref_cases H v).resolve_left (fun e => by omega) |>.resolve_left (fun e => by omega)
  have co := lobj_some H v h
  have ca := (At_ok v).to' (by rw [a1, a2])
  by_cases h0 : H.ref v = 0
  · have e1 : pairsA H v = .v (.slice none 0 0) := by rw [pairsA, if_neg (by omega)]
    have e2 : pairsB H v = true := by simp [pairsB]; omega
    rw [e1, e2]
    rw [h0] at ca
    refine gives_of Tryz.func158 rfl (Nat.le_of_ble_eq_true rfl) ?_
    (repeat' (first | refine mv ?_ | refine asg ?_ | refine bt ?_ | refine pt ?_ | refine ex ?_ | refine la ?_ | refine pnN ?_ | refine aops_nil ?_ | refine aw_seq ?_ | refine aw_region ?_ | refine aw_cond_t rfl ?_ | refine aw_ret ?_ | refine bx 0 ?_ | refine cl co ?_ | refine cl ca ?_ | fail))
    exact fin (.same _ (by simp))
  by_cases hk : (H.at' v).kind = 0
  rotate_left
  · have e1 : pairsA H v = .v (.slice none 0 0) := by rw [pairsA, if_neg (by omega)]
    have e2 : pairsB H v = false := by simp [pairsB]; omega
    rw [e1, e2]
    refine gives_of Tryz.func158 rfl (Nat.le_of_ble_eq_true rfl) ?_
    (repeat' (first | refine mv ?_ | refine asg ?_ | refine ld ?_ | refine fi ?_ | refine bt ?_ | refine bf ?_ | refine pt ?_ | refine pf ?_ | refine ex ?_ | refine la ?_ | refine nk ?_ | refine pnN ?_ | refine pn ?_ | refine aops_nil ?_ | refine aw_seq ?_ | refine aw_region ?_ | refine aw_cond_t rfl ?_ | refine aw_cond_f rfl ?_ | refine aw_skip ?_ | refine aw_ret ?_ | refine bx 0 ?_ | refine cl co ?_ | refine cl ca ?_ | fail))
    exact fin (.same _ (by simp))
  have e1 : pairsA H v = .sl 1 (encInts (H.at' v).slots) := by rw [pairsA, if_pos (by omega)]
  have e2 : pairsB H v = true := by simp [pairsB]; omega
  rw [e1, e2]
  refine gives_of Tryz.func158 rfl (Nat.le_of_ble_eq_true rfl) ?_
  (repeat' (first | refine mv ?_ | refine asg ?_ | refine ld ?_ | refine fi ?_ | refine bf ?_ | refine pt ?_ | refine pf ?_ | refine ex ?_ | refine la ?_ | refine nk ?_ | refine pnN ?_ | refine pn ?_ | refine aops_nil ?_ | refine aw_seq ?_ | refine aw_region ?_ | refine aw_cond_f rfl ?_ | refine aw_skip ?_ | refine aw_ret ?_ | refine bx 0 ?_ | refine cl co ?_ | refine cl ca ?_ | fail))
  exact fin (.same _ (by simp))
end Go.Proofs.YtnjihhheiiapnaaGreat
namespace Go.Proofs.YtnjihhheiiapnaaGreat
open Go Go.Proofs AW
def clsB (H : HHeap) (c : Int) : Bool :=
  decide (0 ≤ H.ref c ∧ (H.at' c).kind = 0 ∧ 3 ≤ (H.at' c).slots.length ∧ 0 ≤ H.ref ((H.at' c).sl 0)) && (pairsB H ((H.at' c).sl 1) && decide (isN ((H.at' c).sl 2) = true ∧ 0 ≤ nI ((H.at' c).sl 2) ∧ nI ((H.at' c).sl 2) ≤ 64))
set_option maxHeartbeats 8000000 in
theorem class_ok (H : HHeap) (c : Int) : Gives Tryz.prog 149 [.agg (encHeap H), iv c] (bv (clsB H c)) := by
  by_cases h : 0 ≤ H.ref c
  rotate_left
  · have co := lobj_none H c (by omega)
    have e : clsB H c = false := by simp [clsB, h]
    rw [e]
    refine gives_of Tryz.func149 rfl (Nat.le_of_ble_eq_true rfl) ?_
    (repeat' (first | refine mv ?_ | refine asg ?_ | refine la ?_ | refine aops_nil ?_ | refine aw_seq ?_ | refine aw_region ?_ | refine bx 0 ?_ | refine cl co ?_ | fail))
    refine aw_drawP 28 [] ?_
    (repeat' (first | refine dPk ?_ | refine dPn ?_ | refine dP (fun _ => y_move) ?_ | refine dP (fun _ => y_pnn) ?_ | refine dP (fun _ => y_pick_t) ?_ | fail))
    (repeat' (first | refine asg ?_ | refine aops_nil ?_ | refine aw_seq ?_ | refine aw_region ?_ | refine aw_cond_t rfl ?_ | refine aw_ret ?_ | fail))
    exact fin (sh_bv rfl)
  have co := lobj_some H c h
  by_cases hk : (H.at' c).kind = 0
  rotate_left
  · have e : clsB H c = false := by simp [clsB, hk]
    rw [e]
    refine gives_of Tryz.func149 rfl (Nat.le_of_ble_eq_true rfl) ?_
    (repeat' (first | refine mv ?_ | refine asg ?_ | refine la ?_ | refine aops_nil ?_ | refine aw_seq ?_ | refine aw_region ?_ | refine bx 0 ?_ | refine cl co ?_ | fail))
    refine aw_drawP 28 [] ?_
    (repeat' (first | refine dPk ?_ | refine dPn ?_ | refine dP (fun _ => y_move) ?_ | refine dP (fun _ => y_load) ?_ | refine dP (fun _ => y_faddr_ip) ?_ | refine dP (fun _ => y_nilc) ?_ | refine dP (fun _ => y_pnil) ?_ | refine dP (fun _ => y_bt) ?_ | refine dP (fun _ => y_pick_t) ?_ | refine dP (fun _ => y_pick_f) ?_ | fail))
    (repeat' (first | refine asg ?_ | refine aops_nil ?_ | refine aw_seq ?_ | refine aw_region ?_ | refine aw_cond_t rfl ?_ | refine aw_ret ?_ | fail))
    exact fin (sh_bv rfl)
  have hls : (encInts (H.at' c).slots).length = (H.at' c).slots.length := len_ints _
  by_cases h3 : 3 ≤ (H.at' c).slots.length
  rotate_left
  · have e : clsB H c = false := by simp [clsB, h3]
    rw [e]
    refine gives_of Tryz.func149 rfl (Nat.le_of_ble_eq_true rfl) ?_
    (repeat' (first | refine mv ?_ | refine asg ?_ | refine la ?_ | refine aops_nil ?_ | refine aw_seq ?_ | refine aw_region ?_ | refine bx 0 ?_ | refine cl co ?_ | fail))
    refine aw_drawP 28 [] ?_
    (repeat' (first | refine dPk ?_ | refine dPn ?_ | refine dP (fun _ => y_move) ?_ | refine dP (fun _ => y_load) ?_ | refine dP (fun _ => y_faddr_ip) ?_ | refine dP (fun _ => y_nilc) ?_ | refine dP (fun _ => y_pnil) ?_ | refine dP (fun _ => y_bt) ?_ | refine dP (fun _ => y_bf) ?_ | refine dP (fun _ => y_pick_t) ?_ | refine dP (fun _ => y_pick_f) ?_ | refine dP (fun _ => y_len) ?_ | fail))
    (repeat' (first | refine asg ?_ | refine aops_nil ?_ | refine aw_seq ?_ | refine aw_region ?_ | refine aw_cond_t rfl ?_ | refine aw_ret ?_ | fail))
    exact fin (sh_bv rfl)
  have g0 := ints_get (sl_get (o := H.at' c) (k := 0) (by omega))
  have g1 := ints_get (sl_get (o := H.at' c) (k := 1) (by omega))
  have g2 := ints_get (sl_get (o := H.at' c) (k := 2) (by omega))
  by_cases h0 : 0 ≤ H.ref ((H.at' c).sl 0)
  rotate_left
  · have c0 := lobj_none H ((H.at' c).sl 0) (by omega)
    have e : clsB H c = false := by simp [clsB, h0]
    rw [e]
    refine gives_of Tryz.func149 rfl (Nat.le_of_ble_eq_true rfl) ?_
    (repeat' (first | refine mv ?_ | refine asg ?_ | refine la ?_ | refine aops_nil ?_ | refine aw_seq ?_ | refine aw_region ?_ | refine bx 0 ?_ | refine cl co ?_ | fail))
    refine aw_drawP 28 [] ?_
    (repeat' (first | refine dPn ?_ | refine dP (fun _ => y_move) ?_ | refine dP (fun _ => y_load) ?_ | refine dP (fun _ => y_faddr_ip) ?_ | refine dP (fun _ => y_nilc) ?_ | refine dP (fun _ => y_pnil) ?_ | refine dP (fun _ => y_pnn) ?_ | refine dP (fun _ => y_bf) ?_ | refine dP (fun _ => y_pick_f) ?_ | refine dP (fun _ => y_len) ?_ | refine dP (fun _ => y_loadsN) ?_ | refine dP (fun _ => y_iaddrN 0 g0) ?_ | refine dP (fun _ => y_call (c0)) ?_ | fail))
    (repeat' (first | refine asg ?_ | refine aops_nil ?_ | refine aw_seq ?_ | refine aw_region ?_ | refine aw_cond_t rfl ?_ | refine aw_ret ?_ | fail))
    exact fin (sh_bv rfl)
  have c0 := lobj_some H ((H.at' c).sl 0) h0
  have cp := pairs_ok H ((H.at' c).sl 1)
  have cn := N_ok ((H.at' c).sl 2)
  refine gives_of Tryz.func149 rfl (Nat.le_of_ble_eq_true rfl) ?_
  (repeat' (first | refine mv ?_ | refine asg ?_ | refine la ?_ | refine aops_nil ?_ | refine aw_seq ?_ | refine aw_region ?_ | refine bx 0 ?_ | refine cl co ?_ | fail))
  refine aw_drawP 28 [] ?_
  (repeat' (first | refine dPn ?_ | refine dP (fun _ => y_move) ?_ | refine dP (fun _ => y_load) ?_ | refine dP (fun _ => y_faddr_ip) ?_ | refine dP (fun _ => y_nilc) ?_ | refine dP (fun _ => y_pnil) ?_ | refine dP (fun _ => y_bf) ?_ | refine dP (fun _ => y_pick_f) ?_ | refine dP (fun _ => y_len) ?_ | refine dP (fun _ => y_loadsN) ?_ | refine dP (fun _ => y_iaddrN 0 g0) ?_ | refine dP (fun _ => y_call (c0)) ?_ | fail))
  (repeat' (first | refine aops_nil ?_ | refine aw_seq ?_ | refine aw_cond_f rfl ?_ | refine aw_skip ?_ | fail))
  refine aw_drawP 13 [] ?_
  (repeat' (first | refine dPn ?_ | refine dP (fun _ => y_move) ?_ | refine dP (fun _ => y_assign) ?_ | refine dP (fun _ => y_extract) ?_ | refine dP (fun _ => y_load) ?_ | refine dP (fun _ => y_faddr_ip) ?_ | refine dP (fun _ => y_nilc) ?_ | refine dP (fun _ => y_loadsN) ?_ | refine dP (fun _ => y_iaddrN 1 g1) ?_ | refine dP (fun _ => y_call (cp)) ?_ | fail))
  (repeat' (first | refine sk ?_ | refine mv ?_ | refine asg ?_ | refine ld ?_ | refine fi ?_ | refine bi ?_ | refine pt ?_ | refine pf ?_ | refine ex ?_ | refine nk ?_ | refine aops_nil ?_ | refine aw_seq ?_ | refine aw_region ?_ | refine aw_ret ?_ | refine ia 2 g2 ?_ | refine cl cn ?_ | refine gs (fun h => ?_) (fun h => ?_) | fail))
  all_goals refine fin (sh_bv ?_)
  all_goals simp only [clsB, h, hk, h3, h0]
  all_goals (clear co c0 cp cn g0 g1 g2 hls; simp_all <;> omega)
def ofV (H : HHeap) (v : Int) : Int := if mayH H = true then (if isN v = true then 6 else if 0 ≤ H.ref v then (H.at' v).cls else 0) else 0
def ofE (H : HHeap) (v : Int) : Int := if mayH H = true then (if isN v = true then 0 else if 0 ≤ H.ref v then 0 else 31) else 1
set_option maxHeartbeats 4000000 in
theorem lookMay_ok (H : HHeap) (hi : H.In) (c : Int) : Gives Tryz.prog 125 [.agg (encHeap H), iv c] (bv (mayH H && clsB H c)) := by
  have cc := class_ok H c
  cases hm : mayH H with
  | false =>
    have c0 := (May_ok H hi).to' (congrArg bv hm)
    refine gives_of Tryz.func125 rfl (Nat.le_of_ble_eq_true rfl) ?_
    (repeat' (first | refine sk ?_ | refine mv ?_ | refine asg ?_ | refine pf ?_ | refine la ?_ | refine aops_nil ?_ | refine aw_seq ?_ | refine aw_region ?_ | refine aw_ret ?_ | refine bx 0 ?_ | refine cl c0 ?_ | fail))
    exact fin (sh_bv rfl)
  | true =>
    have c0 := (May_ok H hi).to' (congrArg bv hm)
    refine gives_of Tryz.func125 rfl (Nat.le_of_ble_eq_true rfl) ?_
    (repeat' (first | refine mv ?_ | refine asg ?_ | refine pt ?_ | refine la ?_ | refine aops_nil ?_ | refine aw_seq ?_ | refine aw_region ?_ | refine aw_ret ?_ | refine bx 0 ?_ | refine cl c0 ?_ | refine cl cc ?_ | fail))
    exact fin (sh_bv rfl)
set_option maxHeartbeats 4000000 in
theorem Of_ok (H : HHeap) (hi : H.In) (v : Int) : Gives Tryz.prog 127 [.agg (encHeap H), iv v] (.tup [iv (ofV H v), iv (ofE H v)]) := by
  have cr := (Ref_ok 3).to' (show AV.tup [iv (refV 3), bv (refB 3)] = .tup [iv 6, bv true] from rfl)
  cases hm : mayH H with
  | false =>
    have c0 := (May_ok H hi).to' (congrArg bv hm)
    refine gives_of Tryz.func127 rfl (Nat.le_of_ble_eq_true rfl) ?_
    (repeat' (first | refine asg ?_ | refine un ?_ | refine la ?_ | refine aops_nil ?_ | refine aw_seq ?_ | refine aw_region ?_ | refine aw_cond_t rfl ?_ | refine aw_ret ?_ | refine bx 0 ?_ | refine cl c0 ?_ | fail))
    refine fin (sh_ii ?_ ?_)
    · simp [ofV, hm]
    · simp [ofE, hm]
  | true =>
    have c0 := (May_ok H hi).to' (congrArg bv hm)
    cases hn : isN v with
    | true =>
      have cn := (N_ok v).to' (by rw [hn])
      refine gives_of Tryz.func127 rfl (Nat.le_of_ble_eq_true rfl) ?_
      (repeat' (first | refine mv ?_ | refine asg ?_ | refine un ?_ | refine ex ?_ | refine la ?_ | refine aops_nil ?_ | refine aw_seq ?_ | refine aw_region ?_ | refine aw_cond_t rfl ?_ | refine aw_cond_f rfl ?_ | refine aw_skip ?_ | refine aw_ret ?_ | refine bx 0 ?_ | refine cl c0 ?_ | refine cl cn ?_ | refine cl cr ?_ | fail))
      refine fin (sh_ii ?_ ?_)
      · simp [ofV, hm, hn]
      · simp [ofE, hm, hn]
    | false =>
      have cn := (N_ok v).to' (by rw [hn])
      by_cases h : 0 ≤ H.ref v
      · have co := lobj_some H v h
        refine gives_of Tryz.func127 rfl (Nat.le_of_ble_eq_true rfl) ?_
        (repeat' (first | refine mv ?_ | refine asg ?_ | refine ld ?_ | refine fi ?_ | refine un ?_ | refine ex ?_ | refine la ?_ | refine nk ?_ | refine pn ?_ | refine aops_nil ?_ | refine aw_seq ?_ | refine aw_region ?_ | refine aw_cond_f rfl ?_ | refine aw_skip ?_ | refine aw_ret ?_ | refine bx 0 ?_ | refine cl c0 ?_ | refine cl cn ?_ | refine cl co ?_ | fail))
        refine fin (sh_ii ?_ ?_)
        · simp [ofV, hm, hn, h]
        · simp [ofE, hm, hn, h]
      · have co := lobj_none H v (by omega)
        refine gives_of Tryz.func127 rfl (Nat.le_of_ble_eq_true rfl) ?_
        (repeat' (first | refine mv ?_ | refine asg ?_ | refine bt ?_ | refine un ?_ | refine ex ?_ | refine la ?_ | refine aops_nil ?_ | refine aw_seq ?_ | refine aw_region ?_ | refine aw_cond_t rfl ?_ | refine aw_cond_f rfl ?_ | refine aw_skip ?_ | refine aw_ret ?_ | refine bx 0 ?_ | refine cl c0 ?_ | refine cl cn ?_ | refine cl co ?_ | fail))
        refine fin (sh_ii ?_ ?_)
        · simp [ofV, hm, hn, h]
        · simp [ofE, hm, hn, h]
end Go.Proofs.YtnjihhheiiapnaaGreat
