/- What the statements' walks need. -/
import Derived.Test.YtnjihhheiiapnaaGreatMTa4
import Derived.Test.YtnjihhheiiapnaaGreatMTx42
import Derived.Test.YtnjihhheiiapnaaGreatMTx39
import Derived.Test.YtnjihhheiiapnaaGreatMTx40
import Derived.Test.YtnjihhheiiapnaaGreatMTx28
import Derived.Test.YtnjihhheiiapnaaGreatMTx33
import Derived.Test.YtnjihhheiiapnaaGreatMTx36
set_option linter.unusedVariables false
set_option linter.unusedSimpArgs false
set_option maxRecDepth 100000
namespace Go.Proofs.YtnjihhheiiapnaaGreat
open Go Go.Proofs AW
theorem rless_c {a b : Int} (ha : In64 a) (hb : In64 b) : Gives Tryz.prog 102 [iv a, iv b] (bv (lessF a b)) := rLess_ok a b _ (by rw [Less_told a b ha hb]; rfl)
theorem requal_c {a b : Int} (ha : In64 a) (hb : In64 b) : Gives Tryz.prog 103 [iv a, iv b] (bv (sameF a b)) := rEqual_ok a b _ (by rw [Equal_told a b ha hb]; rfl)
set_option maxHeartbeats 16000000 in
theorem fl_no (H : HHeap) (hi : H.In) (num s : Int) (l : List Int) (hs : hasV H s) (h : floB H s = false) : Gives Tryz.prog 33 [.agg (encHeap H), iv num, iv s, .sl 1 (encInts l)] (doV H 0 130) := by
  have cf := fail13' H
  have c1 := (floated13 H hi s hs).to' (by rw [h])
  refine gives_of Tryz.func33 rfl (Nat.le_of_ble_eq_true rfl) ?_
  (repeat' (first | refine mv ?_ | refine asg ?_ | refine un ?_ | refine ex ?_ | refine la ?_ | refine so ?_ | refine aops_nil ?_ | refine aw_seq ?_ | refine aw_region ?_ | refine aw_cond_t rfl ?_ | refine aw_ret ?_ | refine bx 0 ?_ | refine al 1 ?_ | refine cl (cf) ?_ | refine cl (c1) ?_ | fail))
  exact fin sh_do
set_option maxHeartbeats 16000000 in
theorem fl_two (H : HHeap) (hi : H.In) (num s x : Int) (hn : num ∈ [17, 18, 19, 20, 21, (22 : Int)]) (hs : hasV H s) (hx : hasV H x) (h : floB H s = true) (h2 : floB H x = false) : Gives Tryz.prog 33 [.agg (encHeap H), iv num, iv s, .sl 1 (encInts [x])] (doV H 0 130) := by
  have cf := fail13' H
  have c1 := (floated13 H hi s hs).to' (by rw [h])
  have c2 := (floated13 H hi x hx).to' (by rw [h2])
  simp only [List.mem_cons, List.not_mem_nil, or_false] at hn
  refine gives_of Tryz.func33 rfl (Nat.le_of_ble_eq_true rfl) ?_
  (repeat' (first | refine mv ?_ | refine asg ?_ | refine bf ?_ | refine un ?_ | refine ex ?_ | refine la ?_ | refine aops_nil ?_ | refine aw_seq ?_ | refine aw_region ?_ | refine aw_cond_f rfl ?_ | refine aw_skip ?_ | refine bx 0 ?_ | refine al 1 ?_ | refine cl (c1) ?_ | fail))
  refine aw_drawP 10 [] ?_
  (repeat' (first | refine dPn ?_ | refine dP (fun _ => y_move) ?_ | refine dP (fun _ => y_assign) ?_ | refine dP (fun _ => y_extract) ?_ | refine dP (fun _ => y_load) ?_ | refine dP (fun _ => y_loadsN) ?_ | refine dP (fun _ => (y_iaddrN 0 rfl)) ?_ | refine dP (fun _ => y_call (c2)) ?_ | fail))
  (repeat' (first | refine mv ?_ | refine asg ?_ | refine un ?_ | refine ex ?_ | refine la ?_ | refine so ?_ | refine aops_nil ?_ | refine aw_seq ?_ | refine aw_region ?_ | refine aw_cond_t rfl ?_ | refine aw_ret ?_ | refine cl (cf) ?_ | fail))
  exact fin sh_do
set_option maxHeartbeats 16000000 in
theorem floats_op (H : HHeap) (hi : H.In) (o s x : Int) (ho : o = 0 ∨ o = 1 ∨ o = 2 ∨ o = 3) (hs : hasV H s) (hx : hasV H x) (hc : allocE H 8 2 0 = 0 ∨ allocE H 8 2 0 = 30) : Gives Tryz.prog 33 [.agg (encHeap H), iv (17 + o), iv s, .sl 1 (encInts [x])] (fopV H o s x) := by
  cases h1 : floB H s with
  | false => rw [fopV, if_neg (by rw [h1]; simp)]; exact fl_no H hi _ s [x] hs h1
  | true =>
  cases h2 : floB H x with
  | false => rw [fopV, if_neg (by rw [h2]; simp)]; exact fl_two H hi _ s x (by rcases ho with rfl | rfl | rfl | rfl <;> simp) hs hx h1 h2
  | true =>
  rw [fopV, if_pos ⟨h1, h2⟩]
  have c1 := (floated13 H hi s hs).to' (by rw [h1])
  have c2 := (floated13 H hi x hx).to' (by rw [h2])
  have ra := flV_rng H hi s
  have rb := flV_rng H hi x
  have co : ∀ o', o' = o → Gives Tryz.prog 20 [iv o', iv (flV H s), iv (flV H x)] (iv (opI o (flV H s) (flV H x))) := fun o' e => e ▸ rOp_eq o _ _ ra rb
  have cF := float13 H hi (opI o (flV H s) (flV H x)) hc
  generalize opI o (flV H s) (flV H x) = r at *
  generalize flV H s = a at *
  generalize flV H x = b at *
  rcases hc with he | he
  · rw [newF, if_pos he] at cF ⊢
    rcases ho with rfl | rfl | rfl | rfl
    · have c0 := co 0 rfl
      clear co
      refine gives_of Tryz.func33 rfl (Nat.le_of_ble_eq_true rfl) ?_
      (repeat' (first | refine mv ?_ | refine asg ?_ | refine bf ?_ | refine un ?_ | refine ex ?_ | refine la ?_ | refine aops_nil ?_ | refine aw_seq ?_ | refine aw_region ?_ | refine aw_cond_f rfl ?_ | refine aw_skip ?_ | refine bx 0 ?_ | refine al 1 ?_ | refine cl (c1) ?_ | fail))
      refine aw_drawP 10 [] ?_
      (repeat' (first | refine dPn ?_ | refine dP (fun _ => y_move) ?_ | refine dP (fun _ => y_assign) ?_ | refine dP (fun _ => y_extract) ?_ | refine dP (fun _ => y_load) ?_ | refine dP (fun _ => y_loadsN) ?_ | refine dP (fun _ => (y_iaddrN 0 rfl)) ?_ | refine dP (fun _ => y_call (c2)) ?_ | fail))
      (repeat' (first | refine mv ?_ | refine bf ?_ | refine un ?_ | refine aops_nil ?_ | refine aw_seq ?_ | refine aw_region ?_ | refine aw_cond_f rfl ?_ | refine aw_skip ?_ | fail))
      refine aw_drawP 10 [] ?_
      (repeat' (first | refine dPn ?_ | refine dP (fun _ => y_move) ?_ | refine dP (fun _ => y_extract) ?_ | refine dP (fun _ => y_bw) ?_ | refine dP (fun _ => y_loadsN) ?_ | refine dP (fun _ => y_call (c0)) ?_ | refine dP (fun _ => y_call (cF)) ?_ | fail))
      (repeat' (first | refine asg ?_ | refine so ?_ | refine aops_nil ?_ | refine aw_ret ?_ | fail))
      exact fin sh_do
    · have c0 := co 1 rfl
      clear co
      refine gives_of Tryz.func33 rfl (Nat.le_of_ble_eq_true rfl) ?_
      (repeat' (first | refine mv ?_ | refine asg ?_ | refine bf ?_ | refine un ?_ | refine ex ?_ | refine la ?_ | refine aops_nil ?_ | refine aw_seq ?_ | refine aw_region ?_ | refine aw_cond_f rfl ?_ | refine aw_skip ?_ | refine bx 0 ?_ | refine al 1 ?_ | refine cl (c1) ?_ | fail))
      refine aw_drawP 10 [] ?_
      (repeat' (first | refine dPn ?_ | refine dP (fun _ => y_move) ?_ | refine dP (fun _ => y_assign) ?_ | refine dP (fun _ => y_extract) ?_ | refine dP (fun _ => y_load) ?_ | refine dP (fun _ => y_loadsN) ?_ | refine dP (fun _ => (y_iaddrN 0 rfl)) ?_ | refine dP (fun _ => y_call (c2)) ?_ | fail))
      (repeat' (first | refine mv ?_ | refine bf ?_ | refine un ?_ | refine aops_nil ?_ | refine aw_seq ?_ | refine aw_region ?_ | refine aw_cond_f rfl ?_ | refine aw_skip ?_ | fail))
      refine aw_drawP 10 [] ?_
      (repeat' (first | refine dPn ?_ | refine dP (fun _ => y_move) ?_ | refine dP (fun _ => y_extract) ?_ | refine dP (fun _ => y_bw) ?_ | refine dP (fun _ => y_loadsN) ?_ | refine dP (fun _ => y_call (c0)) ?_ | refine dP (fun _ => y_call (cF)) ?_ | fail))
      (repeat' (first | refine asg ?_ | refine so ?_ | refine aops_nil ?_ | refine aw_ret ?_ | fail))
      exact fin sh_do
    · have c0 := co 2 rfl
      clear co
      refine gives_of Tryz.func33 rfl (Nat.le_of_ble_eq_true rfl) ?_
      (repeat' (first | refine mv ?_ | refine asg ?_ | refine bf ?_ | refine un ?_ | refine ex ?_ | refine la ?_ | refine aops_nil ?_ | refine aw_seq ?_ | refine aw_region ?_ | refine aw_cond_f rfl ?_ | refine aw_skip ?_ | refine bx 0 ?_ | refine al 1 ?_ | refine cl (c1) ?_ | fail))
      refine aw_drawP 10 [] ?_
      (repeat' (first | refine dPn ?_ | refine dP (fun _ => y_move) ?_ | refine dP (fun _ => y_assign) ?_ | refine dP (fun _ => y_extract) ?_ | refine dP (fun _ => y_load) ?_ | refine dP (fun _ => y_loadsN) ?_ | refine dP (fun _ => (y_iaddrN 0 rfl)) ?_ | refine dP (fun _ => y_call (c2)) ?_ | fail))
      (repeat' (first | refine mv ?_ | refine bf ?_ | refine un ?_ | refine aops_nil ?_ | refine aw_seq ?_ | refine aw_region ?_ | refine aw_cond_f rfl ?_ | refine aw_skip ?_ | fail))
      refine aw_drawP 10 [] ?_
      (repeat' (first | refine dPn ?_ | refine dP (fun _ => y_move) ?_ | refine dP (fun _ => y_extract) ?_ | refine dP (fun _ => y_bw) ?_ | refine dP (fun _ => y_loadsN) ?_ | refine dP (fun _ => y_call (c0)) ?_ | refine dP (fun _ => y_call (cF)) ?_ | fail))
      (repeat' (first | refine asg ?_ | refine so ?_ | refine aops_nil ?_ | refine aw_ret ?_ | fail))
      exact fin sh_do
    · have c0 := co 3 rfl
      clear co
      refine gives_of Tryz.func33 rfl (Nat.le_of_ble_eq_true rfl) ?_
      (repeat' (first | refine mv ?_ | refine asg ?_ | refine bf ?_ | refine un ?_ | refine ex ?_ | refine la ?_ | refine aops_nil ?_ | refine aw_seq ?_ | refine aw_region ?_ | refine aw_cond_f rfl ?_ | refine aw_skip ?_ | refine bx 0 ?_ | refine al 1 ?_ | refine cl (c1) ?_ | fail))
      refine aw_drawP 10 [] ?_
      (repeat' (first | refine dPn ?_ | refine dP (fun _ => y_move) ?_ | refine dP (fun _ => y_assign) ?_ | refine dP (fun _ => y_extract) ?_ | refine dP (fun _ => y_load) ?_ | refine dP (fun _ => y_loadsN) ?_ | refine dP (fun _ => (y_iaddrN 0 rfl)) ?_ | refine dP (fun _ => y_call (c2)) ?_ | fail))
      (repeat' (first | refine mv ?_ | refine bf ?_ | refine un ?_ | refine aops_nil ?_ | refine aw_seq ?_ | refine aw_region ?_ | refine aw_cond_f rfl ?_ | refine aw_skip ?_ | fail))
      refine aw_drawP 10 [] ?_
      (repeat' (first | refine dPn ?_ | refine dP (fun _ => y_move) ?_ | refine dP (fun _ => y_extract) ?_ | refine dP (fun _ => y_bw) ?_ | refine dP (fun _ => y_loadsN) ?_ | refine dP (fun _ => y_call (c0)) ?_ | refine dP (fun _ => y_call (cF)) ?_ | fail))
      (repeat' (first | refine asg ?_ | refine so ?_ | refine aops_nil ?_ | refine aw_ret ?_ | fail))
      exact fin sh_do
  · rw [newF, if_neg (by rw [he]; decide)] at cF ⊢
    rcases ho with rfl | rfl | rfl | rfl
    · have c0 := co 0 rfl
      clear co
      refine gives_of Tryz.func33 rfl (Nat.le_of_ble_eq_true rfl) ?_
      (repeat' (first | refine mv ?_ | refine asg ?_ | refine bf ?_ | refine un ?_ | refine ex ?_ | refine la ?_ | refine aops_nil ?_ | refine aw_seq ?_ | refine aw_region ?_ | refine aw_cond_f rfl ?_ | refine aw_skip ?_ | refine bx 0 ?_ | refine al 1 ?_ | refine cl (c1) ?_ | fail))
      refine aw_drawP 10 [] ?_
      (repeat' (first | refine dPn ?_ | refine dP (fun _ => y_move) ?_ | refine dP (fun _ => y_assign) ?_ | refine dP (fun _ => y_extract) ?_ | refine dP (fun _ => y_load) ?_ | refine dP (fun _ => y_loadsN) ?_ | refine dP (fun _ => (y_iaddrN 0 rfl)) ?_ | refine dP (fun _ => y_call (c2)) ?_ | fail))
      (repeat' (first | refine mv ?_ | refine bf ?_ | refine un ?_ | refine aops_nil ?_ | refine aw_seq ?_ | refine aw_region ?_ | refine aw_cond_f rfl ?_ | refine aw_skip ?_ | fail))
      refine aw_drawP 10 [] ?_
      (repeat' (first | refine dPn ?_ | refine dP (fun _ => y_move) ?_ | refine dP (fun _ => y_extract) ?_ | refine dP (fun _ => y_bw) ?_ | refine dP (fun _ => y_loadsN) ?_ | refine dP (fun _ => y_call (c0)) ?_ | refine dP (fun _ => y_call (cF)) ?_ | fail))
      (repeat' (first | refine asg ?_ | refine so ?_ | refine aops_nil ?_ | refine aw_ret ?_ | fail))
      exact fin sh_do
    · have c0 := co 1 rfl
      clear co
      refine gives_of Tryz.func33 rfl (Nat.le_of_ble_eq_true rfl) ?_
      (repeat' (first | refine mv ?_ | refine asg ?_ | refine bf ?_ | refine un ?_ | refine ex ?_ | refine la ?_ | refine aops_nil ?_ | refine aw_seq ?_ | refine aw_region ?_ | refine aw_cond_f rfl ?_ | refine aw_skip ?_ | refine bx 0 ?_ | refine al 1 ?_ | refine cl (c1) ?_ | fail))
      refine aw_drawP 10 [] ?_
      (repeat' (first | refine dPn ?_ | refine dP (fun _ => y_move) ?_ | refine dP (fun _ => y_assign) ?_ | refine dP (fun _ => y_extract) ?_ | refine dP (fun _ => y_load) ?_ | refine dP (fun _ => y_loadsN) ?_ | refine dP (fun _ => (y_iaddrN 0 rfl)) ?_ | refine dP (fun _ => y_call (c2)) ?_ | fail))
      (repeat' (first | refine mv ?_ | refine bf ?_ | refine un ?_ | refine aops_nil ?_ | refine aw_seq ?_ | refine aw_region ?_ | refine aw_cond_f rfl ?_ | refine aw_skip ?_ | fail))
      refine aw_drawP 10 [] ?_
      (repeat' (first | refine dPn ?_ | refine dP (fun _ => y_move) ?_ | refine dP (fun _ => y_extract) ?_ | refine dP (fun _ => y_bw) ?_ | refine dP (fun _ => y_loadsN) ?_ | refine dP (fun _ => y_call (c0)) ?_ | refine dP (fun _ => y_call (cF)) ?_ | fail))
      (repeat' (first | refine asg ?_ | refine so ?_ | refine aops_nil ?_ | refine aw_ret ?_ | fail))
      exact fin sh_do
    · have c0 := co 2 rfl
      clear co
      refine gives_of Tryz.func33 rfl (Nat.le_of_ble_eq_true rfl) ?_
      (repeat' (first | refine mv ?_ | refine asg ?_ | refine bf ?_ | refine un ?_ | refine ex ?_ | refine la ?_ | refine aops_nil ?_ | refine aw_seq ?_ | refine aw_region ?_ | refine aw_cond_f rfl ?_ | refine aw_skip ?_ | refine bx 0 ?_ | refine al 1 ?_ | refine cl (c1) ?_ | fail))
      refine aw_drawP 10 [] ?_
      (repeat' (first | refine dPn ?_ | refine dP (fun _ => y_move) ?_ | refine dP (fun _ => y_assign) ?_ | refine dP (fun _ => y_extract) ?_ | refine dP (fun _ => y_load) ?_ | refine dP (fun _ => y_loadsN) ?_ | refine dP (fun _ => (y_iaddrN 0 rfl)) ?_ | refine dP (fun _ => y_call (c2)) ?_ | fail))
      (repeat' (first | refine mv ?_ | refine bf ?_ | refine un ?_ | refine aops_nil ?_ | refine aw_seq ?_ | refine aw_region ?_ | refine aw_cond_f rfl ?_ | refine aw_skip ?_ | fail))
      refine aw_drawP 10 [] ?_
      (repeat' (first | refine dPn ?_ | refine dP (fun _ => y_move) ?_ | refine dP (fun _ => y_extract) ?_ | refine dP (fun _ => y_bw) ?_ | refine dP (fun _ => y_loadsN) ?_ | refine dP (fun _ => y_call (c0)) ?_ | refine dP (fun _ => y_call (cF)) ?_ | fail))
      (repeat' (first | refine asg ?_ | refine so ?_ | refine aops_nil ?_ | refine aw_ret ?_ | fail))
      exact fin sh_do
    · have c0 := co 3 rfl
      clear co
      refine gives_of Tryz.func33 rfl (Nat.le_of_ble_eq_true rfl) ?_
      (repeat' (first | refine mv ?_ | refine asg ?_ | refine bf ?_ | refine un ?_ | refine ex ?_ | refine la ?_ | refine aops_nil ?_ | refine aw_seq ?_ | refine aw_region ?_ | refine aw_cond_f rfl ?_ | refine aw_skip ?_ | refine bx 0 ?_ | refine al 1 ?_ | refine cl (c1) ?_ | fail))
      refine aw_drawP 10 [] ?_
      (repeat' (first | refine dPn ?_ | refine dP (fun _ => y_move) ?_ | refine dP (fun _ => y_assign) ?_ | refine dP (fun _ => y_extract) ?_ | refine dP (fun _ => y_load) ?_ | refine dP (fun _ => y_loadsN) ?_ | refine dP (fun _ => (y_iaddrN 0 rfl)) ?_ | refine dP (fun _ => y_call (c2)) ?_ | fail))
      (repeat' (first | refine mv ?_ | refine bf ?_ | refine un ?_ | refine aops_nil ?_ | refine aw_seq ?_ | refine aw_region ?_ | refine aw_cond_f rfl ?_ | refine aw_skip ?_ | fail))
      refine aw_drawP 10 [] ?_
      (repeat' (first | refine dPn ?_ | refine dP (fun _ => y_move) ?_ | refine dP (fun _ => y_extract) ?_ | refine dP (fun _ => y_bw) ?_ | refine dP (fun _ => y_loadsN) ?_ | refine dP (fun _ => y_call (c0)) ?_ | refine dP (fun _ => y_call (cF)) ?_ | fail))
      (repeat' (first | refine asg ?_ | refine so ?_ | refine aops_nil ?_ | refine aw_ret ?_ | fail))
      exact fin sh_do
set_option maxHeartbeats 16000000 in
theorem floats21 (H : HHeap) (hi : H.In) (s x : Int) (hs : hasV H s) (hx : hasV H x) : Gives Tryz.prog 33 [.agg (encHeap H), iv 21, iv s, .sl 1 (encInts [x])] (flessV H s x) := by
  cases h1 : floB H s with
  | false => rw [flessV, if_neg (by rw [h1]; simp)]; exact fl_no H hi _ s [x] hs h1
  | true =>
  cases h2 : floB H x with
  | false => rw [flessV, if_neg (by rw [h2]; simp)]; exact fl_two H hi _ s x (by simp) hs hx h1 h2
  | true =>
  rw [flessV, if_pos ⟨h1, h2⟩]
  have c1 := (floated13 H hi s hs).to' (by rw [h1])
  have c2 := (floated13 H hi x hx).to' (by rw [h2])
  have c3 := rless_c (flV_rng H hi s) (flV_rng H hi x)
  have ct := truth13 H (lessF (flV H s) (flV H x))
  refine gives_of Tryz.func33 rfl (Nat.le_of_ble_eq_true rfl) ?_
  (repeat' (first | refine mv ?_ | refine asg ?_ | refine bf ?_ | refine un ?_ | refine ex ?_ | refine la ?_ | refine aops_nil ?_ | refine aw_seq ?_ | refine aw_region ?_ | refine aw_cond_f rfl ?_ | refine aw_skip ?_ | refine bx 0 ?_ | refine al 1 ?_ | refine cl (c1) ?_ | fail))
  refine aw_drawP 10 [] ?_
  (repeat' (first | refine dPn ?_ | refine dP (fun _ => y_move) ?_ | refine dP (fun _ => y_assign) ?_ | refine dP (fun _ => y_extract) ?_ | refine dP (fun _ => y_load) ?_ | refine dP (fun _ => y_loadsN) ?_ | refine dP (fun _ => (y_iaddrN 0 rfl)) ?_ | refine dP (fun _ => y_call (c2)) ?_ | fail))
  (repeat' (first | refine mv ?_ | refine bt ?_ | refine un ?_ | refine aops_nil ?_ | refine aw_seq ?_ | refine aw_region ?_ | refine aw_cond_t rfl ?_ | refine aw_cond_f rfl ?_ | refine aw_skip ?_ | fail))
  refine aw_drawP 8 [] ?_
  (repeat' (first | refine dPn ?_ | refine dP (fun _ => y_move) ?_ | refine dP (fun _ => y_extract) ?_ | refine dP (fun _ => y_loadsN) ?_ | refine dP (fun _ => y_call (c3)) ?_ | refine dP (fun _ => y_call (ct)) ?_ | fail))
  (repeat' (first | refine asg ?_ | refine so ?_ | refine aops_nil ?_ | refine aw_ret ?_ | fail))
  exact fin sh_do
set_option maxHeartbeats 16000000 in
theorem floats22 (H : HHeap) (hi : H.In) (s x : Int) (hs : hasV H s) (hx : hasV H x) : Gives Tryz.prog 33 [.agg (encHeap H), iv 22, iv s, .sl 1 (encInts [x])] (fsameV H s x) := by
  cases h1 : floB H s with
  | false => rw [fsameV, if_neg (by rw [h1]; simp)]; exact fl_no H hi _ s [x] hs h1
  | true =>
  cases h2 : floB H x with
  | false => rw [fsameV, if_neg (by rw [h2]; simp)]; exact fl_two H hi _ s x (by simp) hs hx h1 h2
  | true =>
  rw [fsameV, if_pos ⟨h1, h2⟩]
  have c1 := (floated13 H hi s hs).to' (by rw [h1])
  have c2 := (floated13 H hi x hx).to' (by rw [h2])
  have c3 := requal_c (flV_rng H hi s) (flV_rng H hi x)
  have ct := truth13 H (sameF (flV H s) (flV H x))
  refine gives_of Tryz.func33 rfl (Nat.le_of_ble_eq_true rfl) ?_
  (repeat' (first | refine mv ?_ | refine asg ?_ | refine bf ?_ | refine un ?_ | refine ex ?_ | refine la ?_ | refine aops_nil ?_ | refine aw_seq ?_ | refine aw_region ?_ | refine aw_cond_f rfl ?_ | refine aw_skip ?_ | refine bx 0 ?_ | refine al 1 ?_ | refine cl (c1) ?_ | fail))
  refine aw_drawP 10 [] ?_
  (repeat' (first | refine dPn ?_ | refine dP (fun _ => y_move) ?_ | refine dP (fun _ => y_assign) ?_ | refine dP (fun _ => y_extract) ?_ | refine dP (fun _ => y_load) ?_ | refine dP (fun _ => y_loadsN) ?_ | refine dP (fun _ => (y_iaddrN 0 rfl)) ?_ | refine dP (fun _ => y_call (c2)) ?_ | fail))
  (repeat' (first | refine mv ?_ | refine bt ?_ | refine bf ?_ | refine un ?_ | refine aops_nil ?_ | refine aw_seq ?_ | refine aw_region ?_ | refine aw_cond_t rfl ?_ | refine aw_cond_f rfl ?_ | refine aw_skip ?_ | fail))
  refine aw_drawP 8 [] ?_
  (repeat' (first | refine dPn ?_ | refine dP (fun _ => y_move) ?_ | refine dP (fun _ => y_extract) ?_ | refine dP (fun _ => y_loadsN) ?_ | refine dP (fun _ => y_call (c3)) ?_ | refine dP (fun _ => y_call (ct)) ?_ | fail))
  (repeat' (first | refine asg ?_ | refine so ?_ | refine aops_nil ?_ | refine aw_ret ?_ | fail))
  exact fin sh_do
set_option maxHeartbeats 16000000 in
theorem floats24 (H : HHeap) (hi : H.In) (s : Int) (hs : hasV H s) (hc : allocE H 8 2 0 = 0 ∨ allocE H 8 2 0 = 30) : Gives Tryz.prog 33 [.agg (encHeap H), iv 24, iv s, .sl 1 (encInts [])] (floatV H s) := by
  cases h1 : floB H s with
  | false => rw [floatV, if_neg (by rw [h1]; simp)]; exact fl_no H hi _ s [] hs h1
  | true =>
  rw [floatV, if_pos h1]
  have c1 := (floated13 H hi s hs).to' (by rw [h1])
  have cF := float13 H hi (flV H s) hc
  rcases hc with he | he
  · rw [newF, if_pos he] at cF ⊢
    refine gives_of Tryz.func33 rfl (Nat.le_of_ble_eq_true rfl) ?_
    (repeat' (first | refine mv ?_ | refine asg ?_ | refine bt ?_ | refine bf ?_ | refine un ?_ | refine ex ?_ | refine la ?_ | refine so ?_ | refine aops_nil ?_ | refine aw_seq ?_ | refine aw_region ?_ | refine aw_cond_t rfl ?_ | refine aw_cond_f rfl ?_ | refine aw_skip ?_ | refine aw_ret ?_ | refine bx 0 ?_ | refine al 1 ?_ | refine cl (c1) ?_ | refine cl (cF) ?_ | fail))
    exact fin sh_do
  · rw [newF, if_neg (by rw [he]; decide)] at cF ⊢
    refine gives_of Tryz.func33 rfl (Nat.le_of_ble_eq_true rfl) ?_
    (repeat' (first | refine mv ?_ | refine asg ?_ | refine bt ?_ | refine bf ?_ | refine un ?_ | refine ex ?_ | refine la ?_ | refine so ?_ | refine aops_nil ?_ | refine aw_seq ?_ | refine aw_region ?_ | refine aw_cond_t rfl ?_ | refine aw_cond_f rfl ?_ | refine aw_skip ?_ | refine aw_ret ?_ | refine bx 0 ?_ | refine al 1 ?_ | refine cl (c1) ?_ | refine cl (cF) ?_ | fail))
    exact fin sh_do
theorem rtrunc_c (a n : Int) (b : Bool) (ha : In64 a) (hf : flt_Trunc.f a = some (n, b)) : Gives Tryz.prog 100 [iv a] (.tup [iv n, bv b]) := by
  obtain ⟨s, p, hp, rfl⟩ := split a (by obtain ⟨h1, h2⟩ := ha; simp only [Lit.wf, IntKind.min, IntKind.max, IntKind.signed, IntKind.bits, Bool.and_eq_true, decide_eq_true_eq, if_true]; omega)
  exact rTrunc_ok 99 _ n b (by rw [Trunc_ref 100 (by omega) s p hp, hf])
set_option maxHeartbeats 16000000 in
theorem floats23 (H : HHeap) (hi : H.In) (s n : Int) (b : Bool) (hf : flt_Trunc.f (flV H s) = some (n, b)) (hb : b = true → smallB n = true) (hs : hasV H s) : Gives Tryz.prog 33 [.agg (encHeap H), iv 23, iv s, .sl 1 (encInts [])] (ftruncV H s n b) := by
  cases h1 : floB H s with
  | false => rw [ftruncV, if_neg (by rw [h1]; simp)]; exact fl_no H hi _ s [] hs h1
  | true =>
  have cf := fail13' H
  have c1 := (floated13 H hi s hs).to' (by rw [h1])
  have ct := rtrunc_c (flV H s) n b (flV_rng H hi s) hf
  cases b with
  | false =>
    rw [ftruncV, if_neg (by simp)]
    refine gives_of Tryz.func33 rfl (Nat.le_of_ble_eq_true rfl) ?_
    (repeat' (first | refine mv ?_ | refine asg ?_ | refine bt ?_ | refine un ?_ | refine ex ?_ | refine la ?_ | refine so ?_ | refine aops_nil ?_ | refine aw_seq ?_ | refine aw_region ?_ | refine aw_cond_t rfl ?_ | refine aw_cond_f rfl ?_ | refine aw_skip ?_ | refine aw_ret ?_ | refine bx 0 ?_ | refine al 1 ?_ | refine cl (c1) ?_ | refine cl (ct) ?_ | refine cl (cf) ?_ | fail))
    exact fin sh_do
  | true =>
    rw [ftruncV, if_pos ⟨h1, rfl⟩]
    have hsm := hb rfl
    have ci := (integer13' H n).to' (show _ = .tup [.agg (encHeap H), iv (n * 2 + 1), iv 0] by rw [outI, outE, if_pos hsm, if_pos hsm])
    refine gives_of Tryz.func33 rfl (Nat.le_of_ble_eq_true rfl) ?_
    (repeat' (first | refine mv ?_ | refine asg ?_ | refine bt ?_ | refine un ?_ | refine ex ?_ | refine la ?_ | refine so ?_ | refine aops_nil ?_ | refine aw_seq ?_ | refine aw_region ?_ | refine aw_cond_t rfl ?_ | refine aw_cond_f rfl ?_ | refine aw_skip ?_ | refine aw_ret ?_ | refine bx 0 ?_ | refine al 1 ?_ | refine cl (c1) ?_ | refine cl (ct) ?_ | refine cl (ci) ?_ | fail))
    exact fin sh_do
end Go.Proofs.YtnjihhheiiapnaaGreat
