/- What the statements' walks need. -/
import Derived.Test.YtnjihhheiiapnaaGreatMTa4
import Derived.Test.YtnjihhheiiapnaaGreatMTx39
import Derived.Test.YtnjihhheiiapnaaGreatMTx20
import Derived.Test.YtnjihhheiiapnaaGreatMTx40
import Derived.Test.YtnjihhheiiapnaaGreatMTx13
set_option linter.unusedVariables false
set_option linter.unusedSimpArgs false
set_option maxRecDepth 100000
namespace Go.Proofs.YtnjihhheiiapnaaGreat
open Go Go.Proofs AW
theorem took_y {H G : HHeap} {e v : Int} (h : e = 0) : Gives Tryz.prog 89 [.agg (encHeap H), .agg (encHeap G), iv e, iv v] (.tup [.agg (encHeap G), iv v, iv 0]) := (took13 H G e v).to' (by rw [tookV, if_pos h]; rfl)
theorem took_n {H G : HHeap} {e v : Int} (h : ¬ e = 0) : Gives Tryz.prog 89 [.agg (encHeap H), .agg (encHeap G), iv e, iv v] (.tup [.agg (encHeap H), iv 0, iv 130]) := (took13 H G e v).to' (by rw [tookV, if_neg h]; rfl)
set_option maxHeartbeats 16000000 in
theorem parts10 (H : HHeap) (hi : H.In) (hm : mayH H = true) (s : Int) (hs : hasB H.objs.length s = true) : Gives Tryz.prog 30 [.agg (encHeap H), iv 10, iv s, .sl 1 (encInts [])] (sizeV H s) := by
  have cr : Gives Tryz.prog 22 [.agg (encHeap H), iv s] (iv (H.ref s)) := rRef_ok H s hi.2.2.2
  have cf := fail13' H
  rcases has_cases hs with ⟨h1, h2⟩ | ⟨h1, h2⟩
  · rw [sizeV, if_neg (by rw [h1]; simp)]
    have h3 : H.ref s < 0 := by simp only [HHeap.ref, refI, h2]; simp
    refine gives_of Tryz.func30 rfl (Nat.le_of_ble_eq_true rfl) ?_
    (repeat' (first | refine sk ?_ | refine mv ?_ | refine asg ?_ | refine bt ?_ | refine pt ?_ | refine ex ?_ | refine la ?_ | refine so ?_ | refine aops_nil ?_ | refine aw_seq ?_ | refine aw_region ?_ | refine aw_cond_t rfl ?_ | refine aw_ret ?_ | refine bx 0 ?_ | refine al 1 ?_ | refine cl (cr) ?_ | refine cl (cf) ?_ | fail))
    exact fin sh_do
  have hg : (encObjs H.objs)[(H.ref s).toNat]? = some (encObj (H.at' s)) := objs_get (at_get h2)
  have hq : H.ref s = ((H.ref s).toNat : Int) := (Int.toNat_of_nonneg h2).symm
  by_cases hk : (H.at' s).kind = 2
  · rw [sizeV, if_neg (by rw [hk]; simp)]
    refine gives_of Tryz.func30 rfl (Nat.le_of_ble_eq_true rfl) ?_
    (repeat' (first | refine mv ?_ | refine asg ?_ | refine ld ?_ | refine fp ?_ | refine fi ?_ | refine bt ?_ | refine bf ?_ | refine pf ?_ | refine ex ?_ | refine la ?_ | refine so ?_ | refine aops_nil ?_ | refine aw_seq ?_ | refine aw_region ?_ | refine aw_cond_t rfl ?_ | refine aw_ret ?_ | refine bx 0 ?_ | refine al 1 ?_ | refine cl (cr) ?_ | refine cl (cf) ?_ | refine ia (H.ref s).toNat hg ?_ (hn := hq) | fail))
    exact fin sh_do
  · rw [sizeV, if_pos ⟨h1, hk⟩]
    have hko := at_may hm h2
    simp only [mayObj, restB, Bool.and_eq_true, decide_eq_true_eq] at hko
    obtain ⟨_, _, ⟨k1, k2, _⟩, _⟩ := hko
    have hls : (encInts (H.at' s).slots).length = (H.at' s).slots.length := len_ints _
    have hsm : smallB (((encInts (H.at' s).slots).length : Int) + ((H.at' s).text.size : Int)) = true := by simp [smallB]; omega
    have ci := (integer13' H (((encInts (H.at' s).slots).length : Int) + ((H.at' s).text.size : Int))).to' (show _ = .tup [.agg (encHeap H), iv ((((H.at' s).slots.length : Int) + ((H.at' s).text.size : Int)) * 2 + 1), iv 0] by rw [outI, outE, if_pos hsm, if_pos hsm, hls])
    refine gives_of Tryz.func30 rfl (Nat.le_of_ble_eq_true rfl) ?_
    (repeat' (first | refine mv ?_ | refine asg ?_ | refine ld ?_ | refine fp ?_ | refine fi ?_ | refine bt ?_ | refine bf ?_ | refine pf ?_ | refine la ?_ | refine aops_nil ?_ | refine aw_seq ?_ | refine aw_region ?_ | refine aw_cond_t rfl ?_ | refine aw_cond_f rfl ?_ | refine aw_skip ?_ | refine bx 0 ?_ | refine al 1 ?_ | refine cl (cr) ?_ | refine ia (H.ref s).toNat hg ?_ (hn := hq) | fail))
    refine aw_drawP 20 [] ?_
    (repeat' (first | refine dPn ?_ | refine dP (fun _ => y_move) ?_ | refine dP (fun _ => y_extract) ?_ | refine dP (fun _ => y_load) ?_ | refine dP (fun _ => y_faddr_ptr (hs := Nat.le_of_ble_eq_true rfl)) ?_ | refine dP (fun _ => y_faddr_ip) ?_ | refine dP (fun _ => y_bw) ?_ | refine dP (fun _ => y_len) ?_ | refine dP (fun _ => y_lens) ?_ | refine dP (fun _ => y_loadsN) ?_ | refine dP (fun _ => (y_iaddrN (H.ref s).toNat hg (hn := hq))) ?_ | refine dP (fun _ => y_call (ci)) ?_ | fail))
    (repeat' (first | refine asg ?_ | refine so ?_ | refine aops_nil ?_ | refine aw_ret ?_ | fail))
    exact fin sh_do
set_option maxHeartbeats 16000000 in
theorem parts_no (H : HHeap) (num s x : Int) (l : List Int) (h : isN x = false) (hn : ¬ num = 10) : Gives Tryz.prog 30 [.agg (encHeap H), iv num, iv s, .sl 1 (encInts (x :: l))] (doV H 0 130) := by
  have cf := fail13' H
  have cn := (rN_ok x).to' (by rw [h])
  refine gives_of Tryz.func30 rfl (Nat.le_of_ble_eq_true rfl) ?_
  (repeat' (first | refine mv ?_ | refine asg ?_ | refine ld ?_ | refine bf ?_ | refine un ?_ | refine ex ?_ | refine la ?_ | refine so ?_ | refine aops_nil ?_ | refine aw_seq ?_ | refine aw_region ?_ | refine aw_cond_t rfl ?_ | refine aw_cond_f rfl ?_ | refine aw_skip ?_ | refine aw_ret ?_ | refine bx 0 ?_ | refine al 1 ?_ | refine cl (cf) ?_ | refine cl (cn) ?_ | refine ia 0 rfl ?_ | fail))
  exact fin sh_do
set_option maxHeartbeats 16000000 in
theorem parts8 (H : HHeap) (hi : H.In) (s x : Int) : Gives Tryz.prog 30 [.agg (encHeap H), iv 8, iv s, .sl 1 (encInts [x])] (atV H s x) := by
  cases h : isN x with
  | false => rw [atV, if_neg (by rw [h]; simp)]; exact parts_no H 8 s x [] h (by decide)
  | true =>
    have hr := nI_rng h
    have cn := (rN_ok x).to' (by rw [h])
    have cg := rGet_ok H hi s (nI x - 1)
    by_cases he : wrongE H s 0 (nI x - 1) = 0
    · rw [atV, if_pos ⟨h, he⟩]
      have ct := took_y (H := H) (G := H) (v := getI H s (nI x - 1)) he
      refine gives_of Tryz.func30 rfl (Nat.le_of_ble_eq_true rfl) ?_
      (repeat' (first | refine mv ?_ | refine asg ?_ | refine ld ?_ | refine bt ?_ | refine bf ?_ | refine bw ?_ | refine un ?_ | refine ex ?_ | refine la ?_ | refine so ?_ | refine aops_nil ?_ | refine aw_seq ?_ | refine aw_region ?_ | refine aw_cond_t rfl ?_ | refine aw_cond_f rfl ?_ | refine aw_block ?_ | refine aw_skip ?_ | refine aw_ret ?_ | refine bx 0 ?_ | refine al 1 ?_ | refine cl (cn) ?_ | refine ia 0 rfl ?_ | refine cl (cg) ?_ | refine cl (ct) ?_ | fail))
      exact fin sh_do
    · rw [atV, if_neg (fun e => he e.2)]
      have ct := took_n (H := H) (G := H) (v := getI H s (nI x - 1)) he
      refine gives_of Tryz.func30 rfl (Nat.le_of_ble_eq_true rfl) ?_
      (repeat' (first | refine mv ?_ | refine asg ?_ | refine ld ?_ | refine bt ?_ | refine bf ?_ | refine bw ?_ | refine un ?_ | refine ex ?_ | refine la ?_ | refine so ?_ | refine aops_nil ?_ | refine aw_seq ?_ | refine aw_region ?_ | refine aw_cond_t rfl ?_ | refine aw_cond_f rfl ?_ | refine aw_block ?_ | refine aw_skip ?_ | refine aw_ret ?_ | refine bx 0 ?_ | refine al 1 ?_ | refine cl (cn) ?_ | refine ia 0 rfl ?_ | refine cl (cg) ?_ | refine cl (ct) ?_ | fail))
      exact fin sh_do
set_option maxHeartbeats 16000000 in
theorem parts25 (H : HHeap) (hi : H.In) (s x : Int) : Gives Tryz.prog 30 [.agg (encHeap H), iv 25, iv s, .sl 1 (encInts [x])] (byteV H s x) := by
  cases h : isN x with
  | false => rw [byteV, if_neg (by rw [h]; simp)]; exact parts_no H 25 s x [] h (by decide)
  | true =>
    have hr := nI_rng h
    have cn := (rN_ok x).to' (by rw [h])
    have cg := rByte_ok H hi s (nI x - 1)
    have hb : 0 ≤ byteI H s (nI x - 1) ∧ byteI H s (nI x - 1) < 256 := by
      unfold byteI; split
      · exact btA_lt _ _
      · omega
    by_cases he : wrongE H s 1 (nI x - 1) = 0
    · rw [byteV, if_pos ⟨h, he⟩]
      have ct := took_y (H := H) (G := H) (v := 2 * byteI H s (nI x - 1) + 1) he
      refine gives_of Tryz.func30 rfl (Nat.le_of_ble_eq_true rfl) ?_
      (repeat' (first | refine mv ?_ | refine asg ?_ | refine ld ?_ | refine bt ?_ | refine bf ?_ | refine bw ?_ | refine un ?_ | refine ex ?_ | refine la ?_ | refine so ?_ | refine aops_nil ?_ | refine aw_seq ?_ | refine aw_region ?_ | refine aw_cond_t rfl ?_ | refine aw_cond_f rfl ?_ | refine aw_block ?_ | refine aw_skip ?_ | refine aw_ret ?_ | refine bx 0 ?_ | refine al 1 ?_ | refine cl (cn) ?_ | refine ia 0 rfl ?_ | refine cl (cg) ?_ | refine cl (ct) ?_ | fail))
      refine fin ?_
      rw [Int.mul_comm]
      exact sh_do
    · rw [byteV, if_neg (fun e => he e.2)]
      have ct := took_n (H := H) (G := H) (v := 2 * byteI H s (nI x - 1) + 1) he
      refine gives_of Tryz.func30 rfl (Nat.le_of_ble_eq_true rfl) ?_
      (repeat' (first | refine mv ?_ | refine asg ?_ | refine ld ?_ | refine bt ?_ | refine bf ?_ | refine bw ?_ | refine un ?_ | refine ex ?_ | refine la ?_ | refine so ?_ | refine aops_nil ?_ | refine aw_seq ?_ | refine aw_region ?_ | refine aw_cond_t rfl ?_ | refine aw_cond_f rfl ?_ | refine aw_block ?_ | refine aw_skip ?_ | refine aw_ret ?_ | refine bx 0 ?_ | refine al 1 ?_ | refine cl (cn) ?_ | refine ia 0 rfl ?_ | refine cl (cg) ?_ | refine cl (ct) ?_ | fail))
      exact fin sh_do
set_option maxHeartbeats 16000000 in
theorem parts9 (H : HHeap) (hi : H.In) (s x y : Int) : Gives Tryz.prog 30 [.agg (encHeap H), iv 9, iv s, .sl 1 (encInts [x, y])] (putV H s x y) := by
  cases h : isN x with
  | false => rw [putV, if_neg (by rw [h]; simp)]; exact parts_no H 9 s x [y] h (by decide)
  | true =>
    have hr := nI_rng h
    have cn := (rN_ok x).to' (by rw [h])
    have cg := rSet_ok H hi s (nI x - 1) y
    by_cases he : setE H s (nI x - 1) y = 0
    · rw [putV, if_pos ⟨h, he⟩]
      have ct := took_y (H := H) (G := setH H s (nI x - 1) y) (v := y) he
      refine gives_of Tryz.func30 rfl (Nat.le_of_ble_eq_true rfl) ?_
      (repeat' (first | refine mv ?_ | refine asg ?_ | refine ld ?_ | refine bt ?_ | refine bf ?_ | refine un ?_ | refine ex ?_ | refine aops_nil ?_ | refine aw_seq ?_ | refine aw_region ?_ | refine aw_cond_t rfl ?_ | refine aw_cond_f rfl ?_ | refine aw_block ?_ | refine aw_skip ?_ | refine bx 0 ?_ | refine al 1 ?_ | refine cl (cn) ?_ | refine ia 0 rfl ?_ | fail))
      refine aw_drawP 13 [(11, 5, .live 24 3 [[.v (.slice none 0 0), iv 0, iv 0]], none), (12, 5, .live 24 3 [encHeap (setH H s (nI x - 1) y)], none)] ?_
      (repeat' (first | refine dPn ?_ | refine dP (fun _ => y_move) ?_ | refine dP (fun _ => y_extract) ?_ | refine dP (fun _ => y_load) ?_ | refine dP (fun _ => y_bw) ?_ | refine dP (fun _ => y_loadsN) ?_ | refine dPS (fun _ => y_storeV) ?_ | refine dP (fun _ => (y_iaddrN 1 rfl)) ?_ | refine dP (fun _ => y_call (cg)) ?_ | refine dPE (fun _ => y_allocU 5) ?_ | fail))
      (repeat' (first | refine asg ?_ | refine aops_nil ?_ | refine aw_seq ?_ | fail))
      refine aw_drawP 10 [] ?_
      (repeat' (first | refine dPn ?_ | refine dP (fun _ => y_move) ?_ | refine dP (fun _ => y_extract) ?_ | refine dP (fun _ => y_load) ?_ | refine dP (fun _ => y_loadsN) ?_ | refine dP (fun _ => (y_iaddrN 1 rfl)) ?_ | refine dP (fun _ => y_call (ct)) ?_ | fail))
      (repeat' (first | refine asg ?_ | refine so ?_ | refine aops_nil ?_ | refine aw_ret ?_ | fail))
      exact fin sh_do
    · rw [putV, if_neg (fun e => he e.2)]
      have ct := took_n (H := H) (G := setH H s (nI x - 1) y) (v := y) he
      refine gives_of Tryz.func30 rfl (Nat.le_of_ble_eq_true rfl) ?_
      (repeat' (first | refine mv ?_ | refine asg ?_ | refine ld ?_ | refine bt ?_ | refine bf ?_ | refine un ?_ | refine ex ?_ | refine aops_nil ?_ | refine aw_seq ?_ | refine aw_region ?_ | refine aw_cond_t rfl ?_ | refine aw_cond_f rfl ?_ | refine aw_block ?_ | refine aw_skip ?_ | refine bx 0 ?_ | refine al 1 ?_ | refine cl (cn) ?_ | refine ia 0 rfl ?_ | fail))
      refine aw_drawP 13 [(11, 5, .live 24 3 [[.v (.slice none 0 0), iv 0, iv 0]], none), (12, 5, .live 24 3 [encHeap (setH H s (nI x - 1) y)], none)] ?_
      (repeat' (first | refine dPn ?_ | refine dP (fun _ => y_move) ?_ | refine dP (fun _ => y_extract) ?_ | refine dP (fun _ => y_load) ?_ | refine dP (fun _ => y_bw) ?_ | refine dP (fun _ => y_loadsN) ?_ | refine dPS (fun _ => y_storeV) ?_ | refine dP (fun _ => (y_iaddrN 1 rfl)) ?_ | refine dP (fun _ => y_call (cg)) ?_ | refine dPE (fun _ => y_allocU 5) ?_ | fail))
      (repeat' (first | refine asg ?_ | refine aops_nil ?_ | refine aw_seq ?_ | fail))
      refine aw_drawP 10 [] ?_
      (repeat' (first | refine dPn ?_ | refine dP (fun _ => y_move) ?_ | refine dP (fun _ => y_extract) ?_ | refine dP (fun _ => y_load) ?_ | refine dP (fun _ => y_loadsN) ?_ | refine dP (fun _ => (y_iaddrN 1 rfl)) ?_ | refine dP (fun _ => y_call (ct)) ?_ | fail))
      (repeat' (first | refine asg ?_ | refine so ?_ | refine aops_nil ?_ | refine aw_ret ?_ | fail))
      exact fin sh_do
set_option maxHeartbeats 16000000 in
theorem parts26 (H : HHeap) (hi : H.In) (s x y : Int) : Gives Tryz.prog 30 [.agg (encHeap H), iv 26, iv s, .sl 1 (encInts [x, y])] (putbV H s x y) := by
  cases h : isN x with
  | false => rw [putbV, if_neg (by rw [h]; simp)]; exact parts_no H 26 s x [y] h (by decide)
  | true =>
    have hr := nI_rng h
    have cn := (rN_ok x).to' (by rw [h])
    cases h2 : isN y with
    | false =>
      have cf := fail13' H
      have cm := (rN_ok y).to' (by rw [h2])
      rw [putbV, if_neg (by rw [h2]; simp)]
      refine gives_of Tryz.func30 rfl (Nat.le_of_ble_eq_true rfl) ?_
      (repeat' (first | refine mv ?_ | refine asg ?_ | refine ld ?_ | refine bf ?_ | refine un ?_ | refine ex ?_ | refine la ?_ | refine so ?_ | refine aops_nil ?_ | refine aw_seq ?_ | refine aw_region ?_ | refine aw_cond_t rfl ?_ | refine aw_cond_f rfl ?_ | refine aw_block ?_ | refine aw_skip ?_ | refine aw_ret ?_ | refine bx 0 ?_ | refine al 1 ?_ | refine cl (cf) ?_ | refine cl (cn) ?_ | refine cl (cm) ?_ | refine ia 0 rfl ?_ | refine ia 1 rfl ?_ | fail))
      exact fin sh_do
    | true =>
      have hr2 := nI_rng h2
      have cm := (rN_ok y).to' (by rw [h2])
      have cg := rSetByte_ok H hi s (nI x - 1) (nI y)
      by_cases he : setByteE H s (nI x - 1) (nI y) = 0
      · rw [putbV, if_pos ⟨⟨h, h2⟩, he⟩]
        have ct := took_y (H := H) (G := setByteH H s (nI x - 1) (nI y)) (v := y) he
        refine gives_of Tryz.func30 rfl (Nat.le_of_ble_eq_true rfl) ?_
        (repeat' (first | refine mv ?_ | refine asg ?_ | refine ld ?_ | refine bf ?_ | refine bw ?_ | refine un ?_ | refine ex ?_ | refine la ?_ | refine so ?_ | refine aops_nil ?_ | refine aw_seq ?_ | refine aw_region ?_ | refine aw_cond_f rfl ?_ | refine aw_block ?_ | refine aw_skip ?_ | refine bx 0 ?_ | refine al 1 ?_ | refine al 2 ?_ | refine cl (cn) ?_ | refine cl (cm) ?_ | refine cl (cg) ?_ | refine ia 0 rfl ?_ | refine ia 1 rfl ?_ | fail))
        refine aw_drawP 10 [] ?_
        (repeat' (first | refine dPn ?_ | refine dP (fun _ => y_move) ?_ | refine dP (fun _ => y_extract) ?_ | refine dP (fun _ => y_load) ?_ | refine dP (fun _ => y_loadsN) ?_ | refine dP (fun _ => (y_iaddrN 1 rfl)) ?_ | refine dP (fun _ => y_call (ct)) ?_ | fail))
        (repeat' (first | refine asg ?_ | refine so ?_ | refine aops_nil ?_ | refine aw_ret ?_ | fail))
        exact fin sh_do
      · rw [putbV, if_neg (fun e => he e.2)]
        have ct := took_n (H := H) (G := setByteH H s (nI x - 1) (nI y)) (v := y) he
        refine gives_of Tryz.func30 rfl (Nat.le_of_ble_eq_true rfl) ?_
        (repeat' (first | refine mv ?_ | refine asg ?_ | refine ld ?_ | refine bf ?_ | refine bw ?_ | refine un ?_ | refine ex ?_ | refine la ?_ | refine so ?_ | refine aops_nil ?_ | refine aw_seq ?_ | refine aw_region ?_ | refine aw_cond_f rfl ?_ | refine aw_block ?_ | refine aw_skip ?_ | refine bx 0 ?_ | refine al 1 ?_ | refine al 2 ?_ | refine cl (cn) ?_ | refine cl (cm) ?_ | refine cl (cg) ?_ | refine ia 0 rfl ?_ | refine ia 1 rfl ?_ | fail))
        refine aw_drawP 10 [] ?_
        (repeat' (first | refine dPn ?_ | refine dP (fun _ => y_move) ?_ | refine dP (fun _ => y_extract) ?_ | refine dP (fun _ => y_load) ?_ | refine dP (fun _ => y_loadsN) ?_ | refine dP (fun _ => (y_iaddrN 1 rfl)) ?_ | refine dP (fun _ => y_call (ct)) ?_ | fail))
        (repeat' (first | refine asg ?_ | refine so ?_ | refine aops_nil ?_ | refine aw_ret ?_ | fail))
        exact fin sh_do
end Go.Proofs.YtnjihhheiiapnaaGreat
