/- What the statements' walks need. -/
import Derived.Test.YtbmldjcddpblnaaMQa4
import Derived.Test.YtbmldjcddpblnaaMQx6
import Derived.Test.YtbmldjcddpblnaaMQx3
set_option linter.unusedVariables false
set_option linter.unusedSimpArgs false
set_option maxRecDepth 100000
namespace Go.Proofs.Ytbmldjcddpblnaa
open Go Go.Proofs AW
def lastOp (l : List HInstr) : Int := ((l[l.length - 1]?).map (·.op)).getD 0
def checkB (l : List HInstr) (lits temps : Int) : Bool := decide (l.length ≠ 0) && (allI l && (l.all (fitsI l.length lits temps) && decide (lastOp l = 14 ∨ lastOp l = 15 ∨ lastOp l = 10)))
def checkE (l : List HInstr) (lits temps : Int) : Int := if checkB l lits temps = true then 0 else 110
theorem check1_ok (l : List HInstr) (lits temps : Int) (x : HInstr) (hx : 0 ≤ x.op ∧ x.op < 19) : Gives Try.prog 124 [.agg (encInstr x), .ip [.sl 2 (encCode l)], .ip [iv lits], .ip [iv temps]] (bv !(fitsI l.length lits temps x)) := by
  have c1 : Gives Try.prog 125 [.agg (encInstr x), iv ((encCode l).length : Int), iv lits, iv temps] (bv (fitsI l.length lits temps x)) := by rw [len_code]; exact fits_ok x l.length lits temps hx
  refine gives_of Try.func124 rfl (Nat.le_of_ble_eq_true rfl) ?_
  (repeat' (first | refine asg ?_ | refine ld ?_ | refine un ?_ | refine ln ?_ | refine la ?_ | refine aops_nil ?_ | refine aw_seq ?_ | refine aw_region ?_ | refine aw_ret ?_ | refine bx 0 ?_ | refine cl c1 ?_ (hno := ⟨noOwn_instr x, .v _, .v _, .v _, trivial⟩) | fail))
  exact fin (sh_bv rfl)
theorem all_op {l : List HInstr} (h : allI l = true) {x : HInstr} (hx : x ∈ l) : 0 ≤ x.op ∧ x.op < 19 := by
  simp only [allI, Bool.and_eq_true, List.all_eq_true] at h
  have := h.2 x hx
  simp only [mayI, decide_eq_true_eq] at this
  exact ⟨this.1, this.2.1⟩
set_option maxHeartbeats 4000000 in
theorem check_ok (l : List HInstr) (hl : l.length < 1099511627776) (lits temps : Int) : Gives Try.prog 97 [.sl 2 (encCode l), iv lits, iv temps] (iv (checkE l lits temps)) := by
  refine gives_of Try.func97 rfl (Nat.le_of_ble_eq_true rfl) ?_
  have c1 := iall_ok l hl
  have hle : (encCode l).length = l.length := len_code l
  by_cases h0 : l.length = 0
  · have hnil : l = [] := List.eq_nil_of_length_eq_zero h0
    (repeat' (first | refine sk ?_ | refine mv ?_ | refine asg ?_ | refine ld ?_ | refine bt ?_ | refine pt ?_ | refine ln ?_ | refine aops_nil ?_ | refine aw_seq ?_ | refine aw_region ?_ | refine aw_cond_t rfl ?_ | refine aw_ret ?_ | refine bx 0 ?_ | refine bx 1 ?_ | refine bx 2 ?_ | fail))
    refine fin (sh_iv ?_)
    simp [checkE, checkB, h0]
  have hne : ¬ l = [] := fun e => h0 (by rw [e]; rfl)
  by_cases hall : allI l = true
  rotate_left
  · simp only [Bool.not_eq_true] at hall
    rw [hall] at c1
    (repeat' (first | refine sk ?_ | refine mv ?_ | refine asg ?_ | refine ld ?_ | refine bf ?_ | refine un ?_ | refine pt ?_ | refine pf ?_ | refine ln ?_ | refine aops_nil ?_ | refine aw_seq ?_ | refine aw_region ?_ | refine aw_cond_t rfl ?_ | refine aw_ret ?_ | refine bx 0 ?_ | refine bx 1 ?_ | refine bx 2 ?_ | refine cl c1 ?_ (hno := ⟨noOwn_code 2 l, trivial⟩) | fail))
    refine fin (sh_iv ?_)
    simp [checkE, checkB, hall]
  rw [hall] at c1
  have c2 := containsFunc_ins l 124 [.ip [.sl 2 (encCode l)], .ip [iv lits], .ip [iv temps]] (fun x => !(fitsI l.length lits temps x)) rfl ⟨by simp [noOwn_ip, noOwn_code], by simp [noOwn_ip, noOwn_v], by simp [noOwn_ip, noOwn_v], trivial⟩ (fun x hx => check1_ok l lits temps x (all_op hall hx)) hl
  by_cases hf : l.all (fitsI l.length lits temps) = true
  rotate_left
  · have hf' : (l.any fun x => !(fitsI l.length lits temps x)) = true := by
      have := any_not l (fitsI l.length lits temps)
      simp only [Bool.not_eq_true] at hf
      rw [hf] at this; simpa using this
    rw [hf'] at c2
    (repeat' (first | refine mv ?_ | refine asg ?_ | refine ld ?_ | refine bf ?_ | refine un ?_ | refine pf ?_ | refine ln ?_ | refine mf ?_ | refine aops_nil ?_ | refine aw_seq ?_ | refine aw_region ?_ | refine aw_cond_t rfl ?_ | refine aw_ret ?_ | refine bx 0 ?_ | refine bx 1 ?_ | refine bx 2 ?_ | refine cl c1 ?_ (hno := ⟨noOwn_code 2 l, trivial⟩) | refine cs c2 ?_ (hsh := by exact ⟨.same _ (noOwn_code 2 l), sh_clo ⟨sh_box rfl ⟨.same _ (noOwn_code 2 l), trivial⟩, sh_box rfl ⟨.same _ (.v _), trivial⟩, sh_box rfl ⟨.same _ (.v _), trivial⟩, trivial⟩, trivial⟩) | fail))
    refine fin (sh_iv ?_)
    simp only [Bool.not_eq_true] at hf
    simp [checkE, checkB, hf]
  have hf' : (l.any fun x => !(fitsI l.length lits temps x)) = false := by
    have := any_not l (fitsI l.length lits temps)
    rw [hf] at this; simpa using this
  rw [hf'] at c2
  obtain ⟨x0, hget⟩ : ∃ x0, l[l.length - 1]? = some x0 := ⟨_, List.getElem?_eq_getElem (by omega)⟩
  have hn : ((encCode l).length : Int) - 1 = ((l.length - 1 : Nat) : Int) := by omega
  have hlast : lastOp l = x0.op := by simp [lastOp, hget]
  (repeat' (first | refine mv ?_ | refine asg ?_ | refine ld ?_ | refine fi ?_ | refine bf ?_ | refine bw ?_ | refine bi ?_ | refine un ?_ | refine pf ?_ | refine ln ?_ | refine mf ?_ | refine aops_nil ?_ | refine aw_seq ?_ | refine aw_region ?_ | refine aw_cond_f rfl ?_ | refine aw_block ?_ | refine aw_skip ?_ | refine bx 0 ?_ | refine bx 1 ?_ | refine bx 2 ?_ | refine cl c1 ?_ (hno := ⟨noOwn_code 2 l, trivial⟩) | refine cs c2 ?_ (hsh := by exact ⟨.same _ (noOwn_code 2 l), sh_clo ⟨sh_box rfl ⟨.same _ (noOwn_code 2 l), trivial⟩, sh_box rfl ⟨.same _ (.v _), trivial⟩, sh_box rfl ⟨.same _ (.v _), trivial⟩, trivial⟩, trivial⟩) | refine ia (l.length - 1) (code_get hget) ?_ (hn := hn) | fail))
  (repeat' (first | refine asg ?_ | refine bi ?_ | refine aops_nil ?_ | refine aw_seq ?_ | refine aw_region ?_ | refine aw_skip ?_ | refine aw_ret ?_ | refine aw_cond rfl (fun h => ?_) (fun h => ?_) | fail))
  all_goals refine fin (sh_iv ?_)
  all_goals simp only [checkE, checkB, hall, hf, hlast, Bool.true_and, Bool.and_eq_true, decide_eq_true_eq]
  all_goals clear c1 c2 hget hf hf' hall hlast
  all_goals simp at *
  all_goals first | done | grind
end Go.Proofs.Ytbmldjcddpblnaa
namespace Go.Proofs.Ytbmldjcddpblnaa
open Go Go.Proofs AW
def pairAt (s : ByteArray) (k : Nat) : HInstr := ⟨btA s (2 * (k : Int)), btA s (2 * (k : Int) + 1)⟩
def pairsK (s : ByteArray) (k : Nat) : List HInstr := (List.range k).map (pairAt s)
def pairsI (s : ByteArray) : List HInstr := pairsK s (s.size / 2)
def unpackB (s : ByteArray) : Bool := decide (s.size % 2 = 0) && allI (pairsI s)
def unpackE (s : ByteArray) : Int := if unpackB s = true then 0 else 110
def unpackL (s : ByteArray) : List HInstr := if unpackB s = true then pairsI s else []
theorem pairs_succ (s : ByteArray) (k : Nat) : encCode (pairsK s (k + 1)) = encCode (pairsK s k) ++ [encInstr (pairAt s k)] := by
  simp [pairsK, encCode, List.range_succ]
@[simp] theorem len_pairs (s : ByteArray) (k : Nat) : (pairsK s k).length = k := by simp [pairsK]
def upE (s : ByteArray) (k : Nat) : List (Nat × AV) := [(5, iv (2 * (k : Int))), (4, .own 4), (0, sv' s)]
  where sv' (s : ByteArray) : AV := .v (.string s)
set_option maxHeartbeats 4000000 in
theorem unpack_ok (s : ByteArray) (hs : s.size < 1099511627776) : Gives Try.prog 94 [.v (.string s)] (.tup [.sl 2 (encCode (unpackL s)), iv (unpackE s)]) := by
  refine gives_of Try.func94 rfl (Nat.le_of_ble_eq_true rfl) ?_
  by_cases he : s.size % 2 = 0
  rotate_left
  · have he' : ¬ (s.size : Int).tmod 2 = 0 := by rw [← Int.dvd_iff_tmod_eq_zero, Int.dvd_iff_emod_eq_zero]; omega
    (repeat' (first | refine mv ?_ | refine asg ?_ | refine rm ?_ | refine bt ?_ | refine lns ?_ | refine aops_nil ?_ | refine aw_seq ?_ | refine aw_region ?_ | refine aw_cond_t rfl ?_ | refine aw_ret ?_ | fail))
    refine fin (sh_tup (l := [.v (.slice none 0 0), iv 110]) ⟨?_, sh_iv ?_, trivial⟩)
    · simp only [unpackL, unpackB, he, decide_false, Bool.false_and]
      exact .nil 2
    · simp [unpackE, unpackB, he]
  have he' : (s.size : Int).tmod 2 = 0 := by rw [← Int.dvd_iff_tmod_eq_zero, Int.dvd_iff_emod_eq_zero]; omega
  (repeat' (first | refine mv ?_ | refine asg ?_ | refine rm ?_ | refine bf ?_ | refine lns ?_ | refine aops_nil ?_ | refine aw_seq ?_ | refine aw_region ?_ | refine aw_cond_f rfl ?_ | refine aw_block ?_ | refine aw_skip ?_ | fail))
  clear he'
  refine AWp.ent (ent_nil 4 37 2 (t := 4) rfl rfl) ?_
  refine aw_for (s.size / 2) (fun k => k ≤ s.size / 2) (fun k => ⟨upE s k, tb [(4, .live 37 2 (encCode (pairsK s k)))]⟩) 0 (Nat.zero_le _) ?_ ?_
  · refine ent_tb id [(4, .live 37 2 (encCode (pairsK s 0)))] ⟨.same _ _ [] rfl rfl (by simp), trivial⟩ ?_
    exact ⟨⟨_, rfl, fz_v _⟩, ⟨_, rfl, fz_own rfl (by simp [tb, upd])⟩, ⟨_, rfl, fz_v _⟩, trivial⟩
  intro k hk
  (repeat' (first | refine mv ?_ | refine bi ?_ | refine lns ?_ | refine aops_nil ?_ | refine aw_seq ?_ | refine aw_region ?_ | fail))
  refine aw_cond rfl (fun h => ?_) (fun h => ?_) <;> simp at h
  · (repeat' (first | refine aw_seq ?_ | refine aw_block ?_ | refine aw_skip ?_ | fail))
    have hk2 : k + 1 ≤ s.size / 2 := by omega
    have i0 : (0 : Int) ≤ 2 * (k : Int) := by omega
    have i1 : 2 * (k : Int) < s.size := by omega
    have i2 : (0 : Int) ≤ 2 * (k : Int) + 1 := by omega
    have i3 : 2 * (k : Int) + 1 < s.size := by omega
    have r1 : -9223372036854775808 ≤ btA s (2 * (k : Int)) ∧ btA s (2 * (k : Int)) ≤ 9223372036854775807 := by have := btA_rng s (2 * (k : Int)); omega
    have r2 : -9223372036854775808 ≤ btA s (2 * (k : Int) + 1) ∧ btA s (2 * (k : Int) + 1) ≤ 9223372036854775807 := by have := btA_rng s (2 * (k : Int) + 1); omega
    refine aw_drawU 12 11 5 (.live 37 2 [encInstr (pairAt s k)]) ?_
    (repeat' (first | refine dn ?_ | refine d2 y_move y_move ?_ | refine d2 y_bw y_bw ?_ | refine d2 (y_index (n := 2 * (k : Int)) i0 i1) (y_index (n := 2 * (k : Int)) i0 i1) ?_ | refine d2 (y_index (n := 2 * (k : Int) + 1) i2 i3) (y_index (n := 2 * (k : Int) + 1) i2 i3) ?_ | refine d2 (y_cvB r1) (y_cvB r1) ?_ | refine d2 (y_cvB r2) (y_cvB r2) ?_ | refine d2 y_build y_build ?_ | refine de (y_litU 5) ?_ | fail))
    refine ap1 6 ?_ (hl := ?_)
    rotate_left
    · rw [len_code, len_pairs]; omega
    (repeat' (first | refine mv ?_ | refine asg ?_ | refine bw ?_ | refine aops_nil ?_ | refine aw_region ?_ | fail))
    refine ⟨by omega, by omega, ent_tb (nm [(4, 6)]) [(4, .live 37 2 (encCode (pairsK s (k + 1))))] ⟨.same _ _ (encCode (pairsK s k) ++ [encInstr (pairAt s k)]) rfl ?_ ?_, trivial⟩ ⟨⟨_, ?_, fz_v _⟩, ⟨_, rfl, fz_own rfl (by simp [tb, upd])⟩, ⟨_, rfl, fz_v _⟩, trivial⟩⟩
    · show Ob.live _ 2 (encCode (pairsK s (k + 1))) = _
      rw [pairs_succ]
    · intro c hc x hx
      rcases List.mem_append.1 hc with hc | hc
      · exact noOwn_codec _ c hc x hx
      · simp only [List.mem_singleton] at hc; subst hc; exact noOwn_instrc _ x hx
    · exact congrArg some (congrArg iv (by omega))
  · have hkk : k = s.size / 2 := by omega
    subst hkk
    have hsh : Sh (tb [(4, .live 37 2 (encCode (pairsK s (s.size / 2))))]) (.own 4) (.sl 2 (encCode (pairsI s))) := sh_own rfl (fun c hc => len_instr hc) (noOwn_codec _)
    have c1 := iall_ok (pairsI s) (by simp [pairsI]; omega)
    by_cases ha : allI (pairsI s) = true
    · rw [ha] at c1
      (repeat' (first | refine mv ?_ | refine asg ?_ | refine un ?_ | refine aops_nil ?_ | refine aw_seq ?_ | refine aw_region ?_ | refine aw_cond_f rfl ?_ | refine aw_exit ?_ | refine aw_skip ?_ | refine aw_ret ?_ | refine cs c1 ?_ (hsh := by exact ⟨hsh, trivial⟩) | fail))
      have hb : unpackB s = true := by simp [unpackB, he, ha]
      refine fin (sh_tup (l := [.own 4, iv 0]) ⟨?_, sh_iv ?_, trivial⟩)
      · simp only [unpackL, hb, if_true]; exact hsh
      · simp [unpackE, hb]
    · simp only [Bool.not_eq_true] at ha
      rw [ha] at c1
      (repeat' (first | refine mv ?_ | refine asg ?_ | refine un ?_ | refine aops_nil ?_ | refine aw_seq ?_ | refine aw_region ?_ | refine aw_cond_t rfl ?_ | refine aw_exit ?_ | refine aw_ret ?_ | refine cs c1 ?_ (hsh := by exact ⟨hsh, trivial⟩) | fail))
      have hb : unpackB s = false := by simp [unpackB, ha]
      refine fin (sh_tup (l := [.v (.slice none 0 0), iv 110]) ⟨?_, sh_iv ?_, trivial⟩)
      · simp only [unpackL, hb]; exact .nil 2
      · simp [unpackE, hb]
end Go.Proofs.Ytbmldjcddpblnaa
