/- What the statements' walks need. -/
import Derived.Test.YtbmldjcddpblnaaMQa4
import Derived.Test.YtbmldjcddpblnaaMQx23
set_option linter.unusedVariables false
set_option linter.unusedSimpArgs false
set_option maxRecDepth 100000
namespace Go.Proofs.Ytbmldjcddpblnaa
open Go Go.Proofs AW
theorem btA_num (t : ByteArray) (k : Nat) (h : k < t.size) : (numsOf t)[k]? = some (btA t (k : Int)) := by
  have h' : k < t.data.toList.length := by simpa using h
  have h2 : t.data[k]? = some (t.data[k]'(by simpa using h)) := Array.getElem?_eq_getElem _
  simp only [numsOf, List.getElem?_map, btA, Int.toNat_natCast, h2]
  simp [h2]
theorem pack_pairs (s : ByteArray) : ∀ k, 2 * k ≤ s.size → packN (pairsK s k) = (numsOf s).take (2 * k)
  | 0, _ => by simp [pairsK, packN]
  | k + 1, h => by
    have ih := pack_pairs s k (by omega)
    have e1 : pairsK s (k + 1) = pairsK s k ++ [pairAt s k] := by simp [pairsK, List.range_succ]
    have e2 : packN (pairsK s k ++ [pairAt s k]) = packN (pairsK s k) ++ [(pairAt s k).op, (pairAt s k).arg] := by simp [packN]
    have g1 := btA_num s (2 * k) (by omega)
    have g2 := btA_num s (2 * k + 1) (by omega)
    rw [e1, e2, ih, show 2 * (k + 1) = 2 * k + 1 + 1 by omega, List.take_add_one, List.take_add_one, g1, g2]
    simp [pairAt]
theorem pack_back (s : ByteArray) (h : s.size % 2 = 0) : packS (pairsI s) = s := by
  have hl : (numsOf s).length = s.size := by simp [numsOf]
  rw [packS, pairsI, pack_pairs s _ (by omega), List.take_of_length_le (by omega), strOfNums_numsOf]
theorem pack_odd (s : ByteArray) (h : ¬ s.size % 2 = 0) : packS (pairsI s) ≠ s := by
  intro e
  have := congrArg ByteArray.size e
  rw [size_packS, pairsI, len_pairs] at this
  omega
set_option maxHeartbeats 4000000 in
theorem rUnpack_ok (s : ByteArray) (hs : s.size < 1099511627776) : Gives Try.prog 51 [.v (.string s)] (.tup [.sl 2 (encCode (unpackL s)), iv (unpackE s)]) := by
  refine gives_of Try.func51 rfl (Nat.le_of_ble_eq_true rfl) ?_
  (repeat' (first | refine asg ?_ | refine aops_nil ?_ | refine aw_seq ?_ | refine aw_region ?_ | refine aw_block ?_ | refine lit0 4 ?_ rfl | fail))
  refine aw_for (s.size / 2) (fun k => k ≤ s.size / 2) (fun k => ⟨upE s k, tb [(4, .live 37 2 (encCode (pairsK s k)))]⟩) 0 (Nat.zero_le _) ?_ ?_
  · refine ent_tb id [(4, .live 37 2 (encCode (pairsK s 0)))] ⟨.same _ _ [] rfl rfl (by simp), trivial⟩ ?_
    exact ⟨⟨_, rfl, fz_v _⟩, ⟨_, rfl, fz_own rfl (by simp [tb, upd])⟩, ⟨_, rfl, fz_v _⟩, trivial⟩
  intro k hk
  (repeat' (first | refine mv ?_ | refine bw ?_ | refine bi ?_ | refine lns ?_ | refine aops_nil ?_ | refine aw_seq ?_ | refine aw_region ?_ | fail))
  refine aw_cond rfl (fun h => ?_) (fun h => ?_) <;> simp at h
  · (repeat' (first | refine aw_seq ?_ | refine aw_block ?_ | refine aw_skip ?_ | fail))
    have hk2 : k + 1 ≤ s.size / 2 := by omega
    have i0 : (0 : Int) ≤ 2 * (k : Int) := by omega
    have i1 : 2 * (k : Int) < s.size := by omega
    have i2 : (0 : Int) ≤ 2 * (k : Int) + 1 := by omega
    have i3 : 2 * (k : Int) + 1 < s.size := by omega
    have r1 : -9223372036854775808 ≤ btA s (2 * (k : Int)) ∧ btA s (2 * (k : Int)) ≤ 9223372036854775807 := by have := btA_rng s (2 * (k : Int)); omega
    have r2 : -9223372036854775808 ≤ btA s (2 * (k : Int) + 1) ∧ btA s (2 * (k : Int) + 1) ≤ 9223372036854775807 := by have := btA_rng s (2 * (k : Int) + 1); omega
    refine aw_drawU 12 11 5 (.live 37 2 [encInstr (pairAt s k)]) ?_
    (repeat' (first | refine dn ?_ | refine d2 y_move y_move ?_ | refine d2 y_bw y_bw ?_ | refine d2 (y_index (n := 2 * (k : Int)) i0 i1) (y_index (n := 2 * (k : Int)) i0 i1) ?_ | refine d2 (y_index (n := 2 * (k : Int) + 1) i2 i3) (y_index (n := 2 * (k : Int) + 1) i2 i3) ?_ | refine d2 (y_cvB r1) (y_cvB r1) ?_ | refine d2 (y_cvB r2) (y_cvB r2) ?_ | refine d2 y_build y_build ?_ | refine de (y_litU 5) ?_ | fail))
    refine ap1 6 ?_ (hl := ?_)
    rotate_left
    · rw [len_code, len_pairs]; omega
    (repeat' (first | refine mv ?_ | refine asg ?_ | refine bw ?_ | refine aops_nil ?_ | refine aw_region ?_ | fail))
    refine ⟨by omega, by omega, ent_tb (nm [(4, 6)]) [(4, .live 37 2 (encCode (pairsK s (k + 1))))] ⟨.same _ _ (encCode (pairsK s k) ++ [encInstr (pairAt s k)]) rfl ?_ ?_, trivial⟩ ⟨⟨_, ?_, fz_v _⟩, ⟨_, rfl, fz_own rfl (by simp [tb, upd])⟩, ⟨_, rfl, fz_v _⟩, trivial⟩⟩
    · show Ob.live _ 2 (encCode (pairsK s (k + 1))) = _
      rw [pairs_succ]
    · intro c hc x hx
      rcases List.mem_append.1 hc with hc | hc
      · exact noOwn_codec _ c hc x hx
      · simp only [List.mem_singleton] at hc; subst hc; exact noOwn_instrc _ x hx
    · show some (iv (2 * (k : Int) + 2)) = some (iv (2 * ((k + 1 : Nat) : Int)))
      congr 3
  · have hks : k = s.size / 2 := by omega
    subst hks
    have cp := rPack_ok (pairsI s) (by rw [pairsI, len_pairs]; omega)
    refine aw_exit ?_
    refine fzsW 4 (noOwn_codec _) ?_
    by_cases ha : allI (pairsI s) = true
    rotate_left
    · have ha := eq_false_of_ne_true ha
      have hE : packE (pairsI s) = 110 := by rw [packE, ha]; rfl
      have hb : unpackB s = false := by simp [unpackB, ha]
      rw [hE] at cp
      (repeat' (first | refine sk ?_ | refine mv ?_ | refine asg ?_ | refine bt ?_ | refine pt ?_ | refine ex ?_ | refine aops_nil ?_ | refine aw_seq ?_ | refine aw_region ?_ | refine aw_cond_t rfl ?_ | refine aw_ret ?_ | refine cl cp ?_ (hno := ⟨noOwn_code _ _, trivial⟩) | fail))
      refine fin (sh_tup (l := [.v (.slice none 0 0), iv 110]) ⟨?_, sh_iv ?_, trivial⟩)
      · simp only [unpackL, hb]; exact .nil 2
      · simp [unpackE, hb]
    have hE : packE (pairsI s) = 0 := by rw [packE, if_pos ha]
    have hR : packR (pairsI s) = packS (pairsI s) := by rw [packR, if_pos ha]
    rw [hE, hR] at cp
    by_cases he : s.size % 2 = 0
    · rw [pack_back s he] at cp
      have hb : unpackB s = true := by simp [unpackB, he, ha]
      (repeat' (first | refine mv ?_ | refine asg ?_ | refine bf ?_ | refine pf ?_ | refine ex ?_ | refine aops_nil ?_ | refine aw_seq ?_ | refine aw_region ?_ | refine aw_cond_f rfl ?_ | refine aw_skip ?_ | refine aw_ret ?_ | refine cl cp ?_ (hno := ⟨noOwn_code _ _, trivial⟩) | fail))
      refine fin (sh_tup (l := [.sl 2 (encCode (pairsI s)), iv 0]) ⟨?_, sh_iv ?_, trivial⟩)
      · simp only [unpackL, hb, if_true]; exact .same _ (noOwn_code _ _)
      · simp [unpackE, hb]
    · have hne := pack_odd s he
      have hnt : ¬ (packS (pairsI s)).toList = s.toList := fun e => hne (by
        have := text_eq (a := packS (pairsI s)) (b := s)
        rw [e] at this; simpa using this.symm)
      have hb : unpackB s = false := by simp [unpackB, he]
      (repeat' (first | refine mv ?_ | refine asg ?_ | refine bt ?_ | refine bf ?_ | refine pf ?_ | refine ex ?_ | refine aops_nil ?_ | refine aw_seq ?_ | refine aw_region ?_ | refine aw_cond_t rfl ?_ | refine aw_ret ?_ | refine cl cp ?_ (hno := ⟨noOwn_code _ _, trivial⟩) | fail))
      refine fin (sh_tup (l := [.v (.slice none 0 0), iv 110]) ⟨?_, sh_iv ?_, trivial⟩)
      · simp only [unpackL, hb]; exact .nil 2
      · simp [unpackE, hb]
end Go.Proofs.Ytbmldjcddpblnaa
