/- What the statements' walks need. -/
import Derived.Test.YtbmldjcddpblnaaMQa4
import Derived.Test.YtbmldjcddpblnaaMQx42
set_option linter.unusedVariables false
set_option linter.unusedSimpArgs false
set_option maxRecDepth 100000
namespace Go.Proofs.Ytbmldjcddpblnaa
open Go Go.Proofs AW
def stF (H : HHeap) (c : Int) (l : List Int) (n i j : Nat) : Int :=
  if j = 2 then 2 * ((ctxX H c).sp + i) + 1 else
  if 6 + (ctxX H c).sp.toNat ≤ j ∧ j < 6 + (ctxX H c).sp.toNat + i then (l[j - 6 - (ctxX H c).sp.toNat]?).getD 0 else
  if 6 + (ctxX H c).sp.toNat ≤ j ∧ j < 6 + (ctxX H c).sp.toNat + n then 0 else (H.at' c).sl j
def stS (H : HHeap) (c : Int) (l : List Int) (n i : Nat) : List Int := (List.range 22).map (stF H c l n i)
def stH (H : HHeap) (c : Int) (l : List Int) (n i : Nat) : HHeap := ctxPut H c (stS H c l n i)
theorem stS_len (H : HHeap) (c : Int) (l : List Int) (n i : Nat) : (stS H c l n i).length = 22 := by simp [stS]
theorem stS_get {H : HHeap} {c : Int} {l : List Int} {n i j : Nat} (h : j < 22) : (stS H c l n i)[j]? = some (stF H c l n i j) := by simp [stS, h]
theorem has0 (n : Int) (hn : 1 ≤ n) : hasB n 0 = true := by
  have h2 : 0 ≤ refI n 0 := by
    simp only [refI]; rw [if_pos ⟨rfl, by omega⟩]; decide
  simp only [hasB]; rw [decide_eq_true h2]; simp
structure Stk (H : HHeap) (c : Int) (l : List Int) (n i : Nat) : Prop where
  ctx : ctxB H c = true
  le : i ≤ n
  len : n ≤ l.length
  top : (ctxX H c).sp + n ≤ 16
  has : ∀ k x, k < n → l[k]? = some x → hasB H.objs.length x = true
theorem stS_has {H : HHeap} {c : Int} {l : List Int} {n i : Nat} (h : Stk H c l n i) : ∀ x ∈ stS H c l n i, hasB H.objs.length x = true := by
  obtain ⟨hm, hc, hcl, hl, hmt, r0, r5, hip, hsp⟩ := ctxB_iff.1 h.ctx
  obtain ⟨s0, s1, s2, s3⟩ := ctx_sp h.ctx
  have ht := h.top
  have hle := h.le
  have hlen := h.len
  intro x hx
  simp only [stS, List.mem_map, List.mem_range] at hx
  obtain ⟨j, hj, rfl⟩ := hx
  have hpos : 1 ≤ (H.objs.length : Int) := by have := ref_lt hc.1; omega
  simp only [stF]
  split
  · exact hasN (by omega)
  · split
    · rename_i h1
      obtain ⟨y, hy⟩ : ∃ y, l[j - 6 - (ctxX H c).sp.toNat]? = some y := ⟨_, List.getElem?_eq_getElem (by omega)⟩
      rw [hy]
      exact h.has _ _ (by omega) hy
    · split
      · exact has0 _ hpos
      · exact slot_has hm hc.1 _ (List.mem_of_getElem? (sl_get (by omega)))
theorem st_ctx {H : HHeap} {c : Int} {l : List Int} {n i : Nat} (h : Stk H c l n i) :
    ctxB (stH H c l n i) c = true ∧ (ctxX (stH H c l n i) c).mth.code = (ctxX H c).mth.code ∧ (ctxX (stH H c l n i) c).mth.temps = (ctxX H c).mth.temps ∧ (ctxX (stH H c l n i) c).sp = (ctxX H c).sp + i := by
  obtain ⟨hm, hc, hcl, hl, hmt, r0, r5, hip, hsp⟩ := ctxB_iff.1 h.ctx
  obtain ⟨s0, s1, s2, s3⟩ := ctx_sp h.ctx
  have ht := h.top
  have hle := h.le
  have lo : ∀ j, j < 6 → j ≠ 2 → stF H c l n i j = (H.at' c).sl j := fun j h1 h2 => by
    rw [stF, if_neg h2, if_neg (by omega), if_neg (by omega)]
  obtain ⟨q1, q2, q3, q4, q5⟩ := ctx_stays h.ctx (S := stS H c l n i) (stS_len _ _ _ _ _) (stS_has h) (by rw [stS_get (by omega), lo 3 (by omega) (by omega)]) ⟨_, stS_get (by omega), by rw [lo 0 (by omega) (by omega)]; exact r0⟩
    ⟨_, stS_get (by omega), by rw [lo 5 (by omega) (by omega)]; exact r5⟩ (x1 := (H.at' c).sl 1) (x2 := 2 * ((ctxX H c).sp + i) + 1) (by rw [stS_get (by omega), lo 1 (by omega) (by omega)]) (by rw [stS_get (by omega), stF, if_pos rfl]) hip (by rw [sm_of (by omega) (by omega) (by omega)]; omega)
  exact ⟨q1, q2, q3, by show (ctxX (ctxPut H c _) c).sp = _; rw [q5, sm_of (by omega) (by omega) (by omega)]⟩
theorem st_set {H : HHeap} {c : Int} {l : List Int} {n i : Nat} (h : Stk H c l n i) {k : Nat} {x : Int} (hk : k < 22) (hx : hasB H.objs.length x = true) {y : Int} (hy : hasB H.objs.length y = true) :
    setH (setH (stH H c l n i) c k x) c 2 y = ctxPut H c (((stS H c l n i).set k x).set 2 y) := by
  obtain ⟨hm, hc, _⟩ := ctxB_iff.1 h.ctx
  have h1 := (ctx_set' hm hc (stS_len H c l n i) (stS_has h) hk hx).2
  have h2 := (ctx_set' hm hc (S := (stS H c l n i).set k x) (by simp [stS_len]) (set_has (stS_has h) hx) (k := 2) (x := y) (by omega) hy).2
  rw [stH, h1]
  exact h2
theorem st_push {H : HHeap} {c : Int} {l : List Int} {n : Nat} (h : Stk H c l n n) {x : Int} (hx : l[n]? = some x) :
    (pushE (stH H c l n n) c x ≠ 0 ∧ True) ∨ (pushE (stH H c l n n) c x = 0 ∧ pushH (stH H c l n n) c x = stH H c l (n + 1) (n + 1) ∧ Stk H c l (n + 1) (n + 1)) := by
  obtain ⟨q1, q2, q3, q4⟩ := st_ctx h
  obtain ⟨s0, s1, s2, s3⟩ := ctx_sp h.ctx
  by_cases hE : pushE (stH H c l n n) c x = 0
  rotate_left
  · exact .inl ⟨hE, trivial⟩
  right
  have hE' := hE
  rw [pushE, if_pos q1] at hE'
  have hl : (stH H c l n n).objs.length = H.objs.length := put_len' _ _ _
  rw [hl] at hE'
  by_cases hb : hasB H.objs.length x = true
  rotate_left
  · rw [if_neg hb] at hE'; simp at hE'
  rw [if_pos hb] at hE'
  by_cases h16 : (ctxX (stH H c l n n) c).sp = 16
  · rw [if_pos h16] at hE'; simp at hE'
  rw [q4] at h16
  have ht := h.top
  have hlen : n < l.length := (List.getElem?_eq_some_iff.1 hx).1
  refine ⟨hE, ?_, ⟨h.ctx, Nat.le_refl _, hlen, by omega, fun k y hk hy => ?_⟩⟩
  · have e1 : numV ((ctxX H c).sp + n + 1) = 2 * ((ctxX H c).sp + ((n + 1 : Nat) : Int)) + 1 := by rw [numV, if_pos (by omega)]; omega
    have e2 : 6 + ((ctxX H c).sp + (n : Int)) = ((6 + (ctxX H c).sp.toNat + n : Nat) : Int) := by omega
    rw [pushH, if_pos hE, pushL, q4, e1, e2]
    show setH (setH _ c _ x) c 2 _ = _
    rw [st_set h (by omega) hb (hasN (by omega)), stH]
    congr 1
    apply List.ext_getElem?
    intro j
    by_cases hj : j < 22
    · rw [stS_get hj]
      by_cases hj2 : j = 2
      · subst hj2
        rw [set_get_eq (by simp [stS_len]), stF, if_pos rfl]
      · rw [set_get_ne (fun e => hj2 e.symm)]
        by_cases hjk : j = 6 + (ctxX H c).sp.toNat + n
        · rw [hjk, set_get_eq (by rw [stS_len]; omega), stF, if_neg (by omega), if_pos (by omega)]
          have : 6 + (ctxX H c).sp.toNat + n - 6 - (ctxX H c).sp.toNat = n := by omega
          rw [this, hx]; rfl
        · rw [set_get_ne (fun e => hjk e.symm), stS_get hj]
          simp only [stF, if_neg hj2]
          congr 1
          by_cases ha : 6 + (ctxX H c).sp.toNat ≤ j ∧ j < 6 + (ctxX H c).sp.toNat + n
          · rw [if_pos ha, if_pos (by omega)]
          · rw [if_neg ha, if_neg (by omega), if_neg (by omega), if_neg (by omega)]
    · rw [List.getElem?_eq_none (by simp [stS_len]; omega), List.getElem?_eq_none (by rw [stS_len]; omega)]
  · rcases Nat.lt_or_ge k n with h1 | h1
    · exact h.has k y h1 hy
    · have : k = n := by omega
      subst this
      rw [hx] at hy; cases hy; exact hb
theorem st_pop {H : HHeap} {c : Int} {l : List Int} {n i : Nat} (h : Stk H c l n (i + 1)) {x : Int} (hx : l[i]? = some x) :
    popE (stH H c l n (i + 1)) c = 0 ∧ popV (stH H c l n (i + 1)) c = x ∧ popH (stH H c l n (i + 1)) c = stH H c l n i ∧ Stk H c l n i := by
  obtain ⟨q1, q2, q3, q4⟩ := st_ctx h
  obtain ⟨s0, s1, s2, s3⟩ := ctx_sp h.ctx
  obtain ⟨hm, hc, _, hl, _⟩ := ctxB_iff.1 h.ctx
  have ht := h.top
  have hle := h.le
  have hpos : 1 ≤ (H.objs.length : Int) := by have := ref_lt hc.1; omega
  have hE : popE (stH H c l n (i + 1)) c = 0 := by rw [popE, if_pos q1, q4, q3, if_neg (by omega)]
  have hn : (((i + 1 : Nat) : Int)) = (i : Int) + 1 := by omega
  refine ⟨hE, ?_, ?_, ⟨h.ctx, by omega, h.len, h.top, h.has⟩⟩
  · rw [popV, if_pos hE, q4, HObj.sl, stH, ctxPut_at hc.1]
    show ((stS H c l n (i + 1))[5 + ((ctxX H c).sp + ((i + 1 : Nat) : Int)).toNat]?).getD 0 = x
    have e1 : 5 + ((ctxX H c).sp + ((i + 1 : Nat) : Int)).toNat = 6 + (ctxX H c).sp.toNat + i := by omega
    rw [e1, stS_get (by omega), stF, if_neg (by omega), if_pos (by omega)]
    have : 6 + (ctxX H c).sp.toNat + i - 6 - (ctxX H c).sp.toNat = i := by omega
    rw [this, hx]; rfl
  · have e1 : numV ((ctxX H c).sp + ((i + 1 : Nat) : Int) - 1) = 2 * ((ctxX H c).sp + (i : Int)) + 1 := by rw [numV, if_pos (by omega)]; omega
    have e2 : 6 + ((ctxX H c).sp + ((i + 1 : Nat) : Int)) - 1 = ((6 + (ctxX H c).sp.toNat + i : Nat) : Int) := by omega
    rw [popH, if_pos hE, popL, q4, e1, e2]
    show setH (setH _ c _ 0) c 2 _ = _
    rw [st_set h (by omega) (has0 _ hpos) (hasN (by omega)), stH]
    congr 1
    apply List.ext_getElem?
    intro j
    by_cases hj : j < 22
    · rw [stS_get hj]
      by_cases hj2 : j = 2
      · subst hj2
        rw [set_get_eq (by simp [stS_len]), stF, if_pos rfl]
      · rw [set_get_ne (fun e => hj2 e.symm)]
        by_cases hjk : j = 6 + (ctxX H c).sp.toNat + i
        · rw [hjk, set_get_eq (by rw [stS_len]; omega), stF, if_neg (by omega), if_neg (by omega), if_pos (by omega)]
        · rw [set_get_ne (fun e => hjk e.symm), stS_get hj]
          simp only [stF, if_neg hj2]
          congr 1
          by_cases ha : 6 + (ctxX H c).sp.toNat ≤ j ∧ j < 6 + (ctxX H c).sp.toNat + i
          · rw [if_pos (by omega), if_pos ha]
          · rw [if_neg (by omega), if_neg ha]
    · rw [List.getElem?_eq_none (by simp [stS_len]; omega), List.getElem?_eq_none (by rw [stS_len]; omega)]
theorem st_zero {H : HHeap} {c : Int} {l : List Int} (h : ctxB H c = true) : stH H c l 0 0 = H := by
  obtain ⟨hm, hc, _, hl, _, _, _, _, hsp⟩ := ctxB_iff.1 h
  obtain ⟨s0, s1, s2, s3⟩ := ctx_sp h
  have : stS H c l 0 0 = (H.at' c).slots := by
    apply List.ext_getElem?
    intro j
    by_cases hj : j < 22
    · rw [stS_get hj, sl_get (by omega), stF]
      by_cases hj2 : j = 2
      · subst hj2
        rw [if_pos rfl]
        have h1 : (ctxX H c).sp = smI ((H.at' c).sl 2) 16 := rfl
        have := sm_val (v := (H.at' c).sl 2) (most := 16) (by omega)
        rw [this, ← h1]; simp
      · rw [if_neg hj2, if_neg (by omega), if_neg (by omega)]
    · rw [List.getElem?_eq_none (by rw [stS_len]; omega), List.getElem?_eq_none (by omega)]
  rw [stH, this, ctxPut_self hc.1]
end Go.Proofs.Ytbmldjcddpblnaa
