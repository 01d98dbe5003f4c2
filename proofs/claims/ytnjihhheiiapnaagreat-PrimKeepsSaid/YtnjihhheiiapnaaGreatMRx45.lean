/- What the statements' walks need. -/
import Derived.Test.YtnjihhheiiapnaaGreatMRa4
import Derived.Test.YtnjihhheiiapnaaGreatMRx34
import Derived.Test.YtnjihhheiiapnaaGreatMRx41
import Derived.Test.YtnjihhheiiapnaaGreatMRx40
import Derived.Test.YtnjihhheiiapnaaGreatMRx30
import Derived.Test.YtnjihhheiiapnaaGreatMRx44
set_option linter.unusedVariables false
set_option linter.unusedSimpArgs false
set_option maxRecDepth 100000
namespace Go.Proofs.YtnjihhheiiapnaaGreat
open Go Go.Proofs AW
def Keep (H G : HHeap) (v e : Int) : Prop :=
  (e = 0 ∧ mayH G = true ∧ hasB G.objs.length v = true ∧ H.objs.length ≤ G.objs.length ∧ G.objs.length ≤ H.objs.length + 1 ∧ G.cap = H.cap ∧ G.In) ∨ (G = H ∧ v = 0 ∧ (e = 130 ∨ (e = 30 ∧ (H.objs.length : Int) = H.cap)))
abbrev doA (H : HHeap) (num s : Int) (a : List Int) : List AV := [.agg (encHeap H), iv num, iv s, .sl 1 (encInts a)]
def DoK (H : HHeap) (num s : Int) (a : List Int) : Prop := ∃ G v e, Gives Tryz.prog 11 (doA H num s a) (doV G v e) ∧ Keep H G v e
theorem keep_fail (H : HHeap) : Keep H H 0 130 := .inr ⟨rfl, rfl, .inl rfl⟩
theorem keep_same {H : HHeap} (hi : H.In) (hm : mayH H = true) {v : Int} (hv : hasB H.objs.length v = true) : Keep H H v 0 := .inl ⟨rfl, hm, hv, by omega, by omega, rfl, hi⟩
theorem has_small {n c : Int} (h : smallB c = true) : hasB n (c * 2 + 1) = true := by simp [hasB, (isN_of h).1]
theorem has_ref {n k : Int} (h : 0 ≤ k ∧ k < n) (h2 : k ≤ 1048575) : hasB n (2 * k) = true := by
  have h1 : isAt (2 * k) = true := by simp [isAt]; omega
  have h3 : refI n (2 * k) = k := by unfold refI; rw [if_pos ⟨h1, by omega⟩]; omega
  simp [hasB, h3, h.1]
theorem has_tru {n : Int} (h : 12 ≤ n) (b : Bool) : hasB n (truI b) = true := by
  cases b
  · exact has_ref (k := 2) (by omega) (by omega)
  · exact has_ref (k := 1) (by omega) (by omega)
theorem k_fail {H : HHeap} {num s : Int} {a : List Int} {y : AV} (h : Gives Tryz.prog 11 (doA H num s a) y) (e : y = doV H 0 130) : DoK H num s a := ⟨H, 0, 130, e ▸ h, keep_fail H⟩
theorem k_same {H : HHeap} (hi : H.In) (hm : mayH H = true) {num s v : Int} {a : List Int} {y : AV} (h : Gives Tryz.prog 11 (doA H num s a) y) (e : y = doV H v 0) (hv : hasB H.objs.length v = true) : DoK H num s a := ⟨H, v, 0, e ▸ h, keep_same hi hm hv⟩
theorem k_out {H : HHeap} (hi : H.In) (hm : mayH H = true) {num s : Int} {a : List Int} {r : Option Int} (h : Gives Tryz.prog 11 (doA H num s a) (outV H r)) : DoK H num s a := by
  cases r with
  | none => exact k_fail h rfl
  | some c =>
    by_cases hc : smallB c = true
    · exact k_same hi hm h (by rw [outV, if_pos hc]) (has_small hc)
    · exact k_fail h (by rw [outV, if_neg hc])
theorem k_whole {H : HHeap} (hi : H.In) (hm : mayH H = true) {num s x k : Int} {a : List Int} (h : Gives Tryz.prog 11 (doA H num s a) (wholeV H k s x)) : DoK H num s a := by
  unfold wholeV at h
  split at h
  · exact k_out hi hm h
  · exact k_fail h rfl
theorem k_tru {H : HHeap} (hi : H.In) (hm : mayH H = true) (hl : 12 ≤ H.objs.length) {num s : Int} {a : List Int} {c : Prop} [Decidable c] {b : Bool} (h : Gives Tryz.prog 11 (doA H num s a) (if c then doV H (truI b) 0 else doV H 0 130)) : DoK H num s a := by
  split at h
  · exact k_same hi hm h rfl (has_tru (by omega) b)
  · exact k_fail h rfl
theorem alloc_len {H : HHeap} {cls kind size : Int} (h : allocE H cls kind size = 30) : (H.objs.length : Int) = H.cap := by
  unfold allocE at h
  split at h
  · split at h
    · cases h
    split at h
    · cases h
    split at h
    · cases h
    split at h
    · assumption
    · cases h
  · cases h
theorem k_new {H : HHeap} (hi : H.In) {num s cls kind size : Int} {a : List Int} {y : AV} (h : Gives Tryz.prog 11 (doA H num s a) y) (he : allocE H cls kind size = 0) (e : y = doV (allocH H cls kind size) (2 * H.objs.length) 0) : DoK H num s a := by
  obtain ⟨hm, _, _, _, _, hne, h3⟩ := alloc0 he
  have hl := mayH_len hm
  refine ⟨_, _, 0, e ▸ h, .inl ⟨rfl, allocH_may he, ?_, ?_, ?_, by rw [h3], allocH_in hi⟩⟩ <;> rw [h3]
  · exact has_ref (by simp <;> omega) (by omega)
  · simp
  · simp
theorem k_full {H : HHeap} {num s cls kind size : Int} {a : List Int} {y : AV} (h : Gives Tryz.prog 11 (doA H num s a) y) (he : allocE H cls kind size = 30) (e : y = doV H 0 30) : DoK H num s a :=
  ⟨H, 0, 30, e ▸ h, .inr ⟨rfl, rfl, .inr ⟨rfl, alloc_len he⟩⟩⟩
theorem canI_idem (b : Int) : canI (canI b) = canI b := by
  unfold canI
  by_cases h : b % 9223372036854775808 ≤ 9218868437227405312
  · rw [if_pos h, if_pos h]
  · rw [if_neg h]; decide
theorem canI_rng {b : Int} (h : In64 b) : In64 (canI b) := by
  unfold canI
  split
  · exact h
  · constructor <;> decide
theorem k_float {H : HHeap} (hi : H.In) {num s b : Int} {a : List Int} (hb : In64 b) (hc : allocE H 8 2 0 = 0 ∨ allocE H 8 2 0 = 30) (h : Gives Tryz.prog 11 (doA H num s a) (newF H b)) : DoK H num s a := by
  rcases hc with he | he
  · obtain ⟨hm, _, _, _, _, hne, h3⟩ := alloc0 he
    have hl := mayH_len hm
    have ha := allocH_may he
    have hin := allocH_in (cls := 8) (kind := 2) (size := 0) hi
    rw [h3] at ha hin
    refine ⟨floH H b, 2 * H.objs.length, 0, by rw [newF, if_pos he] at h; exact h, .inl ⟨rfl, ?_, ?_, ?_, ?_, rfl, ?_⟩⟩
    · rw [mayH_iff] at ha ⊢
      simp only [floH, List.length_append, List.length_singleton, Int.natCast_add, Int.natCast_one] at ha ⊢
      refine ⟨ha.1, fun o ho => ?_⟩
      rcases List.mem_append.1 ho with ho | ho
      · exact ha.2 o (List.mem_append.2 (.inl ho))
      · simp only [List.mem_singleton] at ho; subst ho
        have hn := ha.2 (newObj H 8 2 0) (by simp)
        simp only [mayObj, headB, kindB, restB, Bool.and_eq_true, decide_eq_true_eq] at hn ⊢
        refine ⟨hn.1, ⟨hn.2.1.1, hn.2.1.2.1, fun h => absurd rfl h⟩, ⟨hn.2.2.1.1, hn.2.2.1.2.1, canI_idem b⟩, hn.2.2.2⟩
    · exact has_ref (by simp [floH] <;> omega) (by omega)
    · simp [floH]
    · simp [floH]
    · refine ⟨fun o ho => ?_, hin.2.1, hin.2.2.1, by simp [floH]; omega⟩
      rcases List.mem_append.1 ho with ho | ho
      · exact hi.1 o ho
      · simp only [List.mem_singleton] at ho; subst ho
        have hn := hin.1 (newObj H 8 2 0) (by simp)
        exact ⟨hn.1, hn.2.1, hn.2.2.1, canI_rng hb, hn.2.2.2.2⟩
  · exact k_full h he (by rw [newF, if_neg (by rw [he]; decide)])
theorem slot_has {H : HHeap} (hm : mayH H = true) {v a : Int} (h : wrongE H v 0 a = 0) : hasB H.objs.length (getI H v a) = true := by
  have hx : setE H v a (getI H v a) = 0 ∨ setE H v a (getI H v a) = 31 := by
    rw [setE, if_pos h]; split <;> simp
  by_cases hb : hasB H.objs.length (getI H v a) = true
  · exact hb
  · exfalso
    obtain ⟨_, h2, h3, h4, h5⟩ := wrong0 h
    have ho := at_may hm h2
    simp only [mayObj, headB, kindB, restB, Bool.and_eq_true, decide_eq_true_eq, List.all_eq_true] at ho
    have ht : (H.at' v).text.size = 0 := ho.2.1.2.1 (by rw [h3]; decide)
    apply hb
    have hlt : a.toNat < (H.at' v).slots.length := by omega
    have := ho.2.2.2 ((H.at' v).slots[a.toNat]) (List.getElem_mem hlt)
    rw [getI, if_pos h]
    rw [List.getElem?_eq_getElem hlt]; exact this
theorem of_has {H : HHeap} (hm : mayH H = true) (hl : 12 ≤ H.objs.length) {s : Int} (hs : hasB H.objs.length s = true) : hasB H.objs.length (ofV H s) = true := by
  rw [ofV, if_pos hm]
  rcases has_cases hs with ⟨h1, _⟩ | ⟨h1, h2⟩
  · rw [if_pos h1]; exact has_ref (k := 3) (by omega) (by omega)
  · rw [if_neg (by rw [h1]; simp), if_pos h2]
    have ho := at_may hm h2
    simp only [mayObj, headB, Bool.and_eq_true, decide_eq_true_eq] at ho
    simp [hasB, ho.1.1]
theorem hash_has {H : HHeap} (hm : mayH H = true) {s : Int} (hs : hasB H.objs.length s = true) : ∃ x, hashV H s = doV H x 0 ∧ hasB H.objs.length x = true := by
  rcases has_cases hs with ⟨h1, _⟩ | ⟨h1, h2⟩
  · exact ⟨s, by rw [hashV, if_pos h1], hs⟩
  · refine ⟨_, by rw [hashV, if_neg (by rw [h1]; simp)], ?_⟩
    have ho := at_may hm h2
    simp only [mayObj, headB, Bool.and_eq_true, decide_eq_true_eq] at ho
    exact has_small (by simp [smallB]; omega)
end Go.Proofs.YtnjihhheiiapnaaGreat
