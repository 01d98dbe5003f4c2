/- What the statements' walks need. -/
import Derived.Test.YtnjihhheiiapnaaGreatMSa4
import Derived.Test.YtnjihhheiiapnaaGreatMSx35
import Derived.Test.YtnjihhheiiapnaaGreatMSx24
import Derived.Test.YtnjihhheiiapnaaGreatMSa3
import Derived.Test.YtnjihhheiiapnaaGreatMSx15
import Derived.Test.YtnjihhheiiapnaaGreatMSx34
import Derived.Test.YtnjihhheiiapnaaGreatMSx31
import Derived.Test.YtnjihhheiiapnaaGreatMSx20
set_option linter.unusedVariables false
set_option linter.unusedSimpArgs false
set_option maxRecDepth 100000
namespace Go.Proofs.YtnjihhheiiapnaaGreat
open Go Go.Proofs AW
theorem okN1 {H : HHeap} (hm : mayH H = true) (hl : 12 ≤ H.objs.length) {s x : Int} (hs : isN s = true) (hx : isN x = true) : okV H s [x] = true := by
  simp [okV, hm, hl, hasB, hs, hx]
end Go.Proofs.YtnjihhheiiapnaaGreat
namespace Go.Proofs.YtnjihhheiiapnaaGreat
open Go Go.Proofs AW
theorem next_range (v : Int) : 0 ≤ nextI v ∧ nextI v ≤ 1073741823 := by
  unfold nextI; split <;> omega
theorem refI_mono {n m v : Int} (h : n ≤ m) (hv : 0 ≤ refI n v) : 0 ≤ refI m v := by
  unfold refI at *
  split at hv
  · rename_i hc
    rw [if_pos ⟨hc.1, by omega⟩]; exact hv
  · omega
theorem hasB_mono {n m v : Int} (h : n ≤ m) (hv : hasB n v = true) : hasB m v = true := by
  simp only [hasB, Bool.or_eq_true, decide_eq_true_eq] at hv ⊢
  rcases hv with hv | hv
  · exact .inl hv
  · exact .inr (refI_mono h hv)
theorem mayObj_mono {n m : Int} (h : n ≤ m) {o : HObj} (ho : mayObj n o = true) : mayObj m o = true := by
  simp only [mayObj, headB, kindB, restB, Bool.and_eq_true, decide_eq_true_eq, List.all_eq_true] at ho ⊢
  exact ⟨⟨refI_mono h ho.1.1, ho.1.2⟩, ho.2.1, ho.2.2.1, fun x hx => hasB_mono h (ho.2.2.2 x hx)⟩
theorem alloc0 {H : HHeap} {cls kind size : Int} (h : allocE H cls kind size = 0) : mayH H = true ∧ 0 ≤ refI H.objs.length cls ∧ (0 ≤ kind ∧ kind ≤ 2) ∧ (0 ≤ size ∧ size ≤ 64) ∧ (kind = 2 → size = 0) ∧ (H.objs.length : Int) ≠ H.cap ∧
    allocH H cls kind size = ⟨H.objs ++ [newObj H cls kind size], H.cap, nextI H.last⟩ := by
  have h' := h
  simp only [allocE] at h
  split at h
  · rename_i hm
    split at h
    · omega
    split at h
    · omega
    split at h
    · omega
    split at h
    · omega
    exact ⟨hm, by omega, by omega, by omega, by omega, by assumption, by simp [allocH, h']⟩
  · omega
theorem refI_in {n v : Int} (h : 0 ≤ refI n v) : In64 v := by
  unfold refI at h
  split at h
  · rename_i hc; simp only [isAt, decide_eq_true_eq] at hc; unfold In64; omega
  · omega
theorem new_in {H : HHeap} {cls kind size : Int} (h : allocE H cls kind size = 0) : (newObj H cls kind size).In := by
  obtain ⟨_, h1, h2, h3, _⟩ := alloc0 h
  have hn := next_range H.last
  refine ⟨refI_in h1, by unfold In64; simp only [newObj]; omega, fun x hx => ?_, by simp [newObj, In64], by unfold In64; simp only [newObj]; omega, ?_, ?_⟩
  · simp only [newObj] at hx
    split at hx
    · rw [List.eq_of_mem_replicate hx]; simp [In64]
    · cases hx
  · simp only [newObj]; split
    · rw [List.length_replicate]; omega
    · simp only [List.length_nil]; omega
  · simp only [newObj]; split
    · rw [zerosB_size]; omega
    · decide
theorem allocH_in {H : HHeap} (h : H.In) {cls kind size : Int} : (allocH H cls kind size).In := by
  by_cases he : allocE H cls kind size = 0
  · obtain ⟨hm, _, _, _, _, _, h3⟩ := alloc0 he
    have hl := mayH_len hm
    have hn := next_range H.last
    rw [h3]
    refine ⟨fun o ho => ?_, h.2.1, by unfold In64; simp only; omega, by simp; omega⟩
    rcases List.mem_append.1 ho with ho | ho
    · exact h.1 o ho
    · simp only [List.mem_singleton] at ho; subst ho; exact new_in he
  · simp only [allocH, he, if_false]; exact keptH_in h _
theorem new_may {H : HHeap} {cls kind size : Int} (h : allocE H cls kind size = 0) : mayObj ((H.objs.length : Int) + 1) (newObj H cls kind size) = true := by
  obtain ⟨_, h1, h2, h3, h4, _⟩ := alloc0 h
  have hn := next_range H.last
  have hz : hasB ((H.objs.length : Int) + 1) 0 = true := by
    simp only [hasB, refI, isAt, isN, Bool.or_eq_true, decide_eq_true_eq]
    right
    rw [if_pos (by simp <;> omega)]
    decide
  have hc : canI (newObj H cls kind size).bits = (newObj H cls kind size).bits := by show canI 0 = 0; decide
  simp only [mayObj, headB, kindB, restB, Bool.and_eq_true, decide_eq_true_eq, List.all_eq_true]
  refine ⟨⟨refI_mono (by omega) h1, h2.1, h2.2, hn.1, hn.2⟩, ⟨fun hk => ?_, fun hk => ?_, fun _ => rfl⟩, ⟨?_, ?_, hc⟩, fun x hx => ?_⟩
  · simp only [newObj] at hk ⊢; rw [if_neg hk]; rfl
  · simp only [newObj] at hk ⊢; rw [if_neg hk]; rfl
  · simp only [newObj]; split
    · simp; omega
    · simp
  · simp only [newObj]; split
    · rw [zerosB_size]; omega
    · decide
  · simp only [newObj] at hx
    split at hx
    · rw [List.eq_of_mem_replicate hx]; exact hz
    · cases hx
theorem allocH_may {H : HHeap} {cls kind size : Int} (he : allocE H cls kind size = 0) : mayH (allocH H cls kind size) = true := by
  obtain ⟨hm, _, _, _, _, hne, h3⟩ := alloc0 he
  have hn := next_range H.last
  rw [h3]
  have hm' := hm
  rw [mayH_iff] at hm ⊢
  simp only [List.length_append, List.length_singleton, Int.natCast_add, Int.natCast_one]
  refine ⟨⟨hm.1.1, hm.1.2.1, by omega, hn.1, hn.2⟩, fun o ho => ?_⟩
  rcases List.mem_append.1 ho with ho | ho
  · exact mayObj_mono (by omega) (hm.2 o ho)
  · simp only [List.mem_singleton] at ho; subst ho; exact new_may he
end Go.Proofs.YtnjihhheiiapnaaGreat
namespace Go.Proofs.YtnjihhheiiapnaaGreat
open Go Go.Proofs AW
theorem okNil {H : HHeap} (hm : mayH H = true) (hl : 12 ≤ H.objs.length) {s : Int} (hs : hasB H.objs.length s = true) : okV H s [] = true := by
  simp [okV, hm, hl, hs]
end Go.Proofs.YtnjihhheiiapnaaGreat
namespace Go.Proofs.YtnjihhheiiapnaaGreat
open Go Go.Proofs AW
abbrev doA (H : HHeap) (num s : Int) (a : List Int) : List AV := [.agg (encHeap H), iv num, iv s, .sl 1 (encInts a)]
theorem alloc_len {H : HHeap} {cls kind size : Int} (h : allocE H cls kind size = 30) : (H.objs.length : Int) = H.cap := by
  unfold allocE at h
  split at h
  · split at h
    · cases h
    split at h
    · cases h
    split at h
    · cases h
    split at h
    · assumption
    · cases h
  · cases h
theorem canI_idem (b : Int) : canI (canI b) = canI b := by
  unfold canI
  by_cases h : b % 9223372036854775808 ≤ 9218868437227405312
  · rw [if_pos h, if_pos h]
  · rw [if_neg h]; decide
theorem canI_rng {b : Int} (h : In64 b) : In64 (canI b) := by
  unfold canI
  split
  · exact h
  · constructor <;> decide
end Go.Proofs.YtnjihhheiiapnaaGreat
namespace Go.Proofs.YtnjihhheiiapnaaGreat
open Go Go.Proofs AW
abbrev slArgs (H : HHeap) (s p y : Int) : List AV := [.agg (encHeap H), iv s, .agg [iv p, iv y]]
theorem y_iarN {P : Program} {N : Fr} {Q : Exit → ASt → Prop} {st : ASt} {o : Oper} {z ix : Operand} {t n e s j e' s' q r : Nat} {b : Bool} {es : List (List AV)} {kk : IntKind} {i : Int} (ho : o.op = .indexAddr t z ix := by rfl) (hz : ev st z = some (.ptr j q r) := by rfl) (hT : st.T j = .live e' s' es := by rfl)
    (hix : ev st ix = some (.v (.int kk i)) := by rfl) (ht : arrOf P t = some (n, e, s, b) := by rfl) (hs : Nat.ble (r + i.toNat * s) s' = true := by rfl) (hi : 0 ≤ i ∧ i < n := by decide) : AYield P N Q o st (.ptr j q (r + i.toNat * s)) := y_iarr hi ho hz hT hix ht hs
end Go.Proofs.YtnjihhheiiapnaaGreat
