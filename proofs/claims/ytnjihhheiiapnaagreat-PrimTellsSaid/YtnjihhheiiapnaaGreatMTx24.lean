/- What the statements' walks need. -/
import Derived.Test.YtnjihhheiiapnaaGreatMTa4
import Derived.Test.YtnjihhheiiapnaaGreatMTx10
import Derived.Test.YtnjihhheiiapnaaGreatMTx13
import Derived.Test.YtnjihhheiiapnaaGreatMTa2
import Derived.Test.YtnjihhheiiapnaaGreatMTx9
import Derived.Test.YtnjihhheiiapnaaGreatMTx11
import Derived.Test.YtnjihhheiiapnaaGreatMTa3
import Ieee.Arith
set_option linter.unusedVariables false
set_option linter.unusedSimpArgs false
set_option maxRecDepth 100000
namespace Go.Proofs.YtnjihhheiiapnaaGreat
open Go Go.Proofs AW
theorem _root_.Go.Proofs.YtnjihhheiiapnaaGreat.AW.Gives.to {P : Program} {f : Nat} {args : List AV} {x y : AV} (h : Gives P f args x) (e : x = y) : Gives P f args y := e ▸ h
theorem in_emp : emptyH.In := by simp [emptyH, HHeap.In, In64]
end Go.Proofs.YtnjihhheiiapnaaGreat
namespace Go.Proofs.YtnjihhheiiapnaaGreat
open Go Go.Proofs AW
theorem ty_int {n : Nat} {p : List AV} (h : Ty Tryz.prog (n + 1) 3 p) : ∃ x : Int, p = [iv x] ∧ In64 x := by
  unfold Ty at h
  rw [Tryz.underlying3] at h
  obtain ⟨x, rfl, h1, h2⟩ := h
  exact ⟨x, rfl, h1, h2⟩
theorem ty_string {n : Nat} {p : List AV} (h : Ty Tryz.prog (n + 1) 9 p) : ∃ s : ByteArray, p = [sv s] ∧ s.size < 140737488355328 := by
  unfold Ty at h
  rw [Tryz.underlying9] at h
  obtain ⟨s, rfl, h1⟩ := h
  exact ⟨s, rfl, Nat.lt_of_le_of_lt h1 (by decide)⟩
theorem ty_ints {n : Nat} {p : List AV} (h : Ty Tryz.prog (n + 2) 25 p) : ∃ l : List Int, p = [.sl 1 (encInts l)] ∧ (∀ x ∈ l, In64 x) ∧ l.length < 17592186044416 := by
  unfold Ty at h
  rw [Tryz.underlying25] at h
  obtain ⟨es, rfl, h1, h2⟩ := h
  obtain ⟨l, rfl, h3⟩ := list_map (f := fun x : Int => [iv x]) (q := In64) fun c hc => ty_int (h2 c hc)
  refine ⟨l, rfl, h3, ?_⟩
  have hb : Tryz.prog.bytesOf 3 = 8 := rfl
  have h4 : l.length * 8 ≤ reachBytes := by rw [hb] at h1; simpa using h1
  simp only [reachBytes] at h4
  omega
theorem ty_obj {n : Nat} {p : List AV} (h : Ty Tryz.prog (n + 3) 41 p) : ∃ o : HObj, p = encObj o ∧ o.Big := by
  unfold Ty at h
  rw [Tryz.underlying41] at h
  obtain ⟨parts, hl, rfl, hf⟩ := h
  match parts, hl with
  | [p0, p1, p2, p3, p4, p5], _ =>
    obtain ⟨x0, rfl, i0⟩ := ty_int (hf 0 _ p0 rfl rfl)
    obtain ⟨x1, rfl, i1⟩ := ty_int (hf 1 _ p1 rfl rfl)
    obtain ⟨x2, rfl, i2, j2⟩ := ty_ints (hf 2 _ p2 rfl rfl)
    obtain ⟨x3, rfl, i3⟩ := ty_string (hf 3 _ p3 rfl rfl)
    obtain ⟨x4, rfl, i4⟩ := ty_int (hf 4 _ p4 rfl rfl)
    obtain ⟨x5, rfl, i5⟩ := ty_int (hf 5 _ p5 rfl rfl)
    exact ⟨⟨x0, x1, x2, x3, x4, x5⟩, rfl, i0, i1, i2, i4, i5, j2, i3⟩
theorem ty_heap {n : Nat} {p : List AV} (h : Ty Tryz.prog (n + 5) 24 p) : ∃ H : HHeap, p = encHeap H ∧ H.Big := by
  unfold Ty at h
  rw [Tryz.underlying24] at h
  obtain ⟨parts, hl, rfl, hf⟩ := h
  match parts, hl with
  | [p0, p1, p2], _ =>
    have h0 : Ty Tryz.prog (n + 4) 22 p0 := hf 0 _ p0 rfl rfl
    obtain ⟨x1, rfl, i1⟩ := ty_int (hf 1 _ p1 rfl rfl)
    obtain ⟨x2, rfl, i2⟩ := ty_int (hf 2 _ p2 rfl rfl)
    unfold Ty at h0
    rw [Tryz.underlying22] at h0
    obtain ⟨es, rfl, h1, h2⟩ := h0
    obtain ⟨l, rfl, h3⟩ := list_map (f := encObj) (q := HObj.Big) fun c hc => ty_obj (h2 c hc)
    refine ⟨⟨l, x1, x2⟩, rfl, h3, i1, i2, ?_⟩
    have hb : Tryz.prog.bytesOf 41 = 72 := rfl
    have h4 : l.length * 72 ≤ reachBytes := by rw [hb] at h1; simpa using h1
    simp only [reachBytes] at h4
    show l.length < _
    omega
end Go.Proofs.YtnjihhheiiapnaaGreat
namespace FM
open Ieee
def rne (n d : Nat) : Nat := n / d + if d < 2 * (n % d) ∨ (d = 2 * (n % d) ∧ n / d % 2 = 1) then 1 else 0
theorem toNat_ite {b : Bool} {P : Prop} [Decidable P] (h : b = true ↔ P) : b.toNat = if P then 1 else 0 := by
  cases b with
  | true => rw [if_pos (h.1 rfl)]; rfl
  | false => rw [if_neg (fun p => by cases h.2 p)]; rfl
theorem cut_eq (neg : Bool) (n drop : Nat) : Toward.even.cut neg n drop = rne n (2 ^ drop) := by
  unfold Toward.cut rne
  simp only [Nat.one_shiftLeft]
  by_cases h : drop ≤ n.log2 + 2
  · rw [Nat.min_eq_left h]
    congr 1
    exact toNat_ite (by simp only [Bool.or_eq_true, Bool.and_eq_true, decide_eq_true_eq, beq_iff_eq])
  · rw [Nat.min_eq_right (by omega)]
    have hn : n < 2 ^ (n.log2 + 1) := Nat.lt_log2_self
    have e1 : 2 ^ (n.log2 + 2) = 2 * 2 ^ (n.log2 + 1) := by rw [Nat.pow_succ]; omega
    have hd : 2 ^ (n.log2 + 2) ≤ 2 ^ drop := Nat.pow_le_pow_right (by omega) (by omega)
    have m1 : n % 2 ^ (n.log2 + 2) = n := Nat.mod_eq_of_lt (by omega)
    have m2 : n % 2 ^ drop = n := Nat.mod_eq_of_lt (by omega)
    have d1 : n / 2 ^ (n.log2 + 2) = 0 := Nat.div_eq_of_lt (by omega)
    have d2 : n / 2 ^ drop = 0 := Nat.div_eq_of_lt (by omega)
    rw [m1, m2, d1, d2]
    have a1 : ¬ (2 ^ (n.log2 + 2) < 2 * n) := by omega
    have a2 : ¬ (2 ^ drop < 2 * n) := by omega
    simp [a1, a2]
theorem rne_scale (n d k : Nat) (hk : 0 < k) : rne (n * k) (d * k) = rne n d := by
  unfold rne
  rw [Nat.mul_div_mul_right _ _ hk, Nat.mul_mod_mul_right]
  congr 1
  have e1 : d * k < 2 * (n % d * k) ↔ d < 2 * (n % d) := by
    rw [← Nat.mul_assoc]; exact Nat.mul_lt_mul_right hk
  have e2 : d * k = 2 * (n % d * k) ↔ d = 2 * (n % d) := by
    rw [← Nat.mul_assoc]; exact Nat.mul_left_inj (by omega)
  simp only [e1, e2]
theorem rne_one (n : Nat) : rne n 1 = n := by simp [rne, Nat.mod_one]
theorem rne_sticky (q r c t : Nat) (hr : r < c) (ht : 0 < t) :
    rne (q * c + r) (c * (2 * t)) = rne (2 * q + (if r = 0 then 0 else 1)) (4 * t) := by
  have hc : 0 < c := by omega
  have d1 : (q * c + r) / (c * (2 * t)) = q / (2 * t) := by
    rw [← Nat.div_div_eq_div_mul, Nat.mul_comm q c, Nat.mul_add_div hc, Nat.div_eq_of_lt hr, Nat.add_zero]
  have m1 : (q * c + r) % (c * (2 * t)) = c * (q % (2 * t)) + r := by
    rw [Nat.mod_mul, Nat.mul_comm q c, Nat.mul_add_div hc, Nat.div_eq_of_lt hr, Nat.add_zero, Nat.mul_add_mod, Nat.mod_eq_of_lt hr]
    omega
  have hs : (if r = 0 then 0 else 1) < 2 := by split <;> omega
  have d2 : (2 * q + (if r = 0 then 0 else 1)) / (4 * t) = q / (2 * t) := by
    rw [show 4 * t = 2 * (2 * t) by omega, ← Nat.div_div_eq_div_mul, Nat.mul_add_div (by omega), Nat.div_eq_of_lt hs, Nat.add_zero]
  have m2 : (2 * q + (if r = 0 then 0 else 1)) % (4 * t) = 2 * (q % (2 * t)) + (if r = 0 then 0 else 1) := by
    rw [show 4 * t = 2 * (2 * t) by omega, Nat.mod_mul, Nat.mul_add_div (by omega), Nat.div_eq_of_lt hs, Nat.add_zero, Nat.mul_add_mod, Nat.mod_eq_of_lt hs]
    omega
  unfold rne
  rw [d1, m1, d2, m2]
  congr 1
  generalize q % (2 * t) = x
  have a1 : c * (2 * t) = 2 * (c * t) := by rw [Nat.mul_left_comm]
  rw [a1]
  have key : ∀ (P Q : Prop) [Decidable P] [Decidable Q], (P ↔ Q) → (if P then 1 else 0) = (if Q then 1 else 0 : Nat) := by
    intro P Q _ _ h; by_cases hp : P
    · rw [if_pos hp, if_pos (h.1 hp)]
    · rw [if_neg hp, if_neg (fun hq => hp (h.2 hq))]
  apply key
  rcases Nat.lt_trichotomy x t with hx | hx | hx
  · have : c * (x + 1) ≤ c * t := Nat.mul_le_mul_left _ hx
    rw [Nat.mul_add] at this
    split <;> omega
  · subst hx
    split <;> omega
  · have : c * (t + 1) ≤ c * x := Nat.mul_le_mul_left _ hx
    rw [Nat.mul_add] at this
    split <;> omega
end FM
namespace Go.Proofs.YtnjihhheiiapnaaGreat
open Go Go.Proofs AW
theorem become0 {H : HHeap} {v w : Int} (h : becomeE H v w = 0) : mayH H = true ∧ 0 ≤ H.ref v ∧ 0 ≤ H.ref w ∧ becomeH H v w = (H.put (H.ref v).toNat (H.at' w)).put (H.ref w).toNat (H.at' v) := by
  have h' := h
  simp only [becomeE] at h
  split at h
  · rename_i hm
    split at h
    · omega
    · exact ⟨hm, by omega, by omega, by simp [becomeH, h']⟩
  · omega
theorem becomeE_of {H : HHeap} {v w : Int} (hm : mayH H = true) (hv : 0 ≤ H.ref v) (hw : 0 ≤ H.ref w) : becomeE H v w = 0 := by
  simp only [becomeE, hm, if_true]; rw [if_neg (by omega)]
theorem becomeH_in {H : HHeap} (h : H.In) {v w : Int} : (becomeH H v w).In := by
  by_cases he : becomeE H v w = 0
  · obtain ⟨_, hv, hw, h3⟩ := become0 he
    rw [h3]
    exact put_in (put_in h (at_in h hw) _) (at_in h hv) _
  · simp only [becomeH, he, if_false]; exact keptH_in h _
theorem size_setB (t : ByteArray) (k : Nat) (x : Int) : (setB t k x).size = t.size := by simp [setB, strOfNums_size]
theorem byte0 {H : HHeap} {v a x : Int} (h : setByteE H v a x = 0) : wrongE H v 1 a = 0 ∧ 0 ≤ x ∧ x ≤ 255 ∧ setByteH H v a x = H.put (H.ref v).toNat { H.at' v with text := setB (H.at' v).text a.toNat x } := by
  have h' := h
  simp only [setByteE] at h
  split at h
  · rename_i h1
    split at h
    · rename_i h2
      exact ⟨h1, h2.1, h2.2, by simp [setByteH, h']⟩
    · omega
  · exact absurd h (by assumption)
theorem text_in {o : HObj} (h : o.In) {k : Nat} {x : Int} : ({ o with text := setB o.text k x } : HObj).In := by
  obtain ⟨h1, h2, h3, h4, h5, h6, h7⟩ := h
  exact ⟨h1, h2, h3, h4, h5, h6, by simpa [size_setB] using h7⟩
theorem byteH_in {H : HHeap} (h : H.In) {v a x : Int} : (setByteH H v a x).In := by
  by_cases he : setByteE H v a x = 0
  · obtain ⟨h1, h2, h4, h3⟩ := byte0 he
    obtain ⟨_, hr, _⟩ := wrong0 h1
    rw [h3]
    exact put_in h (text_in (at_in h hr)) _
  · simp only [setByteH, he, if_false]; exact keptH_in h _
theorem next_range (v : Int) : 0 ≤ nextI v ∧ nextI v ≤ 1073741823 := by
  unfold nextI; split <;> omega
theorem refI_mono {n m v : Int} (h : n ≤ m) (hv : 0 ≤ refI n v) : 0 ≤ refI m v := by
  unfold refI at *
  split at hv
  · rename_i hc
    rw [if_pos ⟨hc.1, by omega⟩]; exact hv
  · omega
theorem hasB_mono {n m v : Int} (h : n ≤ m) (hv : hasB n v = true) : hasB m v = true := by
  simp only [hasB, Bool.or_eq_true, decide_eq_true_eq] at hv ⊢
  rcases hv with hv | hv
  · exact .inl hv
  · exact .inr (refI_mono h hv)
theorem mayObj_mono {n m : Int} (h : n ≤ m) {o : HObj} (ho : mayObj n o = true) : mayObj m o = true := by
  simp only [mayObj, headB, kindB, restB, Bool.and_eq_true, decide_eq_true_eq, List.all_eq_true] at ho ⊢
  exact ⟨⟨refI_mono h ho.1.1, ho.1.2⟩, ho.2.1, ho.2.2.1, fun x hx => hasB_mono h (ho.2.2.2 x hx)⟩
theorem alloc0 {H : HHeap} {cls kind size : Int} (h : allocE H cls kind size = 0) : mayH H = true ∧ 0 ≤ refI H.objs.length cls ∧ (0 ≤ kind ∧ kind ≤ 2) ∧ (0 ≤ size ∧ size ≤ 64) ∧ (kind = 2 → size = 0) ∧ (H.objs.length : Int) ≠ H.cap ∧
    allocH H cls kind size = ⟨H.objs ++ [newObj H cls kind size], H.cap, nextI H.last⟩ := by
  have h' := h
  simp only [allocE] at h
  split at h
  · rename_i hm
    split at h
    · omega
    split at h
    · omega
    split at h
    · omega
    split at h
    · omega
    exact ⟨hm, by omega, by omega, by omega, by omega, by assumption, by simp [allocH, h']⟩
  · omega
theorem refI_in {n v : Int} (h : 0 ≤ refI n v) : In64 v := by
  unfold refI at h
  split at h
  · rename_i hc; simp only [isAt, decide_eq_true_eq] at hc; unfold In64; omega
  · omega
theorem new_in {H : HHeap} {cls kind size : Int} (h : allocE H cls kind size = 0) : (newObj H cls kind size).In := by
  obtain ⟨_, h1, h2, h3, _⟩ := alloc0 h
  have hn := next_range H.last
  refine ⟨refI_in h1, by unfold In64; simp only [newObj]; omega, fun x hx => ?_, by simp [newObj, In64], by unfold In64; simp only [newObj]; omega, ?_, ?_⟩
  · simp only [newObj] at hx
    split at hx
    · rw [List.eq_of_mem_replicate hx]; simp [In64]
    · cases hx
  · simp only [newObj]; split
    · rw [List.length_replicate]; omega
    · simp only [List.length_nil]; omega
  · simp only [newObj]; split
    · rw [zerosB_size]; omega
    · decide
theorem allocH_in {H : HHeap} (h : H.In) {cls kind size : Int} : (allocH H cls kind size).In := by
  by_cases he : allocE H cls kind size = 0
  · obtain ⟨hm, _, _, _, _, _, h3⟩ := alloc0 he
    have hl := mayH_len hm
    have hn := next_range H.last
    rw [h3]
    refine ⟨fun o ho => ?_, h.2.1, by unfold In64; simp only; omega, by simp; omega⟩
    rcases List.mem_append.1 ho with ho | ho
    · exact h.1 o ho
    · simp only [List.mem_singleton] at ho; subst ho; exact new_in he
  · simp only [allocH, he, if_false]; exact keptH_in h _
theorem new_may {H : HHeap} {cls kind size : Int} (h : allocE H cls kind size = 0) : mayObj ((H.objs.length : Int) + 1) (newObj H cls kind size) = true := by
  obtain ⟨_, h1, h2, h3, h4, _⟩ := alloc0 h
  have hn := next_range H.last
  have hz : hasB ((H.objs.length : Int) + 1) 0 = true := by
    simp only [hasB, refI, isAt, isN, Bool.or_eq_true, decide_eq_true_eq]
    right
    rw [if_pos (by simp <;> omega)]
    decide
  have hc : canI (newObj H cls kind size).bits = (newObj H cls kind size).bits := by show canI 0 = 0; decide
  simp only [mayObj, headB, kindB, restB, Bool.and_eq_true, decide_eq_true_eq, List.all_eq_true]
  refine ⟨⟨refI_mono (by omega) h1, h2.1, h2.2, hn.1, hn.2⟩, ⟨fun hk => ?_, fun hk => ?_, fun _ => rfl⟩, ⟨?_, ?_, hc⟩, fun x hx => ?_⟩
  · simp only [newObj] at hk ⊢; rw [if_neg hk]; rfl
  · simp only [newObj] at hk ⊢; rw [if_neg hk]; rfl
  · simp only [newObj]; split
    · simp; omega
    · simp
  · simp only [newObj]; split
    · rw [zerosB_size]; omega
    · decide
  · simp only [newObj] at hx
    split at hx
    · rw [List.eq_of_mem_replicate hx]; exact hz
    · cases hx
theorem allocH_may {H : HHeap} {cls kind size : Int} (he : allocE H cls kind size = 0) : mayH (allocH H cls kind size) = true := by
  obtain ⟨hm, _, _, _, _, hne, h3⟩ := alloc0 he
  have hn := next_range H.last
  rw [h3]
  have hm' := hm
  rw [mayH_iff] at hm ⊢
  simp only [List.length_append, List.length_singleton, Int.natCast_add, Int.natCast_one]
  refine ⟨⟨hm.1.1, hm.1.2.1, by omega, hn.1, hn.2⟩, fun o ho => ?_⟩
  rcases List.mem_append.1 ho with ho | ho
  · exact mayObj_mono (by omega) (hm.2 o ho)
  · simp only [List.mem_singleton] at ho; subst ho; exact new_may he
end Go.Proofs.YtnjihhheiiapnaaGreat
