/- What the statements' walks need. -/
import Derived.Test.YtnjihhheiiapnaaGreatMSa4
import Derived.Test.YtnjihhheiiapnaaGreatMSx10
import Derived.Test.YtnjihhheiiapnaaGreatMSa2
import Derived.Test.YtnjihhheiiapnaaGreatMSx15
import Ieee.Arith
import Derived.ChangeShapes
import Derived.OpenShut
set_option linter.unusedVariables false
set_option linter.unusedSimpArgs false
set_option maxRecDepth 100000
namespace FM
open Ieee
def rne (n d : Nat) : Nat := n / d + if d < 2 * (n % d) ∨ (d = 2 * (n % d) ∧ n / d % 2 = 1) then 1 else 0
theorem toNat_ite {b : Bool} {P : Prop} [Decidable P] (h : b = true ↔ P) : b.toNat = if P then 1 else 0 := by
  cases b with
  | true => rw [if_pos (h.1 rfl)]; rfl
  | false => rw [if_neg (fun p => by cases h.2 p)]; rfl
theorem cut_eq (neg : Bool) (n drop : Nat) : Toward.even.cut neg n drop = rne n (2 ^ drop) := by
  unfold Toward.cut rne
  simp only [Nat.one_shiftLeft]
  by_cases h : drop ≤ n.log2 + 2
  · rw [Nat.min_eq_left h]
    congr 1
    exact toNat_ite (by simp only [Bool.or_eq_true, Bool.and_eq_true, decide_eq_true_eq, beq_iff_eq])
  · rw [Nat.min_eq_right (by omega)]
    have hn : n < 2 ^ (n.log2 + 1) := Nat.lt_log2_self
    have e1 : 2 ^ (n.log2 + 2) = 2 * 2 ^ (n.log2 + 1) := by rw [Nat.pow_succ]; omega
    have hd : 2 ^ (n.log2 + 2) ≤ 2 ^ drop := Nat.pow_le_pow_right (by omega) (by omega)
    have m1 : n % 2 ^ (n.log2 + 2) = n := Nat.mod_eq_of_lt (by omega)
    have m2 : n % 2 ^ drop = n := Nat.mod_eq_of_lt (by omega)
    have d1 : n / 2 ^ (n.log2 + 2) = 0 := Nat.div_eq_of_lt (by omega)
    have d2 : n / 2 ^ drop = 0 := Nat.div_eq_of_lt (by omega)
    rw [m1, m2, d1, d2]
    have a1 : ¬ (2 ^ (n.log2 + 2) < 2 * n) := by omega
    have a2 : ¬ (2 ^ drop < 2 * n) := by omega
    simp [a1, a2]
theorem rne_scale (n d k : Nat) (hk : 0 < k) : rne (n * k) (d * k) = rne n d := by
  unfold rne
  rw [Nat.mul_div_mul_right _ _ hk, Nat.mul_mod_mul_right]
  congr 1
  have e1 : d * k < 2 * (n % d * k) ↔ d < 2 * (n % d) := by
    rw [← Nat.mul_assoc]; exact Nat.mul_lt_mul_right hk
  have e2 : d * k = 2 * (n % d * k) ↔ d = 2 * (n % d) := by
    rw [← Nat.mul_assoc]; exact Nat.mul_left_inj (by omega)
  simp only [e1, e2]
theorem rne_one (n : Nat) : rne n 1 = n := by simp [rne, Nat.mod_one]
theorem rne_sticky (q r c t : Nat) (hr : r < c) (ht : 0 < t) :
    rne (q * c + r) (c * (2 * t)) = rne (2 * q + (if r = 0 then 0 else 1)) (4 * t) := by
  have hc : 0 < c := by omega
  have d1 : (q * c + r) / (c * (2 * t)) = q / (2 * t) := by
    rw [← Nat.div_div_eq_div_mul, Nat.mul_comm q c, Nat.mul_add_div hc, Nat.div_eq_of_lt hr, Nat.add_zero]
  have m1 : (q * c + r) % (c * (2 * t)) = c * (q % (2 * t)) + r := by
    rw [Nat.mod_mul, Nat.mul_comm q c, Nat.mul_add_div hc, Nat.div_eq_of_lt hr, Nat.add_zero, Nat.mul_add_mod, Nat.mod_eq_of_lt hr]
    omega
  have hs : (if r = 0 then 0 else 1) < 2 := by split <;> omega
  have d2 : (2 * q + (if r = 0 then 0 else 1)) / (4 * t) = q / (2 * t) := by
    rw [show 4 * t = 2 * (2 * t) by omega, ← Nat.div_div_eq_div_mul, Nat.mul_add_div (by omega), Nat.div_eq_of_lt hs, Nat.add_zero]
  have m2 : (2 * q + (if r = 0 then 0 else 1)) % (4 * t) = 2 * (q % (2 * t)) + (if r = 0 then 0 else 1) := by
    rw [show 4 * t = 2 * (2 * t) by omega, Nat.mod_mul, Nat.mul_add_div (by omega), Nat.div_eq_of_lt hs, Nat.add_zero, Nat.mul_add_mod, Nat.mod_eq_of_lt hs]
    omega
  unfold rne
  rw [d1, m1, d2, m2]
  congr 1
  generalize q % (2 * t) = x
  have a1 : c * (2 * t) = 2 * (c * t) := by rw [Nat.mul_left_comm]
  rw [a1]
  have key : ∀ (P Q : Prop) [Decidable P] [Decidable Q], (P ↔ Q) → (if P then 1 else 0) = (if Q then 1 else 0 : Nat) := by
    intro P Q _ _ h; by_cases hp : P
    · rw [if_pos hp, if_pos (h.1 hp)]
    · rw [if_neg hp, if_neg (fun hq => hp (h.2 hq))]
  apply key
  rcases Nat.lt_trichotomy x t with hx | hx | hx
  · have : c * (x + 1) ≤ c * t := Nat.mul_le_mul_left _ hx
    rw [Nat.mul_add] at this
    split <;> omega
  · subst hx
    split <;> omega
  · have : c * (t + 1) ≤ c * x := Nat.mul_le_mul_left _ hx
    rw [Nat.mul_add] at this
    split <;> omega
end FM
namespace Go.Proofs.YtnjihhheiiapnaaGreat
open Go Go.Proofs AW
set_option maxRecDepth 100000 in
set_option maxHeartbeats 4000000 in
theorem rGet_ok (H : HHeap) (hi : H.In) (v a : Int) : Gives Tryz.prog 88 [.agg (encHeap H), iv v, iv a] (.tup [iv (getI H v a), iv (wrongE H v 0 a)]) := by
  refine gives_of Tryz.func88 rfl (Nat.le_of_ble_eq_true rfl) ?_
  (repeat' (first | refine mv ?_ | refine asg ?_ | refine la ?_ | refine aops_nil ?_ | refine aw_seq ?_ | refine aw_region ?_ | refine bx 0 ?_ | fail))
  refine cl (rwrong_ok H hi v 0 a (.inl rfl)) ?_ (hno := ⟨noOwn_heap H, .v _, .v _, .v _, trivial⟩)
  (repeat' (first | refine mv ?_ | refine asg ?_ | refine bi ?_ | refine aops_nil ?_ | refine aw_seq ?_ | refine aw_region ?_ | fail))
  refine aw_cond rfl (fun h1 => ?_) (fun h1 => ?_) <;> simp at h1 <;> (repeat' (first | refine mv ?_ | refine asg ?_ | refine aops_nil ?_ | refine aw_seq ?_ | refine aw_region ?_ | refine aw_skip ?_ | refine aw_ret ?_ | fail))
  · refine fin (sh_ii ?_ ?_) <;> simp [getI, h1]
  obtain ⟨m, hr, hk, ha, hb⟩ := wrong0 h1
  have hget := at_get hr
  have hsl : a.toNat < (H.at' v).slots.length := by have := (kind_lens m hr).2 (by omega); omega
  have hn : refI H.objs.length v = ((H.ref v).toNat : Int) := by rw [Int.toNat_of_nonneg hr]; simp [HHeap.ref]
  refine aw_draw 11 none ?_
  (repeat' (first | refine dn ?_ | refine ds y_move ?_ | refine ds y_load ?_ | refine ds (y_faddr_ptr (hs := Nat.le_of_ble_eq_true rfl)) ?_ | refine ds y_faddr_ip ?_ | refine ds y_loadsN ?_ | refine ds (y_call (rRef_ok H _ hi.2.2.2) (hno := ⟨noOwn_heap H, .v _, trivial⟩)) ?_ | refine ds (y_iaddrN (H.ref v).toNat (objs_get hget) (hn := hn)) ?_ | refine ds (y_iaddrN a.toNat (ints_get (List.getElem?_eq_getElem hsl)) (hn := (Int.toNat_of_nonneg ha).symm)) ?_ | fail))
  (repeat' (first | refine asg ?_ | refine aops_nil ?_ | refine aw_ret ?_ | fail))
  refine fin (sh_ii ?_ ?_) <;> simp [getI, h1, hsl]
end Go.Proofs.YtnjihhheiiapnaaGreat
namespace Go.Proofs.YtnjihhheiiapnaaGreat.AW
open Go Go.Proofs
section
variable {H : Type} {enc : TypeId × Value → H} {P : Program} {w : World} {sp : Nat → Bool} {held : Bool}
theorem open_arr2 {t e : TypeId} {v : Value} {d : DataW H} {ps : List MemPlace} (hu : P.underlying t = some (.array 2 e)) (he : P.underlying e = some (.int .i64)) (hce : P.cellsOf e = 1) (hct : P.cellsOf t = 2) {b0 : Nat} (hval : Value.okWide P w .any b0 t v) (h : DataW.Trod enc P w 0 sp held t v d ps) :
    ∃ x y : Int, Rep (fun b => b < w.heap.size) noT noβ w (.agg [iv x, iv y]) v ∧ (In64 x ∧ In64 y) := by
  unfold Value.okWide at hval
  rw [hu] at hval
  obtain ⟨cs, rfl, hsz, _⟩ := hval
  obtain ⟨fuel, hf⟩ := h
  obtain ⟨xs, m, rfl, hx, hl, hxl, hget⟩ := DataW.trod_array hu hf
  have g0 := hget 0 (by omega)
  have g1 := hget 1 (by omega)
  rw [List.getElem?_eq_getElem (by omega)] at g0 g1
  obtain ⟨x, e0, _, hn0⟩ := DataW.trod_int he g0
  obtain ⟨y, e1, _, hn1⟩ := DataW.trod_int he g1
  simp only [Lit.wf, Bool.and_eq_true, decide_eq_true_eq] at hn0 hn1
  refine ⟨x, y, ?_, hn0, hn1⟩
  have hc : cs.toList = [.int .i64 x, .int .i64 y] := by
    have e0 : (cs.toList.drop (0 * P.cellsOf e)).take (P.cellsOf e) = [Value.int IntKind.i64 x] := e0
    have e1 : (cs.toList.drop (1 * P.cellsOf e)).take (P.cellsOf e) = [Value.int IntKind.i64 y] := e1
    rw [hce] at e0 e1
    rw [hct] at hsz
    have hl2 : cs.toList.length = 2 := by simpa using hsz
    match cs.toList, hl2, e0, e1 with
    | [a, b], _, e0, e1 =>
      simp at e0 e1
      rw [e0, e1]
  exact all2_agg (by rw [hc]; exact ⟨.v _, .v _, trivial⟩)
end
end Go.Proofs.YtnjihhheiiapnaaGreat.AW
