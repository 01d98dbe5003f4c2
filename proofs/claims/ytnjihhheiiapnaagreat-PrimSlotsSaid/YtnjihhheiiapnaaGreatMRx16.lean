/- What the statements' walks need. -/
import Derived.Test.YtnjihhheiiapnaaGreatMRa4
import Derived.Test.YtnjihhheiiapnaaGreatMRx9
import Derived.Test.YtnjihhheiiapnaaGreatMRa2
import Derived.Test.YtnjihhheiiapnaaGreatMRx13
import Derived.Test.YtnjihhheiiapnaaGreatMRx8
set_option linter.unusedVariables false
set_option linter.unusedSimpArgs false
set_option maxRecDepth 100000
namespace Go.Proofs.YtnjihhheiiapnaaGreat
open Go Go.Proofs AW
set_option maxRecDepth 100000 in
set_option maxHeartbeats 4000000 in
theorem rGet_ok (H : HHeap) (hi : H.In) (v a : Int) : Gives Tryz.prog 88 [.agg (encHeap H), iv v, iv a] (.tup [iv (getI H v a), iv (wrongE H v 0 a)]) := by
  refine gives_of Tryz.func88 rfl (Nat.le_of_ble_eq_true rfl) ?_
  (repeat' (first | refine mv ?_ | refine asg ?_ | refine la ?_ | refine aops_nil ?_ | refine aw_seq ?_ | refine aw_region ?_ | refine bx 0 ?_ | fail))
  refine cl (rwrong_ok H hi v 0 a (.inl rfl)) ?_ (hno := ⟨noOwn_heap H, .v _, .v _, .v _, trivial⟩)
  (repeat' (first | refine mv ?_ | refine asg ?_ | refine bi ?_ | refine aops_nil ?_ | refine aw_seq ?_ | refine aw_region ?_ | fail))
  refine aw_cond rfl (fun h1 => ?_) (fun h1 => ?_) <;> simp at h1 <;> (repeat' (first | refine mv ?_ | refine asg ?_ | refine aops_nil ?_ | refine aw_seq ?_ | refine aw_region ?_ | refine aw_skip ?_ | refine aw_ret ?_ | fail))
  · refine fin (sh_ii ?_ ?_) <;> simp [getI, h1]
  obtain ⟨m, hr, hk, ha, hb⟩ := wrong0 h1
  have hget := at_get hr
  have hsl : a.toNat < (H.at' v).slots.length := by have := (kind_lens m hr).2 (by omega); omega
  have hn : refI H.objs.length v = ((H.ref v).toNat : Int) := by rw [Int.toNat_of_nonneg hr]; simp [HHeap.ref]
  refine aw_draw 11 none ?_
  (repeat' (first | refine dn ?_ | refine ds y_move ?_ | refine ds y_load ?_ | refine ds (y_faddr_ptr (hs := Nat.le_of_ble_eq_true rfl)) ?_ | refine ds y_faddr_ip ?_ | refine ds y_loadsN ?_ | refine ds (y_call (rRef_ok H _ hi.2.2.2) (hno := ⟨noOwn_heap H, .v _, trivial⟩)) ?_ | refine ds (y_iaddrN (H.ref v).toNat (objs_get hget) (hn := hn)) ?_ | refine ds (y_iaddrN a.toNat (ints_get (List.getElem?_eq_getElem hsl)) (hn := (Int.toNat_of_nonneg ha).symm)) ?_ | fail))
  (repeat' (first | refine asg ?_ | refine aops_nil ?_ | refine aw_ret ?_ | fail))
  refine fin (sh_ii ?_ ?_) <;> simp [getI, h1, hsl]
end Go.Proofs.YtnjihhheiiapnaaGreat
namespace Go.Proofs.YtnjihhheiiapnaaGreat
open Go Go.Proofs AW
theorem ty_int {n : Nat} {p : List AV} (h : Ty Tryz.prog (n + 1) 3 p) : ∃ x : Int, p = [iv x] ∧ In64 x := by
  unfold Ty at h
  rw [Tryz.underlying3] at h
  obtain ⟨x, rfl, h1, h2⟩ := h
  exact ⟨x, rfl, h1, h2⟩
theorem ty_string {n : Nat} {p : List AV} (h : Ty Tryz.prog (n + 1) 9 p) : ∃ s : ByteArray, p = [sv s] ∧ s.size < 140737488355328 := by
  unfold Ty at h
  rw [Tryz.underlying9] at h
  obtain ⟨s, rfl, h1⟩ := h
  exact ⟨s, rfl, Nat.lt_of_le_of_lt h1 (by decide)⟩
theorem ty_ints {n : Nat} {p : List AV} (h : Ty Tryz.prog (n + 2) 25 p) : ∃ l : List Int, p = [.sl 1 (encInts l)] ∧ (∀ x ∈ l, In64 x) ∧ l.length < 17592186044416 := by
  unfold Ty at h
  rw [Tryz.underlying25] at h
  obtain ⟨es, rfl, h1, h2⟩ := h
  obtain ⟨l, rfl, h3⟩ := list_map (f := fun x : Int => [iv x]) (q := In64) fun c hc => ty_int (h2 c hc)
  refine ⟨l, rfl, h3, ?_⟩
  have hb : Tryz.prog.bytesOf 3 = 8 := rfl
  have h4 : l.length * 8 ≤ reachBytes := by rw [hb] at h1; simpa using h1
  simp only [reachBytes] at h4
  omega
theorem ty_obj {n : Nat} {p : List AV} (h : Ty Tryz.prog (n + 3) 41 p) : ∃ o : HObj, p = encObj o ∧ o.Big := by
  unfold Ty at h
  rw [Tryz.underlying41] at h
  obtain ⟨parts, hl, rfl, hf⟩ := h
  match parts, hl with
  | [p0, p1, p2, p3, p4, p5], _ =>
    obtain ⟨x0, rfl, i0⟩ := ty_int (hf 0 _ p0 rfl rfl)
    obtain ⟨x1, rfl, i1⟩ := ty_int (hf 1 _ p1 rfl rfl)
    obtain ⟨x2, rfl, i2, j2⟩ := ty_ints (hf 2 _ p2 rfl rfl)
    obtain ⟨x3, rfl, i3⟩ := ty_string (hf 3 _ p3 rfl rfl)
    obtain ⟨x4, rfl, i4⟩ := ty_int (hf 4 _ p4 rfl rfl)
    obtain ⟨x5, rfl, i5⟩ := ty_int (hf 5 _ p5 rfl rfl)
    exact ⟨⟨x0, x1, x2, x3, x4, x5⟩, rfl, i0, i1, i2, i4, i5, j2, i3⟩
theorem ty_heap {n : Nat} {p : List AV} (h : Ty Tryz.prog (n + 5) 24 p) : ∃ H : HHeap, p = encHeap H ∧ H.Big := by
  unfold Ty at h
  rw [Tryz.underlying24] at h
  obtain ⟨parts, hl, rfl, hf⟩ := h
  match parts, hl with
  | [p0, p1, p2], _ =>
    have h0 : Ty Tryz.prog (n + 4) 22 p0 := hf 0 _ p0 rfl rfl
    obtain ⟨x1, rfl, i1⟩ := ty_int (hf 1 _ p1 rfl rfl)
    obtain ⟨x2, rfl, i2⟩ := ty_int (hf 2 _ p2 rfl rfl)
    unfold Ty at h0
    rw [Tryz.underlying22] at h0
    obtain ⟨es, rfl, h1, h2⟩ := h0
    obtain ⟨l, rfl, h3⟩ := list_map (f := encObj) (q := HObj.Big) fun c hc => ty_obj (h2 c hc)
    refine ⟨⟨l, x1, x2⟩, rfl, h3, i1, i2, ?_⟩
    have hb : Tryz.prog.bytesOf 41 = 72 := rfl
    have h4 : l.length * 72 ≤ reachBytes := by rw [hb] at h1; simpa using h1
    simp only [reachBytes] at h4
    show l.length < _
    omega
end Go.Proofs.YtnjihhheiiapnaaGreat
namespace FM
open Ieee
theorem rne_pow (m a b c d : Nat) (h : a + d = c + b) : rne (m * 2 ^ a) (2 ^ b) = rne (m * 2 ^ c) (2 ^ d) := by
  rw [← rne_scale _ _ (2 ^ d) (Nat.two_pow_pos d), ← rne_scale (m * 2 ^ c) _ (2 ^ b) (Nat.two_pow_pos b), Nat.mul_assoc, Nat.mul_assoc, ← Nat.pow_add, ← Nat.pow_add, h, ← Nat.pow_add 2 c b, ← Nat.pow_add 2 d b, Nat.add_comm b d]
def rung (mag : Nat) (place : Int) : Nat :=
  let last := max (place + mag.log2 - 52) (-1074)
  min ((last + 1074).toNat * 2 ^ 52 + rne (mag * 2 ^ (place - last).toNat) (2 ^ (last - place).toNat)) (2047 * 2 ^ 52)
theorem least_double : double.leastPlace = -1074 := by decide
theorem nearest_eq (neg : Bool) (mag : Nat) (place : Int) :
    double.nearest neg mag place = double.word neg (if mag = 0 then 0 else rung mag place) := by
  unfold Format.nearest
  by_cases h : mag = 0
  · rw [if_pos h, if_pos h]
  · rw [if_neg h, if_neg h]
    simp only [cut_eq, least_double, Nat.shiftLeft_eq]
    unfold rung
    simp only [show double.fractionBits = 52 from rfl, show double.binade = 2 ^ 52 from rfl, show double.infRung = 2047 * 2 ^ 52 from rfl, Int.sub_neg]
    rfl
theorem log2_mul_pow (m k : Nat) (h : m ≠ 0) : (m * 2 ^ k).log2 = m.log2 + k := by
  have hp : 0 < 2 ^ k := Nat.two_pow_pos k
  have h2 : m * 2 ^ k ≠ 0 := Nat.mul_ne_zero h (by omega)
  apply (Nat.log2_eq_iff h2).2
  have h3 := (Nat.log2_eq_iff (k := m.log2) h).1 rfl
  constructor
  · rw [Nat.pow_add]; exact Nat.mul_le_mul_right _ h3.1
  · rw [show m.log2 + k + 1 = (m.log2 + 1) + k by omega, Nat.pow_add]; exact Nat.mul_lt_mul_of_pos_right h3.2 hp
theorem rung_scale (mag k : Nat) (place : Int) (h : mag ≠ 0) : rung (mag * 2 ^ k) (place - k) = rung mag place := by
  unfold rung
  simp only [log2_mul_pow mag k h]
  have e : place - (k : Int) + ((mag.log2 + k : Nat) : Int) - 52 = place + mag.log2 - 52 := by omega
  rw [e]
  generalize max (place + (mag.log2 : Int) - 52) (-1074) = last
  congr 2
  rw [Nat.mul_assoc, ← Nat.pow_add]
  exact rne_pow _ _ _ _ _ (by omega)
end FM
