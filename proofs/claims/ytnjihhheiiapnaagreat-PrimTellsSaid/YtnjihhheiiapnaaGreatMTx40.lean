/- What the statements' walks need. -/
import Derived.Test.YtnjihhheiiapnaaGreatMTa4
import Derived.Test.YtnjihhheiiapnaaGreatMTx8
import Derived.Test.YtnjihhheiiapnaaGreatMTa2
import Derived.Test.YtnjihhheiiapnaaGreatMTx36
import Derived.Test.YtnjihhheiiapnaaGreatMTx32
set_option linter.unusedVariables false
set_option linter.unusedSimpArgs false
set_option maxRecDepth 100000
namespace Go.Proofs.YtnjihhheiiapnaaGreat
open Go Go.Proofs AW
set_option maxRecDepth 100000 in
set_option maxHeartbeats 4000000 in
theorem rSet_ok (H : HHeap) (hi : H.In) (v slot x : Int) : Gives Tryz.prog 90 [.agg (encHeap H), iv v, iv slot, iv x] (.tup [.agg (encHeap (setH H v slot x)), iv (setE H v slot x)]) := by
  have hi' := hi
  obtain ⟨i1, i2, i3, i4⟩ := hi
  have i4' : H.objs.length < 1099511627776 := i4
  refine gives_of Tryz.func90 rfl (Nat.le_of_ble_eq_true rfl) ?_
  (repeat' (first | refine mv ?_ | refine asg ?_ | refine la ?_ | refine aops_nil ?_ | refine aw_seq ?_ | refine aw_region ?_ | refine bx 0 ?_ | refine al 1 ?_ | fail))
  refine cl (rwrong_ok H hi' v 0 slot (.inl rfl)) ?_ (hno := ⟨noOwn_heap H, noOwn_iv _, noOwn_iv _, noOwn_iv _, trivial⟩)
  (repeat' (first | refine mv ?_ | refine asg ?_ | refine bi ?_ | refine aops_nil ?_ | refine aw_seq ?_ | refine aw_region ?_ | fail))
  refine aw_cond rfl (fun h1 => ?_) (fun h1 => ?_) <;> simp at h1 <;> (repeat' (first | refine mv ?_ | refine asg ?_ | refine bi ?_ | refine so ?_ | refine bd ?_ | refine aops_nil ?_ | refine aw_seq ?_ | refine aw_region ?_ | refine aw_skip ?_ | refine aw_ret ?_ | fail))
  · refine fin (sh_empty ?_ ?_) <;> simp [setH, setE, h1, keptH]
  refine gs (fun h2 => ?_) (fun h2 => ?_) <;> simp at h2
  · (repeat' (first | refine mv ?_ | refine la ?_ | fail))
    refine cl (rHas_ok H x i4') ?_ (hno := ⟨noOwn_heap H, noOwn_iv _, trivial⟩)
    (repeat' (first | refine un ?_ | refine pt ?_ | refine aops_nil ?_ | fail))
    refine aw_cond rfl (fun h3 => ?_) (fun h3 => ?_) <;> simp at h3
    · (repeat' (first | refine mv ?_ | refine asg ?_ | refine bi ?_ | refine la ?_ | refine so ?_ | refine aops_nil ?_ | refine aw_seq ?_ | refine aw_region ?_ | refine aw_cond_t rfl ?_ | refine aw_ret ?_ | fail))
      refine fin (sh_keep ?_ ?_) <;> simp [setH, setE, h2, h3, keptH]
    have e1 : setE H v slot x = 0 := by simp [setE, h2, h3]
    rw [e1, show setH H v slot x = H.put (H.ref v).toNat { H.at' v with slots := (H.at' v).slots.set slot.toNat x } by simp [setH, e1]]
    obtain ⟨m, hr, hk, ha, hb⟩ := wrong0 h2
    have hget := at_get hr
    have hil := ref_lt hr
    have hsl : slot.toNat < (H.at' v).slots.length := by have := (kind_lens m hr).2 (by omega); omega
    have hn : refI H.objs.length v = ((H.ref v).toNat : Int) := by rw [Int.toNat_of_nonneg hr]; rfl
    have hp := part_get (k := H.objs.length) hget
    rw [if_pos hil] at hp
    have hil' : (H.ref v).toNat < (encPart H.objs.length H.objs).length := by simpa using hil
    (repeat' (first | refine mv ?_ | refine bi ?_ | refine aops_nil ?_ | refine aw_seq ?_ | refine aw_region ?_ | refine aw_skip ?_ | fail))
    refine aw_cond rfl (fun h4 => ?_) (fun h4 => ?_) <;> simp [h2] at h4
    (repeat' (first | refine la ?_ | refine aw_seq ?_ | refine aw_region ?_ | refine aw_skip ?_ | fail))
    refine cm (rcopy_ok H hi') (merge_cop (m := 2) ?_ rfl) (dis_cop (m := 2) ?_ rfl) ?_ (hno := ⟨noOwn_heap H, trivial⟩)
    · exact up_no (up_no (fun _ _ => rfl) rfl) rfl
    · exact up_no (up_no (fun _ _ => rfl) rfl) rfl
    (repeat' (first | refine so ?_ | refine aops_nil ?_ | refine aw_seq ?_ | refine al 2 ?_ | fail))
    refine aw_draw 10 none ?_
    refine ds (y_faddr_ptr (hs := Nat.le_of_ble_eq_true rfl)) ?_
    refine ds y_load ?_
    refine ds y_loadsN ?_
    refine ds y_move ?_
    refine ds (y_call (rRef_ok H v i4') (hno := ⟨noOwn_heap H, noOwn_iv _, trivial⟩)) ?_
    refine ds (y_iaoN (H.ref v).toNat hil' (hn := hn)) ?_
    refine ds (y_faddr_ptr (hs := Nat.le_of_ble_eq_true rfl)) ?_
    refine ds (y_loadP hp) ?_
    refine ds y_move ?_
    refine ds y_move ?_
    refine dn ?_
    refine iao slot.toNat (by rw [len_ints (H.at' v).slots]; exact hsl) ?_ (hT := upd_ne (upd_ne (onT_row hget))) (hn := (Int.toNat_of_nonneg ha).symm)
    refine soR (upd_ne (upd_ne (onT_row hget))) (ints_get (List.getElem?_eq_getElem hsl)) ?_
    (repeat' (first | refine asg ?_ | refine la ?_ | refine so ?_ | refine aops_nil ?_ | refine aw_seq ?_ | refine aw_region ?_ | refine aw_ret ?_ | fail))
    refine fin (sh_heap (H' := H.put (H.ref v).toNat { H.at' v with slots := (H.at' v).slots.set slot.toNat x }) ?_ rfl)
    refine sh_slots hget rfl (upd_ne (on_row (upd_at ?_))) fun q o hqi hq => upd_ne (on_row (upd_row hqi (upd_ne (upd_ne (onT_row hq)))))
    exact congrArg _ (ints_set _ _ _)
  · (repeat' (first | refine sk ?_ | refine mv ?_ | refine bi ?_ | refine pf ?_ | refine aops_nil ?_ | refine aw_seq ?_ | refine aw_region ?_ | refine aw_cond_f rfl ?_ | refine aw_skip ?_ | fail))
    refine aw_cond rfl (fun h4 => ?_) (fun h4 => ?_) <;> simp [h2] at h4
    (repeat' (first | refine mv ?_ | refine asg ?_ | refine la ?_ | refine so ?_ | refine aops_nil ?_ | refine aw_seq ?_ | refine aw_region ?_ | refine aw_ret ?_ | fail))
    refine fin (sh_keep ?_ ?_) <;> simp [setH, setE, h1, h2, keptH]
end Go.Proofs.YtnjihhheiiapnaaGreat
namespace Go.Proofs.YtnjihhheiiapnaaGreat
open Go Go.Proofs AW Go.RowKit
set_option maxHeartbeats 16000000 in
theorem rTrunc_ok (k : Nat) (a r : Int) (b : Bool) (h : anamnesisref02_Trunc.f (k + 1) a = some (r, b)) : Gives Tryz.prog 100 [iv a] (.tup [iv r, bv b]) := by
  have k1 := rKind_ok a
  have s1 := rsign_ok a
  unfold anamnesisref02_Trunc.f at h
  rw [Kind_f, Option.bind_some, Option.bind_some] at h
  generalize kindI a = x at *
  by_cases c1 : x < 2
  · rw [if_pos c1] at h
    obtain ⟨rfl, rfl⟩ := Prod.mk.inj (Option.some.inj h)
    refine gives_of Tryz.func100 rfl (Nat.le_of_ble_eq_true rfl) ?_
    (repeat' (first | refine mv ?_ | refine asg ?_ | refine bt ?_ | refine aops_nil ?_ | refine aw_seq ?_ | refine aw_region ?_ | refine aw_cond_t rfl ?_ | refine aw_ret ?_ | refine cl k1 ?_ | fail))
    refine fin (sh_ib ?_ ?_) <;> rfl
  rw [if_neg c1] at h
  by_cases c2 : x < 4
  · rw [if_pos c2] at h
    obtain ⟨rfl, rfl⟩ := Prod.mk.inj (Option.some.inj h)
    refine gives_of Tryz.func100 rfl (Nat.le_of_ble_eq_true rfl) ?_
    (repeat' (first | refine mv ?_ | refine asg ?_ | refine bt ?_ | refine bf ?_ | refine aops_nil ?_ | refine aw_seq ?_ | refine aw_region ?_ | refine aw_cond_t rfl ?_ | refine aw_cond_f rfl ?_ | refine aw_skip ?_ | refine aw_ret ?_ | refine cl k1 ?_ | fail))
    refine fin (sh_ib ?_ ?_) <;> rfl
  rw [if_neg c2] at h
  obtain ⟨⟨m, e⟩, h1, h⟩ := bind_get h
  dsimp only at h
  have q1 := rpart_ok _ a m e h1
  by_cases c3 : e > 0
  · rw [if_pos c3] at h
    obtain ⟨rfl, rfl⟩ := Prod.mk.inj (Option.some.inj h)
    refine gives_of Tryz.func100 rfl (Nat.le_of_ble_eq_true rfl) ?_
    (repeat' (first | refine mv ?_ | refine asg ?_ | refine bt ?_ | refine bf ?_ | refine ex ?_ | refine aops_nil ?_ | refine aw_seq ?_ | refine aw_region ?_ | refine aw_cond_t rfl ?_ | refine aw_cond_f rfl ?_ | refine aw_skip ?_ | refine aw_ret ?_ | refine cl k1 ?_ | refine cl q1 ?_ | fail))
    refine fin (sh_ib ?_ ?_) <;> rfl
  rw [if_neg c3] at h
  refine gives_of Tryz.func100 rfl (Nat.le_of_ble_eq_true rfl) ?_
  refine aw_seq ?_
  refine aw_region ?_
  (repeat' (first | refine asg ?_ | refine aops_nil ?_ | fail))
  iterate 3 (first | refine aw_seq ?_ | refine aw_region ?_)
  refine mv ?_
  refine cl k1 ?_
  refine bf ?_
  refine aops_nil ?_
  refine aw_cond_f rfl ?_
  refine aw_skip ?_
  iterate 3 (first | refine aw_seq ?_ | refine aw_region ?_)
  refine mv ?_
  refine cl k1 ?_
  refine bf ?_
  refine aops_nil ?_
  refine aw_cond_f rfl ?_
  refine aw_skip ?_
  refine aw_seq ?_
  refine aw_region ?_
  (repeat' (first | refine mv ?_ | refine asg ?_ | refine ex ?_ | refine aops_nil ?_ | refine cl q1 ?_ | fail))
  iterate 3 (first | refine aw_seq ?_ | refine aw_region ?_)
  refine mv ?_
  refine bf ?_
  refine aops_nil ?_
  refine aw_cond_f rfl ?_
  refine aw_skip ?_
  refine aw_cutE (ι := {y : Int // anamnesisref02_Trunc.j0 (k + 1) a y = some (r, b)}) (fun i => [(0, iv a), (4, iv i.1)]) ?_ ?_
  · by_cases c4 : e < -62
    · rw [if_pos c4] at h
      (repeat' (first | refine mv ?_ | refine asg ?_ | refine bt ?_ | refine aops_nil ?_ | refine aw_seq ?_ | refine aw_region ?_ | refine aw_cond_t rfl ?_ | fail))
      exact ⟨⟨_, h⟩, rfl, rfl, rfl, trivial⟩
    · rw [if_neg c4] at h
      have hu : 0 ≤ IntKind.u64.wrap (IntKind.i64.wrap (-e)) := by
        by_cases hu : 0 ≤ IntKind.u64.wrap (IntKind.i64.wrap (-e))
        · exact hu
        · rw [if_neg hu] at h; cases h
      rw [if_pos hu] at h
      iterate 2 (first | refine aw_seq ?_ | refine aw_region ?_)
      refine mv ?_
      refine bf ?_
      refine aops_nil ?_
      refine aw_cond_f rfl ?_
      refine aw_region ?_
      refine mv ?_
      refine mv ?_
      refine un ?_
      refine cv' ?_
      refine srv (shr .i64 m (IntKind.u64.wrap (IntKind.i64.wrap (-e)))) ?_ ?_ ?_
      · rw [Int.zero_sub]; exact hu
      · rw [Int.zero_sub]
      refine asg ?_
      refine aops_nil ?_
      exact ⟨⟨_, h⟩, rfl, rfl, rfl, trivial⟩
  · rintro ⟨y, h⟩
    show AWp _ _ _ _ ⟨[(0, iv a), (4, iv y)], noT⟩
    simp only [anamnesisref02_Trunc.j0, anamnesisref02_sign.f, Option.bind_some] at h
    cases hsg : decide (a < 0) with
    | true =>
      rw [hsg] at h s1
      rw [if_pos rfl] at h
      by_cases g1 : IntKind.i64.wrap (-y) < -1073741824
      · rw [if_pos g1] at h
        obtain ⟨rfl, rfl⟩ := Prod.mk.inj (Option.some.inj h)
        (repeat' (first | refine sk ?_ | refine mv ?_ | refine asg ?_ | refine bt ?_ | refine un ?_ | refine pt ?_ | refine aops_nil ?_ | refine aw_seq ?_ | refine aw_region ?_ | refine aw_cond_t rfl ?_ | refine aw_ret ?_ | refine cl s1 ?_ | fail))
        refine fin (sh_ib ?_ ?_) <;> first | rfl | rw [Int.zero_sub]
      rw [if_neg g1] at h
      by_cases g2 : IntKind.i64.wrap (-y) ≥ 1073741824
      · rw [if_pos g2] at h
        obtain ⟨rfl, rfl⟩ := Prod.mk.inj (Option.some.inj h)
        (repeat' (first | refine mv ?_ | refine asg ?_ | refine bt ?_ | refine bf ?_ | refine un ?_ | refine pf ?_ | refine aops_nil ?_ | refine aw_seq ?_ | refine aw_region ?_ | refine aw_cond_t rfl ?_ | refine aw_ret ?_ | refine cl s1 ?_ | fail))
        refine fin (sh_ib ?_ ?_) <;> first | rfl | rw [Int.zero_sub]
      rw [if_neg g2] at h
      obtain ⟨rfl, rfl⟩ := Prod.mk.inj (Option.some.inj h)
      (repeat' (first | refine mv ?_ | refine asg ?_ | refine bf ?_ | refine un ?_ | refine pf ?_ | refine aops_nil ?_ | refine aw_seq ?_ | refine aw_region ?_ | refine aw_cond_t rfl ?_ | refine aw_cond_f rfl ?_ | refine aw_skip ?_ | refine aw_ret ?_ | refine cl s1 ?_ | fail))
      refine fin (sh_ib ?_ ?_) <;> first | rfl | rw [Int.zero_sub]
    | false =>
      rw [hsg] at h s1
      rw [if_neg (by simp)] at h
      by_cases g1 : y < -1073741824
      · rw [if_pos g1] at h
        obtain ⟨rfl, rfl⟩ := Prod.mk.inj (Option.some.inj h)
        (repeat' (first | refine sk ?_ | refine mv ?_ | refine asg ?_ | refine bt ?_ | refine pt ?_ | refine aops_nil ?_ | refine aw_seq ?_ | refine aw_region ?_ | refine aw_cond_t rfl ?_ | refine aw_cond_f rfl ?_ | refine aw_skip ?_ | refine aw_ret ?_ | refine cl s1 ?_ | fail))
        refine fin (sh_ib ?_ ?_) <;> rfl
      rw [if_neg g1] at h
      by_cases g2 : y ≥ 1073741824
      · rw [if_pos g2] at h
        obtain ⟨rfl, rfl⟩ := Prod.mk.inj (Option.some.inj h)
        (repeat' (first | refine mv ?_ | refine asg ?_ | refine bt ?_ | refine bf ?_ | refine pf ?_ | refine aops_nil ?_ | refine aw_seq ?_ | refine aw_region ?_ | refine aw_cond_t rfl ?_ | refine aw_cond_f rfl ?_ | refine aw_skip ?_ | refine aw_ret ?_ | refine cl s1 ?_ | fail))
        refine fin (sh_ib ?_ ?_) <;> rfl
      rw [if_neg g2] at h
      obtain ⟨rfl, rfl⟩ := Prod.mk.inj (Option.some.inj h)
      (repeat' (first | refine mv ?_ | refine asg ?_ | refine bf ?_ | refine pf ?_ | refine aops_nil ?_ | refine aw_seq ?_ | refine aw_region ?_ | refine aw_cond_f rfl ?_ | refine aw_skip ?_ | refine aw_ret ?_ | refine cl s1 ?_ | fail))
      refine fin (sh_ib ?_ ?_) <;> rfl
end Go.Proofs.YtnjihhheiiapnaaGreat
namespace Go.Proofs.YtnjihhheiiapnaaGreat
open Go Go.RowKit Go.Proofs FM
set_option maxHeartbeats 4000000
def flt_Less.f (a0 a1 : Int) : Option Bool := .some (Ieee.double.order (fbits a0) (fbits a1) == .some .lt)
def flt_Equal.f (a0 a1 : Int) : Option Bool := .some (Ieee.double.order (fbits a0) (fbits a1) == .some .eq)
theorem order_place (s : Bool) (p : Nat) (hp : p < 2 ^ 63) : anamnesisref02_order.f (toI s p) = some (place s p) := by
  unfold anamnesisref02_order.f
  rw [sign_eq s p hp, Option.bind_some]
  unfold place
  cases s
  · rw [if_neg (by decide), if_neg (by decide)]; rfl
  · rw [if_pos rfl, if_pos rfl, plain_eq true p hp, Option.bind_some, w64i (by omega) (by omega)]
theorem kind_pos (p : Nat) (hp : p < 2 ^ 63) : (kindOf p > 0 ↔ p ≤ 2047 * 2 ^ 52) := by
  rcases ways p hp with ⟨h, k⟩ | ⟨h, k⟩ | ⟨h, k⟩ | ⟨h, h', k⟩ <;> omega
theorem order_toI (s t : Bool) (p q : Nat) (hp : p < 2 ^ 63) (hq : q < 2 ^ 63) :
    Ieee.double.order (fbits (toI s p)) (fbits (toI t q)) = if p ≤ 2047 * 2 ^ 52 ∧ q ≤ 2047 * 2 ^ 52 then some (compare (place s p) (place t q)) else none := by
  unfold Ieee.Format.order
  rw [read_toI s p hp, read_toI t q hq]
  by_cases h : p ≤ 2047 * 2 ^ 52 ∧ q ≤ 2047 * 2 ^ 52
  · rw [if_pos h, order_dat s t p q h.1 h.2]
  · rw [if_neg h]
    by_cases h1 : p ≤ 2047 * 2 ^ 52
    · rw [dat_nan t q (by omega)]
      unfold Ieee.Datum.order; cases dat s p <;> rfl
    · rw [dat_nan s p (by omega)]
      rfl
theorem less_toI (s t : Bool) (p q : Nat) (hp : p < 2 ^ 63) (hq : q < 2 ^ 63) :
    flt_Less.f (toI s p) (toI t q) = some (decide (p ≤ 2047 * 2 ^ 52 ∧ q ≤ 2047 * 2 ^ 52 ∧ place s p < place t q)) := by
  unfold flt_Less.f
  rw [order_toI s t p q hp hq]
  by_cases h : p ≤ 2047 * 2 ^ 52 ∧ q ≤ 2047 * 2 ^ 52
  · rw [if_pos h]
    by_cases h2 : place s p < place t q
    · rw [Int.compare_eq_lt.2 h2, decide_eq_true ⟨h.1, h.2, h2⟩]; rfl
    · rw [decide_eq_false (fun x => h2 x.2.2)]
      have : ¬ compare (place s p) (place t q) = .lt := fun e => h2 (Int.compare_eq_lt.1 e)
      rw [show (some (compare (place s p) (place t q)) == some Ordering.lt) = false from beq_eq_false_iff_ne.2 (fun e => this (Option.some.inj e))]
  · rw [if_neg h, decide_eq_false (fun x => h ⟨x.1, x.2.1⟩)]; rfl
theorem equal_toI (s t : Bool) (p q : Nat) (hp : p < 2 ^ 63) (hq : q < 2 ^ 63) :
    flt_Equal.f (toI s p) (toI t q) = some (decide (p ≤ 2047 * 2 ^ 52 ∧ q ≤ 2047 * 2 ^ 52 ∧ place s p = place t q)) := by
  unfold flt_Equal.f
  rw [order_toI s t p q hp hq]
  by_cases h : p ≤ 2047 * 2 ^ 52 ∧ q ≤ 2047 * 2 ^ 52
  · rw [if_pos h]
    by_cases h2 : place s p = place t q
    · rw [Int.compare_eq_eq.2 h2, decide_eq_true ⟨h.1, h.2, h2⟩]; rfl
    · rw [decide_eq_false (fun x => h2 x.2.2)]
      have : ¬ compare (place s p) (place t q) = .eq := fun e => h2 (Int.compare_eq_eq.1 e)
      rw [show (some (compare (place s p) (place t q)) == some Ordering.eq) = false from beq_eq_false_iff_ne.2 (fun e => this (Option.some.inj e))]
  · rw [if_neg h, decide_eq_false (fun x => h ⟨x.1, x.2.1⟩)]; rfl
theorem in64_wf {a : Int} (h : In64 a) : (Lit.int .i64 a).wf = true := by obtain ⟨h1, h2⟩ := h; simp only [Lit.wf, IntKind.min, IntKind.max, IntKind.signed, IntKind.bits, Bool.and_eq_true, decide_eq_true_eq, if_true]; omega
theorem Less_told (a b : Int) (ha : In64 a) (hb : In64 b) : anamnesisref02_Less.f a b = flt_Less.f a b := by
  obtain ⟨s, p, hp, rfl⟩ := split a (in64_wf ha)
  obtain ⟨t, q, hq, rfl⟩ := split b (in64_wf hb)
  unfold anamnesisref02_Less.f
  rw [less_toI s t p q hp hq, Kind_eq s p hp, Kind_eq t q hq, order_place s p hp, order_place t q hq]
  simp only [Option.bind_some]
  have k1 := kind_pos p hp
  have k2 := kind_pos q hq
  by_cases h1 : p ≤ 2047 * 2 ^ 52
  · rw [if_pos (k1.2 h1)]
    by_cases h2 : q ≤ 2047 * 2 ^ 52
    · rw [if_pos (k2.2 h2)]; simp [h1, h2]
    · rw [if_neg (fun e => h2 (k2.1 e))]; simp [h2]
  · rw [if_neg (fun e => h1 (k1.1 e))]; simp [h1]
theorem Equal_told (a b : Int) (ha : In64 a) (hb : In64 b) : anamnesisref02_Equal.f a b = flt_Equal.f a b := by
  obtain ⟨s, p, hp, rfl⟩ := split a (in64_wf ha)
  obtain ⟨t, q, hq, rfl⟩ := split b (in64_wf hb)
  unfold anamnesisref02_Equal.f
  rw [equal_toI s t p q hp hq, Kind_eq s p hp, Kind_eq t q hq, order_place s p hp, order_place t q hq]
  simp only [Option.bind_some]
  have k1 := kind_pos p hp
  have k2 := kind_pos q hq
  by_cases h1 : p ≤ 2047 * 2 ^ 52
  · rw [if_pos (k1.2 h1)]
    by_cases h2 : q ≤ 2047 * 2 ^ 52
    · rw [if_pos (k2.2 h2)]; simp [h1, h2, BEq.beq]
    · rw [if_neg (fun e => h2 (k2.1 e))]; simp [h2]
  · rw [if_neg (fun e => h1 (k1.1 e))]; simp [h1]
end Go.Proofs.YtnjihhheiiapnaaGreat
