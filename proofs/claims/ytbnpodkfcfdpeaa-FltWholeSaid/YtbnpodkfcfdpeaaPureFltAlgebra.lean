/- Sums and products do not hang on order; a difference is the sum with the other sign; results with turned signs are turned; what is told is canonical. No condition. -/
import Derived.Test.YtbnpodkfcfdpeaaPureFltKinds
namespace Go.Proofs.Ytbnpodkfcfdpeaa.FA
open Go.RowKit Go.Proofs.Ytbnpodkfcfdpeaa.PFlt Go.Proofs.YtbnpodkfcfdpeaaW.PrintWords Go.Proofs.YtbnpodkfcfdpeaaW.PrintLast Go.Proofs.YtbnpodkfcfdpeaaW.PrintMore FM
set_option linter.unusedSimpArgs false
open Ieee (Datum)

/-- What each of the four operations comes to, exactly. -/
def opd (o : Int) (d e : Datum) : Option Datum :=
  if o = 0 then d.sum e else if o = 1 then d.sum e.opposite else if o = 2 then d.product e else d.quotient 54 e
theorem sum_no (d e : Datum) : ∀ s t, d.sum e ≠ some (.nan s t) := by
  intro u v; cases d <;> cases e <;> simp [Datum.sum]
theorem product_no (d e : Datum) : ∀ s t, d.product e ≠ some (.nan s t) := by
  intro u v; cases d <;> cases e <;> simp [Datum.product] <;> split <;> simp
theorem quotient_no (d e : Datum) : ∀ s t, d.quotient 54 e ≠ some (.nan s t) := by
  intro u v; cases d <;> cases e <;> simp [Datum.quotient]
  split
  · split <;> simp
  · simp
theorem opd_no (o : Int) (d e : Datum) : ∀ s t, opd o d e ≠ some (.nan s t) := by
  unfold opd
  split
  · exact sum_no _ _
  split
  · exact sum_no _ _
  split
  · exact product_no _ _
  · exact quotient_no _ _
theorem opp_dat (s : Bool) (p : Nat) : (dat s p).opposite = dat (!s) p := by
  unfold dat
  split
  · rfl
  split
  · rfl
  split <;> rfl
theorem Op_flt (o : Int) (ho : 0 ≤ o) (ho2 : o < 4) (s t : Bool) (p q : Nat) (hp : p < 2 ^ 63) (hq : q < 2 ^ 63) :
    flt_Op.f o (toI s p) (toI t q) = some (told (opd o (dat s p) (dat t q))) := by
  unfold flt_Op.f opd Ieee.Format.add Ieee.Format.sub Ieee.Format.mul Ieee.Format.div
  rw [read_toI s p hp, read_toI t q hq]
  congr 1
  by_cases h0 : o = 0
  · rw [if_pos h0, if_pos h0, fres_told _ (sum_no _ _)]
  rw [if_neg h0, if_neg h0]
  by_cases h1 : o = 1
  · rw [if_pos h1, if_pos h1, fres_told _ (sum_no _ _)]
  rw [if_neg h1, if_neg h1]
  by_cases h2 : o = 2
  · rw [if_pos h2, if_pos h2, fres_told _ (product_no _ _)]
  rw [if_neg h2, if_neg h2, if_pos (by omega), show Ieee.double.fractionBits + 2 = 54 from rfl]
  exact fres_told _ (quotient_no _ _)

/-- What is told is the NaN, or a sign and a rung. -/
theorem told_form (o : Option Datum) : told o = toI false 9221120237041090561 ∨ ∃ u r, r ≤ 2047 * 2 ^ 52 ∧ told o = toI u r ∧ told (o.map Datum.opposite) = toI (!u) r := by
  cases o with
  | none => left; rfl
  | some d =>
    cases d with
    | nan s t => left; rfl
    | infinity s => right; exact ⟨s, _, Nat.le_refl _, rfl, rfl⟩
    | number s m e =>
      right
      refine ⟨s, (if m = 0 then 0 else rung m e), ?_, rfl, rfl⟩
      split
      · omega
      · exact rung_le m e
theorem sum_comm_all (d e : Datum) : d.sum e = e.sum d := by
  cases d with
  | nan s t => cases e <;> rfl
  | infinity s =>
    cases e with
    | nan _ _ => rfl
    | infinity t =>
      show (if s = t then some (Datum.infinity s) else none) = if t = s then some (Datum.infinity t) else none
      by_cases h : s = t
      · rw [if_pos h, if_pos h.symm, h]
      · rw [if_neg h, if_neg (fun x => h x.symm)]
    | number _ _ _ => rfl
  | number s m i =>
    cases e with
    | nan _ _ => rfl
    | infinity t => rfl
    | number t n j => exact sum_comm s t m n i j
theorem product_comm_all (d e : Datum) : d.product e = e.product d := by
  cases d with
  | nan s t => cases e <;> rfl
  | infinity s =>
    cases e with
    | nan _ _ => rfl
    | infinity t => show some (Datum.infinity (s ^^ t)) = some (Datum.infinity (t ^^ s)); rw [Bool.xor_comm]
    | number _ _ _ => rfl
  | number s m i =>
    cases e with
    | nan _ _ => rfl
    | infinity t => rfl
    | number t n j => show some (Datum.number (s ^^ t) (m * n) (i + j)) = some (Datum.number (t ^^ s) (n * m) (j + i)); rw [Bool.xor_comm, Nat.mul_comm, Int.add_comm]
theorem bnx (s t : Bool) : (!s ^^ t) = !(s ^^ t) := by cases s <;> cases t <;> rfl
theorem bxn (s t : Bool) : (s ^^ !t) = !(s ^^ t) := by cases s <;> cases t <;> rfl
theorem product_opp (d e : Datum) : d.opposite.product e = (d.product e).map Datum.opposite := by
  cases d <;> cases e <;> simp [Datum.product, Datum.opposite, bnx, bxn] <;> split <;> simp [Datum.opposite, bnx, bxn]
theorem quotient_opp_l (d e : Datum) : d.opposite.quotient 54 e = (d.quotient 54 e).map Datum.opposite := by
  cases d <;> cases e <;> simp [Datum.quotient, Datum.opposite, bnx]
  split
  · split <;> simp [Datum.opposite]
  · simp [Datum.opposite]
theorem quotient_opp_r (d e : Datum) : d.quotient 54 e.opposite = (d.quotient 54 e).map Datum.opposite := by
  cases d <;> cases e <;> simp [Datum.quotient, Datum.opposite, bxn]
  split
  · split <;> simp [Datum.opposite]
  · simp [Datum.opposite]
theorem signed_not (s : Bool) (m k : Nat) : Ieee.signed (!s) m k = -Ieee.signed s m k := by
  rw [signed_shift, signed_shift]; cases s <;> simp
/-- A sum with both signs turned is turned, or a zero. -/
theorem sum_opp (d e : Datum) : d.opposite.sum e.opposite = (d.sum e).map Datum.opposite ∨ ∃ u v i, d.sum e = some (.number u 0 i) ∧ d.opposite.sum e.opposite = some (.number v 0 i) := by
  cases d with
  | nan s t => left; cases e <;> rfl
  | infinity s =>
    left
    cases e with
    | nan _ _ => rfl
    | infinity t => cases s <;> cases t <;> rfl
    | number _ _ _ => rfl
  | number s m i =>
    cases e with
    | nan _ _ => left; rfl
    | infinity t => left; rfl
    | number t n j =>
      have e1 : (Datum.number s m i).sum (.number t n j) = some (.number (if Ieee.signed s m (i - min i j).toNat + Ieee.signed t n (j - min i j).toNat = 0 then s && t else decide (Ieee.signed s m (i - min i j).toNat + Ieee.signed t n (j - min i j).toNat < 0)) (Ieee.signed s m (i - min i j).toNat + Ieee.signed t n (j - min i j).toNat).natAbs (min i j)) := rfl
      have e2 : (Datum.number s m i).opposite.sum (Datum.number t n j).opposite = some (.number (if Ieee.signed (!s) m (i - min i j).toNat + Ieee.signed (!t) n (j - min i j).toNat = 0 then !s && !t else decide (Ieee.signed (!s) m (i - min i j).toNat + Ieee.signed (!t) n (j - min i j).toNat < 0)) (Ieee.signed (!s) m (i - min i j).toNat + Ieee.signed (!t) n (j - min i j).toNat).natAbs (min i j)) := rfl
      rw [e1, e2, signed_not, signed_not]
      generalize Ieee.signed s m (i - min i j).toNat = x
      generalize Ieee.signed t n (j - min i j).toNat = y
      generalize min i j = b
      by_cases h : x + y = 0
      · right
        refine ⟨s && t, !s && !t, b, ?_, ?_⟩
        · rw [if_pos h, h]; rfl
        · rw [if_pos (by omega), show -x + -y = 0 by omega]; rfl
      · left
        rw [if_neg h, if_neg (by omega), show (-x + -y).natAbs = (x + y).natAbs by omega]
        show _ = some (Datum.number (!decide (x + y < 0)) _ _)
        congr 2
        by_cases h2 : x + y < 0
        · rw [decide_eq_true h2, decide_eq_false (by omega)]; rfl
        · rw [decide_eq_false h2, decide_eq_true (by omega)]; rfl
theorem opp_opp (d : Datum) : d.opposite.opposite = d := by cases d <;> simp [Datum.opposite]
theorem opt_opp (o : Option Datum) : (o.map Datum.opposite).map Datum.opposite = o := by
  cases o with
  | none => rfl
  | some d => show some d.opposite.opposite = _; rw [opp_opp]
theorem kind_told (u : Bool) (r : Nat) (h : r ≤ 2047 * 2 ^ 52) : anamnesisref02_Kind.f (toI u r) = some (kindOf r) := Kind_eq u r (by omega)

/-- Of one of the four operations all that the law asks. -/
theorem round_of (k : Nat) (o : Int) (ho : 0 ≤ o) (ho2 : o < 4) (s t : Bool) (p q : Nat) (hp : p < 2 ^ 63) (hq : q < 2 ^ 63) :
    anamnesislaw02_FltAlgebra.l0 (k + 3) (toI s p) (toI t q) (-9223372036854775808) (toI (!s) p) (toI (!t) q) o =
    anamnesislaw02_FltAlgebra.l0 k (toI s p) (toI t q) (-9223372036854775808) (toI (!s) p) (toI (!t) q) (o + 1) := by
  have f0 := Op_flt o ho ho2 s t p q hp hq
  have f1 := Op_flt o ho ho2 t s q p hq hp
  have f2 := Op_flt o ho ho2 (!s) t p q hp hq
  have f3 := Op_flt o ho ho2 s (!t) p q hp hq
  have f4 := Op_flt o ho ho2 (!s) (!t) p q hp hq
  rw [← opp_dat s p] at f2 f4
  rw [← opp_dat t q] at f3 f4
  have hw : wrap64 (o + 1) = o + 1 := w64 (by omega) (by omega)
  have ff : ¬ (false = true) := by decide
  -- what is told is canonical
  have hcan : flt_Canon.f (told (opd o (dat s p) (dat t q))) = some (told (opd o (dat s p) (dat t q))) := by
    rcases told_form (opd o (dat s p) (dat t q)) with h | ⟨u, r, hr, h, _⟩
    · rw [h, Canon_flt false 9221120237041090561 (by omega), if_neg (by omega)]; rfl
    · rw [h, Canon_flt u r (by omega), if_pos hr]
  have hcomm : o = 0 ∨ o = 2 → told (opd o (dat t q) (dat s p)) = told (opd o (dat s p) (dat t q)) := by
    rintro (rfl | rfl)
    · exact congrArg told (sum_comm_all _ _)
    · exact congrArg told (product_comm_all _ _)
  have hturn : 1 < o → opd o (dat s p).opposite (dat t q) = (opd o (dat s p) (dat t q)).map Datum.opposite ∧ opd o (dat s p) (dat t q).opposite = (opd o (dat s p) (dat t q)).map Datum.opposite ∧
      opd o (dat s p).opposite (dat t q).opposite = opd o (dat s p) (dat t q) := by
    intro h
    have h23 : o = 2 ∨ o = 3 := by omega
    rcases h23 with rfl | rfl
    · show (dat s p).opposite.product (dat t q) = _ ∧ (dat s p).product (dat t q).opposite = _ ∧ (dat s p).opposite.product (dat t q).opposite = (dat s p).product (dat t q)
      refine ⟨product_opp _ _, ?_, ?_⟩
      · rw [product_comm_all, product_opp, product_comm_all (dat t q)]; rfl
      · rw [product_opp, product_comm_all, product_opp, opt_opp, product_comm_all]
    · show (dat s p).opposite.quotient 54 (dat t q) = _ ∧ (dat s p).quotient 54 (dat t q).opposite = _ ∧ (dat s p).opposite.quotient 54 (dat t q).opposite = (dat s p).quotient 54 (dat t q)
      refine ⟨quotient_opp_l _ _, quotient_opp_r _ _, ?_⟩
      rw [quotient_opp_l, quotient_opp_r, opt_opp]
  have hsum : o < 2 → opd o (dat s p).opposite (dat t q).opposite = (opd o (dat s p) (dat t q)).map Datum.opposite ∨ ∃ u v i, opd o (dat s p) (dat t q) = some (.number u 0 i) ∧ opd o (dat s p).opposite (dat t q).opposite = some (.number v 0 i) := by
    intro h
    have h01 : o = 0 ∨ o = 1 := by omega
    rcases h01 with rfl | rfl
    · exact sum_opp _ _
    · exact sum_opp _ _
  -- the walk
  rw [anamnesislaw02_FltAlgebra.l0, if_pos ho2, f0, Option.bind_some, hcan, Option.bind_some, if_pos rfl]
  have hj1 : (if o = 1 then anamnesislaw02_FltAlgebra.j1 (k + 2) (toI s p) (toI t q) (-9223372036854775808) (toI (!s) p) (toI (!t) q) o (told (opd o (dat s p) (dat t q))) false
      else if o = 3 then anamnesislaw02_FltAlgebra.j1 (k + 2) (toI s p) (toI t q) (-9223372036854775808) (toI (!s) p) (toI (!t) q) o (told (opd o (dat s p) (dat t q))) false
      else (flt_Op.f o (toI t q) (toI s p)).bind fun t248 => anamnesislaw02_FltAlgebra.j1 (k + 2) (toI s p) (toI t q) (-9223372036854775808) (toI (!s) p) (toI (!t) q) o (told (opd o (dat s p) (dat t q))) (t248 != told (opd o (dat s p) (dat t q)))) =
      anamnesislaw02_FltAlgebra.j1 (k + 2) (toI s p) (toI t q) (-9223372036854775808) (toI (!s) p) (toI (!t) q) o (told (opd o (dat s p) (dat t q))) false := by
    by_cases h1 : o = 1
    · rw [if_pos h1]
    rw [if_neg h1]
    by_cases h3 : o = 3
    · rw [if_pos h3]
    rw [if_neg h3, f1, Option.bind_some, hcomm (by omega), bne_self_eq_false]
  rw [hj1, anamnesislaw02_FltAlgebra.j1, if_neg ff]
  clear hj1 hcan hcomm f1
  have nan0 : kindOf 9221120237041090561 = 0 := by decide
  rcases told_form (opd o (dat s p) (dat t q)) with h | ⟨u, r, hr, h, hop⟩
  · -- a NaN
    rw [h, Kind_eq false 9221120237041090561 (by omega), Option.bind_some, nan0, if_neg (show ¬ (0 : Int) > 0 by omega), ite_self, anamnesislaw02_FltAlgebra.j2, if_neg ff, Kind_eq false 9221120237041090561 (by omega), Option.bind_some, nan0, if_neg (show ¬ (0 : Int) > 0 by omega), ite_self, hw]
  · rw [h, kind_told u r hr, Option.bind_some, xor_top u r (by omega), f2, f3, f4]
    simp only [Option.bind_some]
    have kp : kindOf r > 0 := by have := FA.ways r (by omega); omega
    rw [if_pos kp]
    by_cases h1 : o > 1
    · obtain ⟨g1, g2, g3⟩ := hturn (by omega)
      rw [if_pos h1, g1, g2, g3, hop, h, if_pos rfl, if_pos rfl, bne_self_eq_false, anamnesislaw02_FltAlgebra.j2, if_neg ff, if_neg (by omega), hw]
    · rw [if_neg h1, anamnesislaw02_FltAlgebra.j2, if_neg ff, if_pos (by omega), kind_told u r hr, Option.bind_some, if_pos kp, f4, Option.bind_some, xor_top u r (by omega), hw]
      by_cases h2 : kindOf r = 2
      · rw [if_pos h2]
      · rw [if_neg h2]
        rcases hsum (by omega) with g | ⟨x, y, i, g, _⟩
        · rw [g, hop, if_pos rfl]
        · exfalso
          rw [g, told_number, if_pos rfl] at h
          obtain ⟨_, rfl⟩ := (toI_inj x u 0 r (by omega) (by omega)).1 h
          exact h2 rfl
end Go.Proofs.Ytbnpodkfcfdpeaa.FA
namespace Go.Proofs.Ytbnpodkfcfdpeaa.Pure
open Go.RowKit Go.Proofs.Ytbnpodkfcfdpeaa.PFlt Go.Proofs.YtbnpodkfcfdpeaaW.PrintWords Go.Proofs.YtbnpodkfcfdpeaaW.PrintLast FM Go.Proofs.Ytbnpodkfcfdpeaa.FA
theorem FltAlgebra : anamnesislaw02_FltAlgebra.Pure := by
  intro a b ha hb
  obtain ⟨s, p, hp, rfl⟩ := split a ha
  obtain ⟨t, q, hq, rfl⟩ := split b hb
  refine ⟨0 + 1 + 3 + 3 + 3 + 3, ?_⟩
  unfold anamnesislaw02_FltAlgebra.f
  rw [show anamnesislaw02_fixed.f = some true from rfl, Option.bind_some, xor_top s p hp, xor_top t q hq]
  rw [round_of _ 0 (by omega) (by omega) s t p q hp hq, round_of _ (0 + 1) (by omega) (by omega) s t p q hp hq, round_of _ (0 + 1 + 1) (by omega) (by omega) s t p q hp hq, round_of _ (0 + 1 + 1 + 1) (by omega) (by omega) s t p q hp hq]
  rw [anamnesislaw02_FltAlgebra.l0, if_neg (by omega), Kind_eq t q hq, Option.bind_some, Op_flt 1 (by omega) (by omega) s t p q hp hq, Option.bind_some, Op_flt 0 (by omega) (by omega) s (!t) p q hp hq, Option.bind_some, ← opp_dat t q]
  have : opd 1 (dat s p) (dat t q) = opd 0 (dat s p) (dat t q).opposite := rfl
  rw [this, beq_self_eq_true, ite_self]
end Go.Proofs.Ytbnpodkfcfdpeaa.Pure
