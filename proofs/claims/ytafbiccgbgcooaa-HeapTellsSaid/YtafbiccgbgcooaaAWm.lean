/- Abstract states: bits of whole numbers, quotients. -/
import Derived.Test.YtafbiccgbgcooaaAWl
import Derived.Laws.BitsLemmas
namespace Go.Proofs.Ytafbiccgbgcooaa.AW
open Go Go.RowKit
set_option linter.unusedVariables false
set_option linter.unusedSimpArgs false

theorem wrap_id {n : Int} (h : -9223372036854775808 ≤ n ∧ n ≤ 9223372036854775807) : IntKind.i64.wrap n = n := by
  rw [IntKind.wrap_i64]
  have e1 : (n + 9223372036854775808) % 18446744073709551616 = n + 9223372036854775808 := Int.emod_eq_of_lt (by omega) (by omega)
  omega
theorem mask_nat (v : Int) (k : Nat) (hk : k < 64) : ((BitVec.ofInt 64 v &&& BitVec.ofNat 64 (2 ^ k - 1)).toNat : Int) = v % (2 ^ k : Nat) := by
  have h1 : (2 ^ k : Nat) ∣ 2 ^ 64 := Nat.pow_dvd_pow 2 (by omega)
  have h2 : 2 ^ k - 1 < 2 ^ 64 := by
    have : 2 ^ k < 2 ^ 64 := Nat.pow_lt_pow_right (by omega) (by omega)
    omega
  rw [BitVec.toNat_and, BitVec.toNat_ofInt, BitVec.toNat_ofNat, Nat.mod_eq_of_lt h2, Nat.and_two_pow_sub_one_eq_mod]
  have h0 : (0 : Int) ≤ v % (2 ^ 64 : Nat) := Int.emod_nonneg _ (by decide)
  rw [Int.natCast_emod, Int.toNat_of_nonneg h0]
  exact Int.emod_emod_of_dvd _ (by exact_mod_cast h1)
section
variable {P : Program} {N : Nat} {Q : Exit → ASt → Prop} {st : ASt} {o : Oper}
theorem y_mask {t t' : TypeId} {p q : Operand} {v m : Int} (k : Nat) (hk : k < 64) (ho : o.op = .binOp .and t p q t') (hp : ev st p = some (.v (.int .i64 v))) (hq : ev st q = some (.v (.int .i64 m))) (hm : m = ((2 ^ k - 1 : Nat) : Int)) :
    AYield P N Q o st (.v (.int .i64 (v % (2 ^ k : Nat)))) :=
  y_bin (r := .int .i64 (v % (2 ^ k : Nat))) ho hp hq fun w => by
    have h : (do eqGuard .and t p q (.int .i64 v) (.int .i64 m); binOp .and t (.int .i64 v) (.int .i64 m) : Sem Value).run P w = .ok (.int .i64 (IntKind.i64.wrap ((BitVec.ofInt 64 v &&& BitVec.ofInt 64 m).toNat : Int))) w := rfl
    rw [h, hm, BitVec.ofInt_natCast, mask_nat v k hk, wrap_id]
    have h1 : (2 ^ k : Nat) ≤ 2 ^ 63 := Nat.pow_le_pow_right (by omega) (by omega)
    have h2 : 0 < (2 ^ k : Nat) := Nat.two_pow_pos k
    have h3 : (0 : Int) ≤ v % (2 ^ k : Nat) := Int.emod_nonneg _ (by omega)
    have h4 : v % (2 ^ k : Nat) < (2 ^ k : Nat) := Int.emod_lt_of_pos _ (by omega)
    omega
theorem y_shr {t t' : TypeId} {p q : Operand} {k kk : IntKind} {v n c : Int} (hn : 0 ≤ n) (ho : o.op = .binOp .shr t p q t') (hp : ev st p = some (.v (.int k v))) (hq : ev st q = some (.v (.int kk n))) (hc : (2 : Int) ^ (min n.toNat k.bits) = c) :
    AYield P N Q o st (.v (.int k (v / c))) :=
  y_bin (r := .int k (v / c)) ho hp hq fun w => by
    have h0 : ¬ n < 0 := by omega
    have h1 : (0 : Int) ≤ 2 ^ (min n.toNat k.bits) := Int.pow_nonneg (by decide)
    subst hc
    simp only [eqGuard_shr, binOp, Op.shift, h0, if_false]
    rw [← Int.fdiv_eq_ediv_of_nonneg _ h1]
    rfl
theorem y_shl {t t' : TypeId} {p q : Operand} {kk : IntKind} {v n c : Int} (hn : 0 ≤ n) (ho : o.op = .binOp .shl t p q t') (hp : ev st p = some (.v (.int .i64 v))) (hq : ev st q = some (.v (.int kk n))) (hc : (2 : Int) ^ (min n.toNat 64) = c)
    (h : -9223372036854775808 ≤ v * c ∧ v * c ≤ 9223372036854775807) : AYield P N Q o st (.v (.int .i64 (v * c))) :=
  y_bin (r := .int .i64 (v * c)) ho hp hq fun w => by
    have h0 : ¬ n < 0 := by omega
    subst hc
    simp only [eqGuard_shl, binOp, Op.shift, h0, if_false]
    rw [show IntKind.i64.bits = 64 from rfl]
    simp only [Sem.run_bind, Sem.run_pure, Result.andThen_ok]
    show Result.ok (Value.int .i64 (IntKind.i64.wrap _)) w = _
    rw [wrap_id h]
theorem y_iaddrN {z ix : Operand} {t e s : Nat} {es : List (List AV)} {c : List AV} {kk : IntKind} {n : Int} (q : Nat) (hc : es[q]? = some c) (ho : o.op = .indexAddr t z ix := by rfl) (hz : ev st z = some (.sl s es) := by rfl) (hix : ev st ix = some (.v (.int kk n)) := by rfl)
    (hn : n = (q : Int) := by rfl) (ht : elOf P t = some (e, s) := by rfl) : AYield P N Q o st (.ip c) :=
  y_iaddr (ho := ho) (ht := ht) (hz := hz) (hix := hix) (h0 := by omega) (hc := by rw [hn]; simpa using hc)
theorem y_loadsN {z : Operand} {t n : Nat} {cs : List AV} {x : AV} (ho : o.op = .load t z := by rfl) (hz : ev st z = some x := by rfl) (hl : look st x = some cs := by rfl) (ht : szOf P t = some (n, true) := by rfl) (hn : Nat.ble n cs.length = true := by rfl) : AYield P N Q o st (.agg (cs.take n)) :=
  y_loads ho ht hz hl (by simpa using hn)
def valsOf : List AV → Option (List Value)
  | [] => some []
  | .v x :: r => (valsOf r).map (x :: ·)
  | _ :: _ => none
theorem valsOf_map : ∀ {l : List AV} {vs : List Value}, valsOf l = some vs → l = vs.map .v
  | [], vs, h => by simp [valsOf] at h; subst h; rfl
  | .v x :: r, vs, h => by
    simp only [valsOf, Option.map_eq_some_iff] at h
    obtain ⟨u, hu, rfl⟩ := h
    rw [valsOf_map hu]; rfl
  | .agg _ :: _, _, h => by simp [valsOf] at h
  | .tup _ :: _, _, h => by simp [valsOf] at h
  | .sl _ _ :: _, _, h => by simp [valsOf] at h
  | .own _ :: _, _, h => by simp [valsOf] at h
  | .ptr _ _ _ :: _, _, h => by simp [valsOf] at h
  | .ip _ :: _, _, h => by simp [valsOf] at h
  | .clo _ _ :: _, _, h => by simp [valsOf] at h
/-- A call of what has no text: told by the model. -/
theorem y_ext {g : Nat} {z : Operand} {xs : Array Operand} {ts : Array TypeId} {l : List AV} {vs : List Value} {r : Value} (hrun : ∀ w, (callFunc g vs.toArray).run P w = .ok (.value r) w) (ho : o.op = .call ⟨.value z, xs, ts⟩)
    (hz : ev st z = some (.clo g [])) (hl : evs st xs.toList = some l) (hv : valsOf l = some vs) : AYield P N Q o st (.v r) :=
  AYield.still fun I0 w0 β a w hr => by
    have hzr := hr.ev hz
    generalize hy : a.eval z = yv at hzr
    cases hzr with
    | clo _ _ cs hc _ =>
      have hcs : cs = #[] := Array.eq_empty_of_size_eq_zero (by simpa using hc.symm)
      subst hcs
      have hm := evs_map hl
      have hlen : l.length = xs.size := by have := congrArg List.length hm; simpa using this.symm
      have hvl := valsOf_map hv
      have hargs : xs.map a.eval = vs.toArray := by
        apply Array.ext'
        rw [Array.toList_map]
        apply List.ext_getElem?
        intro j
        rw [List.getElem?_map]
        cases hj : xs.toList[j]? with
        | none =>
          have h1 : xs.toList.length ≤ j := List.getElem?_eq_none_iff.1 hj
          have h2 : vs.length = l.length := by rw [hvl]; simp
          rw [List.getElem?_eq_none (by simp at h1 ⊢; omega)]; rfl
        | some q =>
          have h1 : (xs.toList.map (ev st))[j]? = some (ev st q) := by simp [hj]
          rw [hm, hvl] at h1
          simp only [List.getElem?_map] at h1
          cases hvj : vs[j]? with
          | none => simp [hvj] at h1
          | some u =>
            simp only [hvj, Option.map_some, Option.some.injEq] at h1
            have := (hr.ev h1.symm).v_inv
            simp [this, hvj]
      refine ⟨r, ?_, .v r⟩
      simp [execOp, ho, resolve, hy, Deferred.ofValue, invoke, hargs, hrun w]
section steps
variable {ops : Array Oper} {i : Nat} {l : List Nat} {d : Nat} {x y : AV}
theorem ms {t t' : TypeId} {p q : Operand} {v m : Int} (k : Nat) (kk : AOps P N ops Q l (st.put d (.v (.int .i64 (v % (2 ^ k : Nat)))))) (ho : (ops.getD i default).op = .binOp .and t p q t' := by rfl) (hp : ev st p = some (.v (.int .i64 v)) := by rfl) (hq : ev st q = some (.v (.int .i64 m)) := by rfl)
    (hk : k < 64 := by decide) (hm : m = ((2 ^ k - 1 : Nat) : Int) := by rfl) (hi : Nat.blt i ops.size = true := by rfl)
    (hg : opAt N ops st i = true := by rfl) (hd : (ops.getD i default).dst = some d := by rfl) (hN : Nat.blt d N = true := by rfl) : AOps P N ops Q (i :: l) st := st1 (y_mask k hk ho hp hq hm) kk hi hg hd hN
theorem sr {t t' : TypeId} {p q : Operand} {k' kk : IntKind} {v n c : Int} (k : AOps P N ops Q l (st.put d (.v (.int k' (v / c))))) (ho : (ops.getD i default).op = .binOp .shr t p q t' := by rfl) (hp : ev st p = some (.v (.int k' v)) := by rfl) (hq : ev st q = some (.v (.int kk n)) := by rfl)
    (hn : 0 ≤ n := by omega) (hc : (2 : Int) ^ (min n.toNat k'.bits) = c := by rfl) (hi : Nat.blt i ops.size = true := by rfl)
    (hg : opAt N ops st i = true := by rfl) (hd : (ops.getD i default).dst = some d := by rfl) (hN : Nat.blt d N = true := by rfl) : AOps P N ops Q (i :: l) st := st1 (y_shr hn ho hp hq hc) k hi hg hd hN
theorem sll {t t' : TypeId} {p q : Operand} {kk : IntKind} {v n c : Int} (k : AOps P N ops Q l (st.put d (.v (.int .i64 (v * c))))) (ho : (ops.getD i default).op = .binOp .shl t p q t' := by rfl) (hp : ev st p = some (.v (.int .i64 v)) := by rfl) (hq : ev st q = some (.v (.int kk n)) := by rfl)
    (hn : 0 ≤ n := by omega) (hc : (2 : Int) ^ (min n.toNat 64) = c := by rfl) (h : -9223372036854775808 ≤ v * c ∧ v * c ≤ 9223372036854775807 := by omega) (hi : Nat.blt i ops.size = true := by rfl)
    (hg : opAt N ops st i = true := by rfl) (hd : (ops.getD i default).dst = some d := by rfl) (hN : Nat.blt d N = true := by rfl) : AOps P N ops Q (i :: l) st := st1 (y_shl hn ho hp hq hc h) k hi hg hd hN
theorem rm {t t' : TypeId} {p q : Operand} {k' : IntKind} {u v : Int} (k : AOps P N ops Q l (st.put d (.v (.int k' (u.tmod v))))) (ho : (ops.getD i default).op = .binOp .rem t p q t' := by rfl) (hp : ev st p = some (.v (.int k' u)) := by rfl) (hq : ev st q = some (.v (.int k' v)) := by rfl)
    (h : v ≠ 0 := by omega) (hi : Nat.blt i ops.size = true := by rfl)
    (hg : opAt N ops st i = true := by rfl) (hd : (ops.getD i default).dst = some d := by rfl) (hN : Nat.blt d N = true := by rfl) : AOps P N ops Q (i :: l) st := st1 (y_rem h ho hp hq) k hi hg hd hN
theorem qu {t t' : TypeId} {p q : Operand} {k' : IntKind} {u v : Int} (k : AOps P N ops Q l (st.put d (.v (.int k' (k'.wrap (u.tdiv v)))))) (ho : (ops.getD i default).op = .binOp .quo t p q t' := by rfl) (hp : ev st p = some (.v (.int k' u)) := by rfl) (hq : ev st q = some (.v (.int k' v)) := by rfl)
    (h : v ≠ 0 := by omega) (hi : Nat.blt i ops.size = true := by rfl)
    (hg : opAt N ops st i = true := by rfl) (hd : (ops.getD i default).dst = some d := by rfl) (hN : Nat.blt d N = true := by rfl) : AOps P N ops Q (i :: l) st := st1 (y_quo h ho hp hq) k hi hg hd hN
/-- A call. -/
theorem cl {g : Nat} {caps : List AV} {z : Operand} {xs : Array Operand} {ts : Array TypeId} {ls l' : List AV} (hok : Gives P g l' y) (k : AOps P N ops Q l (st.put d y)) (ho : (ops.getD i default).op = .call ⟨.value z, xs, ts⟩ := by rfl)
    (hz : ev st z = some (.clo g caps) := by rfl) (hl : evs st xs.toList = some ls := by rfl) (hl' : ls ++ caps = l' := by rfl) (hg' : goFn P g = true := by rfl) (hno : NoOwnL l' := by simp [NoOwnL]) (hi : Nat.blt i ops.size = true := by rfl)
    (hg : opAt N ops st i = true := by rfl) (hd : (ops.getD i default).dst = some d := by rfl) (hN : Nat.blt d N = true := by rfl) : AOps P N ops Q (i :: l) st := st1 (y_call hok ho hz hl hl' hg' hno) k hi hg hd hN
theorem cs {g : Nat} {caps : List AV} {z : Operand} {xs : Array Operand} {ts : Array TypeId} {ls l' : List AV} (hok : Gives P g l' y) (k : AOps P N ops Q l (st.put d y)) (ho : (ops.getD i default).op = .call ⟨.value z, xs, ts⟩ := by rfl)
    (hz : ev st z = some (.clo g caps) := by rfl) (hl : evs st xs.toList = some ls := by rfl) (hg' : goFn P g = true := by rfl) (hfl : flatV y = true := by rfl) (hi : Nat.blt i ops.size = true := by rfl)
    (hg : opAt N ops st i = true := by rfl) (hd : (ops.getD i default).dst = some d := by rfl) (hN : Nat.blt d N = true := by rfl) (hsh : ShL st.T (ls ++ caps) l') : AOps P N ops Q (i :: l) st := st1 (y_callS (hok := hok) (ho := ho) (hz := hz) (hl := hl) (hg := hg') (hfl := hfl) (hsh := hsh)) k hi hg hd hN
/-- An element of what nobody turns. -/
theorem ia {z ix : Operand} {t e s : Nat} {es : List (List AV)} {c : List AV} {kk : IntKind} {n : Int} (q : Nat) (hc : es[q]? = some c) (k : AOps P N ops Q l (st.put d (.ip c))) (ho : (ops.getD i default).op = .indexAddr t z ix := by rfl)
    (hz : ev st z = some (.sl s es) := by rfl) (hix : ev st ix = some (.v (.int kk n)) := by rfl) (hn : n = (q : Int) := by rfl) (ht : elOf P t = some (e, s) := by rfl) (hi : Nat.blt i ops.size = true := by rfl)
    (hg : opAt N ops st i = true := by rfl) (hd : (ops.getD i default).dst = some d := by rfl) (hN : Nat.blt d N = true := by rfl) : AOps P N ops Q (i :: l) st :=
  st1 (y_iaddr (ho := ho) (ht := ht) (hz := hz) (hix := hix) (h0 := by omega) (hc := by rw [hn]; simpa using hc)) k hi hg hd hN
theorem iao {z ix : Operand} {t e s j : Nat} {es : List (List AV)} {kk : IntKind} {n : Int} (q : Nat) (hq : q < es.length) (k : AOps P N ops Q l (st.put d (.ptr j q 0))) (ho : (ops.getD i default).op = .indexAddr t z ix := by rfl)
    (hz : ev st z = some (.own j) := by rfl) (hT : st.T j = .live e s es := by rfl) (hix : ev st ix = some (.v (.int kk n)) := by rfl) (hn : n = (q : Int) := by rfl) (ht : elOf P t = some (e, s) := by rfl) (hi : Nat.blt i ops.size = true := by rfl)
    (hg : opAt N ops st i = true := by rfl) (hd : (ops.getD i default).dst = some d := by rfl) (hN : Nat.blt d N = true := by rfl) : AOps P N ops Q (i :: l) st :=
  st1 (by
    have h := y_iaddr_own (Q := Q) (P := P) (N := N) (o := ops.getD i default) (st := st) (ho := ho) (ht := ht) (hz := hz) (hT := hT) (hix := hix) (h0 := by omega) (hc := by omega)
    rw [hn, Int.toNat_natCast] at h; exact h) k hi hg hd hN
theorem ix {z ixo : Operand} {t : Nat} {b : ByteArray} {kk : IntKind} {n : Int} (h1 : n < b.size) (k : AOps P N ops Q l (st.put d (.v (.int .u8 (btA b n))))) (ho : (ops.getD i default).op = .index t z ixo := by rfl) (hz : ev st z = some (.v (.string b)) := by rfl)
    (hix : ev st ixo = some (.v (.int kk n)) := by rfl) (h0 : 0 ≤ n := by omega) (ht : P.underlying t = some .string := by rfl) (hi : Nat.blt i ops.size = true := by rfl)
    (hg : opAt N ops st i = true := by rfl) (hd : (ops.getD i default).dst = some d := by rfl) (hN : Nat.blt d N = true := by rfl) : AOps P N ops Q (i :: l) st :=
  st1 (y_index h0 h1 ho ht hz hix) k hi hg hd hN
theorem xt {g : Nat} {z : Operand} {xs : Array Operand} {ts : Array TypeId} {ls : List AV} {vs : List Value} {r : Value} (hrun : ∀ w, (callFunc g vs.toArray).run P w = .ok (.value r) w) (k : AOps P N ops Q l (st.put d (.v r))) (ho : (ops.getD i default).op = .call ⟨.value z, xs, ts⟩ := by rfl)
    (hz : ev st z = some (.clo g []) := by rfl) (hl : evs st xs.toList = some ls := by rfl) (hv : valsOf ls = some vs := by rfl) (hi : Nat.blt i ops.size = true := by rfl)
    (hg : opAt N ops st i = true := by rfl) (hd : (ops.getD i default).dst = some d := by rfl) (hN : Nat.blt d N = true := by rfl) : AOps P N ops Q (i :: l) st := st1 (y_ext hrun ho hz hl hv) k hi hg hd hN
/-- A whole number of another kind. -/
theorem cv' {z : Operand} {t t' : Nat} {k k' : IntKind} {n : Int} {dd : TypeDesc} (kk : AOps P N ops Q l (st.put d (.v (.int k' (k'.wrap n))))) (ho : (ops.getD i default).op = .convert t t' z := by rfl) (hz : ev st z = some (.v (.int k n)) := by rfl) (ht : P.underlying t = some dd := by rfl) (ht' : P.underlying t' = some (.int k') := by rfl)
    (hi : Nat.blt i ops.size = true := by rfl) (hg : opAt N ops st i = true := by rfl) (hd : (ops.getD i default).dst = some d := by rfl) (hN : Nat.blt d N = true := by rfl) : AOps P N ops Q (i :: l) st := st1 (y_conv ho ht ht' hz) kk hi hg hd hN
end steps
end
end Go.Proofs.Ytafbiccgbgcooaa.AW
