/- Abstract states: lengths, cuts, strings, structs that are built, rows that are made and appended to. -/
import Derived.Test.YtafbiccgbgcooaaAWg
namespace Go.Proofs.Ytafbiccgbgcooaa.AW
open Go Go.RowKit
set_option linter.unusedVariables false
set_option linter.unusedSimpArgs false

section
variable {P : Program} {N : Nat} {Q : Exit → ASt → Prop} {st : ASt} {I0 : Nat → Prop} {w0 : World} {β : Nat → Value} {a : Act} {w : World}
section ops
variable {o : Oper} {K : ASt → Prop} {d : Nat} {x y : AV}

/-- A slice's length, of what it means. -/
def lenA (st : ASt) : AV → Option Nat
  | .sl _ es => some es.length
  | .own i => match st.T i with
    | .live _ _ es => some es.length
    | _ => none
  | .v (.slice none 0 0) => some 0
  | _ => none
theorem lenA_val (hr : Rel N I0 w0 st β a w) {z : Operand} {n : Nat} (hz : ev st z = some x) (hn : lenA st x = some n) : ∃ b c, a.eval z = .slice b n c := by
  have h := hr.ev hz
  generalize a.eval z = y at h
  cases h with
  | emp s base cap hh => simp only [lenA, List.length_nil, Option.some.injEq] at hn; subst hn; exact ⟨_, _, rfl⟩
  | sl s es b off cap vs => simp only [lenA, Option.some.injEq] at hn; subst hn; exact ⟨_, _, rfl⟩
  | own i x h1 h2 =>
    simp only [lenA] at hn
    split at hn
    · rename_i e s es hi
      cases hn
      rw [h2 e s es hi]
      obtain ⟨_, xs, ho, _⟩ := hr.objs.obj i e s es hi
      rcases ho.2 with ⟨hh, h0⟩ | ⟨g, cap, cur, fr, hh, _⟩
      · rw [hh, h0]; exact ⟨_, _, rfl⟩
      · rw [hh]; exact ⟨_, _, rfl⟩
    · cases hn
  | v =>
    cases y with
    | slice b n' c =>
      cases b with
      | none =>
        cases n' with
        | zero => cases c with
          | zero => simp only [lenA, Option.some.injEq] at hn; subst hn; exact ⟨_, _, rfl⟩
          | succ => simp [lenA] at hn
        | succ => simp [lenA] at hn
      | some b => simp [lenA] at hn
    | _ => simp [lenA] at hn
  | _ => simp [lenA] at hn
theorem y_len {z : Operand} {t e s n : Nat} {ts : Array TypeId} (ho : o.op = .call ⟨.builtin .len, #[z], ts⟩ := by rfl) (hts : ts[0]? = some t := by rfl) (ht : elOf P t = some (e, s) := by rfl) (hz : ev st z = some x := by rfl)
    (hn : lenA st x = some n := by rfl) : AYield P N Q o st (.v (.int .i64 (n : Int))) :=
  AYield.still fun I0 w0 β a w hr => by
    obtain ⟨b, c, he⟩ := lenA_val hr hz hn
    refine ⟨.int .i64 n, ?_, .v _⟩
    simp [execOp, ho, resolve, invoke, builtin, Builtin.len_, hts, he, run_underlying (elOf_el ht).1, goInt]
theorem y_lens {z : Operand} {t : Nat} {b : ByteArray} {ts : Array TypeId} (ho : o.op = .call ⟨.builtin .len, #[z], ts⟩ := by rfl) (hts : ts[0]? = some t := by rfl) (ht : P.underlying t = some .string := by rfl)
    (hz : ev st z = some (.v (.string b)) := by rfl) : AYield P N Q o st (.v (.int .i64 (b.size : Int))) :=
  AYield.still fun I0 w0 β a w hr => by
    have he := (hr.ev hz).v_inv
    refine ⟨.int .i64 b.size, ?_, .v _⟩
    simp [execOp, ho, resolve, invoke, builtin, Builtin.len_, hts, he, run_underlying ht, goInt]
/-- A byte of a string. -/
def btA (b : ByteArray) (n : Int) : Int := ((b.data[n.toNat]?).getD 0).toNat
theorem y_index {z ix : Operand} {t : Nat} {b : ByteArray} {kk : IntKind} {n : Int} (h0 : 0 ≤ n) (h1 : n < b.size) (ho : o.op = .index t z ix := by rfl) (ht : P.underlying t = some .string := by rfl)
    (hz : ev st z = some (.v (.string b)) := by rfl) (hix : ev st ix = some (.v (.int kk n)) := by rfl) : AYield P N Q o st (.v (.int .u8 (btA b n))) :=
  AYield.still fun I0 w0 β a w hr => by
    have he := (hr.ev hz).v_inv
    have hi := (hr.ev hix).v_inv
    refine ⟨.int .u8 (btA b n), ?_, .v _⟩
    have hlt : n.toNat < b.size := by omega
    have hlt' : n.toNat < b.data.size := hlt
    have e1 : btA b n = ((b[n.toNat]'hlt).toNat : Int) := by
      unfold btA
      rw [Array.getElem?_eq_getElem hlt']
      rfl
    simp [execOp, ho, he, hi, run_index_string w t b kk n ht, h0, h1, e1]
/-- A cut of what nobody turns. -/
theorem y_cut {z : Operand} {t e s : Nat} {lo hi : Option Operand} {es : List (List AV)} {l h : Nat} (ho : o.op = .slice t z lo hi none := by rfl) (ht : elOf P t = some (e, s) := by rfl) (hz : ev st z = some (.sl s es) := by rfl)
    (hl : ∀ q, lo = some q → ∃ k, ev st q = some (.v (.int k (l : Int)))) (hl0 : lo = none → l = 0) (hh : ∀ q, hi = some q → ∃ k, ev st q = some (.v (.int k (h : Int)))) (hh0 : hi = none → h = es.length) (hlh : l ≤ h) (hhe : h ≤ es.length) :
    AYield P N Q o st (.sl s ((es.take h).drop l)) :=
  AYield.still fun I0 w0 β a w hr => by
    obtain ⟨hu, bb, hs⟩ := elOf_el ht
    have hv := hr.ev hz
    have key : ∀ (b : Option Addr) (n c : Nat), a.eval z = .slice b n c → h ≤ n → n ≤ c → (hi = none → h = n) → (execOp a.eval o).run P w = .ok (.value (.slice (if c = l then b else b.map (·.add (l * s))) (h - l) (c - l))) w := by
      intro b n c he hn hc hno
      have hb1 : ∀ q, lo = some q → ∃ k, a.eval q = .int k (l : Int) := fun q hq => by obtain ⟨k, hk⟩ := hl q hq; exact ⟨k, (hr.ev hk).v_inv⟩
      have hb2 : ∀ q, hi = some q → ∃ k, a.eval q = .int k (h : Int) := fun q hq => by obtain ⟨k, hk⟩ := hh q hq; exact ⟨k, (hr.ev hk).v_inv⟩
      have hhc : (h : Int) ≤ (c : Int) := by omega
      have hlh' : (l : Int) ≤ (h : Int) := by omega
      have hhc2 : ¬ c < h := by omega
      have hlh2 : ¬ h < l := by omega
      have hhc3 : h ≤ c := by omega
      cases lo with
      | none =>
        have := hl0 rfl
        subst this
        cases hi with
        | none =>
          have := hno rfl
          subst this
          simp [execOp, ho, Instr.sliceAt, run_underlying hu, Instr.slice, he, Instr.sliceBounds, (szOf_run hs w).1]
        | some q2 =>
          obtain ⟨k2, hk2⟩ := hb2 q2 rfl
          simp [execOp, ho, Instr.sliceAt, run_underlying hu, Instr.slice, he, Instr.sliceBounds, (szOf_run hs w).1, hk2, Instr.sliceBound, asIntOf, hhc, hhc2, hhc3]
      | some q1 =>
        obtain ⟨k1, hk1⟩ := hb1 q1 rfl
        cases hi with
        | none =>
          have := hno rfl
          subst this
          simp [execOp, ho, Instr.sliceAt, run_underlying hu, Instr.slice, he, Instr.sliceBounds, (szOf_run hs w).1, hk1, Instr.sliceBound, asIntOf, hlh', hlh2, hlh]
        | some q2 =>
          obtain ⟨k2, hk2⟩ := hb2 q2 rfl
          simp [execOp, ho, Instr.sliceAt, run_underlying hu, Instr.slice, he, Instr.sliceBounds, (szOf_run hs w).1, hk1, hk2, Instr.sliceBound, asIntOf, hlh', hhc, hhc2, hhc3, hlh2, hlh]
    generalize hy : a.eval z = y at hv key
    cases hv with
    | emp s base cap hb =>
      simp only [List.length_nil, Nat.le_zero] at hhe
      have hl0' : l = 0 := by omega
      refine ⟨_, key base 0 cap rfl (by omega) (Nat.zero_le _) (fun _ => hhe), ?_⟩
      rw [hhe, hl0']
      simp only [List.take_nil, List.drop_nil, Nat.sub_zero, Nat.zero_mul]
      have : (if cap = 0 then base else base.map (·.add 0)) = base := by
        split
        · rfl
        · cases base <;> simp [Addr.add]
      rw [this]
      exact .emp s base cap hb
    | sl s es b off cap vs h1 h2 h3 h4 h5 =>
      refine ⟨_, key (some ⟨b, off, none⟩) es.length cap rfl hhe h2 hh0, ?_⟩
      have hlen : ((es.take h).drop l).length = h - l := by simp; omega
      by_cases hz0 : h = l
      · have he0 : (es.take h).drop l = [] := List.eq_nil_of_length_eq_zero (by omega)
        rw [he0, hz0, Nat.sub_self]
        refine .emp s _ _ fun hn => ?_
        split at hn <;> cases hn
      · have hcl : ¬ cap = l := by omega
        rw [if_neg hcl, Option.map_some, add_mid, ← hlen]
        have hsub : ∀ c ∈ (es.take h).drop l, c.length = s := fun c hc => h3 c (List.mem_of_mem_take (List.mem_of_mem_drop hc))
        have hfl : ∀ j p, ((es.take h).drop l).flatten[j]? = some p → es.flatten[l * s + j]? = some p := by
          intro j p hp
          obtain ⟨k, r, c, rfl, hr', hk, hc⟩ := flat_inv hsub hp
          rw [List.getElem?_drop] at hk
          have hk2 : es[l + k]? = some c := by
            rw [List.getElem?_take] at hk
            split at hk
            · exact hk
            · cases hk
          have := flat_get h3 hk2 hc
          rwa [Nat.add_mul, Nat.add_assoc] at this
        refine .sl s _ b (off + l * s) (cap - l) (fun j => vs (l * s + j)) h1 (by omega) hsub (fun j p hp => ?_) (fun j p hp => ?_)
        · rw [Nat.add_assoc]; exact h4 _ p (hfl j p hp)
        · exact h5 _ p (hfl j p hp)
/-- A whole number of another kind. -/
theorem y_conv {z : Operand} {t t' : Nat} {k k' : IntKind} {n : Int} {dd : TypeDesc} (ho : o.op = .convert t t' z := by rfl) (ht : P.underlying t = some dd := by rfl) (ht' : P.underlying t' = some (.int k') := by rfl)
    (hz : ev st z = some (.v (.int k n)) := by rfl) : AYield P N Q o st (.v (.int k' (k'.wrap n))) :=
  AYield.still fun I0 w0 β a w hr => by
    have he := (hr.ev hz).v_inv
    refine ⟨.int k' (k'.wrap n), ?_, .v _⟩
    cases dd <;> simp [execOp, ho, he, convert, run_underlying ht, run_underlying ht', Conv.intToInt]
theorem y_adds {t t' : TypeId} {p q : Operand} {u v : ByteArray} (h : u.size + v.size ≤ 9223372036854775807) (ho : o.op = .binOp .add t p q t' := by rfl) (hp : ev st p = some (.v (.string u)) := by rfl)
    (hq : ev st q = some (.v (.string v)) := by rfl) : AYield P N Q o st (.v (.string (u ++ v))) :=
  y_bin (r := .string (u ++ v)) ho hp hq fun w => by
    show (do eqGuard .add t p q (.string u) (.string v); binOp .add t (.string u) (.string v) : Sem Value).run P w = _
    simp [eqGuard_add, binOp, run_string_add_sum w u v h]
theorem y_quo {t t' : TypeId} {p q : Operand} {k : IntKind} {u v : Int} (h : v ≠ 0) (ho : o.op = .binOp .quo t p q t' := by rfl) (hp : ev st p = some (.v (.int k u)) := by rfl)
    (hq : ev st q = some (.v (.int k v)) := by rfl) : AYield P N Q o st (.v (.int k (k.wrap (u.tdiv v)))) :=
  y_bin (r := .int k (k.wrap (u.tdiv v))) ho hp hq fun w => by
    simp [eqGuard_quo, binOp, Op.intDiv, h]
theorem y_rem {t t' : TypeId} {p q : Operand} {k : IntKind} {u v : Int} (h : v ≠ 0) (ho : o.op = .binOp .rem t p q t' := by rfl) (hp : ev st p = some (.v (.int k u)) := by rfl)
    (hq : ev st q = some (.v (.int k v)) := by rfl) : AYield P N Q o st (.v (.int k (u.tmod v))) :=
  y_bin (r := .int k (u.tmod v)) ho hp hq fun w => by
    simp [eqGuard_rem, binOp, Op.intDiv, h]
/-- Whole numbers that stay in their span. -/
theorem y_bin64 {f : BinOp} {t t' : TypeId} {p q : Operand} {u v : Value} {n : Int} (h : -9223372036854775808 ≤ n ∧ n ≤ 9223372036854775807) (ho : o.op = .binOp f t p q t' := by rfl) (hp : ev st p = some (.v u) := by rfl) (hq : ev st q = some (.v v) := by rfl)
    (hrun : ∀ w, (do eqGuard f t p q u v; binOp f t u v : Sem Value).run P w = .ok (.int .i64 (IntKind.i64.wrap n)) w := by intro w; rfl) : AYield P N Q o st (.v (.int .i64 n)) :=
  y_bin (r := .int .i64 n) ho hp hq fun w => by
    rw [hrun w, IntKind.wrap_i64]
    have e1 : (n + 9223372036854775808) % 18446744073709551616 = n + 9223372036854775808 := Int.emod_eq_of_lt (by omega) (by omega)
    congr 2
    omega
end ops
end
end Go.Proofs.Ytafbiccgbgcooaa.AW
