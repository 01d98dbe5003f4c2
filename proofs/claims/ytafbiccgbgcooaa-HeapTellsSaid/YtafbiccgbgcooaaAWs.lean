/- Abstract states: bytes and strings, rows that are made. -/
import Derived.Test.YtafbiccgbgcooaaAWr
import Derived.Laws.BytesArg
import Derived.Lib.ConvBytes
namespace Go.Proofs.Ytafbiccgbgcooaa.AW
open Go Go.RowKit
set_option linter.unusedVariables false
set_option linter.unusedSimpArgs false

/-- A row of bytes. -/
def byteRow (ns : List Int) : List (List AV) := ns.map fun n => [.v (.int .u8 n)]
@[simp] theorem len_bytes (ns : List Int) : (byteRow ns).length = ns.length := by simp [byteRow]
theorem bytes_get {ns : List Int} {k : Nat} {x : Int} (h : ns[k]? = some x) : (byteRow ns)[k]? = some [.v (.int .u8 x)] := by simp [byteRow, h]
theorem bytes_set (ns : List Int) (k : Nat) (x : Int) : (byteRow ns).set k [.v (.int .u8 x)] = byteRow (ns.set k x) := by simp [byteRow, List.map_set]
theorem bytes_flat (ns : List Int) : (byteRow ns).flatten = ns.map fun n => .v (.int .u8 n) := by
  induction ns with
  | nil => rfl
  | cons n ns ih => simp only [byteRow, List.map_cons, List.flatten_cons] at ih ⊢; rw [ih]; rfl
theorem bytes_app (a b : List Int) : byteRow a ++ byteRow b = byteRow (a ++ b) := by simp [byteRow]
theorem bytes_zero (n : Nat) : List.replicate n [AV.v (.int .u8 0)] = byteRow (List.replicate n 0) := by simp [byteRow]
theorem noOwn_bytes (ns : List Int) : ∀ c ∈ byteRow ns, ∀ x ∈ c, NoOwn x := by
  intro c hc x hx
  simp only [byteRow, List.mem_map] at hc
  obtain ⟨n, _, rfl⟩ := hc
  simp only [List.mem_singleton] at hx
  subst hx; exact .v _
theorem cok_bytes (T : Nat → Ob) (ns : List Int) : ∀ c ∈ byteRow ns, ∀ y ∈ c, cok1 T y = true := by
  intro c hc x hx
  simp only [byteRow, List.mem_map] at hc
  obtain ⟨n, _, rfl⟩ := hc
  simp only [List.mem_singleton] at hx
  subst hx; rfl
/-- A string's bytes. -/
def numsOf (s : ByteArray) : List Int := s.data.toList.map fun b => (b.toNat : Int)
@[simp] theorem len_numsOf (s : ByteArray) : (numsOf s).length = s.size := by simp [numsOf]
theorem strOfNums_numsOf (s : ByteArray) : strOfNums (numsOf s) = s := by
  have h : (numsOf s).map (fun n => UInt8.ofNat n.toNat) = s.data.toList := by
    simp only [numsOf, List.map_map]
    conv => rhs; rw [← List.map_id s.data.toList]
    apply List.map_congr_left
    intro b _
    simp
  show ByteArray.mk _ = s
  rw [h]

section
variable {P : Program} {N : Nat} {Q : Exit → ASt → Prop} {st : ASt} {I0 : Nat → Prop} {w0 : World} {β : Nat → Value} {a : Act} {w : World}
section ops
variable {o : Oper} {K : ASt → Prop} {d : Nat} {x y : AV}
/-- Bytes as a string. -/
theorem y_bstr {z : Operand} {t t' e : Nat} (ns : List Int) (hs : srcA st x = some (byteRow ns)) (ho : o.op = .convert t t' z := by rfl) (hz : ev st z = some x := by rfl) (hsz : sizA st 1 x = true := by rfl)
    (ht : P.underlying t = some (.slice e) := by rfl) (he : P.underlying e = some (.int .u8) := by rfl) (ht' : P.underlying t' = some .string := by rfl) : AYield P N Q o st (.v (.string (strOfNums ns))) :=
  AYield.still fun I0 w0 β a w hr => by
    obtain ⟨ad, c, news, q1, q2, q3, q4, q5, q6, q7⟩ := src_val hr hz hs hsz (cok_bytes _ ns)
    rw [len_bytes] at q1 q2
    have hn : news = ns.map (Value.int .u8) := by
      apply List.ext_getElem?
      intro j
      rw [List.getElem?_map]
      cases hj : ns[j]? with
      | none =>
        have : ns.length ≤ j := List.getElem?_eq_none_iff.1 hj
        rw [List.getElem?_eq_none (by rw [q4]; simpa using this)]; rfl
      | some n =>
        obtain ⟨u, hu, hr'⟩ := q7 j (.v (.int .u8 n)) (by rw [bytes_flat, List.getElem?_map, hj]; rfl)
        rw [hu, hr'.v_inv]; rfl
    refine ⟨.string (strOfNums ns), ?_, .v _⟩
    cases ad with
    | none =>
      have h0 : ns = [] := List.eq_nil_of_length_eq_zero (by simpa using (q2 rfl).1)
      subst h0
      have := run_convert_bytes_nil (P := P) w t e ht he ([] : List Int).length c t' ht'
      simp only [List.length_nil] at this q1
      have h2 : strOfNums [] = ByteArray.empty := rfl
      simp [execOp, ho, q1, this, h2]
    | some b =>
      have hl : (loadCells b ns.length).run P w = .ok (ns.map (Value.int .u8)).toArray w := by
        have := run_loadCells_list (P := P) w b (ns.map (Value.int .u8)) (by rw [← hn]; exact q5 b rfl)
        simpa using this
      have h1 : (convert t t' (.slice (some b) ns.length c)).run P w = .ok (.string (strOfNums ns)) w := by
        rw [run_convert_bytes_string w t t' e _ _ c ht he ht', run_bytesToString w _ _ c ns hl, foldl_push_bytes]
        simp [strOfNums, ByteArray.empty, ByteArray.emptyWithCapacity]
        rfl
      simp [execOp, ho, q1, h1]
theorem grown_bytes (w : World) (e : Nat) (s : ByteArray) : w.grownBy (Lib.bytesWorld w e s) none :=
  ⟨rfl, rfl, rfl, by rw [Lib.bytesWorld_size]; omega, fun k hk _ => Lib.bytesWorld_at_old w e s k hk⟩
/-- A string's bytes, in a row of the call's own. -/
theorem op_strb {z : Operand} {t t' e : Nat} {s : ByteArray} (i : Nat) (hi : st.T i = .no) (hsz : s.size < 1099511627776) (hd : o.dst = some d) (hN : Nat.blt d N = true)
    (K1 : K (ASt.mk ((d, .own i) :: st.env) (upd st.T i (.live e 1 (byteRow (numsOf s))))))
    (ho : o.op = .convert t t' z := by rfl) (hz : ev st z = some (.v (.string s)) := by rfl)
    (ht : P.underlying t = some .string := by rfl) (ht' : P.underlying t' = some (.slice e) := by rfl) (he : P.underlying e = some (.int .u8) := by rfl) : AOp P N o K Q st := by
  intro I0 w0 β a w hr K' hK
  have h0 := (hr.ev hz).v_inv
  have hrun := Lib.run_convert_string_bytes (P := P) w t t' e s ht ht' he
  have hge := grownCap_ge w s.size 0 e
  have hcs : (Lib.bytesCells w e s).size = grownCap w s.size 0 e := by
    simp only [Lib.bytesCells, Array.size_append, Array.size_map, Array.size_replicate]
    have : s.data.size = s.size := rfl
    omega
  have hcl : (Lib.bytesCells w e s).toList.take s.size = (numsOf s).map (Value.int .u8) := by
    simp only [Lib.bytesCells, Array.toList_append, Array.toList_map]
    rw [List.take_append_of_le_length (by simp), List.take_of_length_le (by simp)]
    simp [numsOf]
  obtain ⟨n1, n2⟩ := hr.newObj (w' := Lib.bytesWorld w e s) (i' := i) (e := e) (s := 1) (es' := byteRow (numsOf s)) hi none none (by simp) (by simp) (grown_bytes w e s)
    (y := .slice (some ⟨w.heap.size, 0, none⟩) s.size (grownCap w s.size 0 e)) (xs := (numsOf s).map (Value.int .u8))
    (by
      refine ⟨by simp, .inr ⟨w.heap.size, _, _, _, by simp, hr.below.size, Lib.bytesWorld_at_new w e s, .inr (Nat.le_refl _), by simpa using hge, grownCap_le_maxLen w s.size 0 e (by simp only [maxLen]; omega), by rw [hcs, Nat.mul_one], ?_⟩⟩
      simpa using hcl)
    (fun b hb => by simp [Value.ownBlock] at hb; exact .inr (by omega)) (by intro c hc; simp only [byteRow, List.mem_map] at hc; obtain ⟨n, _, rfl⟩ := hc; rfl)
    (fun j p hp => by
      rw [bytes_flat, List.getElem?_map] at hp
      cases hj : (numsOf s)[j]? with
      | none => rw [hj] at hp; cases hp
      | some n =>
        rw [hj] at hp; cases hp
        exact ⟨.int .u8 n, by rw [List.getElem?_map, hj]; rfl, .v _⟩)
  have hrun2 : (execOp a.eval o).run P w = .ok (.value (.slice (some ⟨w.heap.size, 0, none⟩) s.size (grownCap w s.size 0 e))) (Lib.bytesWorld w e s) := by
    simp [execOp, ho, h0, hrun]
  refine .inl ?_
  simp only [Oper.wp, hrun2, Oper.upon, hd]
  refine hK _ _ _ _ (n1.put (blt_lt hN) (.own i _ (by simp [upd]) fun e s es he => ?_)) K1
  simp [updV]
/-- A piece of a string. -/
theorem y_cuts {z : Operand} {t : Nat} {lo hi : Option Operand} {s : ByteArray} {l h : Nat} (ho : o.op = .slice t z lo hi none) (ht : P.underlying t = some .string) (hz : ev st z = some (.v (.string s)))
    (hl : ∀ q, lo = some q → ∃ k, ev st q = some (.v (.int k (l : Int)))) (hl0 : lo = none → l = 0) (hh : ∀ q, hi = some q → ∃ k, ev st q = some (.v (.int k (h : Int)))) (hh0 : hi = none → h = s.size) (hlh : l ≤ h) (hhe : h ≤ s.size) :
    AYield P N Q o st (.v (.string (s.extract l h))) :=
  AYield.still fun I0 w0 β a w hr => by
    have he := (hr.ev hz).v_inv
    have hb1 : ∀ q, lo = some q → ∃ k, a.eval q = .int k (l : Int) := fun q hq => by obtain ⟨k, hk⟩ := hl q hq; exact ⟨k, (hr.ev hk).v_inv⟩
    have hb2 : ∀ q, hi = some q → ∃ k, a.eval q = .int k (h : Int) := fun q hq => by obtain ⟨k, hk⟩ := hh q hq; exact ⟨k, (hr.ev hk).v_inv⟩
    have hhc : (h : Int) ≤ (s.size : Int) := by omega
    have hlh' : (l : Int) ≤ (h : Int) := by omega
    have hhc2 : ¬ s.size < h := by omega
    have hlh2 : ¬ h < l := by omega
    refine ⟨.string (s.extract l h), ?_, .v _⟩
    cases lo with
    | none =>
      have := hl0 rfl
      subst this
      cases hi with
      | none =>
        have := hh0 rfl
        subst this
        simp [execOp, ho, Instr.sliceAt, run_underlying ht, Instr.slice, he, Instr.sliceBounds]
      | some q2 =>
        obtain ⟨k2, hk2⟩ := hb2 q2 rfl
        simp [execOp, ho, Instr.sliceAt, run_underlying ht, Instr.slice, he, Instr.sliceBounds, hk2, Instr.sliceBound, asIntOf, hhc, hhc2, hhe]
    | some q1 =>
      obtain ⟨k1, hk1⟩ := hb1 q1 rfl
      cases hi with
      | none =>
        have := hh0 rfl
        subst this
        simp [execOp, ho, Instr.sliceAt, run_underlying ht, Instr.slice, he, Instr.sliceBounds, hk1, Instr.sliceBound, asIntOf, hlh', hlh2, hlh]
      | some q2 =>
        obtain ⟨k2, hk2⟩ := hb2 q2 rfl
        simp [execOp, ho, Instr.sliceAt, run_underlying ht, Instr.slice, he, Instr.sliceBounds, hk1, hk2, Instr.sliceBound, asIntOf, hlh', hhc, hhc2, hlh2, hlh, hhe]
end ops
section steps
variable {ops : Array Oper} {i : Nat} {l : List Nat} {d : Nat} {x y : AV}
theorem bs {z : Operand} {t t' e : Nat} (ns : List Int) (k : AOps P N ops Q l (st.put d (.v (.string (strOfNums ns))))) (ho : (ops.getD i default).op = .convert t t' z := by rfl) (hz : ev st z = some x := by rfl) (hsz : sizA st 1 x = true := by rfl)
    (ht : P.underlying t = some (.slice e) := by rfl) (he : P.underlying e = some (.int .u8) := by rfl) (ht' : P.underlying t' = some .string := by rfl) (hi : Nat.blt i ops.size = true := by rfl)
    (hg : opAt N ops st i = true := by rfl) (hd : (ops.getD i default).dst = some d := by rfl) (hN : Nat.blt d N = true := by rfl) (hs : srcA st x = some (byteRow ns)) : AOps P N ops Q (i :: l) st := st1 (y_bstr ns hs ho hz hsz ht he ht') k hi hg hd hN
theorem sb {z : Operand} {t t' e : Nat} {s : ByteArray} (m : Nat) (hm : st.T m = .no) (hsz : s.size < 1099511627776) (k : AOps P N ops Q l (ASt.mk ((d, .own m) :: st.env) (upd st.T m (.live e 1 (byteRow (numsOf s))))))
    (ho : (ops.getD i default).op = .convert t t' z := by rfl) (hz : ev st z = some (.v (.string s)) := by rfl)
    (ht : P.underlying t = some .string := by rfl) (ht' : P.underlying t' = some (.slice e) := by rfl) (he : P.underlying e = some (.int .u8) := by rfl) (hi : Nat.blt i ops.size = true := by rfl)
    (hg : opAt N ops st i = true := by rfl) (hd : (ops.getD i default).dst = some d := by rfl) (hN : Nat.blt d N = true := by rfl) : AOps P N ops Q (i :: l) st := st2 (op_strb m hm hsz hd hN k ho hz ht ht' he) hi hg
theorem mk {t e s : Nat} {zl zc : Operand} {z : List AV} {k1 k2 : IntKind} {n : Int} (m by_ : Nat)
    (k : AOps P N ops Q l (ASt.mk ((d, .own m) :: st.env) (upd st.T m (.live e s (List.replicate n.toNat z)))))
    (ho : (ops.getD i default).op = .makeSlice t zl zc := by rfl) (ht : elOf P t = some (e, s) := by rfl) (hz : zcells P e = some z := by rfl) (hby : byOf P e = some by_ := by rfl)
    (hl : ev st zl = some (.v (.int k1 n)) := by rfl) (hc : ev st zc = some (.v (.int k2 n)) := by rfl) (hi : Nat.blt i ops.size = true := by rfl)
    (hg : opAt N ops st i = true := by rfl) (hd : (ops.getD i default).dst = some d := by rfl) (hN : Nat.blt d N = true := by rfl)
    (hm : st.T m = .no := by rfl) (h0 : 0 ≤ n := by omega) (hbd : by_ * n.toNat ≤ 281474976710656 := by omega) (hle : n.toNat ≤ 9223372036854775807 := by omega) : AOps P N ops Q (i :: l) st := st2 (op_make m hm h0 hbd hle hd hN k ho ht hz hby hl hc) hi hg
end steps
end
end Go.Proofs.Ytafbiccgbgcooaa.AW
