/- What the statements' walks need. -/
import Derived.Test.YtemcemimipagoaaMVa3
import Derived.Carry
import Derived.ChangeArms
import Derived.SizedLaws
set_option linter.unusedVariables false
set_option linter.unusedSimpArgs false
set_option maxRecDepth 100000
namespace Go.Proofs.Ytemcemimipagoaa.AW
open Go Go.RowKit
section
variable {P : Program} {N : Fr} {Q : Exit → ASt → Prop} {st : ASt} {o : Oper} {x : AV}
theorem run_nil_ne (w : World) (t e : TypeId) (b : Option Addr) (n c : Nat) (h : P.underlying t = some (.slice e)) : (binOp .neq t (.slice b n c) (.slice none 0 0)).run P w = .ok (.bool !b.isNone) w := by
  have h1 : ∀ d, (Op.equalIn (d + 1) t (.slice b n c) (.slice none 0 0)).run P w = .ok b.isNone w := fun d => by cases b <;> simp [Op.equalIn, run_underlying h]
  simp only [binOp]
  simp [Op.equal, Op.maxDepth, h1 9999]
theorem y_nle {z : Operand} {t t' e s s' : Nat} {es : List (List AV)} (hne : es ≠ [] := by simp <;> fail) (ho : o.op = .binOp .eql t z (.const (.slice none 0 0)) t' := by rfl) (hz : ev st z = some (.sl s es) := by rfl) (ht : elOf P t = some (e, s') := by rfl) : AYield P N Q o st (.v (.bool false)) :=
  AYield.still fun I0 w0 β a w hr => by
    have hv := hr.ev hz
    obtain ⟨b, n, c, hy, hb⟩ : ∃ (b : Option Addr) (n c : Nat), a.eval z = .slice b n c ∧ b.isNone = false := by
      generalize a.eval z = y at hv
      cases hv with
      | emp s base cap h => exact absurd rfl hne
      | sl s es b off cap vs => exact ⟨_, _, _, rfl, rfl⟩
    refine ⟨.bool false, ?_, .v _⟩
    have h1 := run_nil_eq (P := P) w t e b n c (elOf_el ht).1
    have h2 : a.eval (.const (.slice none 0 0)) = .slice none 0 0 := rfl
    simp [execOp, ho, hy, h1, h2, eqGuard_at_slice, hb]
theorem y_nlE {z : Operand} {t t' e s s' : Nat} {es : List (List AV)} (hne : es ≠ [] := by simp <;> fail) (ho : o.op = .binOp .neq t z (.const (.slice none 0 0)) t' := by rfl) (hz : ev st z = some (.sl s es) := by rfl) (ht : elOf P t = some (e, s') := by rfl) : AYield P N Q o st (.v (.bool true)) :=
  AYield.still fun I0 w0 β a w hr => by
    have hv := hr.ev hz
    obtain ⟨b, n, c, hy, hb⟩ : ∃ (b : Option Addr) (n c : Nat), a.eval z = .slice b n c ∧ b.isNone = false := by
      generalize a.eval z = y at hv
      cases hv with
      | emp s base cap h => exact absurd rfl hne
      | sl s es b off cap vs => exact ⟨_, _, _, rfl, rfl⟩
    refine ⟨.bool true, ?_, .v _⟩
    have h1 := run_nil_ne (P := P) w t e b n c (elOf_el ht).1
    have h2 : a.eval (.const (.slice none 0 0)) = .slice none 0 0 := rfl
    simp [execOp, ho, hy, h1, h2, eqGuard_at_slice, hb]
theorem Rel.freezeP {I0 : Dom} {w0 : World} {β : Nat → Value} {a : Act} {w : World} (h : Rel N I0 w0 st β a w) {t i e s : Nat} {c : List AV} (ht : get st.env t = some (.ptr i 0 0)) (hi : st.T i = .live e s [c]) (hn : ∀ x ∈ c, NoOwn x) :
    Rel N I0 w0 ⟨(t, .ip c) :: st.env, upd st.T i .dead⟩ β a w := by
  obtain ⟨k, hm⟩ := h.kill (i := i) (by rw [hi]; simp)
  refine ⟨k.old, k.size, k.defers, fun q x hx => ?_, k.objs, k.below, k.step, k.base, k.pins⟩
  simp only [get] at hx
  by_cases hq : t = q
  · rw [if_pos hq] at hx
    cases hx
    subst hq
    have hv := h.env t _ ht
    generalize a.tmps.getD t undef = v at hv
    cases hv with
    | ptr _ _ _ _ hno hx =>
      obtain ⟨_, _, b, n, cp, hbv, rfl⟩ := hx e s [c] hi
      obtain ⟨h1, xs, h2, h3⟩ := h.objs.obj i e s [c] hi
      have hb : (β i).ownBlock = some b := by rw [hbv]; rfl
      have hIm : Im I0 w0.heap.size (upd st.T i .dead) β w b := by
        refine ⟨.inr (h2.lt b hb).1, (h2.lt b hb).2, fun j e' s' es2 hj hbj => ?_⟩
        simp only [upd] at hj
        by_cases hji : j = i
        · rw [if_pos hji] at hj; cases hj
        · rw [if_neg hji] at hj
          exact hji (h.objs.inj _ _ _ _ _ _ _ _ b hj hi hbj hb)
      have hl : ∀ (j : Nat) (p : AV), c[j]? = some p → ∃ u, w.cell? ⟨b, 0 + j, none⟩ = some u ∧ Rep (Im I0 w0.heap.size (upd st.T i .dead) β w) (upd st.T i .dead) β w p u := by
        intro j p hp
        obtain ⟨u, hu, hr⟩ := h3 j p (by simpa using hp)
        have hc := h2.cells hb j u hu
        refine ⟨u, ?_, hm p u hr⟩
        have e2 : (⟨b, 0, none⟩ : Addr).add j = ⟨b, 0 + j, none⟩ := by unfold Addr.add; split <;> simp_all
        rw [← e2]; exact hc
      rw [show 0 * s + 0 = 0 by omega]
      refine .ip c b 0 (fun j => (w.cell? ⟨b, 0 + j, none⟩).getD undef) hIm (fun j p hp => ?_) fun j p hp => ?_
      · obtain ⟨u, hu, _⟩ := hl j p hp
        rw [hu]; rfl
      · obtain ⟨u, hu, hr⟩ := hl j p hp
        simp only [hu, Option.getD_some]; exact hr
  · rw [if_neg hq] at hx
    exact k.env q x hx
theorem fzpW {c : Code} (t : Nat) {i e s : Nat} {cs : List AV} (hn : ∀ x ∈ cs, NoOwn x) (k : AWp P N c Q ⟨(t, .ip cs) :: st.env, upd st.T i .dead⟩) (ht : get st.env t = some (.ptr i 0 0) := by rfl) (hi : st.T i = .live e s [cs] := by rfl) : AWp P N c Q st :=
  AWp.ent (st' := ⟨(t, .ip cs) :: st.env, upd st.T i .dead⟩) (fun I0 w0 β a w hr => ⟨β, hr.freezeP ht hi hn⟩) k
section steps
variable {ops : Array Oper} {i : Nat} {l : List Nat} {d : Nat}
theorem nle {z : Operand} {t t' e s s' : Nat} {es : List (List AV)} (k : AOps P N ops Q l (st.put d (.v (.bool false)))) (hne : es ≠ [] := by simp <;> fail) (ho : (ops.getD i default).op = .binOp .eql t z (.const (.slice none 0 0)) t' := by rfl) (hz : ev st z = some (.sl s es) := by rfl) (ht : elOf P t = some (e, s') := by rfl)
    (hi : Nat.blt i ops.size = true := by rfl) (hg : opAt N ops st i = true := by rfl) (hd : (ops.getD i default).dst = some d := by rfl) (hN : Nat.blt d N = true := by rfl) : AOps P N ops Q (i :: l) st := st1 (y_nle hne ho hz ht) k hi hg hd hN
theorem nlE {z : Operand} {t t' e s s' : Nat} {es : List (List AV)} (k : AOps P N ops Q l (st.put d (.v (.bool true)))) (hne : es ≠ [] := by simp <;> fail) (ho : (ops.getD i default).op = .binOp .neq t z (.const (.slice none 0 0)) t' := by rfl) (hz : ev st z = some (.sl s es) := by rfl) (ht : elOf P t = some (e, s') := by rfl)
    (hi : Nat.blt i ops.size = true := by rfl) (hg : opAt N ops st i = true := by rfl) (hd : (ops.getD i default).dst = some d := by rfl) (hN : Nat.blt d N = true := by rfl) : AOps P N ops Q (i :: l) st := st1 (y_nlE hne ho hz ht) k hi hg hd hN
end steps
end
end Go.Proofs.Ytemcemimipagoaa.AW
namespace Go.Proofs.Ytemcemimipagoaa.AW
open Go Go.RowKit
def Ty (P : Program) : Nat → TypeId → List AV → Prop
  | 0, _, _ => False
  | n + 1, t, as => match P.underlying t with
    | some .bool => ∃ b : Bool, as = [.v (.bool b)]
    | some (.int k) => ∃ x : Int, as = [.v (.int k x)] ∧ k.min ≤ x ∧ x ≤ k.max
    | some .string => ∃ s : ByteArray, as = [.v (.string s)] ∧ s.size ≤ reachBytes
    | some (.slice e) => ∃ es : List (List AV), as = [.sl (P.cellsOf e) es] ∧ es.length * P.bytesOf e ≤ reachBytes ∧ ∀ c ∈ es, Ty P n e c
    | some (.struct fs) => ∃ parts : List (List AV), parts.length = fs.size ∧ as = parts.flatten ∧ ∀ (i : Nat) (f : Field) (p : List AV), fs[i]? = some f → parts[i]? = some p → Ty P n f.type p
    | _ => False
def tiles (P : Program) : Nat → List Field → Option Nat
  | o, [] => some o
  | o, f :: r => bif f.offset == o then tiles P (o + P.cellsOf f.type) r else none
def plainT (P : Program) : Nat → TypeId → Bool
  | 0, _ => false
  | n + 1, t => match P.underlying t with
    | some .bool => true
    | some (.int _) => true
    | some .string => true
    | some (.slice e) => plainT P n e && Nat.blt 0 (P.cellsOf e)
    | some (.struct fs) => fs.toList.all (fun f => plainT P n f.type) && tiles P 0 fs.toList == some (P.cellsOf t)
    | _ => false
theorem All2.app {R : AV → Value → Prop} : ∀ {a b : List AV} {c d : List Value}, All2 R a c → All2 R b d → All2 R (a ++ b) (c ++ d)
  | [], _, [], _, _, h => h
  | _ :: _, _, _ :: _, _, ⟨h1, h2⟩, h => ⟨h1, All2.app h2 h⟩
  | [], _, _ :: _, _, h, _ => h.elim
  | _ :: _, _, [], _, h, _ => h.elim
section
variable {H : Type} {enc : TypeId × Value → H} {P : Program} {w : World} {sp : Nat → Bool} {held : Bool}
theorem parts_of {R : AV → Value → Prop} (n : Nat) (cs : List Value) (m : Nat) (hm : cs.length = m) : ∀ (fs : List Field) (o : Nat), tiles P o fs = some m →
    (∀ f ∈ fs, ∃ as, All2 R as ((cs.drop f.offset).take (P.cellsOf f.type)) ∧ Ty P n f.type as) →
    ∃ parts : List (List AV), parts.length = fs.length ∧ (∀ (i : Nat) (f : Field) (p : List AV), fs[i]? = some f → parts[i]? = some p → Ty P n f.type p) ∧ All2 R parts.flatten (cs.drop o)
  | [], o, ht, _ => by
    simp only [tiles, Option.some.injEq] at ht
    refine ⟨[], rfl, by simp, ?_⟩
    rw [List.drop_of_length_le (by omega)]
    trivial
  | f :: r, o, ht, hf => by
    simp only [tiles, Bool.cond_eq_ite, beq_iff_eq] at ht
    split at ht
    · rename_i ho
      obtain ⟨as, h1, h2⟩ := hf f (.head _)
      obtain ⟨parts, h3, h4, h5⟩ := parts_of n cs m hm r _ ht fun g hg => hf g (.tail _ hg)
      refine ⟨as :: parts, by simp [h3], fun i g p hg hp => ?_, ?_⟩
      · cases i with
        | zero => simp at hg hp; subst hg; subst hp; exact h2
        | succ i => exact h4 i g p (by simpa using hg) (by simpa using hp)
      · rw [List.flatten_cons]
        have := h1.app h5
        rw [ho] at this
        rwa [← List.drop_drop, List.take_append_drop] at this
    · cases ht
theorem addr_two (a : Addr) (n r : Nat) {v : Value} (h : w.cell? ((a.add n).add r) = some v) : w.cell? ⟨a.block, a.off + (n + r), none⟩ = some v := by
  obtain ⟨b, o, s⟩ := a
  have h0 : ∀ x : Addr, w.cell? x = some v → x.spot = none := by
    intro x hx
    unfold World.cell? at hx
    split at hx
    · split at hx
      · cases hx
      · rename_i hs; simpa using hs
    · cases hx
  unfold Addr.add at h
  by_cases hn : n = 0
  · subst hn
    simp only [if_true] at h
    by_cases hr : r = 0
    · subst hr
      simp only [if_true] at h
      have hs := h0 _ h
      simp only at hs
      subst hs
      simpa using h
    · rw [if_neg hr] at h
      simpa using h
  · rw [if_neg hn] at h
    by_cases hr : r = 0
    · subst hr
      simpa using h
    · rw [if_neg hr] at h
      simpa [Nat.add_assoc] using h
theorem cells_get {base : Nat} {a : Addr} {n : Nat} {l : List Value} (h : w.cells? base a n = some l) : l.length = n ∧ ∀ r, r < n → w.cell? (a.add r) = l[r]? := by
  unfold World.cells? at h
  split at h
  · have h1 := mapM_some_length h
    refine ⟨by simpa using h1, fun r hr => ?_⟩
    exact mapM_some_get h r r (by rw [List.getElem?_range hr])
  · cases h
theorem open_av : ∀ (m : Nat) (t : TypeId) (cs : List Value) (x : DataW H × List MemPlace) (fuel : Nat), plainT P m t = true → DataW.trod enc P w 0 sp held fuel t cs = some x →
    (x.1.weights P t).all (· ≤ reachBytes) = true → ∃ as, All2 (Rep (fun b => b < w.heap.size) noT noβ w) as cs ∧ Ty P m t as
  | 0, t, cs, x, fuel, h, _, _ => by cases h
  | m + 1, t, cs, x, fuel, hp, hd, hw => by
    unfold plainT at hp
    split at hp
    · rename_i hu
      obtain ⟨b, rfl, _⟩ := DataW.trod_bool hu hd
      exact ⟨[.v (.bool b)], ⟨.v _, trivial⟩, by unfold Ty; rw [hu]; exact ⟨b, rfl⟩⟩
    · rename_i k hu
      obtain ⟨n, rfl, _, hn⟩ := DataW.trod_int hu hd
      simp only [Lit.wf, Bool.and_eq_true, decide_eq_true_eq] at hn
      exact ⟨[.v (.int k n)], ⟨.v _, trivial⟩, by unfold Ty; rw [hu]; exact ⟨n, rfl, hn⟩⟩
    · rename_i hu
      obtain ⟨s, rfl, rfl, _⟩ := DataW.trod_string hu hd
      have hsz : s.size ≤ reachBytes := by simpa [DataW.weights] using hw
      exact ⟨[.v (.string s)], ⟨.v _, trivial⟩, by unfold Ty; rw [hu]; exact ⟨s, rfl, hsz⟩⟩
    · rename_i e hu
      simp only [Bool.and_eq_true] at hp
      obtain ⟨hpe, hpos⟩ := hp
      have hpos := blt_lt hpos
      rcases DataW.trod_slice hu hd with ⟨rfl, rfl⟩ | ⟨a, len, cap, elems, rest, n, rfl, rfl, rfl, _, hlc, _, hel, hget, _, _⟩
      · exact ⟨[.sl (P.cellsOf e) []], ⟨.emp _ none 0 fun _ => rfl, trivial⟩, by unfold Ty; rw [hu]; exact ⟨[], rfl, by simp, by simp⟩⟩
      · simp only [DataW.weights, hu, List.all_cons, Bool.and_eq_true, decide_eq_true_eq, List.length_map, List.all_append] at hw
        obtain ⟨hw1, hw2, _⟩ := hw
        have hwe : ∀ y ∈ elems, (y.1.weights P e).all (· ≤ reachBytes) = true := by
          have : ∀ (l : List (DataW H × List MemPlace)), (DataW.weightsAll P e (l.map (·.1))).all (· ≤ reachBytes) = true → ∀ y ∈ l, (y.1.weights P e).all (· ≤ reachBytes) = true := by
            intro l
            induction l with
            | nil => intro _ y hy; cases hy
            | cons z l ih =>
              intro h y hy
              simp only [List.map_cons, DataW.weightsAll, List.all_append, Bool.and_eq_true] at h
              rcases List.mem_cons.1 hy with rfl | hy
              · exact h.1
              · exact ih h.2 y hy
          exact this elems hw2
        have hex : ∀ i, ∃ as : List AV, i < len → ∃ l, w.cells? 0 (a.add (i * P.cellsOf e)) (P.cellsOf e) = some l ∧ All2 (Rep (fun b => b < w.heap.size) noT noβ w) as l ∧ Ty P m e as := by
          intro i
          by_cases hi : i < len
          · have h1 := hget i hi
            have hie : i < elems.length := by omega
            rw [List.getElem?_eq_getElem hie, Option.bind_eq_some_iff] at h1
            obtain ⟨l, h2, h3⟩ := h1
            obtain ⟨as, h4, h5⟩ := open_av m e l _ n hpe h3 (hwe _ (List.getElem_mem hie))
            exact ⟨as, fun _ => ⟨l, h2, h4, h5⟩⟩
          · exact ⟨[], fun h => absurd h hi⟩
        let f : Nat → List AV := fun i => Classical.choose (hex i)
        have hf : ∀ i, i < len → ∃ l, w.cells? 0 (a.add (i * P.cellsOf e)) (P.cellsOf e) = some l ∧ All2 (Rep (fun b => b < w.heap.size) noT noβ w) (f i) l ∧ Ty P m e (f i) := fun i => Classical.choose_spec (hex i)
        have hes : ∀ c ∈ (List.range len).map f, c.length = P.cellsOf e := by
          intro c hc
          simp only [List.mem_map, List.mem_range] at hc
          obtain ⟨i, hi, rfl⟩ := hc
          obtain ⟨l, h1, h2, _⟩ := hf i hi
          rw [h2.length, (cells_get h1).1]
        refine ⟨[.sl (P.cellsOf e) ((List.range len).map f)], ⟨?_, trivial⟩, ?_⟩
        · by_cases h0 : len = 0
          · subst h0
            exact .emp _ _ _ fun h => by cases h
          · have key : ∀ (j : Nat) (p : AV), ((List.range len).map f).flatten[j]? = some p → ∃ v, w.cell? ⟨a.block, a.off + j, none⟩ = some v ∧ Rep (fun b => b < w.heap.size) noT noβ w p v := by
              intro j p hj
              obtain ⟨k, r, c, rfl, hr, hk, hc⟩ := flat_inv hes hj
              have hkl : k < len := by have := (List.getElem?_eq_some_iff.1 hk).1; simpa using this
              rw [List.getElem?_map, List.getElem?_range hkl] at hk
              simp only [Option.map_some, Option.some.injEq] at hk
              subst hk
              obtain ⟨l, h1, h2, _⟩ := hf k hkl
              obtain ⟨v, hv, hrv⟩ := h2.get hc
              exact ⟨v, addr_two a _ r (by rw [(cells_get h1).2 r hr]; exact hv), hrv⟩
            have hlen : ((List.range len).map f).length = len := by simp
            have hIb : a.block < w.heap.size := by
              have hl0 : 0 < ((List.range len).map f).flatten.length := by
                rw [flat_len hes, hlen]; exact Nat.mul_pos (by omega) hpos
              obtain ⟨v, hv, _⟩ := key 0 _ (List.getElem?_eq_getElem hl0)
              unfold World.cell? at hv
              cases hh : w.heap[a.block]? with
              | none => simp [hh] at hv
              | some o => exact (Array.getElem?_eq_some_iff.1 hh).1
            have hR := Rep.sl (I := fun b => b < w.heap.size) (T := noT) (β := noβ) (w := w) (P.cellsOf e) ((List.range len).map f) a.block a.off cap (fun j => (w.cell? ⟨a.block, a.off + j, none⟩).getD undef) hIb (by rw [hlen]; exact hlc) hes
              (fun j p hj => by obtain ⟨v, hv, _⟩ := key j p hj; rw [hv]; rfl) (fun j p hj => by obtain ⟨v, hv, hr⟩ := key j p hj; rw [hv]; exact hr)
            rw [hlen] at hR
            have ha : a.spot = none := by
              have hl0 : 0 < len := by omega
              obtain ⟨l, h1, h2, _⟩ := hf 0 hl0
              have h3 := (cells_get h1).2 0 hpos
              have h4 : l.length = P.cellsOf e := (cells_get h1).1
              rw [Nat.zero_mul, List.getElem?_eq_getElem (by omega)] at h3
              have h5 : a.add 0 = a := by simp [Addr.add]
              rw [h5, h5] at h3
              unfold World.cell? at h3
              split at h3
              · split at h3
                · cases h3
                · rename_i hs; simpa using hs
              · cases h3
            obtain ⟨ab, ao, asp⟩ := a
            simp only at ha
            subst ha
            exact hR
        · unfold Ty; rw [hu]
          refine ⟨_, rfl, ?_, fun c hc => ?_⟩
          · rw [List.length_map, List.length_range]
            refine Nat.le_trans ?_ hw1
            exact Nat.mul_le_mul_right _ (by omega)
          · simp only [List.mem_map, List.mem_range] at hc
            obtain ⟨i, hi, rfl⟩ := hc
            obtain ⟨l, _, _, h3⟩ := hf i hi
            exact h3
    · rename_i fs hu
      simp only [Bool.and_eq_true, beq_iff_eq] at hp
      obtain ⟨hpf, htl⟩ := hp
      obtain ⟨xs, n, rfl, rfl, hl, hxl, hget⟩ := DataW.trod_struct hu hd
      simp only [DataW.weights, hu] at hw
      have hwe : ∀ (ts : List TypeId) (l : List (DataW H)), (DataW.weightsEach P ts l).all (· ≤ reachBytes) = true → ∀ (i : Nat) (t : TypeId) (d : DataW H), ts[i]? = some t → l[i]? = some d → (d.weights P t).all (· ≤ reachBytes) = true := by
        intro ts l h i t d ht hd
        rw [List.all_eq_true]
        intro y hy
        exact List.all_eq_true.1 h y (DataW.weights_mem_each ht hd y hy)
      obtain ⟨parts, h1, h2, h3⟩ := parts_of (R := Rep (fun b => b < w.heap.size) noT noβ w) m cs _ hl fs.toList 0 htl fun f hf => by
        obtain ⟨i, hi, rfl⟩ := List.getElem_of_mem hf
        have hfi : fs[i]? = some fs.toList[i] := by simp
        have hg := hget i _ hfi
        have hix : i < xs.length := by rw [hxl]; simpa using hi
        rw [List.getElem?_eq_getElem hix] at hg
        exact open_av m _ _ _ n (List.all_eq_true.1 hpf _ (List.getElem_mem hi)) hg (hwe _ _ hw i _ _ (by rw [List.getElem?_map, List.getElem?_eq_getElem hi]; rfl) (by simp [hix]))
      rw [List.drop_zero] at h3
      refine ⟨parts.flatten, h3, ?_⟩
      unfold Ty; rw [hu]
      exact ⟨parts, by simpa using h1, rfl, fun i f p hf hp => h2 i f p (by simpa using hf) hp⟩
    · cases hp
theorem all2_agg {I : Nat → Prop} {T : Nat → Ob} {β : Nat → Value} {as : List AV} {cs : Array Value} (h : All2 (Rep I T β w) as cs.toList) : Rep I T β w (.agg as) (.agg cs) :=
  .agg as cs (by simpa using h.length) fun j a c ha hc => by
    obtain ⟨y, hy, hr⟩ := h.get ha
    rw [Array.getElem?_toList, hc] at hy
    cases hy; exact hr
theorem open_struct {t : TypeId} {fs : Array Field} {v : Value} {d : DataW H} {ps : List MemPlace} (m : Nat) (hu : P.underlying t = some (.struct fs)) (hp : plainT P m t = true) {b0 : Nat} (hval : Value.okWide P w .any b0 t v) (h : DataW.Trod enc P w 0 sp held t v d ps)
    (hw : (d.weights P t).all (· ≤ reachBytes) = true) : ∃ as, Rep (fun b => b < w.heap.size) noT noβ w (.agg as) v ∧ Ty P m t as := by
  unfold Value.okWide at hval
  rw [hu] at hval
  obtain ⟨cs, rfl, _, _⟩ := hval
  obtain ⟨fuel, hf⟩ := h
  obtain ⟨as, h1, h2⟩ := open_av m t _ _ fuel hp hf hw
  exact ⟨as, all2_agg h1, h2⟩
theorem list_map {α : Type _} {f : α → List AV} {q : α → Prop} {es : List (List AV)} (h : ∀ c ∈ es, ∃ x, c = f x ∧ q x) : ∃ l : List α, es = l.map f ∧ ∀ x ∈ l, q x := by
  induction es with
  | nil => exact ⟨[], rfl, by simp⟩
  | cons c es ih =>
    obtain ⟨x, rfl, hx⟩ := h c (.head _)
    obtain ⟨l, rfl, h2⟩ := ih fun c hc => h c (.tail _ hc)
    refine ⟨x :: l, rfl, fun y hy => ?_⟩
    rcases List.mem_cons.1 hy with hy | hy
    · rw [hy]; exact hx
    · exact h2 y hy
end
end Go.Proofs.Ytemcemimipagoaa.AW
