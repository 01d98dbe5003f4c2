/- Abstract states: calls that make a row, or two, whatever is told with them. -/
import Derived.Test.YtafbiccgbgcooaaAWs
namespace Go.Proofs.Ytafbiccgbgcooaa.AW
open Go Go.RowKit
set_option linter.unusedVariables false
set_option linter.unusedSimpArgs false

@[simp] theorem dec_rec (p : Prop) (d : Decidable p) : (Decidable.rec (motive := fun _ => Bool) (fun _ => false) (fun _ => true) d) = @decide p d := by cases d <;> rfl
theorem merge_upd (S T : Nat → Ob) (m e s : Nat) (es : List (List AV)) : mergeT S (upd T m (.live e s es)) = upd (mergeT S T) m (.live e s es) := by
  funext j
  by_cases h : j = m
  · subst h; simp [mergeT, upd]
  · simp [mergeT, upd, h]
theorem merge_noT (S : Nat → Ob) : mergeT S noT = S := by
  funext j; simp [mergeT, noT]
/-- A call whose rows are shared at once. -/
theorem Ok.sh {P : Program} {f : Nat} {args : List AV} {R : AV → (Nat → Ob) → Prop} {y : AV} (h : Ok P f args R) (hs : ∀ x T, R x T → Sh T x y) : Gives P f args y := by
  intro I0 w vs hI hvs
  refine (h I0 w vs hI hvs).mono ?_
  rintro e w' (hF | ⟨v, x, T, β, rfl, h1, h2, h3, h4⟩)
  · exact hF.elim
  · exact .inr ⟨v, y, noT, noβ, rfl, ⟨rfl, rfl⟩, h2, Objs.noT _, (hs x T h1).rep h3 v h4⟩
theorem Ok.mono {P : Program} {f : Nat} {args : List AV} {R R' : AV → (Nat → Ob) → Prop} (h : Ok P f args R) (hs : ∀ x T, R x T → R' x T) : Ok P f args R' := by
  intro I0 w vs hI hvs
  refine (h I0 w vs hI hvs).mono ?_
  rintro e w' (hF | ⟨v, x, T, β, rfl, h1, h2⟩)
  · exact hF.elim
  · exact .inr ⟨v, x, T, β, rfl, hs x T h1, h2⟩
section
variable {P : Program} {N : Nat} {Q : Exit → ASt → Prop} {st : ASt}
theorem y_storeU {o : Oper} {x : AV} {T1 : Nat → Ob} {t n : Nat} {ag : Bool} {zp zv : Operand} {j q r e s : Nat} {es : List (List AV)} {c : List AV} (hq : es[q]? = some c)
    (ho : o.op = .store t zp zv := by rfl) (hd : o.dst = none := by rfl) (ht : szOf P t = some (n, ag) := by rfl)
    (hp : ev st zp = some (.ptr j q r) := by rfl) (hi : st.T j = .live e s es := by rfl) (hv : ev st zv = some x := by rfl) (hn : (cellsA x).length = n := by rfl) (hrs : Nat.ble (r + n) s = true := by rfl)
    (hx : (cellsA x).all (cok1 st.T) = true := by rfl) (hT1 : upd st.T j (.live e s (es.set q (c.take r ++ cellsA x ++ c.drop (r + n)))) = T1 := by rfl) : AEff P N Q o st (.v undef) T1 :=
  y_storeE hT1 hq hx ho hd ht hp hi hv hn hrs
/-- .. to a variable. -/
theorem y_storeV {o : Oper} {x : AV} {T1 : Nat → Ob} {t n : Nat} {ag : Bool} {zp zv : Operand} {j r e s : Nat} {c : List AV}
    (ho : o.op = .store t zp zv := by rfl) (hd : o.dst = none := by rfl) (ht : szOf P t = some (n, ag) := by rfl)
    (hp : ev st zp = some (.ptr j 0 r) := by rfl) (hi : st.T j = .live e s [c] := by rfl) (hv : ev st zv = some x := by rfl) (hn : (cellsA x).length = n := by rfl) (hrs : Nat.ble (r + n) s = true := by rfl)
    (hx : (cellsA x).all (cok1 st.T) = true := by rfl) (hT1 : upd st.T j (.live e s [c.take r ++ cellsA x ++ c.drop (r + n)]) = T1 := by rfl) : AEff P N Q o st (.v undef) T1 :=
  y_storeU (es := [c]) (q := 0) (c := c) rfl ho hd ht hp hi hv hn hrs hx hT1
theorem y_litU {o : Oper} {T1 : Nat → Ob} {t e s len : Nat} {parts : Array (Nat × Operand)} {ps : List (Nat × AV)} {z : List AV} (m : Nat)
    (ho : o.op = .buildSlice t len parts := by rfl) (ht : elOf P t = some (e, s) := by rfl) (hz : zcells P e = some z := by rfl) (hps : evps st parts.toList = some ps := by rfl) (hpl : ps.length = len := by rfl)
    (hsm : Nat.ble (len * s) 16777216 = true := by rfl) (hs0 : Nat.blt 0 (len * s) = true := by rfl) (hok : (ps.all fun p => (cellsA p.2).all (cok1 st.T)) = true := by rfl) (hls : (ps.all fun p => (cellsA p.2).length == s) = true := by rfl)
    (hf : fillA (fun i => some (i * s, s)) (List.replicate len z).flatten ps = some (ps.map fun p => cellsA p.2).flatten := by rfl) (hm : st.T m = .no := by rfl) (hT1 : upd st.T m (.live e s (ps.map fun p => cellsA p.2)) = T1 := by rfl) : AEff P N Q o st (.own m) T1 :=
  y_litE m hT1 hm ho ht hz hps hpl hsm hs0 hok hls hf
theorem y_bstrU {o : Oper} {x : AV} {z : Operand} {t t' e : Nat} (ns : List Int) (ho : o.op = .convert t t' z := by rfl) (hz : ev st z = some x := by rfl) (hsz : sizA st 1 x = true := by rfl)
    (ht : P.underlying t = some (.slice e) := by rfl) (he : P.underlying e = some (.int .u8) := by rfl) (ht' : P.underlying t' = some .string := by rfl) (hs : srcA st x = some (byteRow ns) := by rfl) : AYield P N Q o st (.v (.string (strOfNums ns))) :=
  y_bstr ns hs ho hz hsz ht he ht'
/-- Pieces of a string. -/
theorem y_cutsH {o : Oper} {z q : Operand} {t : Nat} {s : ByteArray} {k : IntKind} {n : Int} (h : Nat) (hhe : h ≤ s.size) (hn : n = (h : Int)) (ho : o.op = .slice t z none (some q) none := by rfl) (ht : P.underlying t = some .string := by rfl) (hz : ev st z = some (.v (.string s)) := by rfl)
    (hq : ev st q = some (.v (.int k n)) := by rfl) : AYield P N Q o st (.v (.string (s.extract 0 h))) :=
  y_cuts ho ht hz (fun q hq => by cases hq) (fun _ => rfl) (fun q' hq' => by cases hq'; exact ⟨k, hn ▸ hq⟩) (fun h => by cases h) (Nat.zero_le _) hhe
theorem y_cutsL {o : Oper} {z q : Operand} {t : Nat} {s : ByteArray} {k : IntKind} {n : Int} (l : Nat) (hle : l ≤ s.size) (hn : n = (l : Int)) (ho : o.op = .slice t z (some q) none none := by rfl) (ht : P.underlying t = some .string := by rfl) (hz : ev st z = some (.v (.string s)) := by rfl)
    (hq : ev st q = some (.v (.int k n)) := by rfl) : AYield P N Q o st (.v (.string (s.extract l s.size))) :=
  y_cuts ho ht hz (fun q' hq' => by cases hq'; exact ⟨k, hn ▸ hq⟩) (fun h => by cases h) (fun q hq => by cases hq) (fun _ => rfl) hle (Nat.le_refl _)
theorem y_cutsB {o : Oper} {z q q2 : Operand} {t : Nat} {s : ByteArray} {k k2 : IntKind} {n n2 : Int} (l h : Nat) (hlh : l ≤ h) (hhe : h ≤ s.size) (hn : n = (l : Int)) (hn2 : n2 = (h : Int)) (ho : o.op = .slice t z (some q) (some q2) none := by rfl) (ht : P.underlying t = some .string := by rfl) (hz : ev st z = some (.v (.string s)) := by rfl)
    (hq : ev st q = some (.v (.int k n)) := by rfl) (hq2 : ev st q2 = some (.v (.int k2 n2)) := by rfl) : AYield P N Q o st (.v (.string (s.extract l h))) :=
  y_cuts ho ht hz (fun q' hq' => by cases hq'; exact ⟨k, hn ▸ hq⟩) (fun h => by cases h) (fun q' hq' => by cases hq'; exact ⟨k2, hn2 ▸ hq2⟩) (fun h => by cases h) hlh hhe
/-- A region that draws, with one that writes a row of the call's own. -/
theorem aw_drawU {ops : Array Oper} {id : Nat} (m e j : Nat) (o : Ob) (h : ADr P N ops Q st m (some (e, upd st.T j o)) [] 0) (hchk : drawChk N ops st.env m = true := by rfl) (he : Nat.blt e m = true := by rfl) (hm : P.follows .mixedOrders = true := by rfl) :
    AWp P N (.region id ops true) Q st := aw_draw m (some (e, upd st.T j o)) h hchk he hm
section steps
variable {ops : Array Oper} {i : Nat} {l : List Nat} {d : Nat} {x y : AV}
/-- A call that makes one row. -/
theorem cm1 {g : Nat} {caps : List AV} {z : Operand} {xs : Array Operand} {ts : Array TypeId} {ls l' : List AV} {m e s : Nat} {es : List (List AV)} (hok : Ok P g l' fun y T => y = x ∧ T = upd noT m (.live e s es))
    (k : AOps P N ops Q l (ASt.mk ((d, x) :: st.env) (upd st.T m (.live e s es)))) (hm : st.T m = .no := by rfl) (ho : (ops.getD i default).op = .call ⟨.value z, xs, ts⟩ := by rfl)
    (hz : ev st z = some (.clo g caps) := by rfl) (hl : evs st xs.toList = some ls := by rfl) (hl' : ls ++ caps = l' := by rfl) (hg' : goFn P g = true := by rfl) (hno : NoOwnL l' := by simp [NoOwnL]) (hi : Nat.blt i ops.size = true := by rfl)
    (hg : opAt N ops st i = true := by rfl) (hd : (ops.getD i default).dst = some d := by rfl) (hN : Nat.blt d N = true := by rfl) : AOps P N ops Q (i :: l) st :=
  cm hok (by rw [merge_upd, merge_noT]) (fun j hj => by
    simp only [upd, noT] at hj
    by_cases hjm : j = m
    · rw [hjm]; exact hm
    · rw [if_neg hjm] at hj; exact absurd rfl hj) k ho hz hl hl' hg' hno hi hg hd hN
/-- A call that makes two rows. -/
theorem cm2 {g : Nat} {caps : List AV} {z : Operand} {xs : Array Operand} {ts : Array TypeId} {ls l' : List AV} {m e s m' e' s' : Nat} {es es' : List (List AV)} (hok : Ok P g l' fun y T => y = x ∧ T = upd (upd noT m (.live e s es)) m' (.live e' s' es'))
    (k : AOps P N ops Q l (ASt.mk ((d, x) :: st.env) (upd (upd st.T m (.live e s es)) m' (.live e' s' es')))) (hm : st.T m = .no := by rfl) (hm' : st.T m' = .no := by rfl) (ho : (ops.getD i default).op = .call ⟨.value z, xs, ts⟩ := by rfl)
    (hz : ev st z = some (.clo g caps) := by rfl) (hl : evs st xs.toList = some ls := by rfl) (hl' : ls ++ caps = l' := by rfl) (hg' : goFn P g = true := by rfl) (hno : NoOwnL l' := by simp [NoOwnL]) (hi : Nat.blt i ops.size = true := by rfl)
    (hg : opAt N ops st i = true := by rfl) (hd : (ops.getD i default).dst = some d := by rfl) (hN : Nat.blt d N = true := by rfl) : AOps P N ops Q (i :: l) st :=
  cm hok (by rw [merge_upd, merge_upd, merge_noT]) (fun j hj => by
    simp only [upd, noT] at hj
    by_cases hjm : j = m'
    · rw [hjm]; exact hm'
    · rw [if_neg hjm] at hj
      by_cases hjm : j = m
      · rw [hjm]; exact hm
      · rw [if_neg hjm] at hj; exact absurd rfl hj) k ho hz hl hl' hg' hno hi hg hd hN
/-- One element, appended. -/
theorem ap1 {t e s by_ j : Nat} {z1 z2 : Operand} {z c : List AV} {es : List (List AV)} (m : Nat)
    (k : AOps P N ops Q l (ASt.mk ((d, .own m) :: st.env) (upd (upd st.T j .dead) m (.live e s (es ++ [c])))))
    (ho : (ops.getD i default).op = .call ⟨.builtin .append, #[z1, z2], #[t, t]⟩ := by rfl) (h1 : ev st z1 = some (.own j) := by rfl) (hT : st.T j = .live e s es := by rfl) (h2 : ev st z2 = some x := by rfl) (hs : srcA st x = some [c] := by rfl) (hsz : sizA st s x = true := by rfl)
    (ht : elOf P t = some (e, s) := by rfl) (hz : zcells P e = some z := by rfl) (hby : byOf P e = some by_ := by rfl) (hb : Nat.ble by_ 127 = true := by rfl) (hok : c.all (cok1 st.T) = true := by rfl)
    (hi : Nat.blt i ops.size = true := by rfl) (hg : opAt N ops st i = true := by rfl) (hd : (ops.getD i default).dst = some d := by rfl) (hN : Nat.blt d N = true := by rfl) (hm : st.T m = .no := by rfl) (hl : es.length < 1099511627776) : AOps P N ops Q (i :: l) st := by
  have hb' : by_ ≤ 127 := by simpa using hb
  refine ap m hm ?_ ?_ ?_ k ho h1 hT h2 hs hsz ht hz hby hi hg hd hN
  · intro c' hc' y hy
    simp only [List.mem_singleton] at hc'
    subst hc'
    exact List.all_eq_true.1 hok y hy
  · have h3 : (es.length + [c].length) * by_ ≤ 1099511627776 * 127 := Nat.mul_le_mul (by simp only [List.length_singleton]; omega) hb'
    omega
  · simp only [List.length_singleton]; omega
end steps
end
end Go.Proofs.Ytafbiccgbgcooaa.AW
