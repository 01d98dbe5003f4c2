/- Abstract states: literals of rows, and appends. -/
import Derived.Test.YtafbiccgbgcooaaAWj
namespace Go.Proofs.Ytafbiccgbgcooaa.AW
open Go Go.RowKit
set_option linter.unusedVariables false
set_option linter.unusedSimpArgs false

section
variable {P : Program} {N : Nat} {Q : Exit → ASt → Prop} {st : ASt} {I0 : Nat → Prop} {w0 : World} {β : Nat → Value} {a : Act} {w : World}

theorem run_app (base : Nat) (t ty e : TypeId) (i : TypeInfo) (z : Value) (size bytes : Nat) (ht : P.underlying t = some (.slice e)) (hi : P.info? e = some i) (hz : i.zero = some z)
    (hsize : i.size = size) (hby : i.bytes = bytes) (hzs : z.cells.size = size)
    (v : Value) (n : Nat) (xs : List Value) (hown : w.owns base e size v n xs)
    (ad : Option Addr) (m c : Nat) (hnone : ad = none → m = 0 ∧ c = 0) (news : List Value) (hl : news.length = m * size) (hnews : ∀ b, ad = some b → ∀ j u, news[j]? = some u → w.cell? (b.add j) = some u) (h1 : ∀ u ∈ news, u.oneCell' = true)
    (h63 : n + m ≤ maxLen) (hbytes : (n + m) * bytes ≤ 140737488355328) (hbase : base ≤ w.heap.size) :
    ∃ v' w', (Builtin.append_ #[t, t] ty #[v, .slice ad m c]).run P w = .ok v' w' ∧ w'.owns base e size v' (n + m) (xs ++ news) ∧ w.grownBy w' v.ownBlock ∧
      ∀ b, v'.ownBlock = some b → some b = v.ownBlock ∨ w.heap.size ≤ b := by
  subst hsize
  subst hby
  have same : ∀ row : Option Nat, w.grownBy w row := fun row => ⟨rfl, rfl, rfl, Nat.le_refl _, fun _ _ _ => rfl⟩
  have h63' : n + m ≤ 9223372036854775807 := by simp only [maxLen] at h63; omega
  cases ad with
  | none =>
    obtain ⟨rfl, rfl⟩ := hnone rfl
    have hn : news = [] := List.eq_nil_of_length_eq_zero (by simpa using hl)
    subst hn
    have : (Builtin.append_ #[t, t] ty #[v, .slice none 0 0]).run P w = .ok v w := by
      rcases hown.2 with ⟨rfl, rfl⟩ | ⟨g, cap, cur, fr, rfl, _, _, _, hnc, _⟩
      · simp [Builtin.append_, run_underlying ht, sizeOf, typeInfo, hi, Builtin.lenOf, Builtin.firstCells]
      · simp [Builtin.append_, run_underlying ht, sizeOf, typeInfo, hi, Builtin.lenOf, Builtin.firstCells, hnc, storeCells]
    exact ⟨v, w, this, by simpa using hown, same _, fun b hb => .inl hb.symm⟩
  | some b2 =>
    have hnews := hnews b2 rfl
    have hlen : (xs ++ news).length = (n + m) * i.size := by rw [List.length_append, hown.1, hl, Nat.add_mul]
    have grown : ∀ (old : Nat), ∀ (row : Option Nat),
        (w.drew.alloc (.cells (xs.toArray ++ news.toArray ++ Builtin.zeroCells z.cells (grownCap w (n + m) old e - (n + m))) e)).owns base e i.size
          (.slice (some ⟨w.heap.size, 0, none⟩) (n + m) (grownCap w (n + m) old e)) (n + m) (xs ++ news) ∧
        w.grownBy (w.drew.alloc (.cells (xs.toArray ++ news.toArray ++ Builtin.zeroCells z.cells (grownCap w (n + m) old e - (n + m))) e)) row := by
      intro old row
      have hge := grownCap_ge w (n + m) old e
      have hcm : grownCap w (n + m) old e ≤ maxLen := grownCap_le_maxLen w (n + m) old e h63
      refine ⟨⟨hlen, .inr ⟨w.heap.size, _, _, (0, 0), rfl, hbase, heap_alloc_new w.drew _, .inl ⟨rfl, rfl⟩, hge, hcm, ?_, ?_⟩⟩, ⟨rfl, rfl, rfl, by simp, fun k hk _ => heap_alloc_old w.drew _ k hk⟩⟩
      · simp only [Array.size_append, List.size_toArray, size_zeroCells, hzs, hown.1, hl, ← Nat.add_mul]
        congr 1
        omega
      · simp only [Array.toList_append, List.append_assoc]
        rw [← List.append_assoc, ← hlen]
        exact List.take_left
    rcases hown.2 with ⟨rfl, rfl⟩ | ⟨g, cap, cur, fr, rfl, hbg, hg, hfr, hnc, hcm, hcs, htake⟩
    · have hx : xs = [] := List.eq_nil_of_length_eq_zero (by simpa using hown.1)
      subst hx
      by_cases hm : m = 0
      · subst hm
        have hn : news = [] := List.eq_nil_of_length_eq_zero (by simpa using hl)
        subst hn
        refine ⟨.slice none 0 0, w, ?_, World.owns_nil w base e i.size, same _, fun b hb => by simp [Value.ownBlock] at hb⟩
        simp [Builtin.append_, run_underlying ht, sizeOf, typeInfo, hi, Builtin.lenOf, Builtin.firstCells, loadCells, loadCellsFrom]
      · have hr := run_append_nil (P := P) w t ty e i z ht hi hz b2 m c news hl hnews (by omega) (by omega) (by have hb := hbytes; simp only [Nat.zero_add] at hb; omega)
        have hgr := grown 0 (Value.ownBlock (.slice none 0 0))
        simp only [Nat.zero_add, List.nil_append, Array.empty_append] at hgr ⊢
        refine ⟨_, _, hr, hgr.1, hgr.2, fun b hb => .inr ?_⟩
        simp [Value.ownBlock] at hb; omega
    · by_cases hroom : n + m ≤ cap
      · have hfit : n * i.size + news.length ≤ cur.size := by rw [hl, hcs, ← Nat.add_mul]; exact Nat.mul_le_mul_right _ hroom
        have hf := run_firstCells_some (P := P) w i.size m b2 m c news hl hnews
        have hst := run_storeCells_fr P g (n * i.size) e news cur w fr hg hfr hfit h1
        have hr : (Builtin.append_ #[t, t] ty #[.slice (some ⟨g, 0, none⟩) n cap, .slice (some b2) m c]).run P w =
            .ok (.slice (some ⟨g, 0, none⟩) (n + m) cap) (w.setRow g (cur.toList.take (n * i.size) ++ news ++ cur.toList.drop (n * i.size + news.length)).toArray) := by
          simp [Builtin.append_, run_underlying ht, sizeOf, typeInfo, hi, Builtin.lenOf, hroom, hf, Addr.add_lit, hst]
        have hsz : (cur.toList.take (n * i.size) ++ news ++ cur.toList.drop (n * i.size + news.length)).toArray.size = cur.size := by
          simp only [List.size_toArray, List.length_append, List.length_take, List.length_drop, Array.length_toList]
          omega
        refine ⟨_, _, hr, ⟨hlen, .inr ⟨g, cap, _, fr, rfl, hbg, setRow_heap w g cur _ e _ hg, by rw [hsz]; exact hfr, hroom, hcm, ?_, ?_⟩⟩, ⟨rfl, rfl, rfl, by simp [World.setRow], fun k _ hk => setRow_other w g k _ (fun e => hk (by simp [Value.ownBlock, e]))⟩, fun b hb => .inl hb.symm⟩
        · simp only [List.size_toArray, List.length_append, List.length_take, List.length_drop, Array.length_toList]
          omega
        · rw [htake, ← hlen]
          exact List.take_left
      · have holds : ∀ j u, xs[j]? = some u → w.cell? ((⟨g, 0, none⟩ : Addr).add j) = some u := hown.cells (g := g) rfl
        have hr := run_append_grow (P := P) w t ty e i z ht hi hz ⟨g, 0, none⟩ n cap xs hown.1 holds b2 m c news hl hnews (by omega) (by omega) (growslice_fits (by omega) hbytes)
        have hgr := grown cap (Value.ownBlock (.slice (some ⟨g, 0, none⟩) n cap))
        refine ⟨_, _, hr, hgr.1, hgr.2, fun b hb => .inr ?_⟩
        simp [Value.ownBlock] at hb; omega

/-- What a slice that is appended holds. -/
def srcA (st : ASt) : AV → Option (List (List AV))
  | .sl _ es => some es
  | .own i => match st.T i with
    | .live _ _ es => some es
    | _ => none
  | _ => none
def sizA (st : ASt) (s : Nat) : AV → Bool
  | .sl s' _ => s' == s
  | .own i => match st.T i with
    | .live _ s' _ => s' == s
    | _ => false
  | _ => false
theorem src_val (hr : Rel N I0 w0 st β a w) {z : Operand} {x : AV} {s : Nat} {es : List (List AV)} (hz : ev st z = some x) (hs : srcA st x = some es) (hsz : sizA st s x = true) (hok : ∀ c ∈ es, ∀ y ∈ c, cok1 st.T y = true) :
    ∃ (ad : Option Addr) (c : Nat) (news : List Value), a.eval z = .slice ad es.length c ∧ (ad = none → es.length = 0 ∧ c = 0) ∧ (∀ x ∈ es, x.length = s) ∧ news.length = es.length * s ∧ (∀ b, ad = some b → ∀ (j : Nat) (u : Value), news[j]? = some u → w.cell? (b.add j) = some u) ∧
      (∀ u ∈ news, u.oneCell' = true) ∧ ∀ (j : Nat) (p : AV), es.flatten[j]? = some p → ∃ u : Value, news[j]? = some u ∧ Rep (Im I0 w0.heap.size st.T β w) st.T β w p u := by
  have h := hr.ev hz
  have hone : ∀ (news : List Value), news.length = es.flatten.length → (∀ (j : Nat) (p : AV), es.flatten[j]? = some p → ∃ u : Value, news[j]? = some u ∧ Rep (Im I0 w0.heap.size st.T β w) st.T β w p u) → ∀ u ∈ news, u.oneCell' = true := by
    intro news hl hp u hu
    obtain ⟨j, hj, rfl⟩ := List.getElem_of_mem hu
    have hlt : j < es.flatten.length := by omega
    obtain ⟨v, hv, hrv⟩ := hp j _ (List.getElem?_eq_getElem hlt)
    have : v = news[j] := by rw [List.getElem?_eq_getElem hj] at hv; simpa using hv.symm
    subst this
    obtain ⟨c, hc, hxc⟩ := List.mem_flatten.1 (List.getElem_mem hlt)
    exact hrv.one hr.objs (hok c hc _ hxc)
  generalize a.eval z = y at h
  cases h with
  | emp s' base cap hh =>
    simp only [srcA, Option.some.injEq] at hs
    subst hs
    exact ⟨base, cap, [], rfl, fun h => ⟨rfl, hh h⟩, by simp, by simp, by simp, by simp, by simp⟩
  | sl s' es' b off cap vs q1 q2 q3 q4 q5 =>
    simp only [srcA, Option.some.injEq] at hs
    subst hs
    have hss : s' = s := by simpa [sizA] using hsz
    subst hss
    have hfl := flat_len q3
    have hp : ∀ (j : Nat) (p : AV), es'.flatten[j]? = some p → ∃ u : Value, ((List.range es'.flatten.length).map vs)[j]? = some u ∧ Rep (Im I0 w0.heap.size st.T β w) st.T β w p u := by
      intro j p hp
      have hlt := (List.getElem?_eq_some_iff.1 hp).1
      exact ⟨vs j, by rw [List.getElem?_map, List.getElem?_range hlt]; rfl, q5 j p hp⟩
    refine ⟨some ⟨b, off, none⟩, cap, (List.range es'.flatten.length).map vs, rfl, by simp, q3, by simp [hfl], ?_, hone _ (by simp) hp, hp⟩
    intro b' hb j u hu
    cases hb
    have hlt : j < es'.flatten.length := by have := (List.getElem?_eq_some_iff.1 hu).1; simpa using this
    rw [List.getElem?_map, List.getElem?_range hlt] at hu
    simp only [Option.map_some, Option.some.injEq] at hu
    subst hu
    rw [add_mid]
    exact q4 j _ (List.getElem?_eq_getElem hlt)
  | own i x h1 h2 =>
    simp only [srcA] at hs
    split at hs
    · rename_i e s' es' hi
      cases hs
      have hss : s' = s := by simpa [sizA, hi] using hsz
      subst hss
      rw [h2 e s' es hi]
      obtain ⟨g1, xs, g2, g3⟩ := hr.objs.obj i e s' es hi
      have hfl := flat_len g1
      rcases g2.2 with ⟨hh, h0⟩ | ⟨g, cap, cur, fr, hh, _⟩
      · rw [hh, h0]
        have hx : xs = [] := List.eq_nil_of_length_eq_zero (by rw [g2.1, h0]; simp)
        subst hx
        exact ⟨none, 0, [], rfl, fun _ => ⟨rfl, rfl⟩, g1, by simp, by simp, by simp, g3⟩
      · rw [hh]
        refine ⟨_, _, xs, rfl, by simp, g1, g2.1, ?_, hone xs (by rw [g2.1, hfl]) g3, g3⟩
        intro b hb j u hu
        cases hb
        exact g2.cells (by rw [hh]; rfl) j u hu
    · cases hs
  | _ => simp [srcA] at hs

section ops
variable {o : Oper} {K : ASt → Prop} {d : Nat} {x y : AV}
theorem ea_info {e s by_ : Nat} {z : List AV} (hs : ∃ b, szOf P e = some (s, b)) (hz : zcells P e = some z) (hby : byOf P e = some by_) : ∃ info zv, P.info? e = some info ∧ info.zero = some zv ∧ info.size = s ∧ info.bytes = by_ ∧ zv.cells.size = s := by
  obtain ⟨b, hs⟩ := hs
  unfold zcells at hz
  cases hinf : P.info? e with
  | none => simp [hinf] at hz
  | some info =>
    cases hzz : info.zero with
    | none => simp [hinf, hzz] at hz
    | some zv =>
      simp only [hinf, hzz, Bool.cond_eq_ite] at hz
      split at hz
      · rename_i hsz
        have hsz : zv.cells.size = info.size := by simpa using hsz
        have hss : info.size = s := by have := szOf_info hs; simpa [hinf] using this
        exact ⟨info, zv, rfl, hzz, hss, by simpa [byOf, hinf] using hby, by omega⟩
      · cases hz
theorem flat_app (es es2 : List (List AV)) : (es ++ es2).flatten = es.flatten ++ es2.flatten := by simp
theorem op_app {t e s by_ i : Nat} {z1 z2 : Operand} {z : List AV} {es es2 : List (List AV)} (i' : Nat) (hi' : st.T i' = .no) (hbd : (es.length + es2.length) * by_ ≤ 140737488355328) (hm : es.length + es2.length ≤ 9223372036854775807)
    (hok : ∀ c ∈ es2, ∀ y ∈ c, cok1 st.T y = true) (hd : o.dst = some d) (hN : Nat.blt d N = true)
    (K1 : K (ASt.mk ((d, .own i') :: st.env) (upd (upd st.T i .dead) i' (.live e s (es ++ es2)))))
    (ho : o.op = .call ⟨.builtin .append, #[z1, z2], #[t, t]⟩ := by rfl) (ht : elOf P t = some (e, s) := by rfl) (hz : zcells P e = some z := by rfl) (hby : byOf P e = some by_ := by rfl)
    (h1 : ev st z1 = some (.own i) := by rfl) (hT : st.T i = .live e s es := by rfl) (h2 : ev st z2 = some x := by rfl) (hs : srcA st x = some es2 := by rfl) (hsz : sizA st s x = true := by rfl) : AOp P N o K Q st := by
  intro I0 w0 β a w hr K' hK
  obtain ⟨hu, hsb⟩ := elOf_el ht
  obtain ⟨info, zv, g1, g2, g3, g4, g5⟩ := ea_info hsb hz hby
  obtain ⟨ad, c, news, q1, q2, q3, q4, q5, q6, q7⟩ := src_val hr h2 hs hsz hok
  obtain ⟨p1, xs, p2, p3⟩ := hr.objs.obj i e s es hT
  have hv1 : a.eval z1 = β i := by
    have h := hr.ev h1
    generalize a.eval z1 = y at h
    cases h with
    | own _ _ _ hx => exact hx e s es hT
  obtain ⟨v', w', r1, r2, r3, r4⟩ := run_app (P := P) (w := w) w0.heap.size t o.type e info zv s by_ hu g1 g2 g3 g4 g5 (β i) es.length xs p2 ad es2.length c q2 news q4 q5 q6 (by simp only [maxLen]; omega) hbd hr.below.size
  have hes : ∀ y ∈ es ++ es2, y.length = s := fun y hy => (List.mem_append.1 hy).elim (p1 y) (q3 y)
  obtain ⟨n1, n2⟩ := hr.newObj (w' := w') (i' := i') (e := e) (s := s) (es' := es ++ es2) hi' (β i).ownBlock (some i) (fun i2 h => by cases h; exact ⟨e, s, es, hT, rfl⟩) (by simp) r3 (y := v') (xs := xs ++ news) (by rw [List.length_append]; exact r2) r4 hes
    (fun j p hp => by
      rw [flat_app] at hp
      have hxl : xs.length = es.flatten.length := by rw [p2.1, flat_len p1]
      rcases Nat.lt_or_ge j es.flatten.length with hj | hj
      · rw [List.getElem?_append_left hj] at hp
        rw [List.getElem?_append_left (by omega)]
        exact p3 j p hp
      · rw [List.getElem?_append_right hj] at hp
        rw [List.getElem?_append_right (by omega), hxl]
        exact q7 _ p hp)
  have hrun : (execOp a.eval o).run P w = .ok (.value v') w' := by
    simp [execOp, ho, resolve, invoke, builtin, hv1, q1, r1]
  refine .inl ?_
  simp only [Oper.wp, hrun, Oper.upon, hd]
  refine hK _ _ _ _ (n1.put (blt_lt hN) (.own i' _ (by simp [upd]) fun e s es he => ?_)) K1
  simp [updV]
theorem op_app0 {t e s by_ : Nat} {z1 z2 : Operand} {z : List AV} {es2 : List (List AV)} (i' : Nat) (hi' : st.T i' = .no) (hbd : es2.length * by_ ≤ 140737488355328) (hm : es2.length ≤ 9223372036854775807)
    (hok : ∀ c ∈ es2, ∀ y ∈ c, cok1 st.T y = true) (hd : o.dst = some d) (hN : Nat.blt d N = true)
    (K1 : K (ASt.mk ((d, .own i') :: st.env) (upd st.T i' (.live e s es2))))
    (ho : o.op = .call ⟨.builtin .append, #[z1, z2], #[t, t]⟩ := by rfl) (ht : elOf P t = some (e, s) := by rfl) (hz : zcells P e = some z := by rfl) (hby : byOf P e = some by_ := by rfl)
    (h1 : ev st z1 = some (.v (.slice none 0 0)) := by rfl) (h2 : ev st z2 = some x := by rfl) (hs : srcA st x = some es2 := by rfl) (hsz : sizA st s x = true := by rfl) : AOp P N o K Q st := by
  intro I0 w0 β a w hr K' hK
  obtain ⟨hu, hsb⟩ := elOf_el ht
  obtain ⟨info, zv, g1, g2, g3, g4, g5⟩ := ea_info hsb hz hby
  obtain ⟨ad, c, news, q1, q2, q3, q4, q5, q6, q7⟩ := src_val hr h2 hs hsz hok
  have hv1 : a.eval z1 = .slice none 0 0 := (hr.ev h1).v_inv
  obtain ⟨v', w', r1, r2, r3, r4⟩ := run_app (P := P) (w := w) w0.heap.size t o.type e info zv s by_ hu g1 g2 g3 g4 g5 (.slice none 0 0) 0 [] (World.owns_nil w _ _ _) ad es2.length c q2 news q4 q5 q6 (by simp only [maxLen]; omega) (by simpa using hbd) hr.below.size
  simp only [Nat.zero_add, List.nil_append] at r2
  obtain ⟨n1, n2⟩ := hr.newObj (w' := w') (i' := i') (e := e) (s := s) (es' := es2) hi' none none (by simp) (by simp) r3 (y := v') (xs := news) r2 r4 q3 q7
  have hrun : (execOp a.eval o).run P w = .ok (.value v') w' := by
    simp [execOp, ho, resolve, invoke, builtin, hv1, q1, r1]
  refine .inl ?_
  simp only [Oper.wp, hrun, Oper.upon, hd]
  refine hK _ _ _ _ (n1.put (blt_lt hN) (.own i' _ (by simp [upd]) fun e s es he => ?_)) K1
  simp [updV]
/-- A row told as a literal. -/
theorem lit_core {t e s len : Nat} {parts : Array (Nat × Operand)} {ps : List (Nat × AV)} {z : List AV} (i : Nat) (hi : st.T i = .no)
    (ho : o.op = .buildSlice t len parts := by rfl) (ht : elOf P t = some (e, s) := by rfl) (hz : zcells P e = some z := by rfl) (hps : evps st parts.toList = some ps := by rfl) (hpl : ps.length = len := by rfl)
    (hsm : Nat.ble (len * s) 16777216 = true := by rfl) (hs0 : Nat.blt 0 (len * s) = true := by rfl) (hok : (ps.all fun p => (cellsA p.2).all (cok1 st.T)) = true := by rfl) (hls : (ps.all fun p => (cellsA p.2).length == s) = true := by rfl)
    (hf : fillA (fun i => some (i * s, s)) (List.replicate len z).flatten ps = some (ps.map fun p => cellsA p.2).flatten := by rfl) (hr : Rel N I0 w0 st β a w) :
    ∃ y w' β2, (execOp a.eval o).run P w = .ok (.value y) w' ∧ Rel N I0 w0 ⟨st.env, upd st.T i (.live e s (ps.map fun p => cellsA p.2))⟩ β2 a w' ∧
      (∀ p v, Rep (Im I0 w0.heap.size st.T β w) st.T β w p v → Rep (Im I0 w0.heap.size (upd st.T i (.live e s (ps.map fun p => cellsA p.2))) β2 w') (upd st.T i (.live e s (ps.map fun p => cellsA p.2))) β2 w' p v) ∧
      Rep (Im I0 w0.heap.size (upd st.T i (.live e s (ps.map fun p => cellsA p.2))) β2 w') (upd st.T i (.live e s (ps.map fun p => cellsA p.2))) β2 w' (.own i) y := by
  obtain ⟨hu, bb, hs⟩ := elOf_el ht
  obtain ⟨e1, e2⟩ := evps_get hps
  unfold zcells at hz
  cases hinf : P.info? e with
  | none => simp [hinf] at hz
  | some info =>
    cases hzz : info.zero with
    | none => simp [hinf, hzz] at hz
    | some zv =>
      simp only [hinf, hzz, Bool.cond_eq_ite] at hz
      split at hz
      · rename_i hsz
        cases hz
        have hsz : zv.cells.size = info.size := by simpa using hsz
        have hss : info.size = s := by have := szOf_info hs; simpa [hinf] using this
        have hn0 : 0 < len * s := blt_lt hs0
        have hsm : len * s ≤ 16777216 := by simpa using hsm
        have hzs : ∀ x ∈ List.replicate len (zv.cells.toList.map AV.v), x.length = s := by
          intro x hx
          rw [List.eq_of_mem_replicate hx]; simp [hsz, hss]
        have hzero : Cells (Im I0 w0.heap.size st.T β w) st.T β w (List.replicate len (zv.cells.toList.map AV.v)).flatten (madeCells zv.cells (len * s)) := by
          refine ⟨by rw [flat_len hzs, size_madeCells]; simp, fun j y hy => ?_⟩
          obtain ⟨q, r, c, rfl, hr', hq, hcr⟩ := flat_inv hzs hy
          have hqn : q < len := by have := (List.getElem?_eq_some_iff.1 hq).1; simpa using this
          rw [List.getElem?_replicate, if_pos hqn] at hq
          cases hq
          simp at hcr
          obtain ⟨u, hu', rfl⟩ := hcr
          refine ⟨u, ?_, .v u⟩
          have hlt : q * s + r < len * s := by
            have : (q + 1) * s ≤ len * s := Nat.mul_le_mul_right _ hqn
            rw [Nat.succ_mul] at this; omega
          have hmod : (q * s + r) % zv.cells.size = r := by rw [hsz, hss, Nat.mul_comm, Nat.mul_add_mod, Nat.mod_eq_of_lt hr']
          simp only [madeCells]
          rw [Array.getElem?_map, Array.getElem?_range, if_pos hlt]
          simp only [Option.map_some, hmod]
          have hrl : r < zv.cells.size := by rw [hsz, hss]; exact hr'
          rw [getElem!_pos zv.cells r hrl]
          rw [Array.getElem?_eq_getElem hrl] at hu'
          exact hu'
        obtain ⟨c', hc', hcc⟩ := fill_rep hr.objs (fun i => some (i * s, s)) ps (parts.toList.map fun p => (p.1, a.eval p.2)) _ _ _ hzero (by simpa using e1.symm) (fun j p v hp hv => by
          simp only [List.getElem?_map] at hv
          cases hzj : parts.toList[j]? with
          | none => rw [hzj] at hv; cases hv
          | some q =>
            rw [hzj] at hv
            simp only [Option.map_some, Option.some.injEq] at hv
            subst hv
            obtain ⟨h1, h2⟩ := e2 j p q hp hzj
            exact ⟨h1, List.all_eq_true.1 hok p (List.mem_of_getElem? hp), hr.ev h2⟩) hf
        have hes : ∀ x ∈ ps.map (fun p => cellsA p.2), x.length = s := by
          intro x hx
          obtain ⟨p, hp, rfl⟩ := List.mem_map.1 hx
          have := List.all_eq_true.1 hls p hp
          simpa using this
        have hrun : (execOp a.eval o).run P w = .ok (.value (.slice (some ⟨w.heap.size, 0, none⟩) len len)) (w.alloc (.cells c' e)) := by
          have hne : ¬ len * s = 0 := by omega
          have hgt : ¬ 16777216 < len * s := by omega
          have hc2 : Instr.fill (fun i => some (i * s, s)) ((Array.range (len * s)).map (zv.cells[· % zv.cells.size]!)) (parts.toList.map fun p => (p.1, a.eval p.2)) = some c' := hc'
          simp [execOp, ho, Instr.buildSlice, run_underlying hu, (szOf_run hs w).1, hne, hgt, zeroValue, typeInfo, hinf, hzz, newRow, hc2]
        obtain ⟨h1, h2⟩ := hr.row (i := i) (e := e) (s := s) (es := ps.map fun p => cellsA p.2) hi (n := len) (by simpa using hpl) (by
          have h0 : len ≤ len * s := by
            rcases Nat.eq_zero_or_pos s with h | h
            · rw [h] at hn0; simp at hn0
            · exact Nat.le_mul_of_pos_right _ h
          simp only [maxLen]; omega) (cells := c') hes (by rw [← hcc.1, flat_len hes]; simp [hpl]) (fun j p hp => hcc.2 j p hp)
        exact ⟨_, _, _, hrun, h1, h2, .own i _ (by simp [upd]) fun e s es he => by simp [updV]⟩
      · cases hz
theorem op_lit {t e s len : Nat} {parts : Array (Nat × Operand)} {ps : List (Nat × AV)} {z : List AV} (i : Nat) (hi : st.T i = .no) (hd : o.dst = some d) (hN : Nat.blt d N = true)
    (K1 : K (ASt.mk ((d, .own i) :: st.env) (upd st.T i (.live e s (ps.map fun p => cellsA p.2)))))
    (ho : o.op = .buildSlice t len parts := by rfl) (ht : elOf P t = some (e, s) := by rfl) (hz : zcells P e = some z := by rfl) (hps : evps st parts.toList = some ps := by rfl) (hpl : ps.length = len := by rfl)
    (hsm : Nat.ble (len * s) 16777216 = true := by rfl) (hs0 : Nat.blt 0 (len * s) = true := by rfl) (hok : (ps.all fun p => (cellsA p.2).all (cok1 st.T)) = true := by rfl) (hls : (ps.all fun p => (cellsA p.2).length == s) = true := by rfl)
    (hf : fillA (fun i => some (i * s, s)) (List.replicate len z).flatten ps = some (ps.map fun p => cellsA p.2).flatten := by rfl) : AOp P N o K Q st := by
  intro I0 w0 β a w hr K' hK
  obtain ⟨y, w', β2, h1, h2, h3, h4⟩ := lit_core (o := o) i hi ho ht hz hps hpl hsm hs0 hok hls hf hr
  refine .inl ?_
  simp only [Oper.wp, h1, Oper.upon, hd]
  exact hK _ _ _ _ (h2.put (blt_lt hN) h4) K1
end ops
end
end Go.Proofs.Ytafbiccgbgcooaa.AW
