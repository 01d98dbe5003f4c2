/- Abstract states: structs that are built; rows that are made, told as literals, and appended to. -/
import Derived.Test.YtafbiccgbgcooaaAWi
namespace Go.Proofs.Ytafbiccgbgcooaa.AW
open Go Go.RowKit
set_option linter.unusedVariables false
set_option linter.unusedSimpArgs false

def fillA (place : Nat → Option (Nat × Nat)) (cells : List AV) : List (Nat × AV) → Option (List AV)
  | [] => some cells
  | (i, x) :: rest => match place i with
    | none => none
    | some (off, size) => bif ((cellsA x).length == size) && Nat.ble (off + size) cells.length then fillA place (cells.take off ++ cellsA x ++ cells.drop (off + size)) rest else none
def placesOf (P : Program) : List Field → Option (List (Nat × Nat))
  | [] => some []
  | f :: fs => match P.info? f.type, placesOf P fs with
    | some i, some r => some ((f.offset, i.size) :: r)
    | _, _ => none
def builtA (P : Program) (t : TypeId) (parts : List (Nat × AV)) : Option (List AV) :=
  match P.info? t, P.underlying t with
  | some it, some (.struct fields) => match it.zero, placesOf P fields.toList with
    | some z, some places => fillA (places[·]?) (z.cells.toList.map .v) parts
    | _, _ => none
  | _, _ => none
def evps (st : ASt) : List (Nat × Operand) → Option (List (Nat × AV))
  | [] => some []
  | (i, z) :: r => match ev st z, evps st r with
    | some x, some l => some ((i, x) :: l)
    | _, _ => none
theorem placesOf_mapM (P : Program) : ∀ (fs : List Field), placesOf P fs = fs.mapM (fun f => (P.info? f.type).map fun i => (f.offset, i.size))
  | [] => rfl
  | f :: fs => by
    simp only [placesOf, List.mapM_cons, placesOf_mapM P fs]
    cases P.info? f.type with
    | none => rfl
    | some i => cases (fs.mapM fun f => (P.info? f.type).map fun i => (f.offset, i.size)) <;> rfl
theorem fold_set (off : Nat) : ∀ (L : List Value) (k : Nat) (A : Array Value),
    ((L.zipIdx k).foldl (fun cs (p : Value × Nat) => cs.setIfInBounds (off + p.2) p.1) A).size = A.size ∧
    ∀ m, m < A.size → ((L.zipIdx k).foldl (fun cs (p : Value × Nat) => cs.setIfInBounds (off + p.2) p.1) A)[m]? = if off + k ≤ m ∧ m < off + k + L.length then L[m - (off + k)]? else A[m]?
  | [], k, A => by simp; intro m hm h1 h2; omega
  | v :: L, k, A => by
    obtain ⟨h1, h2⟩ := fold_set off L (k + 1) (A.setIfInBounds (off + k) v)
    simp only [List.zipIdx_cons, List.foldl_cons]
    refine ⟨by rw [h1]; simp, fun m hm => ?_⟩
    rw [h2 m (by simpa using hm)]
    by_cases hmk : m = off + k
    · subst hmk
      rw [if_neg (by omega), if_pos (by simp)]
      simp [hm]
    · by_cases hin : off + (k + 1) ≤ m ∧ m < off + (k + 1) + L.length
      · rw [if_pos hin, if_pos (by simp; omega)]
        have : m - (off + k) = (m - (off + (k + 1))) + 1 := by omega
        rw [this, List.getElem?_cons_succ]
      · rw [if_neg hin, if_neg (by simp; omega), Array.getElem?_setIfInBounds_ne (by omega)]

section
variable {P : Program} {N : Nat} {Q : Exit → ASt → Prop} {st : ASt} {I0 : Nat → Prop} {w0 : World} {β : Nat → Value} {a : Act} {w : World}
/-- Cell for cell. -/
def Cells (I : Nat → Prop) (T : Nat → Ob) (β : Nat → Value) (w : World) (l : List AV) (c : Array Value) : Prop :=
  l.length = c.size ∧ ∀ (j : Nat) (p : AV), l[j]? = some p → ∃ u : Value, c[j]? = some u ∧ Rep I T β w p u
theorem fill_rep (hO : Objs I0 w0.heap.size st.T β w) (place : Nat → Option (Nat × Nat)) : ∀ (ps : List (Nat × AV)) (vs : List (Nat × Value)) (cells : List AV) (c : Array Value) (l : List AV),
    Cells (Im I0 w0.heap.size st.T β w) st.T β w cells c → ps.length = vs.length →
    (∀ (j : Nat) (p : Nat × AV) (v : Nat × Value), ps[j]? = some p → vs[j]? = some v → p.1 = v.1 ∧ (cellsA p.2).all (cok1 st.T) = true ∧ Rep (Im I0 w0.heap.size st.T β w) st.T β w p.2 v.2) →
    fillA place cells ps = some l → ∃ c', Instr.fill place c vs = some c' ∧ Cells (Im I0 w0.heap.size st.T β w) st.T β w l c'
  | [], [], cells, c, l, hc, _, _, hf => by simp [fillA] at hf; subst hf; exact ⟨c, rfl, hc⟩
  | (i, x) :: ps, (i', v) :: vs, cells, c, l, hc, hl, hp, hf => by
    obtain ⟨h1, h2, h3⟩ := hp 0 (i, x) (i', v) rfl rfl
    simp only at h1 h2 h3
    subst h1
    simp only [fillA] at hf
    cases hpl : place i with
    | none => rw [hpl] at hf; cases hf
    | some os =>
      obtain ⟨off, size⟩ := os
      rw [hpl] at hf
      simp only [Bool.cond_eq_ite] at hf
      split at hf
      · rename_i hcond
        simp only [Bool.and_eq_true, beq_iff_eq] at hcond
        obtain ⟨hs1, hs2⟩ := hcond
        have hs2 : off + size ≤ cells.length := by simpa using hs2
        obtain ⟨r1, r2, r3⟩ := rep_cells hO h3 h2
        have hvs : v.cells.size = size := by omega
        have hcs : cells.length = c.size := hc.1
        let c1 := v.cells.zipIdx.foldl (fun cs (p : Value × Nat) => cs.setIfInBounds (off + p.2) p.1) c
        have hc1 : c1 = (v.cells.toList.zipIdx 0).foldl (fun cs (p : Value × Nat) => cs.setIfInBounds (off + p.2) p.1) c := by
          show v.cells.zipIdx.foldl _ c = _
          rw [← Array.foldl_toList, Array.toList_zipIdx]
        obtain ⟨f1, f2⟩ := fold_set off v.cells.toList 0 c
        rw [← hc1] at f1 f2
        have hnew : Cells (Im I0 w0.heap.size st.T β w) st.T β w (cells.take off ++ cellsA x ++ cells.drop (off + size)) c1 := by
          refine ⟨by rw [f1]; simp; omega, fun j p hj => ?_⟩
          rw [mid_get cells _ hs2 hs1] at hj
          have hjc : j < c.size := by
            by_cases h1 : j < off
            · omega
            · by_cases h2 : j < off + size
              · omega
              · rw [if_neg h1, if_neg h2] at hj
                have := (List.getElem?_eq_some_iff.1 hj).1; omega
          rw [f2 j hjc]
          by_cases h1 : j < off
          · rw [if_pos h1] at hj
            rw [if_neg (by omega)]
            exact hc.2 j p hj
          · rw [if_neg h1] at hj
            by_cases h2 : j < off + size
            · rw [if_pos h2] at hj
              rw [if_pos (by simp; omega)]
              obtain ⟨u, hu, hru⟩ := r2 _ _ hj
              exact ⟨u, by simpa using hu, hru⟩
            · rw [if_neg h2] at hj
              rw [if_neg (by simp; omega)]
              exact hc.2 j p hj
        obtain ⟨c', hc', hcc⟩ := fill_rep hO place ps vs _ c1 l hnew (by simpa using hl) (fun j p v hp' hv => hp (j + 1) p v (by simpa using hp') (by simpa using hv)) hf
        refine ⟨c', ?_, hcc⟩
        simp only [Instr.fill, hpl]
        rw [if_neg (by simp; omega)]
        exact hc'
      · cases hf
  | [], _ :: _, _, _, _, _, hl, _, _ => by simp at hl
  | _ :: _, [], _, _, _, _, hl, _, _ => by simp at hl
theorem evps_get : ∀ {zs : List (Nat × Operand)} {ps : List (Nat × AV)}, evps st zs = some ps → zs.length = ps.length ∧ ∀ (j : Nat) (p : Nat × AV) (z : Nat × Operand), ps[j]? = some p → zs[j]? = some z → p.1 = z.1 ∧ ev st z.2 = some p.2
  | [], ps, h => by simp [evps] at h; subst h; simp
  | (i, z) :: r, ps, h => by
    simp only [evps] at h
    split at h
    · rename_i x l h1 h2
      cases h
      obtain ⟨h3, h4⟩ := evps_get h2
      refine ⟨by simp [h3], fun j p q hp hq => ?_⟩
      cases j with
      | zero => simp at hp hq; subst hp; subst hq; exact ⟨rfl, h1⟩
      | succ j => exact h4 j p q (by simpa using hp) (by simpa using hq)
    · cases h
theorem Cells.zero (I : Nat → Prop) (T : Nat → Ob) (β : Nat → Value) (w : World) (c : Array Value) : Cells I T β w (c.toList.map .v) c :=
  ⟨by simp, fun j p hp => by
    simp at hp
    obtain ⟨u, hu, rfl⟩ := hp
    exact ⟨u, hu, .v u⟩⟩
section ops
variable {o : Oper} {K : ASt → Prop} {d : Nat} {x y : AV}
theorem y_build {t : Nat} {parts : Array (Nat × Operand)} {ps : List (Nat × AV)} {l : List AV} (ho : o.op = .build t parts := by rfl) (hps : evps st parts.toList = some ps := by rfl) (hb : builtA P t ps = some l := by rfl)
    (hok : (ps.all fun p => (cellsA p.2).all (cok1 st.T)) = true := by rfl) : AYield P N Q o st (.agg l) :=
  AYield.still fun I0 w0 β a w hr => by
    obtain ⟨e1, e2⟩ := evps_get hps
    unfold builtA at hb
    cases hi : P.info? t with
    | none => simp [hi] at hb
    | some it =>
      cases hu : P.underlying t with
      | none => simp [hi, hu] at hb
      | some dd =>
        cases dd with
        | struct fields =>
          simp only [hi, hu] at hb
          cases hz : it.zero with
          | none => simp [hz] at hb
          | some z =>
            cases hpl : placesOf P fields.toList with
            | none => simp [hz, hpl] at hb
            | some places =>
              simp only [hz, hpl] at hb
              obtain ⟨c', hc', hcc⟩ := fill_rep hr.objs (places[·]?) ps (parts.toList.map fun p => (p.1, a.eval p.2)) _ z.cells l (Cells.zero _ _ _ _ _) (by simpa using e1.symm) (fun j p v hp hv => by
                simp only [List.getElem?_map] at hv
                cases hzj : parts.toList[j]? with
                | none => rw [hzj] at hv; cases hv
                | some q =>
                  rw [hzj] at hv
                  simp only [Option.map_some, Option.some.injEq] at hv
                  subst hv
                  obtain ⟨h1, h2⟩ := e2 j p q hp hzj
                  exact ⟨h1, List.all_eq_true.1 hok p (List.mem_of_getElem? hp), hr.ev h2⟩) hb
              have hbuilt : P.built t (parts.toList.map fun p => (p.1, a.eval p.2)) = some c' := by
                unfold Program.built
                rw [hi, hu]
                simp only [hz]
                rw [← placesOf_mapM, hpl]
                simpa using hc'
              refine ⟨.agg c', ?_, .agg l c' hcc.1 fun j p u hp hu => ?_⟩
              · have := run_build (P := P) w t (parts.map fun p => (p.1, a.eval p.2)) c' (by simpa using hbuilt)
                simp [execOp, ho, this]
              · obtain ⟨u', hu', hru⟩ := hcc.2 j p hp
                rw [hu] at hu'; cases hu'; exact hru
        | _ => simp [hi, hu] at hb

/-- A row of zeros. -/
def zcells (P : Program) (e : Nat) : Option (List AV) := match P.info? e with
  | some i => match i.zero with
    | some z => bif z.cells.size == i.size then some (z.cells.toList.map .v) else none
    | none => none
  | none => none
def byOf (P : Program) (e : Nat) : Option Nat := (P.info? e).map (·.bytes)
theorem op_make {t e s by_ : Nat} {zl zc : Operand} {z : List AV} {k k' : IntKind} {n : Int} (i : Nat) (hi : st.T i = .no) (h0 : 0 ≤ n) (hbd : by_ * n.toNat ≤ 281474976710656) (hm : n.toNat ≤ 9223372036854775807) (hd : o.dst = some d) (hN : Nat.blt d N = true)
    (K1 : K (ASt.mk ((d, .own i) :: st.env) (upd st.T i (.live e s (List.replicate n.toNat z)))))
    (ho : o.op = .makeSlice t zl zc := by rfl) (ht : elOf P t = some (e, s) := by rfl) (hz : zcells P e = some z := by rfl) (hby : byOf P e = some by_ := by rfl)
    (hl : ev st zl = some (.v (.int k n)) := by rfl) (hc : ev st zc = some (.v (.int k' n)) := by rfl) : AOp P N o K Q st := by
  intro I0 w0 β a w hr K' hK
  obtain ⟨hu, bb, hs⟩ := elOf_el ht
  unfold zcells at hz
  cases hinf : P.info? e with
  | none => simp [hinf] at hz
  | some info =>
    cases hzz : info.zero with
    | none => simp [hinf, hzz] at hz
    | some zv =>
      simp only [hinf, hzz, Bool.cond_eq_ite] at hz
      split at hz
      · rename_i hsz
        cases hz
        have hsz : zv.cells.size = info.size := by simpa using hsz
        have hss : info.size = s := by have := szOf_info hs; simpa [hinf] using this
        have hb2 : info.bytes = by_ := by simpa [byOf, hinf] using hby
        have e1 := (hr.ev hl).v_inv
        have e2 := (hr.ev hc).v_inv
        have hn : (n.toNat : Int) = n := Int.toNat_of_nonneg h0
        have hbb : (info.bytes : Int) * n ≤ 281474976710656 := by
          have h1 : ((by_ * n.toNat : Nat) : Int) ≤ 281474976710656 := by omega
          rwa [Int.natCast_mul, hn, ← hb2] at h1
        have hrun := run_make (P := P) w t e info zv hu hinf hzz k k' n n h0 (Int.le_refl _) hbb (by omega)
        have hzs : ∀ x ∈ List.replicate n.toNat (zv.cells.toList.map AV.v), x.length = s := by
          intro x hx
          rw [List.eq_of_mem_replicate hx]; simp [hsz, hss]
        obtain ⟨h1, h2⟩ := hr.row (i := i) (e := e) (s := s) (es := List.replicate n.toNat (zv.cells.toList.map .v)) hi (n := n.toNat) (by simp) (by simp only [maxLen]; omega) (cells := madeCells zv.cells (n.toNat * info.size))
          hzs (by rw [size_madeCells, hss]) (fun j y hy => by
            obtain ⟨q, r, c, rfl, hr', hq, hcr⟩ := flat_inv hzs hy
            have hqn : q < n.toNat := by have := (List.getElem?_eq_some_iff.1 hq).1; simpa using this
            rw [List.getElem?_replicate, if_pos hqn] at hq
            cases hq
            simp at hcr
            obtain ⟨u, hu', rfl⟩ := hcr
            refine ⟨u, ?_, .v u⟩
            have hlt : q * s + r < n.toNat * info.size := by
              rw [hss]
              have : (q + 1) * s ≤ n.toNat * s := Nat.mul_le_mul_right _ hqn
              rw [Nat.succ_mul] at this; omega
            have hmod : (q * s + r) % zv.cells.size = r := by rw [hsz, hss, Nat.mul_comm, Nat.mul_add_mod, Nat.mod_eq_of_lt hr']
            simp only [madeCells]
            rw [Array.getElem?_map, Array.getElem?_range, if_pos hlt]
            simp only [Option.map_some, hmod]
            have hrl : r < zv.cells.size := by rw [hsz, hss]; exact hr'
            rw [getElem!_pos zv.cells r hrl]
            rw [Array.getElem?_eq_getElem hrl] at hu'
            exact hu')
        refine .inl ?_
        have hrun2 : (execOp a.eval o).run P w = .ok (.value (.slice (some ⟨w.heap.size, 0, none⟩) n.toNat n.toNat)) (w.alloc (.cells (madeCells zv.cells (n.toNat * info.size)) e)) := by
          simp [execOp, ho, e1, e2, hrun]
        simp only [Oper.wp, hrun2, Oper.upon, hd]
        refine hK _ _ _ _ (h1.put (blt_lt hN) (.own i _ (by simp [upd]) fun e s es he => ?_)) K1
        simp [updV]
      · cases hz
end ops
end
end Go.Proofs.Ytafbiccgbgcooaa.AW
