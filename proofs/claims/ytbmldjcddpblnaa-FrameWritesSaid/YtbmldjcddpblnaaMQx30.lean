/- What the statements' walks need. -/
import Derived.Test.YtbmldjcddpblnaaMQa4
import Derived.Test.YtbmldjcddpblnaaMQx19
import Derived.Test.YtbmldjcddpblnaaMQx29
import Derived.Test.YtbmldjcddpblnaaMQx21
import Derived.Test.YtbmldjcddpblnaaMQx25
import Derived.Test.YtbmldjcddpblnaaMQa2
import Derived.Test.YtbmldjcddpblnaaMQx14
import Derived.ChangeShapes
set_option linter.unusedVariables false
set_option linter.unusedSimpArgs false
set_option maxRecDepth 100000
namespace Go.Proofs.Ytbmldjcddpblnaa
open Go Go.Proofs AW
theorem rsmall_ok' (v most : Int) : Gives Try.prog 53 [iv v, iv most] (iv (smI v most)) := by
  refine gives_of Try.func53 rfl (Nat.le_of_ble_eq_true rfl) ?_
  (repeat' (first | refine sk ?_ | refine mv ?_ | refine asg ?_ | refine bi ?_ | refine un ?_ | refine pt ?_ | refine pf ?_ | refine ex ?_ | refine aops_nil ?_ | refine aw_seq ?_ | refine aw_region ?_ | refine aw_cond_t rfl ?_ | refine aw_skip ?_ | refine aw_ret ?_ | refine cl (rN_ok v) ?_ | refine gs (fun h => ?_) (fun h => ?_) | refine aw_cond rfl (fun h => ?_) (fun h => ?_) | fail))
  all_goals refine fin (sh_iv ?_)
  all_goals (simp at *; simp [smI]; first | done | omega | grind)
theorem rkind_ok (H : HHeap) (hi : H.In) (v k : Int) : Gives Try.prog 50 [.agg (encHeap H), iv v, iv k] (bv (decide (0 ≤ H.ref v ∧ (H.at' v).kind = k))) := by
  have c1 : Gives Try.prog 52 [.agg (encHeap H), iv v] (iv (H.ref v)) := rRef_ok H v hi.2.2.2
  by_cases h : 0 ≤ H.ref v
  · have hget := at_get h
    have hn : H.ref v = ((H.ref v).toNat : Int) := (Int.toNat_of_nonneg h).symm
    refine gives_of Try.func50 rfl (Nat.le_of_ble_eq_true rfl) ?_
    (repeat' (first | refine mv ?_ | refine asg ?_ | refine ld ?_ | refine fp ?_ | refine fi ?_ | refine bt ?_ | refine bi ?_ | refine pt ?_ | refine la ?_ | refine aops_nil ?_ | refine aw_seq ?_ | refine aw_region ?_ | refine aw_ret ?_ | refine bx 0 ?_ | refine cl c1 ?_ (hno := ⟨noOwn_heap _, noOwn_iv _, trivial⟩) | refine ia (H.ref v).toNat (objs_get hget) ?_ (hn := hn) | fail))
    exact fin (sh_bv (x := decide ((H.at' v).kind = k)) (by simp [h]))
  · refine gives_of Try.func50 rfl (Nat.le_of_ble_eq_true rfl) ?_
    (repeat' (first | refine sk ?_ | refine mv ?_ | refine asg ?_ | refine bf ?_ | refine pf ?_ | refine la ?_ | refine aops_nil ?_ | refine aw_seq ?_ | refine aw_region ?_ | refine aw_ret ?_ | refine bx 0 ?_ | refine cl c1 ?_ (hno := ⟨noOwn_heap _, noOwn_iv _, trivial⟩) | fail))
    exact fin (sh_bv (x := false) (by simp [h]))
def slotI (H : HHeap) (v : Int) : List Int := if H.is v 0 then (H.at' v).slots else []
theorem rSlots_ok (H : HHeap) (hi : H.In) (v : Int) : Gives Try.prog 25 [.agg (encHeap H), iv v] (.sl 1 (encInts (slotI H v))) := by
  have c1 : Gives Try.prog 52 [.agg (encHeap H), iv v] (iv (H.ref v)) := rRef_ok H v hi.2.2.2
  by_cases h : H.is v 0
  · have c0 := (rkind_ok H hi v 0).to' (congrArg bv (decide_eq_true h))
    have hget := at_get h.1
    have hn : H.ref v = ((H.ref v).toNat : Int) := (Int.toNat_of_nonneg h.1).symm
    refine gives_of Try.func25 rfl (Nat.le_of_ble_eq_true rfl) ?_
    (repeat' (first | refine mv ?_ | refine asg ?_ | refine un ?_ | refine la ?_ | refine aops_nil ?_ | refine aw_seq ?_ | refine aw_region ?_ | refine aw_cond_f rfl ?_ | refine aw_skip ?_ | refine bx 0 ?_ | refine cl c0 ?_ (hno := ⟨noOwn_heap _, noOwn_iv _, noOwn_iv _, trivial⟩) | fail))
    refine aw_draw 8 none ?_
    (repeat' (first | refine dn ?_ | refine ds y_move ?_ | refine ds y_load ?_ | refine ds (y_faddr_ptr (hs := Nat.le_of_ble_eq_true rfl)) ?_ | refine ds y_faddr_ip ?_ | refine ds y_loadsN ?_ | refine ds (y_call c1 (hno := ⟨noOwn_heap _, noOwn_iv _, trivial⟩)) ?_ | refine ds (y_iaddrN (H.ref v).toNat (objs_get hget) (hn := hn)) ?_ | fail))
    (repeat' (first | refine asg ?_ | refine aops_nil ?_ | refine aw_ret ?_ | fail))
    have hs : ∀ T, Sh T (.sl 1 (encInts (H.at' v).slots)) (.sl 1 (encInts (slotI H v))) := fun T => by rw [slotI, if_pos h]; exact .same _ (noOwn_ints _ _)
    exact fin (hs _)
  · have c0 := (rkind_ok H hi v 0).to' (congrArg bv (decide_eq_false h))
    refine gives_of Try.func25 rfl (Nat.le_of_ble_eq_true rfl) ?_
    (repeat' (first | refine mv ?_ | refine asg ?_ | refine un ?_ | refine la ?_ | refine aops_nil ?_ | refine aw_seq ?_ | refine aw_region ?_ | refine aw_cond_t rfl ?_ | refine aw_ret ?_ | refine bx 0 ?_ | refine cl c0 ?_ (hno := ⟨noOwn_heap _, noOwn_iv _, noOwn_iv _, trivial⟩) | fail))
    have hs : ∀ T, Sh T (.v (.slice none 0 0)) (.sl 1 (encInts (slotI H v))) := fun T => by rw [slotI, if_neg h]; exact .nil 1
    exact fin (hs _)
end Go.Proofs.Ytbmldjcddpblnaa
namespace Go.Proofs.Ytbmldjcddpblnaa
open Go Go.Proofs AW
theorem rSame_id (A : HHeap) (hA : A.In) : Gives Try.prog 24 [.agg (encHeap A), .agg (encHeap A)] (bv true) := (rSame_ok A A hA hA).to (by simp)
end Go.Proofs.Ytbmldjcddpblnaa
namespace Go.Proofs.Ytbmldjcddpblnaa
open Go Go.Proofs AW
theorem ty_int {n : Nat} {p : List AV} (h : Ty Try.prog (n + 1) 3 p) : ∃ x : Int, p = [iv x] ∧ In64 x := by
  unfold Ty at h
  rw [Try.underlying3] at h
  obtain ⟨x, rfl, h1, h2⟩ := h
  exact ⟨x, rfl, h1, h2⟩
theorem ty_string {n : Nat} {p : List AV} (h : Ty Try.prog (n + 1) 9 p) : ∃ s : ByteArray, p = [sv s] ∧ s.size < 140737488355328 := by
  unfold Ty at h
  rw [Try.underlying9] at h
  obtain ⟨s, rfl, h1⟩ := h
  exact ⟨s, rfl, Nat.lt_of_le_of_lt h1 (by decide)⟩
theorem ty_ints {n : Nat} {p : List AV} (h : Ty Try.prog (n + 2) 30 p) : ∃ l : List Int, p = [.sl 1 (encInts l)] ∧ (∀ x ∈ l, In64 x) ∧ l.length < 17592186044416 := by
  unfold Ty at h
  rw [Try.underlying30] at h
  obtain ⟨es, rfl, h1, h2⟩ := h
  obtain ⟨l, rfl, h3⟩ := list_map (f := fun x : Int => [iv x]) (q := In64) fun c hc => ty_int (h2 c hc)
  refine ⟨l, rfl, h3, ?_⟩
  have hb : Try.prog.bytesOf 3 = 8 := rfl
  have h4 : l.length * 8 ≤ reachBytes := by rw [hb] at h1; simpa using h1
  simp only [reachBytes] at h4
  omega
theorem ty_obj {n : Nat} {p : List AV} (h : Ty Try.prog (n + 3) 59 p) : ∃ o : HObj, p = encObj o ∧ o.Big := by
  unfold Ty at h
  rw [Try.underlying59] at h
  obtain ⟨parts, hl, rfl, hf⟩ := h
  match parts, hl with
  | [p0, p1, p2, p3, p4, p5], _ =>
    obtain ⟨x0, rfl, i0⟩ := ty_int (hf 0 _ p0 rfl rfl)
    obtain ⟨x1, rfl, i1⟩ := ty_int (hf 1 _ p1 rfl rfl)
    obtain ⟨x2, rfl, i2, j2⟩ := ty_ints (hf 2 _ p2 rfl rfl)
    obtain ⟨x3, rfl, i3⟩ := ty_string (hf 3 _ p3 rfl rfl)
    obtain ⟨x4, rfl, i4⟩ := ty_int (hf 4 _ p4 rfl rfl)
    obtain ⟨x5, rfl, i5⟩ := ty_int (hf 5 _ p5 rfl rfl)
    exact ⟨⟨x0, x1, x2, x3, x4, x5⟩, rfl, i0, i1, i2, i4, i5, j2, i3⟩
theorem ty_heap {n : Nat} {p : List AV} (h : Ty Try.prog (n + 5) 24 p) : ∃ H : HHeap, p = encHeap H ∧ H.Big := by
  unfold Ty at h
  rw [Try.underlying24] at h
  obtain ⟨parts, hl, rfl, hf⟩ := h
  match parts, hl with
  | [p0, p1, p2], _ =>
    have h0 : Ty Try.prog (n + 4) 22 p0 := hf 0 _ p0 rfl rfl
    obtain ⟨x1, rfl, i1⟩ := ty_int (hf 1 _ p1 rfl rfl)
    obtain ⟨x2, rfl, i2⟩ := ty_int (hf 2 _ p2 rfl rfl)
    unfold Ty at h0
    rw [Try.underlying22] at h0
    obtain ⟨es, rfl, h1, h2⟩ := h0
    obtain ⟨l, rfl, h3⟩ := list_map (f := encObj) (q := HObj.Big) fun c hc => ty_obj (h2 c hc)
    refine ⟨⟨l, x1, x2⟩, rfl, h3, i1, i2, ?_⟩
    have hb : Try.prog.bytesOf 59 = 72 := rfl
    have h4 : l.length * 72 ≤ reachBytes := by rw [hb] at h1; simpa using h1
    simp only [reachBytes] at h4
    show l.length < _
    omega
end Go.Proofs.Ytbmldjcddpblnaa
namespace Go.Proofs.Ytbmldjcddpblnaa.AW
open Go Go.Proofs
section
variable {H : Type} {enc : TypeId × Value → H} {P : Program} {w : World} {sp : Nat → Bool} {held : Bool}
theorem open_cell {t e : TypeId} {v : Value} {d : DataW H} {ps : List MemPlace} (m : Nat) (hu : P.underlying t = some (.slice e)) (hp : plainT P m t = true) {b0 : Nat} (hval : Value.okWide P w .any b0 t v) (h : DataW.Trod enc P w 0 sp held t v d ps)
    (hw : (d.weights P t).all (· ≤ reachBytes) = true) : ∃ a, Rep (fun b => b < w.heap.size) noT noβ w a v ∧ Ty P m t [a] := by
  have hc : v.cells = #[v] := by
    unfold Value.okWide at hval
    simp only [hu] at hval
    unfold Cell.okWide at hval
    simp only [hu] at hval
    cases v with
    | agg cs => unfold Cell.ok at hval; simp [hu] at hval
    | _ => rfl
  obtain ⟨fuel, hf⟩ := h
  rw [hc] at hf
  obtain ⟨xs, h1, h2⟩ := open_av m t _ _ fuel hp hf hw
  obtain ⟨a, rfl, h3⟩ := arg_rep h1
  exact ⟨a, h3, h2⟩
end
end Go.Proofs.Ytbmldjcddpblnaa.AW
namespace Go.Proofs.Ytbmldjcddpblnaa
open Go Go.Proofs AW
theorem ty_ints1 {n : Nat} {a : AV} (h : Ty Try.prog (n + 2) 30 [a]) : ∃ l : List Int, a = .sl 1 (encInts l) ∧ l.length < 17592186044416 := by
  obtain ⟨l, h1, _, h2⟩ := ty_ints h
  exact ⟨l, by simpa using h1, h2⟩
end Go.Proofs.Ytbmldjcddpblnaa
