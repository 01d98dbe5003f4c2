/- What the statements' walks need. -/
import Derived.Test.YtnjihhheiiapnaaGreatMSa4
import Derived.Test.YtnjihhheiiapnaaGreatMSx10
import Derived.Test.YtnjihhheiiapnaaGreatMSx12
import Derived.Test.YtnjihhheiiapnaaGreatMSa3
set_option linter.unusedVariables false
set_option linter.unusedSimpArgs false
set_option maxRecDepth 100000
namespace Go.Proofs.YtnjihhheiiapnaaGreat
open Go Go.Proofs AW
theorem noOwn_iv (x : Int) : NoOwn (iv x) := .v _
def emptyH : HHeap := ⟨[], 0, 0⟩
def keptH (H : HHeap) (e : Int) : HHeap := if e = 1 then emptyH else H
def HHeap.put (H : HHeap) (i : Nat) (o : HObj) : HHeap := { H with objs := H.objs.set i o }
theorem sh_rows {T : Nat → Ob} {i e s : Nat} {es es' : List (List AV)} (hT : T i = .live e s es) (hl : es.length = es'.length) (hs : ∀ c ∈ es', c.length = s)
    (h : ∀ (q : Nat) (c c' : List AV), es[q]? = some c → es'[q]? = some c' → ShL T c c') : Sh T (.own i) (.sl s es') := by
  refine .own i e s es es' hT hl hs fun j a b ha hb => ?_
  have hs1 : ∀ c ∈ es, c.length = s := by
    intro c hc
    obtain ⟨q, hq, rfl⟩ := List.getElem_of_mem hc
    have hq' : q < es'.length := by omega
    rw [(h q _ _ (List.getElem?_eq_getElem hq) (List.getElem?_eq_getElem hq')).get.1]
    exact hs _ (List.getElem_mem hq')
  obtain ⟨k, t, c', rfl, ht, hk, hct⟩ := flat_inv hs hb
  have hk' : k < es.length := by have := (List.getElem?_eq_some_iff.1 hk).1; omega
  have htl : t < es[k].length := by rw [hs1 _ (List.getElem_mem hk')]; exact ht
  rw [flat_get hs1 (List.getElem?_eq_getElem hk') (List.getElem?_eq_getElem htl)] at ha
  cases ha
  exact (h k _ _ (List.getElem?_eq_getElem hk') hk).get.2 t _ _ (List.getElem?_eq_getElem htl) hct
theorem len_obj {l : List HObj} {c : List AV} (h : c ∈ encObjs l) : c.length = 6 := by
  simp only [encObjs, List.mem_map] at h
  obtain ⟨o, _, rfl⟩ := h
  rfl
theorem objs_inv {l : List HObj} {q : Nat} {c : List AV} (h : (encObjs l)[q]? = some c) : ∃ o, l[q]? = some o ∧ c = encObj o := by
  simp only [encObjs, List.getElem?_map, Option.map_eq_some_iff] at h
  obtain ⟨o, h1, rfl⟩ := h
  exact ⟨o, h1, rfl⟩
theorem sh_ints {T : Nat → Ob} {i e : Nat} {l : List Int} (hT : T i = .live e 1 (encInts l)) : Sh T (.own i) (.sl 1 (encInts l)) :=
  sh_own hT (fun c hc => by simp only [encInts, List.mem_map] at hc; obtain ⟨x, _, rfl⟩ := hc; rfl) fun c hc => noOwn_intsc hc
theorem sh_heap {T : Nat → Ob} {x : AV} {H' : HHeap} {e e' : Int} (h : Sh T x (.sl 6 (encObjs H'.objs))) (he : e = e') : Sh T (.tup [.agg [x, iv H'.cap, iv H'.last], iv e]) (.tup [.agg (encHeap H'), iv e']) := by
  subst he
  exact sh_tup ⟨sh_agg ⟨h, .same _ (.v _), .same _ (.v _), trivial⟩, .same _ (.v _), trivial⟩
theorem sh_keep {T : Nat → Ob} {H H' : HHeap} {e e' : Int} (h : H = H') (he : e = e') : Sh T (.tup [.agg (encHeap H), iv e]) (.tup [.agg (encHeap H'), iv e']) := by
  subst h; exact sh_heap (.same _ (noOwn_objs _ _)) he
theorem sh_empty {T : Nat → Ob} {H' : HHeap} {e e' : Int} (h : emptyH = H') (he : e = e') : Sh T (.tup [.agg [.v (.slice none 0 0), iv 0, iv 0], iv e]) (.tup [.agg (encHeap H'), iv e']) := by
  subst h; exact sh_heap (H' := emptyH) (.nil 6) he
end Go.Proofs.YtnjihhheiiapnaaGreat
