/- What the statements' walks need. -/
import Derived.Test.YtemcemimipagoaaMVa4
import Derived.Test.YtemcemimipagoaaMVx1
import Derived.Test.YtemcemimipagoaaMVa2
set_option linter.unusedVariables false
set_option linter.unusedSimpArgs false
set_option maxRecDepth 100000
namespace Go.Proofs.Ytemcemimipagoaa
open Go Go.Proofs AW
structure HObj where
  cls : Int
  kind : Int
  slots : List Int
  text : ByteArray
  bits : Int
  hash : Int
  deriving DecidableEq
structure HHeap where
  objs : List HObj
  cap : Int
  last : Int
  deriving DecidableEq
def encInts (l : List Int) : List (List AV) := l.map fun x => [iv x]
abbrev sv (b : ByteArray) : AV := .v (.string b)
def encObj (o : HObj) : List AV := [iv o.cls, iv o.kind, .sl 1 (encInts o.slots), sv o.text, iv o.bits, iv o.hash]
def encObjs (l : List HObj) : List (List AV) := l.map encObj
def encHeap (h : HHeap) : List AV := [.sl 6 (encObjs h.objs), iv h.cap, iv h.last]
@[simp] theorem noOwn_ints (s : Nat) (l : List Int) : NoOwn (.sl s (encInts l)) := by simp [noOwn_sl, encInts]
@[simp] theorem noOwn_objs (s : Nat) (l : List HObj) : NoOwn (.sl s (encObjs l)) := by
  simp only [noOwn_sl, encObjs, List.mem_map]
  rintro c ⟨o, _, rfl⟩ x hx
  simp only [encObj, List.mem_cons, List.not_mem_nil, or_false] at hx
  rcases hx with rfl | rfl | rfl | rfl | rfl | rfl <;> simp
theorem noOwn_obj (o : HObj) : ∀ x ∈ encObj o, NoOwn x := by
  intro x hx
  simp only [encObj, List.mem_cons, List.not_mem_nil, or_false] at hx
  rcases hx with rfl | rfl | rfl | rfl | rfl | rfl <;> simp
@[simp] theorem noOwn_aobj (o : HObj) : NoOwn (.agg (encObj o)) := by rw [noOwn_agg]; exact noOwn_obj o
@[simp] theorem noOwn_heap (h : HHeap) : NoOwn (.agg (encHeap h)) := by
  rw [noOwn_agg]
  intro x hx
  simp only [encHeap, List.mem_cons, List.not_mem_nil, or_false] at hx
  rcases hx with rfl | rfl | rfl <;> simp
@[simp] theorem len_ints (l : List Int) : (encInts l).length = l.length := by simp [encInts]
@[simp] theorem len_objs (l : List HObj) : (encObjs l).length = l.length := by simp [encObjs]
theorem ints_get {l : List Int} {k : Nat} {x : Int} (h : l[k]? = some x) : (encInts l)[k]? = some [iv x] := by simp [encInts, h]
theorem objs_get {l : List HObj} {k : Nat} {x : HObj} (h : l[k]? = some x) : (encObjs l)[k]? = some (encObj x) := by simp [encObjs, h]
def findI {α : Type _} (p : α → Bool) (l : List α) : Int := match l.findIdx? p with
  | some i => i
  | none => -1
theorem findI_at {α : Type _} {p : α → Bool} {l : List α} {k : Nat} {x : α} (hk : l[k]? = some x) (hx : p x = true) (hp : ∀ (j : Nat) (y : α), j < k → l[j]? = some y → p y = false) : findI p l = k := by
  have hlt : k < l.length := (List.getElem?_eq_some_iff.1 hk).1
  have : l.findIdx? p = some k := by
    rw [List.findIdx?_eq_some_iff_getElem]
    refine ⟨hlt, ?_, fun j hj => ?_⟩
    · have := (List.getElem?_eq_some_iff.1 hk).2; rw [this]; exact hx
    · have := hp j l[j] hj (List.getElem?_eq_getElem (by omega)); simp [this]
  simp [findI, this]
theorem findI_none {α : Type _} {p : α → Bool} {l : List α} (hp : ∀ (j : Nat) (y : α), l[j]? = some y → p y = false) : findI p l = -1 := by
  have : l.findIdx? p = none := by
    rw [List.findIdx?_eq_none_iff]
    intro x hx
    obtain ⟨j, hj, rfl⟩ := List.getElem_of_mem hx
    exact hp j _ (List.getElem?_eq_getElem hj)
  simp [findI, this]
theorem findI_any {α : Type _} (p : α → Bool) (l : List α) : decide (findI p l ≥ 0) = l.any p := by
  cases h : l.findIdx? p with
  | none =>
    have : l.any p = false := by
      rw [List.findIdx?_eq_none_iff] at h
      simpa using h
    simp [findI, h, this]
  | some i =>
    have : l.any p = true := by
      rw [List.findIdx?_eq_some_iff_getElem] at h
      obtain ⟨hi, hp, _⟩ := h
      exact List.any_eq_true.2 ⟨_, List.getElem_mem hi, hp⟩
    simp [findI, h, this]
end Go.Proofs.Ytemcemimipagoaa
