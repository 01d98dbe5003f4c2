/- What the statements' walks need. -/
import Derived.Test.YtnjihhheiiapnaaGreatMSa4
import Derived.Test.YtnjihhheiiapnaaGreatMSx1
import Derived.Test.YtnjihhheiiapnaaGreatMSa2
import Derived.Test.YtnjihhheiiapnaaGreatMSa3
set_option linter.unusedVariables false
set_option linter.unusedSimpArgs false
set_option maxRecDepth 100000
namespace Go.Proofs.YtnjihhheiiapnaaGreat
open Go Go.Proofs AW
structure HObj where
  cls : Int
  kind : Int
  slots : List Int
  text : ByteArray
  bits : Int
  hash : Int
  deriving DecidableEq
structure HHeap where
  objs : List HObj
  cap : Int
  last : Int
  deriving DecidableEq
def encInts (l : List Int) : List (List AV) := l.map fun x => [iv x]
abbrev sv (b : ByteArray) : AV := .v (.string b)
def encObj (o : HObj) : List AV := [iv o.cls, iv o.kind, .sl 1 (encInts o.slots), sv o.text, iv o.bits, iv o.hash]
def encObjs (l : List HObj) : List (List AV) := l.map encObj
def encHeap (h : HHeap) : List AV := [.sl 6 (encObjs h.objs), iv h.cap, iv h.last]
@[simp] theorem noOwn_ints (s : Nat) (l : List Int) : NoOwn (.sl s (encInts l)) := by simp [noOwn_sl, encInts]
@[simp] theorem noOwn_objs (s : Nat) (l : List HObj) : NoOwn (.sl s (encObjs l)) := by
  simp only [noOwn_sl, encObjs, List.mem_map]
  rintro c ⟨o, _, rfl⟩ x hx
  simp only [encObj, List.mem_cons, List.not_mem_nil, or_false] at hx
  rcases hx with rfl | rfl | rfl | rfl | rfl | rfl <;> simp
theorem noOwn_obj (o : HObj) : ∀ x ∈ encObj o, NoOwn x := by
  intro x hx
  simp only [encObj, List.mem_cons, List.not_mem_nil, or_false] at hx
  rcases hx with rfl | rfl | rfl | rfl | rfl | rfl <;> simp
@[simp] theorem noOwn_aobj (o : HObj) : NoOwn (.agg (encObj o)) := by rw [noOwn_agg]; exact noOwn_obj o
@[simp] theorem noOwn_heap (h : HHeap) : NoOwn (.agg (encHeap h)) := by
  rw [noOwn_agg]
  intro x hx
  simp only [encHeap, List.mem_cons, List.not_mem_nil, or_false] at hx
  rcases hx with rfl | rfl | rfl <;> simp
@[simp] theorem len_ints (l : List Int) : (encInts l).length = l.length := by simp [encInts]
@[simp] theorem len_objs (l : List HObj) : (encObjs l).length = l.length := by simp [encObjs]
theorem ints_get {l : List Int} {k : Nat} {x : Int} (h : l[k]? = some x) : (encInts l)[k]? = some [iv x] := by simp [encInts, h]
theorem objs_get {l : List HObj} {k : Nat} {x : HObj} (h : l[k]? = some x) : (encObjs l)[k]? = some (encObj x) := by simp [encObjs, h]
def findI {α : Type _} (p : α → Bool) (l : List α) : Int := match l.findIdx? p with
  | some i => i
  | none => -1
theorem findI_at {α : Type _} {p : α → Bool} {l : List α} {k : Nat} {x : α} (hk : l[k]? = some x) (hx : p x = true) (hp : ∀ (j : Nat) (y : α), j < k → l[j]? = some y → p y = false) : findI p l = k := by
  have hlt : k < l.length := (List.getElem?_eq_some_iff.1 hk).1
  have : l.findIdx? p = some k := by
    rw [List.findIdx?_eq_some_iff_getElem]
    refine ⟨hlt, ?_, fun j hj => ?_⟩
    · have := (List.getElem?_eq_some_iff.1 hk).2; rw [this]; exact hx
    · have := hp j l[j] hj (List.getElem?_eq_getElem (by omega)); simp [this]
  simp [findI, this]
theorem findI_none {α : Type _} {p : α → Bool} {l : List α} (hp : ∀ (j : Nat) (y : α), l[j]? = some y → p y = false) : findI p l = -1 := by
  have : l.findIdx? p = none := by
    rw [List.findIdx?_eq_none_iff]
    intro x hx
    obtain ⟨j, hj, rfl⟩ := List.getElem_of_mem hx
    exact hp j _ (List.getElem?_eq_getElem hj)
  simp [findI, this]
theorem findI_any {α : Type _} (p : α → Bool) (l : List α) : decide (findI p l ≥ 0) = l.any p := by
  cases h : l.findIdx? p with
  | none =>
    have : l.any p = false := by
      rw [List.findIdx?_eq_none_iff] at h
      simpa using h
    simp [findI, h, this]
  | some i =>
    have : l.any p = true := by
      rw [List.findIdx?_eq_some_iff_getElem] at h
      obtain ⟨hi, hp, _⟩ := h
      exact List.any_eq_true.2 ⟨_, List.getElem_mem hi, hp⟩
    simp [findI, h, this]
end Go.Proofs.YtnjihhheiiapnaaGreat
namespace Go.Proofs.YtnjihhheiiapnaaGreat
open Go Go.Proofs AW
theorem indexFunc_int (xs : List Int) (g : Nat) (caps : List AV) (p : Int → Bool) (hg : goFn Tryz.prog g = true) (hcaps : NoOwnL caps) (hp : ∀ x ∈ xs, Gives Tryz.prog g (iv x :: caps) (bv (p x))) (hlen : xs.length < 1099511627776) :
    Gives Tryz.prog 143 [.sl 1 (encInts xs), .clo g caps] (iv (findI p xs)) := by
  refine gives_of Tryz.func143 rfl (Nat.le_of_ble_eq_true rfl) ?_
  (repeat' (first | refine mv ?_ | refine asg ?_ | refine ln ?_ | refine aops_nil ?_ | refine aw_seq ?_ | refine aw_region ?_ | refine aw_block ?_ | fail))
  refine aw_for xs.length (fun k => k ≤ xs.length ∧ ∀ (j : Nat) (y : Int), j < k → xs[j]? = some y → p y = false) (fun k => ⟨[(8, iv (k : Int)), (7, iv ((encInts xs).length : Int)), (0, .sl 1 (encInts xs)), (1, .clo g caps)], noT⟩)
    0 ⟨by omega, by omega⟩ (ent_env ⟨rfl, rfl, rfl, rfl, trivial⟩) ?_
  rintro k ⟨hk, hprev⟩
  (repeat' (first | refine bi ?_ | refine aops_nil ?_ | refine aw_seq ?_ | refine aw_region ?_ | fail))
  refine aw_cond rfl (fun h => ?_) (fun h => ?_) <;> simp at h
  · (repeat' (first | refine mv ?_ | refine asg ?_ | refine aops_nil ?_ | refine aw_seq ?_ | refine aw_region ?_ | refine aw_block ?_ | refine aw_skip ?_ | fail))
    have hget : xs[k]? = some xs[k] := List.getElem?_eq_getElem h
    refine ia k (ints_get hget) ?_
    (repeat' (first | refine ld ?_ | fail))
    refine cl (hp xs[k] (List.getElem_mem h)) ?_ (hg' := hg) (hno := ⟨.v _, hcaps⟩)
    (repeat' (first | refine aops_nil ?_ | fail))
    refine aw_cond rfl (fun h2 => ?_) (fun h2 => ?_)
    · (repeat' (first | refine mv ?_ | refine asg ?_ | refine aops_nil ?_ | refine aw_seq ?_ | refine aw_region ?_ | refine aw_ret ?_ | fail))
      refine fin (sh_iv ?_)
      rw [findI_at hget h2 hprev]
    · (repeat' (first | refine mv ?_ | refine bw ?_ | refine aops_nil ?_ | refine aw_region ?_ | refine aw_skip ?_ | fail))
      refine ⟨h, ⟨by omega, fun j y hj hy => ?_⟩, ent_env ⟨rfl, rfl, rfl, rfl, trivial⟩⟩
      by_cases hjk : j = k
      · subst hjk; rw [hget] at hy; cases hy; exact h2
      · exact hprev j y (by omega) hy
  · (repeat' (first | refine asg ?_ | refine aops_nil ?_ | refine aw_seq ?_ | refine aw_region ?_ | refine aw_exit ?_ | refine aw_ret ?_ | fail))
    refine fin (sh_iv ?_)
    rw [findI_none fun j y hy => hprev j y (by have := (List.getElem?_eq_some_iff.1 hy).1; omega) hy]
theorem containsFunc_int (xs : List Int) (g : Nat) (caps : List AV) (p : Int → Bool) (hg : goFn Tryz.prog g = true) (hcaps : NoOwnL caps) (hp : ∀ x ∈ xs, Gives Tryz.prog g (iv x :: caps) (bv (p x))) (hlen : xs.length < 1099511627776) :
    Gives Tryz.prog 112 [.sl 1 (encInts xs), .clo g caps] (bv (xs.any p)) := by
  refine gives_of Tryz.func112 rfl (Nat.le_of_ble_eq_true rfl) ?_
  (repeat' (first | refine mv ?_ | refine asg ?_ | refine aops_nil ?_ | refine aw_seq ?_ | refine aw_region ?_ | fail))
  refine cl (indexFunc_int xs g caps p hg hcaps hp hlen) ?_ (hno := ⟨noOwn_ints 1 xs, .clo _ _ hcaps.mem, trivial⟩)
  (repeat' (first | refine asg ?_ | refine bi ?_ | refine aops_nil ?_ | refine aw_ret ?_ | fail))
  exact fin (sh_bv (findI_any p xs))
theorem indexFunc_obj (xs : List HObj) (g : Nat) (caps : List AV) (p : HObj → Bool) (hg : goFn Tryz.prog g = true) (hcaps : NoOwnL caps) (hp : ∀ x ∈ xs, Gives Tryz.prog g (.agg (encObj x) :: caps) (bv (p x))) (hlen : xs.length < 1099511627776) :
    Gives Tryz.prog 109 [.sl 6 (encObjs xs), .clo g caps] (iv (findI p xs)) := by
  refine gives_of Tryz.func109 rfl (Nat.le_of_ble_eq_true rfl) ?_
  (repeat' (first | refine mv ?_ | refine asg ?_ | refine ln ?_ | refine aops_nil ?_ | refine aw_seq ?_ | refine aw_region ?_ | refine aw_block ?_ | fail))
  refine aw_for xs.length (fun k => k ≤ xs.length ∧ ∀ (j : Nat) (y : HObj), j < k → xs[j]? = some y → p y = false) (fun k => ⟨[(8, iv (k : Int)), (7, iv ((encObjs xs).length : Int)), (0, .sl 6 (encObjs xs)), (1, .clo g caps)], noT⟩)
    0 ⟨by omega, by omega⟩ (ent_env ⟨rfl, rfl, rfl, rfl, trivial⟩) ?_
  rintro k ⟨hk, hprev⟩
  (repeat' (first | refine bi ?_ | refine aops_nil ?_ | refine aw_seq ?_ | refine aw_region ?_ | fail))
  refine aw_cond rfl (fun h => ?_) (fun h => ?_) <;> simp at h
  · (repeat' (first | refine mv ?_ | refine asg ?_ | refine aops_nil ?_ | refine aw_seq ?_ | refine aw_region ?_ | refine aw_block ?_ | refine aw_skip ?_ | fail))
    have hget : xs[k]? = some xs[k] := List.getElem?_eq_getElem h
    refine ia k (objs_get hget) ?_
    (repeat' (first | refine la ?_ | fail))
    refine cl (hp xs[k] (List.getElem_mem h)) ?_ (hg' := hg) (hno := ⟨noOwn_aobj _, hcaps⟩)
    (repeat' (first | refine aops_nil ?_ | fail))
    refine aw_cond rfl (fun h2 => ?_) (fun h2 => ?_)
    · (repeat' (first | refine mv ?_ | refine asg ?_ | refine aops_nil ?_ | refine aw_seq ?_ | refine aw_region ?_ | refine aw_ret ?_ | fail))
      refine fin (sh_iv ?_)
      rw [findI_at hget h2 hprev]
    · (repeat' (first | refine mv ?_ | refine bw ?_ | refine aops_nil ?_ | refine aw_region ?_ | refine aw_skip ?_ | fail))
      refine ⟨h, ⟨by omega, fun j y hj hy => ?_⟩, ent_env ⟨rfl, rfl, rfl, rfl, trivial⟩⟩
      by_cases hjk : j = k
      · subst hjk; rw [hget] at hy; cases hy; exact h2
      · exact hprev j y (by omega) hy
  · (repeat' (first | refine asg ?_ | refine aops_nil ?_ | refine aw_seq ?_ | refine aw_region ?_ | refine aw_exit ?_ | refine aw_ret ?_ | fail))
    refine fin (sh_iv ?_)
    rw [findI_none fun j y hy => hprev j y (by have := (List.getElem?_eq_some_iff.1 hy).1; omega) hy]
theorem containsFunc_obj (xs : List HObj) (g : Nat) (caps : List AV) (p : HObj → Bool) (hg : goFn Tryz.prog g = true) (hcaps : NoOwnL caps) (hp : ∀ x ∈ xs, Gives Tryz.prog g (.agg (encObj x) :: caps) (bv (p x))) (hlen : xs.length < 1099511627776) :
    Gives Tryz.prog 48 [.sl 6 (encObjs xs), .clo g caps] (bv (xs.any p)) := by
  refine gives_of Tryz.func48 rfl (Nat.le_of_ble_eq_true rfl) ?_
  (repeat' (first | refine mv ?_ | refine asg ?_ | refine aops_nil ?_ | refine aw_seq ?_ | refine aw_region ?_ | fail))
  refine cl (indexFunc_obj xs g caps p hg hcaps hp hlen) ?_ (hno := ⟨noOwn_objs 6 xs, .clo _ _ hcaps.mem, trivial⟩)
  (repeat' (first | refine asg ?_ | refine bi ?_ | refine aops_nil ?_ | refine aw_ret ?_ | fail))
  exact fin (sh_bv (findI_any p xs))
end Go.Proofs.YtnjihhheiiapnaaGreat
