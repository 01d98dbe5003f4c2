/- What the statements' walks need. -/
import Derived.Test.YtnjihhheiiapnaaGreatMTa4
import Derived.Test.YtnjihhheiiapnaaGreatMTa2
import Derived.Test.YtnjihhheiiapnaaGreatMTa3
import Derived.Test.YtnjihhheiiapnaaGreatChecked
import Ieee.Arith
import Derived.Laws.Externs
set_option linter.unusedVariables false
set_option linter.unusedSimpArgs false
set_option maxRecDepth 100000
namespace Go.Proofs.YtnjihhheiiapnaaGreat
open Go Go.Proofs AW
abbrev iv (n : Int) : AV := .v (.int .i64 n)
abbrev bv (b : Bool) : AV := .v (.bool b)
theorem sh_iv {T : Nat → Ob} {x y : Int} (h : x = y) : Sh T (iv x) (iv y) := h ▸ .same _ (.v _)
theorem sh_bv {T : Nat → Ob} {x y : Bool} (h : x = y) : Sh T (bv x) (bv y) := h ▸ .same _ (.v _)
theorem sh_ib {T : Nat → Ob} {x x' : Int} {y y' : Bool} (h : x = x') (k : y = y') : Sh T (.tup [iv x, bv y]) (.tup [iv x', bv y']) := sh_tup ⟨sh_iv h, sh_bv k, trivial⟩
def isAt (v : Int) : Bool := decide (v % 2 = 0 ∧ 0 ≤ v ∧ v ≤ 2097150)
def atI (v : Int) : Int := if isAt v = true then v / 2 else 0
def isN (v : Int) : Bool := decide (v % 2 = 1 ∧ -2147483647 ≤ v ∧ v ≤ 2147483647)
def nI (v : Int) : Int := if isN v = true then v / 2 else 0
theorem in_ok (n m : Int) : Gives Tryz.prog 47 [iv n, iv m] (bv (decide (0 ≤ n ∧ n ≤ m))) := by
  refine gives_of Tryz.func47 rfl (Nat.le_of_ble_eq_true rfl) ?_
  (repeat' (first | refine mv ?_ | refine asg ?_ | refine bi ?_ | refine aops_nil ?_ | refine aw_seq ?_ | refine aw_region ?_ | fail))
  refine gs (fun h => ?_) (fun h => ?_) <;> (repeat' (first | refine sk ?_ | refine mv ?_ | refine asg ?_ | refine bi ?_ | refine pt ?_ | refine pf ?_ | refine aops_nil ?_ | refine aw_ret ?_ | fail)) <;> refine fin (sh_bv ?_) <;> simp at h <;> simp <;> omega
theorem object_ok (n : Int) : Gives Tryz.prog 115 [iv n] (bv (decide (0 ≤ n ∧ n < 1048576))) := by
  refine gives_of Tryz.func115 rfl (Nat.le_of_ble_eq_true rfl) ?_
  (repeat' (first | refine mv ?_ | refine asg ?_ | refine bi ?_ | refine aops_nil ?_ | refine aw_seq ?_ | refine aw_region ?_ | fail))
  refine gs (fun h => ?_) (fun h => ?_) <;> (repeat' (first | refine sk ?_ | refine mv ?_ | refine asg ?_ | refine bi ?_ | refine pt ?_ | refine pf ?_ | refine aops_nil ?_ | refine aw_ret ?_ | fail)) <;> refine fin (sh_bv ?_) <;> simp at h <;> simp <;> omega
theorem small_ok (n : Int) : Gives Tryz.prog 144 [iv n] (bv (decide (-1073741824 ≤ n ∧ n ≤ 1073741823))) := by
  refine gives_of Tryz.func144 rfl (Nat.le_of_ble_eq_true rfl) ?_
  (repeat' (first | refine mv ?_ | refine asg ?_ | refine bi ?_ | refine aops_nil ?_ | refine aw_seq ?_ | refine aw_region ?_ | fail))
  refine gs (fun h => ?_) (fun h => ?_) <;> (repeat' (first | refine sk ?_ | refine mv ?_ | refine asg ?_ | refine bi ?_ | refine pt ?_ | refine pf ?_ | refine aops_nil ?_ | refine aw_ret ?_ | fail)) <;> refine fin (sh_bv ?_) <;> simp at h <;> simp <;> omega
theorem At_ok (v : Int) : Gives Tryz.prog 51 [iv v] (.tup [iv (atI v), bv (isAt v)]) := by
  refine gives_of Tryz.func51 rfl (Nat.le_of_ble_eq_true rfl) ?_
  (repeat' (first | refine mv ?_ | refine asg ?_ | refine ms 1 ?_ | refine sr (c := 2) ?_ | refine bi ?_ | refine aops_nil ?_ | refine aw_seq ?_ | refine aw_region ?_ | fail))
  refine gs (fun h => ?_) (fun h => ?_) <;> (repeat' (first | refine sk ?_ | refine mv ?_ | refine asg ?_ | refine pf ?_ | refine aops_nil ?_ | refine aw_seq ?_ | refine aw_region ?_ | refine aw_cond_f rfl ?_ | refine aw_skip ?_ | refine aw_ret ?_ | fail))
  · refine cl (object_ok _) ?_
    (repeat' (first | refine pt ?_ | refine aops_nil ?_ | fail))
    refine aw_cond rfl (fun h2 => ?_) (fun h2 => ?_) <;> (repeat' (first | refine mv ?_ | refine asg ?_ | refine aops_nil ?_ | refine aw_seq ?_ | refine aw_region ?_ | refine aw_skip ?_ | refine aw_ret ?_ | fail)) <;> refine fin (sh_ib ?_ ?_) <;> simp [IntKind.bits] at h h2 <;> simp [atI, isAt, IntKind.bits] <;> grind
  · refine fin (sh_ib ?_ ?_) <;> simp at h <;> simp [atI, isAt] <;> omega
theorem N_ok (v : Int) : Gives Tryz.prog 116 [iv v] (.tup [iv (nI v), bv (isN v)]) := by
  refine gives_of Tryz.func116 rfl (Nat.le_of_ble_eq_true rfl) ?_
  (repeat' (first | refine mv ?_ | refine asg ?_ | refine ms 1 ?_ | refine sr (c := 2) ?_ | refine bi ?_ | refine aops_nil ?_ | refine aw_seq ?_ | refine aw_region ?_ | fail))
  refine gs (fun h => ?_) (fun h => ?_) <;> (repeat' (first | refine sk ?_ | refine mv ?_ | refine asg ?_ | refine pf ?_ | refine aops_nil ?_ | refine aw_seq ?_ | refine aw_region ?_ | refine aw_cond_f rfl ?_ | refine aw_skip ?_ | refine aw_ret ?_ | fail))
  · refine cl (small_ok _) ?_
    (repeat' (first | refine pt ?_ | refine aops_nil ?_ | fail))
    refine aw_cond rfl (fun h2 => ?_) (fun h2 => ?_) <;> (repeat' (first | refine mv ?_ | refine asg ?_ | refine aops_nil ?_ | refine aw_seq ?_ | refine aw_region ?_ | refine aw_skip ?_ | refine aw_ret ?_ | fail)) <;> refine fin (sh_ib ?_ ?_) <;> simp [IntKind.bits] at h h2 <;> simp [nI, isN, IntKind.bits] <;> grind
  · refine fin (sh_ib ?_ ?_) <;> simp at h <;> simp [nI, isN] <;> omega
def refI (n v : Int) : Int := if isAt v = true ∧ v / 2 < n then v / 2 else -1
def hasB (n v : Int) : Bool := isN v || decide (0 ≤ refI n v)
theorem ref_ok (n v : Int) : Gives Tryz.prog 110 [iv n, iv v] (iv (refI n v)) := by
  refine gives_of Tryz.func110 rfl (Nat.le_of_ble_eq_true rfl) ?_
  (repeat' (first | refine mv ?_ | refine asg ?_ | refine aops_nil ?_ | refine aw_seq ?_ | refine aw_region ?_ | fail))
  refine cl (At_ok _) ?_
  (repeat' (first | refine mv ?_ | refine asg ?_ | refine ex ?_ | refine aops_nil ?_ | refine aw_seq ?_ | refine aw_region ?_ | fail))
  refine gs (fun h => ?_) (fun h => ?_) <;> (repeat' (first | refine sk ?_ | refine mv ?_ | refine asg ?_ | refine bi ?_ | refine pt ?_ | refine pf ?_ | refine aops_nil ?_ | refine aw_seq ?_ | refine aw_region ?_ | refine aw_cond_f rfl ?_ | refine aw_skip ?_ | refine aw_ret ?_ | fail))
  · refine aw_cond rfl (fun h2 => ?_) (fun h2 => ?_) <;> (repeat' (first | refine mv ?_ | refine asg ?_ | refine aops_nil ?_ | refine aw_seq ?_ | refine aw_region ?_ | refine aw_skip ?_ | refine aw_ret ?_ | fail)) <;> refine fin (sh_iv ?_) <;> simp at h2 <;> simp_all [refI, atI] <;> omega
  · refine fin (sh_iv ?_); simp [refI, h]
theorem has_ok (n v : Int) : Gives Tryz.prog 114 [iv n, iv v] (bv (hasB n v)) := by
  refine gives_of Tryz.func114 rfl (Nat.le_of_ble_eq_true rfl) ?_
  (repeat' (first | refine mv ?_ | refine asg ?_ | refine aops_nil ?_ | refine aw_seq ?_ | refine aw_region ?_ | fail))
  refine cl (N_ok _) ?_
  (repeat' (first | refine mv ?_ | refine asg ?_ | refine ex ?_ | refine aops_nil ?_ | refine aw_seq ?_ | refine aw_region ?_ | fail))
  refine gs (fun h => ?_) (fun h => ?_) <;> (repeat' (first | refine sk ?_ | refine mv ?_ | refine asg ?_ | refine pt ?_ | refine aops_nil ?_ | refine aw_ret ?_ | fail))
  · refine fin (sh_bv ?_); simp [hasB, h]
  · refine cl (ref_ok _ _) ?_
    (repeat' (first | refine asg ?_ | refine bi ?_ | refine pf ?_ | refine aops_nil ?_ | refine aw_ret ?_ | fail))
    refine fin (sh_bv ?_); simp [hasB, h]
end Go.Proofs.YtnjihhheiiapnaaGreat
namespace Go.Proofs.YtnjihhheiiapnaaGreat
open Go Go.Proofs AW
structure HObj where
  cls : Int
  kind : Int
  slots : List Int
  text : ByteArray
  bits : Int
  hash : Int
  deriving DecidableEq
structure HHeap where
  objs : List HObj
  cap : Int
  last : Int
  deriving DecidableEq
def encInts (l : List Int) : List (List AV) := l.map fun x => [iv x]
abbrev sv (b : ByteArray) : AV := .v (.string b)
def encObj (o : HObj) : List AV := [iv o.cls, iv o.kind, .sl 1 (encInts o.slots), sv o.text, iv o.bits, iv o.hash]
def encObjs (l : List HObj) : List (List AV) := l.map encObj
def encHeap (h : HHeap) : List AV := [.sl 6 (encObjs h.objs), iv h.cap, iv h.last]
@[simp] theorem noOwn_ints (s : Nat) (l : List Int) : NoOwn (.sl s (encInts l)) := by simp [noOwn_sl, encInts]
@[simp] theorem noOwn_objs (s : Nat) (l : List HObj) : NoOwn (.sl s (encObjs l)) := by
  simp only [noOwn_sl, encObjs, List.mem_map]
  rintro c ⟨o, _, rfl⟩ x hx
  simp only [encObj, List.mem_cons, List.not_mem_nil, or_false] at hx
  rcases hx with rfl | rfl | rfl | rfl | rfl | rfl <;> simp
theorem noOwn_obj (o : HObj) : ∀ x ∈ encObj o, NoOwn x := by
  intro x hx
  simp only [encObj, List.mem_cons, List.not_mem_nil, or_false] at hx
  rcases hx with rfl | rfl | rfl | rfl | rfl | rfl <;> simp
@[simp] theorem noOwn_aobj (o : HObj) : NoOwn (.agg (encObj o)) := by rw [noOwn_agg]; exact noOwn_obj o
@[simp] theorem noOwn_heap (h : HHeap) : NoOwn (.agg (encHeap h)) := by
  rw [noOwn_agg]
  intro x hx
  simp only [encHeap, List.mem_cons, List.not_mem_nil, or_false] at hx
  rcases hx with rfl | rfl | rfl <;> simp
@[simp] theorem len_ints (l : List Int) : (encInts l).length = l.length := by simp [encInts]
@[simp] theorem len_objs (l : List HObj) : (encObjs l).length = l.length := by simp [encObjs]
theorem ints_get {l : List Int} {k : Nat} {x : Int} (h : l[k]? = some x) : (encInts l)[k]? = some [iv x] := by simp [encInts, h]
theorem objs_get {l : List HObj} {k : Nat} {x : HObj} (h : l[k]? = some x) : (encObjs l)[k]? = some (encObj x) := by simp [encObjs, h]
def findI {α : Type _} (p : α → Bool) (l : List α) : Int := match l.findIdx? p with
  | some i => i
  | none => -1
theorem findI_at {α : Type _} {p : α → Bool} {l : List α} {k : Nat} {x : α} (hk : l[k]? = some x) (hx : p x = true) (hp : ∀ (j : Nat) (y : α), j < k → l[j]? = some y → p y = false) : findI p l = k := by
  have hlt : k < l.length := (List.getElem?_eq_some_iff.1 hk).1
  have : l.findIdx? p = some k := by
    rw [List.findIdx?_eq_some_iff_getElem]
    refine ⟨hlt, ?_, fun j hj => ?_⟩
    · have := (List.getElem?_eq_some_iff.1 hk).2; rw [this]; exact hx
    · have := hp j l[j] hj (List.getElem?_eq_getElem (by omega)); simp [this]
  simp [findI, this]
theorem findI_none {α : Type _} {p : α → Bool} {l : List α} (hp : ∀ (j : Nat) (y : α), l[j]? = some y → p y = false) : findI p l = -1 := by
  have : l.findIdx? p = none := by
    rw [List.findIdx?_eq_none_iff]
    intro x hx
    obtain ⟨j, hj, rfl⟩ := List.getElem_of_mem hx
    exact hp j _ (List.getElem?_eq_getElem hj)
  simp [findI, this]
theorem findI_any {α : Type _} (p : α → Bool) (l : List α) : decide (findI p l ≥ 0) = l.any p := by
  cases h : l.findIdx? p with
  | none =>
    have : l.any p = false := by
      rw [List.findIdx?_eq_none_iff] at h
      simpa using h
    simp [findI, h, this]
  | some i =>
    have : l.any p = true := by
      rw [List.findIdx?_eq_some_iff_getElem] at h
      obtain ⟨hi, hp, _⟩ := h
      exact List.any_eq_true.2 ⟨_, List.getElem_mem hi, hp⟩
    simp [findI, h, this]
end Go.Proofs.YtnjihhheiiapnaaGreat
namespace Go.Proofs.YtnjihhheiiapnaaGreat
open Go Go.Proofs AW
theorem indexFunc_int (xs : List Int) (g : Nat) (caps : List AV) (p : Int → Bool) (hg : goFn Tryz.prog g = true) (hcaps : NoOwnL caps) (hp : ∀ x ∈ xs, Gives Tryz.prog g (iv x :: caps) (bv (p x))) (hlen : xs.length < 1099511627776) :
    Gives Tryz.prog 143 [.sl 1 (encInts xs), .clo g caps] (iv (findI p xs)) := by
  refine gives_of Tryz.func143 rfl (Nat.le_of_ble_eq_true rfl) ?_
  (repeat' (first | refine mv ?_ | refine asg ?_ | refine ln ?_ | refine aops_nil ?_ | refine aw_seq ?_ | refine aw_region ?_ | refine aw_block ?_ | fail))
  refine aw_for xs.length (fun k => k ≤ xs.length ∧ ∀ (j : Nat) (y : Int), j < k → xs[j]? = some y → p y = false) (fun k => ⟨[(8, iv (k : Int)), (7, iv ((encInts xs).length : Int)), (0, .sl 1 (encInts xs)), (1, .clo g caps)], noT⟩)
    0 ⟨by omega, by omega⟩ (ent_env ⟨rfl, rfl, rfl, rfl, trivial⟩) ?_
  rintro k ⟨hk, hprev⟩
  (repeat' (first | refine bi ?_ | refine aops_nil ?_ | refine aw_seq ?_ | refine aw_region ?_ | fail))
  refine aw_cond rfl (fun h => ?_) (fun h => ?_) <;> simp at h
  · (repeat' (first | refine mv ?_ | refine asg ?_ | refine aops_nil ?_ | refine aw_seq ?_ | refine aw_region ?_ | refine aw_block ?_ | refine aw_skip ?_ | fail))
    have hget : xs[k]? = some xs[k] := List.getElem?_eq_getElem h
    refine ia k (ints_get hget) ?_
    (repeat' (first | refine ld ?_ | fail))
    refine cl (hp xs[k] (List.getElem_mem h)) ?_ (hg' := hg) (hno := ⟨.v _, hcaps⟩)
    (repeat' (first | refine aops_nil ?_ | fail))
    refine aw_cond rfl (fun h2 => ?_) (fun h2 => ?_)
    · (repeat' (first | refine mv ?_ | refine asg ?_ | refine aops_nil ?_ | refine aw_seq ?_ | refine aw_region ?_ | refine aw_ret ?_ | fail))
      refine fin (sh_iv ?_)
      rw [findI_at hget h2 hprev]
    · (repeat' (first | refine mv ?_ | refine bw ?_ | refine aops_nil ?_ | refine aw_region ?_ | refine aw_skip ?_ | fail))
      refine ⟨h, ⟨by omega, fun j y hj hy => ?_⟩, ent_env ⟨rfl, rfl, rfl, rfl, trivial⟩⟩
      by_cases hjk : j = k
      · subst hjk; rw [hget] at hy; cases hy; exact h2
      · exact hprev j y (by omega) hy
  · (repeat' (first | refine asg ?_ | refine aops_nil ?_ | refine aw_seq ?_ | refine aw_region ?_ | refine aw_exit ?_ | refine aw_ret ?_ | fail))
    refine fin (sh_iv ?_)
    rw [findI_none fun j y hy => hprev j y (by have := (List.getElem?_eq_some_iff.1 hy).1; omega) hy]
theorem containsFunc_int (xs : List Int) (g : Nat) (caps : List AV) (p : Int → Bool) (hg : goFn Tryz.prog g = true) (hcaps : NoOwnL caps) (hp : ∀ x ∈ xs, Gives Tryz.prog g (iv x :: caps) (bv (p x))) (hlen : xs.length < 1099511627776) :
    Gives Tryz.prog 112 [.sl 1 (encInts xs), .clo g caps] (bv (xs.any p)) := by
  refine gives_of Tryz.func112 rfl (Nat.le_of_ble_eq_true rfl) ?_
  (repeat' (first | refine mv ?_ | refine asg ?_ | refine aops_nil ?_ | refine aw_seq ?_ | refine aw_region ?_ | fail))
  refine cl (indexFunc_int xs g caps p hg hcaps hp hlen) ?_ (hno := ⟨noOwn_ints 1 xs, .clo _ _ hcaps.mem, trivial⟩)
  (repeat' (first | refine asg ?_ | refine bi ?_ | refine aops_nil ?_ | refine aw_ret ?_ | fail))
  exact fin (sh_bv (findI_any p xs))
theorem indexFunc_obj (xs : List HObj) (g : Nat) (caps : List AV) (p : HObj → Bool) (hg : goFn Tryz.prog g = true) (hcaps : NoOwnL caps) (hp : ∀ x ∈ xs, Gives Tryz.prog g (.agg (encObj x) :: caps) (bv (p x))) (hlen : xs.length < 1099511627776) :
    Gives Tryz.prog 109 [.sl 6 (encObjs xs), .clo g caps] (iv (findI p xs)) := by
  refine gives_of Tryz.func109 rfl (Nat.le_of_ble_eq_true rfl) ?_
  (repeat' (first | refine mv ?_ | refine asg ?_ | refine ln ?_ | refine aops_nil ?_ | refine aw_seq ?_ | refine aw_region ?_ | refine aw_block ?_ | fail))
  refine aw_for xs.length (fun k => k ≤ xs.length ∧ ∀ (j : Nat) (y : HObj), j < k → xs[j]? = some y → p y = false) (fun k => ⟨[(8, iv (k : Int)), (7, iv ((encObjs xs).length : Int)), (0, .sl 6 (encObjs xs)), (1, .clo g caps)], noT⟩)
    0 ⟨by omega, by omega⟩ (ent_env ⟨rfl, rfl, rfl, rfl, trivial⟩) ?_
  rintro k ⟨hk, hprev⟩
  (repeat' (first | refine bi ?_ | refine aops_nil ?_ | refine aw_seq ?_ | refine aw_region ?_ | fail))
  refine aw_cond rfl (fun h => ?_) (fun h => ?_) <;> simp at h
  · (repeat' (first | refine mv ?_ | refine asg ?_ | refine aops_nil ?_ | refine aw_seq ?_ | refine aw_region ?_ | refine aw_block ?_ | refine aw_skip ?_ | fail))
    have hget : xs[k]? = some xs[k] := List.getElem?_eq_getElem h
    refine ia k (objs_get hget) ?_
    (repeat' (first | refine la ?_ | fail))
    refine cl (hp xs[k] (List.getElem_mem h)) ?_ (hg' := hg) (hno := ⟨noOwn_aobj _, hcaps⟩)
    (repeat' (first | refine aops_nil ?_ | fail))
    refine aw_cond rfl (fun h2 => ?_) (fun h2 => ?_)
    · (repeat' (first | refine mv ?_ | refine asg ?_ | refine aops_nil ?_ | refine aw_seq ?_ | refine aw_region ?_ | refine aw_ret ?_ | fail))
      refine fin (sh_iv ?_)
      rw [findI_at hget h2 hprev]
    · (repeat' (first | refine mv ?_ | refine bw ?_ | refine aops_nil ?_ | refine aw_region ?_ | refine aw_skip ?_ | fail))
      refine ⟨h, ⟨by omega, fun j y hj hy => ?_⟩, ent_env ⟨rfl, rfl, rfl, rfl, trivial⟩⟩
      by_cases hjk : j = k
      · subst hjk; rw [hget] at hy; cases hy; exact h2
      · exact hprev j y (by omega) hy
  · (repeat' (first | refine asg ?_ | refine aops_nil ?_ | refine aw_seq ?_ | refine aw_region ?_ | refine aw_exit ?_ | refine aw_ret ?_ | fail))
    refine fin (sh_iv ?_)
    rw [findI_none fun j y hy => hprev j y (by have := (List.getElem?_eq_some_iff.1 hy).1; omega) hy]
theorem containsFunc_obj (xs : List HObj) (g : Nat) (caps : List AV) (p : HObj → Bool) (hg : goFn Tryz.prog g = true) (hcaps : NoOwnL caps) (hp : ∀ x ∈ xs, Gives Tryz.prog g (.agg (encObj x) :: caps) (bv (p x))) (hlen : xs.length < 1099511627776) :
    Gives Tryz.prog 48 [.sl 6 (encObjs xs), .clo g caps] (bv (xs.any p)) := by
  refine gives_of Tryz.func48 rfl (Nat.le_of_ble_eq_true rfl) ?_
  (repeat' (first | refine mv ?_ | refine asg ?_ | refine aops_nil ?_ | refine aw_seq ?_ | refine aw_region ?_ | fail))
  refine cl (indexFunc_obj xs g caps p hg hcaps hp hlen) ?_ (hno := ⟨noOwn_objs 6 xs, .clo _ _ hcaps.mem, trivial⟩)
  (repeat' (first | refine asg ?_ | refine bi ?_ | refine aops_nil ?_ | refine aw_ret ?_ | fail))
  exact fin (sh_bv (findI_any p xs))
end Go.Proofs.YtnjihhheiiapnaaGreat
namespace Go.Proofs.YtnjihhheiiapnaaGreat
open Go Go.Proofs AW
theorem order_self (x : Nat) : Ieee.double.order x x = if x % 2 ^ 63 ≤ 2047 * 2 ^ 52 then some .eq else none := by
  unfold Ieee.Format.order Ieee.Format.read
  simp only [show Ieee.double.signWeight = 2 ^ 63 from rfl, show Ieee.double.binade = 2 ^ 52 from rfl, show Ieee.double.infRung = 2047 * 2 ^ 52 from rfl]
  have hc : ∀ n : Nat, compare n n = Ordering.eq := fun n => by simp [compare, compareOfLessAndEq]
  have hi : ∀ n : Int, compare n n = Ordering.eq := fun n => by simp [compare, compareOfLessAndEq]
  by_cases h1 : x % 2 ^ 63 < 2 ^ 52
  · rw [if_pos h1, if_pos (by omega)]; simp [Ieee.Datum.order, hi]
  · rw [if_neg h1]
    by_cases h2 : x % 2 ^ 63 < 2047 * 2 ^ 52
    · rw [if_pos h2, if_pos (by omega)]; simp [Ieee.Datum.order, hi]
    · rw [if_neg h2]
      by_cases h3 : x % 2 ^ 63 = 2047 * 2 ^ 52
      · rw [if_pos h3, if_pos (by omega)]; simp [Ieee.Datum.order, hc]
      · rw [if_neg h3, if_neg (by omega)]; rfl
def In64 (a : Int) : Prop := -9223372036854775808 ≤ a ∧ a ≤ 9223372036854775807
def canI (a : Int) : Int := if a % 9223372036854775808 ≤ 9218868437227405312 then a else 9221120237041090561
def fbits (a : Int) : Nat := (IntKind.u64.wrap a).toNat
theorem fbits_eq (a : Int) : fbits a = (a % 18446744073709551616).toNat := by
  simp [fbits, IntKind.wrap, IntKind.bits, IntKind.signed]
theorem frombits_run (n : Int) (w : World) : (callFunc 152 #[.int .u64 n]).run Tryz.prog w = .ok (.value (.float .f64 n.toNat)) w := by
  rw [run_callFunc_extern (e := Extern.MathFloatBits.float64frombits) Tryz.func152 (by kernel_rfl) (by kernel_rfl) (by kernel_rfl) (by kernel_rfl)]
  rfl
theorem bits_run (b : Nat) (w : World) : (callFunc 155 #[.float .f64 b]).run Tryz.prog w = .ok (.value (.int .u64 b)) w := by
  rw [run_callFunc_extern (e := Extern.MathFloatBits.float64bits) Tryz.func155 (by kernel_rfl) (by kernel_rfl) (by kernel_rfl) (by kernel_rfl)]
  rfl
theorem number_ok (a : Int) : Gives Tryz.prog 131 [iv a] (.v (.float .f64 (fbits a))) := by
  refine gives_of Tryz.func131 rfl (Nat.le_of_ble_eq_true rfl) ?_
  (repeat' (first | refine mv ?_ | refine asg ?_ | refine cv' ?_ | refine aops_nil ?_ | refine aw_seq ?_ | refine aw_region ?_ | fail))
  refine xt (frombits_run _) ?_
  (repeat' (first | refine asg ?_ | refine aops_nil ?_ | refine aw_ret ?_ | fail))
  exact fin (.same _ (.v _))
def fcan (b : Nat) : Int := if b % 2 ^ 63 ≤ 2047 * 2 ^ 52 then IntKind.i64.wrap (b : Int) else 9221120237041090561
theorem bits_ok (b : Nat) : Gives Tryz.prog 142 [.v (.float .f64 b)] (iv (fcan b)) := by
  have e : (FloatKind.f64.format.order b b != some .eq) = !decide (b % 2 ^ 63 ≤ 2047 * 2 ^ 52) := by
    rw [show FloatKind.f64.format = Ieee.double from rfl, order_self b]
    by_cases h : b % 2 ^ 63 ≤ 2047 * 2 ^ 52
    · rw [if_pos h]; simp [h]
    · rw [if_neg h]; simp [h]
  refine gives_of Tryz.func142 rfl (Nat.le_of_ble_eq_true rfl) ?_
  (repeat' (first | refine mv ?_ | refine asg ?_ | refine bi ?_ | refine aops_nil ?_ | refine aw_seq ?_ | refine aw_region ?_ | fail))
  refine aw_cond (b := FloatKind.f64.format.order b b != some .eq) rfl (fun h => ?_) (fun h => ?_) <;> rw [e] at h <;> (repeat' (first | refine mv ?_ | refine asg ?_ | refine aops_nil ?_ | refine aw_seq ?_ | refine aw_region ?_ | refine aw_skip ?_ | refine aw_ret ?_ | fail))
  · exact fin (sh_iv (by simp at h; unfold fcan; rw [if_neg (by omega)]))
  · refine xt (bits_run _) ?_
    (repeat' (first | refine asg ?_ | refine cv' ?_ | refine aops_nil ?_ | refine aw_ret ?_ | fail))
    exact fin (sh_iv (by simp at h; unfold fcan; rw [if_pos (by omega)]))
theorem fcan_can (a : Int) (h : In64 a) : fcan (fbits a) = canI a := by
  obtain ⟨h1, h2⟩ := h
  rw [fbits_eq]
  unfold fcan canI
  by_cases hc : a % 9223372036854775808 ≤ 9218868437227405312
  · rw [if_pos hc, if_pos (by omega), IntKind.wrap_i64]
    omega
  · rw [if_neg hc, if_neg (by omega)]
theorem canon_ok (a : Int) (h : In64 a) : Gives Tryz.prog 111 [iv a] (iv (canI a)) := by
  refine gives_of Tryz.func111 rfl (Nat.le_of_ble_eq_true rfl) ?_
  (repeat' (first | refine mv ?_ | refine asg ?_ | refine aops_nil ?_ | refine aw_seq ?_ | refine aw_region ?_ | fail))
  refine cl (number_ok _) ?_
  (repeat' (fail))
  refine cl (bits_ok _) ?_
  (repeat' (first | refine asg ?_ | refine aops_nil ?_ | refine aw_ret ?_ | fail))
  exact fin (sh_iv (fcan_can a h))
end Go.Proofs.YtnjihhheiiapnaaGreat
