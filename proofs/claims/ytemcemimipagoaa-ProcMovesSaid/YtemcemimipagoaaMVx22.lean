/- What the statements' walks need. -/
import Derived.Test.YtemcemimipagoaaMVa4
import Derived.Test.YtemcemimipagoaaMVx20
import Derived.Test.YtemcemimipagoaaMVx16
import Derived.Test.YtemcemimipagoaaMVa3
import Derived.Test.YtemcemimipagoaaMVx14
import Derived.Test.YtemcemimipagoaaMVx21
set_option linter.unusedVariables false
set_option linter.unusedSimpArgs false
set_option maxRecDepth 100000
namespace Go.Proofs.Ytemcemimipagoaa
open Go Go.Proofs AW
theorem ref_cases (H : HHeap) (v : Int) : (isAt v = false ∧ H.ref v = -1) ∨ (isAt v = true ∧ atI v = v / 2 ∧ (H.objs.length : Int) ≤ v / 2 ∧ H.ref v = -1) ∨ (isAt v = true ∧ atI v = H.ref v ∧ 0 ≤ H.ref v ∧ H.ref v < H.objs.length) := by
  cases h : isAt v with
  | false => left; exact ⟨rfl, by simp [HHeap.ref, refI, h]⟩
  | true =>
    have h' : v % 2 = 0 ∧ 0 ≤ v ∧ v ≤ 2097150 := by simpa [isAt] using h
    by_cases h2 : v / 2 < (H.objs.length : Int)
    · right; right
      have e : H.ref v = v / 2 := by simp [HHeap.ref, refI, h, h2]
      exact ⟨rfl, by simp [atI, h, e], by omega, by omega⟩
    · right; left
      exact ⟨rfl, by simp [atI, h], by omega, by simp [HHeap.ref, refI, h, h2]⟩
def smI (v most : Int) : Int := if isN v = true ∧ 0 ≤ nI v ∧ nI v ≤ most then nI v else -1
end Go.Proofs.Ytemcemimipagoaa
namespace Go.Proofs.Ytemcemimipagoaa
open Go Go.Proofs AW
structure HMethod where
  prim : Int
  args : Int
  temps : Int
  code : List HInstr
  lits : List Int
  deriving DecidableEq
def encMethod (x : HMethod) : List AV := [iv x.prim, iv x.args, iv x.temps, .sl 2 (encCode x.code), .sl 1 (encInts x.lits)]
theorem noOwn_mth (x : HMethod) : ∀ y ∈ encMethod x, NoOwn y := by
  intro y hy
  simp only [encMethod, List.mem_cons, List.not_mem_nil, or_false] at hy
  rcases hy with rfl | rfl | rfl | rfl | rfl
  · exact .v _
  · exact .v _
  · exact .v _
  · exact noOwn_code _ _
  · exact noOwn_ints _ _
def HObj.sl (o : HObj) (k : Nat) : Int := (o.slots[k]?).getD 0
theorem sl_get {o : HObj} {k : Nat} (h : k < o.slots.length) : o.slots[k]? = some (o.sl k) := by simp [HObj.sl, h]
def HHeap.is (H : HHeap) (v kind : Int) : Prop := 0 ≤ H.ref v ∧ (H.at' v).kind = kind
instance (H : HHeap) (v kind : Int) : Decidable (H.is v kind) := inferInstanceAs (Decidable (_ ∧ _))
end Go.Proofs.Ytemcemimipagoaa
namespace Go.Proofs.Ytemcemimipagoaa
open Go Go.Proofs AW
structure HCtx where
  mth : HMethod
  slots : List Int
  ip : Int
  sp : Int
  deriving DecidableEq
def encCtx (x : HCtx) : List AV := encMethod x.mth ++ [.sl 1 (encInts x.slots), iv x.ip, iv x.sp]
theorem noOwn_ctx (x : HCtx) : ∀ y ∈ encCtx x, NoOwn y := by
  intro y hy
  rcases List.mem_append.1 hy with h | h
  · exact noOwn_mth _ y h
  · simp only [List.mem_cons, List.not_mem_nil, or_false] at h
    rcases h with rfl | rfl | rfl
    · exact noOwn_ints _ _
    · exact .v _
    · exact .v _
end Go.Proofs.Ytemcemimipagoaa
