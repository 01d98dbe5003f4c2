/- What the statements' walks need. -/
import Derived.Test.YtemcemimipagoaaMVa4
import Derived.Test.YtemcemimipagoaaMVx14
import Derived.Test.YtemcemimipagoaaMVa2
import Derived.Test.YtemcemimipagoaaMVx3
import Derived.Test.YtemcemimipagoaaMVx15
import Derived.Test.YtemcemimipagoaaMVx4
set_option linter.unusedVariables false
set_option linter.unusedSimpArgs false
set_option maxRecDepth 100000
namespace Go.Proofs.Ytemcemimipagoaa
open Go Go.Proofs AW
def cT (H : HHeap) (k : Nat) : Nat → Ob := upd (upd (upd (upd (rT k H.objs) 10 (.live 43 6 (encPart k (H.objs.take k)))) 0 (.live 24 3 [[.sl 6 (encObjs H.objs), iv H.cap, iv H.last]])) 1 (.live 24 3 [[.v (.slice none 0 0), iv 0, iv 0]])) 2 (.live 24 3 [[.own 10, iv H.cap, iv H.last]])
theorem noOwn_intsc {l : List Int} {c : List AV} (h : c ∈ encInts l) : ∀ x ∈ c, NoOwn x := by
  simp only [encInts, List.mem_map] at h
  obtain ⟨x, _, rfl⟩ := h
  intro y hy
  simp only [List.mem_singleton] at hy
  subst hy
  exact .v _
end Go.Proofs.Ytemcemimipagoaa
namespace Go.Proofs.Ytemcemimipagoaa
open Go Go.Proofs AW
def pairAt (s : ByteArray) (k : Nat) : HInstr := ⟨btA s (2 * (k : Int)), btA s (2 * (k : Int) + 1)⟩
def pairsK (s : ByteArray) (k : Nat) : List HInstr := (List.range k).map (pairAt s)
@[simp] theorem len_pairs (s : ByteArray) (k : Nat) : (pairsK s k).length = k := by simp [pairsK]
end Go.Proofs.Ytemcemimipagoaa
