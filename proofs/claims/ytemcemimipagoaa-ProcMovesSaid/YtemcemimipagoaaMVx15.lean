/- What the statements' walks need. -/
import Derived.Test.YtemcemimipagoaaMVa4
import Derived.Test.YtemcemimipagoaaMVx1
import Derived.Test.YtemcemimipagoaaMVa3
set_option linter.unusedVariables false
set_option linter.unusedSimpArgs false
set_option maxRecDepth 100000
namespace Go.Proofs.Ytemcemimipagoaa
open Go Go.Proofs AW
structure HInstr where
  op : Int
  arg : Int
  deriving DecidableEq
def encInstr (x : HInstr) : List AV := [iv x.op, iv x.arg]
def encCode (l : List HInstr) : List (List AV) := l.map encInstr
theorem noOwn_instrc (x : HInstr) : ∀ y ∈ encInstr x, NoOwn y := by simp [encInstr, noOwn_v]
theorem noOwn_codec (l : List HInstr) : ∀ c ∈ encCode l, ∀ x ∈ c, NoOwn x := by
  intro c hc x hx
  simp only [encCode, List.mem_map] at hc
  obtain ⟨o, _, rfl⟩ := hc
  exact noOwn_instrc o x hx
theorem noOwn_code (s : Nat) (l : List HInstr) : NoOwn (.sl s (encCode l)) := by rw [noOwn_sl]; exact noOwn_codec l
@[simp] theorem len_code (l : List HInstr) : (encCode l).length = l.length := by simp [encCode]
end Go.Proofs.Ytemcemimipagoaa
