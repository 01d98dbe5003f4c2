/-
  No cell of these rows narrows 'for every input' (looked for: loops, veiled, ifaces, maps, wideKeys, modest, calm, conditions, laid).
  DERIVED. THE GIVEN ROWS OF THIS SEAT. 2 by the template 'for every input the law returns true; each argument reads behind the call as it read before'; 0 by the template 'total and deterministic' (their statements: YtemcemimipagoaaTotals.lean).
  GIVEN WITH THE SEED: the statements are not yours to turn. If you find one false, say at which input.
  Laid BY PROGRAM, IN A SANDBOX (cutbox-rows.mjs): the forced cells as the released guide's own fill.sh prints them over the translation 8754082810eb9bf0… (all of the seat's roots in one cut). By AI agents, Wed Nov 11 2026. No macro, syntax, notation, axiom, sorry.
-/
import Derived.Test.YtemcemimipagoaaChecked
import GoSem.Claim
import GoSem.ClaimJoined
import GoSem.ClaimMapViews
import Derived.JoinedTies
import Derived.KernelRfl
namespace Go.Proofs.Ytemcemimipagoaa
/- THE CELL 'sum', in the pinned program and in every row, IS THE sha256 OF THE DUMP (.gsa) THAT YtemcemimipagoaaProg.lean LOADS. Nothing in Lean hashes anything: it is a label: what it is worth is what the hold of that sum in a sandbox is worth. -/
noncomputable def Try.pinned : Pinned := { name := "ytemcemimipagoaa", sum := "8754082810eb9bf0e162a0eded32b15370664258ec9b8b12c5c3a145a5791a7d", checked := Try.checked }
namespace Rows
def none {H : Type} : Left H := { results := [], args := [] }

/-- 'anamnesislaw14.ProcMoves': WHATEVER THE INPUT: true; the input reads as it did. -/
def procMovesSpec : ChangeSpec := { name := "procMoves", fn := fun _ => fun
  | [d1, d2, d3] => { results := [.lit (.bool true)], args := [d1, d2, d3] }
  | _ => none }
def procMovesRow : OpenClaim := { program := "ytemcemimipagoaa", sum := "8754082810eb9bf0e162a0eded32b15370664258ec9b8b12c5c3a145a5791a7d", func := "anamnesis/anamnesislaw14.ProcMoves", spec := "procMoves", inPlace := ["math.Float64frombits", "math.Float64bits", "slices.overlaps[int]"], unfollowed := true, recurses := true, apart := false }
def ProcMovesSaid : Prop := procMovesRow.holds Try.pinned (OpenSpec.ofChange procMovesSpec)

/-- ITS FALSE NEIGHBOUR: 'it returns false'. Refute it at one input. -/
def procMovesWrong : ChangeSpec := { name := "procMoves", fn := fun _ => fun
  | [d1, d2, d3] => { results := [.lit (.bool false)], args := [d1, d2, d3] }
  | _ => none }
def ProcMovesWrongFalsely : Prop := procMovesRow.holds Try.pinned (OpenSpec.ofChange procMovesWrong)

/-- 'anamnesislaw14.ProcSame': WHATEVER THE INPUT: true; the input reads as it did. -/
def procSameSpec : ChangeSpec := { name := "procSame", fn := fun _ => fun
  | [d1, d2, d3] => { results := [.lit (.bool true)], args := [d1, d2, d3] }
  | _ => none }
def procSameRow : OpenClaim := { program := "ytemcemimipagoaa", sum := "8754082810eb9bf0e162a0eded32b15370664258ec9b8b12c5c3a145a5791a7d", func := "anamnesis/anamnesislaw14.ProcSame", spec := "procSame", inPlace := ["math.Float64frombits", "math.Float64bits", "slices.overlaps[int]"], unfollowed := true, recurses := true, apart := false }
def ProcSameSaid : Prop := procSameRow.holds Try.pinned (OpenSpec.ofChange procSameSpec)

/-- ITS FALSE NEIGHBOUR: 'it returns false'. Refute it at one input. -/
def procSameWrong : ChangeSpec := { name := "procSame", fn := fun _ => fun
  | [d1, d2, d3] => { results := [.lit (.bool false)], args := [d1, d2, d3] }
  | _ => none }
def ProcSameWrongFalsely : Prop := procSameRow.holds Try.pinned (OpenSpec.ofChange procSameWrong)

/- THE SECOND FORM. 'bulk': how many values and letters a reading holds, each counted each time it is reached (what is shared counts as often as it is met; a slice's spare places count too). A statement '..UptoSaid' is the law's where the arguments, and the package variables that the reading takes, are together of bulk at most 1048576: NARROWER than '..Said'. Prove '..Said' where nothing that the law and all that it calls make is longer than what came in: it says more and counts as full. Else prove '..UptoSaid'. A law counts once. -/
mutual
def uptoBulk {H : Type} : DataW H → Nat
  | .lit (.string bytes) => bytes.length + 1
  | .lit _ => 1
  | .nil => 1
  | .ptr d => uptoBulk d + 1
  | .slice elems spare => uptoBulkAll elems + uptoBulkAll spare + 1
  | .agg parts => uptoBulkAll parts + 1
  | .iface _ d => uptoBulk d + 1
  | .map entries => uptoBulkEntries entries + 1
  | .held _ => 1
def uptoBulkAll {H : Type} : List (DataW H) → Nat
  | [] => 0
  | d :: r => uptoBulk d + uptoBulkAll r
def uptoBulkEntries {H : Type} : List (Lit × DataW H) → Nat
  | [] => 0
  | x :: r => uptoBulkEntry x + uptoBulkEntries r
def uptoBulkEntry {H : Type} : Lit × DataW H → Nat
  | (.string bytes, d) => bytes.length + uptoBulk d + 1
  | (_, d) => uptoBulk d + 1
 end
def uptoSmall : (H : Type) → List (DataW H) → Bool := fun _ ds => decide (uptoBulkAll ds ≤ 1048576)
def OpenSpec.upto (s : _root_.Go.ChangeSpec) : _root_.Go.OpenSpec := { _root_.Go.OpenSpec.ofChange s with cond := some uptoSmall }

/-- 'anamnesislaw14.ProcMoves', WHERE WHAT IT READS IS OF BULK AT MOST 1048576: true; the input reads as it did. -/
def procMovesUptoRow : OpenClaim := { program := "ytemcemimipagoaa", sum := "8754082810eb9bf0e162a0eded32b15370664258ec9b8b12c5c3a145a5791a7d", func := "anamnesis/anamnesislaw14.ProcMoves", spec := "procMoves", inPlace := ["math.Float64frombits", "math.Float64bits", "slices.overlaps[int]"], unfollowed := true, recurses := true, apart := false, narrowed := true }
def ProcMovesUptoSaid : Prop := procMovesUptoRow.holds Try.pinned (OpenSpec.upto procMovesSpec)

/-- 'anamnesislaw14.ProcSame', WHERE WHAT IT READS IS OF BULK AT MOST 1048576: true; the input reads as it did. -/
def procSameUptoRow : OpenClaim := { program := "ytemcemimipagoaa", sum := "8754082810eb9bf0e162a0eded32b15370664258ec9b8b12c5c3a145a5791a7d", func := "anamnesis/anamnesislaw14.ProcSame", spec := "procSame", inPlace := ["math.Float64frombits", "math.Float64bits", "slices.overlaps[int]"], unfollowed := true, recurses := true, apart := false, narrowed := true }
def ProcSameUptoSaid : Prop := procSameUptoRow.holds Try.pinned (OpenSpec.upto procSameSpec)

end Rows
end Go.Proofs.Ytemcemimipagoaa
