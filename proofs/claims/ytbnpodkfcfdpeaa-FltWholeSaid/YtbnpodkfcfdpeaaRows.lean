/-
  No cell of these rows narrows 'for every input' (looked for: loops, veiled, ifaces, maps, wideKeys, modest, calm, conditions, laid).
  DERIVED. THE GIVEN ROWS OF THIS SEAT. 8 by the template 'for every input the law returns true; each argument reads behind the call as it read before'; 0 by the template 'total and deterministic' (their statements: YtbnpodkfcfdpeaaTotals.lean).
  GIVEN WITH THE SEED: the statements are not yours to turn. If you find one false, say at which input.
  Laid BY PROGRAM, IN A SANDBOX (cutbox-rows.mjs): the forced cells as the released guide's own fill.sh prints them over the translation cfa1205f40da3a74… (all of the seat's roots in one cut). By AI agents, Wed Nov 11 2026. No macro, syntax, notation, axiom, sorry.
-/
import Derived.Test.YtbnpodkfcfdpeaaChecked
import GoSem.Claim
import GoSem.ClaimJoined
import GoSem.ClaimMapViews
import Derived.JoinedTies
import Derived.KernelRfl
namespace Go.Proofs.Ytbnpodkfcfdpeaa
/- THE CELL 'sum', in the pinned program and in every row, IS THE sha256 OF THE DUMP (.gsa) THAT YtbnpodkfcfdpeaaProg.lean LOADS. Nothing in Lean hashes anything: it is a label: what it is worth is what the hold of that sum in a sandbox is worth. -/
noncomputable def Try.pinned : Pinned := { name := "ytbnpodkfcfdpeaa", sum := "cfa1205f40da3a74a5d623168bb34086c79b515ef17353ce7c0081bbf67c451a", checked := Try.checked }
namespace Rows
def none {H : Type} : Left H := { results := [], args := [] }

/-- 'anamnesislaw02.FltTells': WHATEVER THE INPUT: true; the input reads as it did. -/
def fltTellsSpec : ChangeSpec := { name := "fltTells", fn := fun _ => fun
  | [d1, d2, d3] => { results := [.lit (.bool true)], args := [d1, d2, d3] }
  | _ => none }
def fltTellsRow : OpenClaim := { program := "ytbnpodkfcfdpeaa", sum := "cfa1205f40da3a74a5d623168bb34086c79b515ef17353ce7c0081bbf67c451a", func := "anamnesis/anamnesislaw02.FltTells", spec := "fltTells", inPlace := ["math.Float64bits", "math.Float64frombits", "math.archTrunc"], recurses := true, apart := false }
def FltTellsSaid : Prop := fltTellsRow.holds Try.pinned (OpenSpec.ofChange fltTellsSpec)

/-- ITS FALSE NEIGHBOUR: 'it returns false'. Refute it at one input. -/
def fltTellsWrong : ChangeSpec := { name := "fltTells", fn := fun _ => fun
  | [d1, d2, d3] => { results := [.lit (.bool false)], args := [d1, d2, d3] }
  | _ => none }
def FltTellsWrongFalsely : Prop := fltTellsRow.holds Try.pinned (OpenSpec.ofChange fltTellsWrong)

/-- 'anamnesislaw02.FltKinds': WHATEVER THE INPUT: true; the input reads as it did. -/
def fltKindsSpec : ChangeSpec := { name := "fltKinds", fn := fun _ => fun
  | [d] => { results := [.lit (.bool true)], args := [d] }
  | _ => none }
def fltKindsRow : OpenClaim := { program := "ytbnpodkfcfdpeaa", sum := "cfa1205f40da3a74a5d623168bb34086c79b515ef17353ce7c0081bbf67c451a", func := "anamnesis/anamnesislaw02.FltKinds", spec := "fltKinds", inPlace := ["math.Float64frombits", "math.archTrunc", "math.Float64bits"], apart := false }
def FltKindsSaid : Prop := fltKindsRow.holds Try.pinned (OpenSpec.ofChange fltKindsSpec)

/-- ITS FALSE NEIGHBOUR: 'it returns false'. Refute it at one input. -/
def fltKindsWrong : ChangeSpec := { name := "fltKinds", fn := fun _ => fun
  | [d] => { results := [.lit (.bool false)], args := [d] }
  | _ => none }
def FltKindsWrongFalsely : Prop := fltKindsRow.holds Try.pinned (OpenSpec.ofChange fltKindsWrong)

/-- 'anamnesislaw02.FltOrder': WHATEVER THE INPUT: true; the input reads as it did. -/
def fltOrderSpec : ChangeSpec := { name := "fltOrder", fn := fun _ => fun
  | [d1, d2] => { results := [.lit (.bool true)], args := [d1, d2] }
  | _ => none }
def fltOrderRow : OpenClaim := { program := "ytbnpodkfcfdpeaa", sum := "cfa1205f40da3a74a5d623168bb34086c79b515ef17353ce7c0081bbf67c451a", func := "anamnesis/anamnesislaw02.FltOrder", spec := "fltOrder", inPlace := ["math.Float64bits", "math.Float64frombits", "math.archTrunc"], apart := false }
def FltOrderSaid : Prop := fltOrderRow.holds Try.pinned (OpenSpec.ofChange fltOrderSpec)

/-- ITS FALSE NEIGHBOUR: 'it returns false'. Refute it at one input. -/
def fltOrderWrong : ChangeSpec := { name := "fltOrder", fn := fun _ => fun
  | [d1, d2] => { results := [.lit (.bool false)], args := [d1, d2] }
  | _ => none }
def FltOrderWrongFalsely : Prop := fltOrderRow.holds Try.pinned (OpenSpec.ofChange fltOrderWrong)

/-- 'anamnesislaw02.FltAlgebra': WHATEVER THE INPUT: true; the input reads as it did. -/
def fltAlgebraSpec : ChangeSpec := { name := "fltAlgebra", fn := fun _ => fun
  | [d1, d2] => { results := [.lit (.bool true)], args := [d1, d2] }
  | _ => none }
def fltAlgebraRow : OpenClaim := { program := "ytbnpodkfcfdpeaa", sum := "cfa1205f40da3a74a5d623168bb34086c79b515ef17353ce7c0081bbf67c451a", func := "anamnesis/anamnesislaw02.FltAlgebra", spec := "fltAlgebra", inPlace := ["math.Float64bits", "math.Float64frombits", "math.archTrunc"], apart := false }
def FltAlgebraSaid : Prop := fltAlgebraRow.holds Try.pinned (OpenSpec.ofChange fltAlgebraSpec)

/-- ITS FALSE NEIGHBOUR: 'it returns false'. Refute it at one input. -/
def fltAlgebraWrong : ChangeSpec := { name := "fltAlgebra", fn := fun _ => fun
  | [d1, d2] => { results := [.lit (.bool false)], args := [d1, d2] }
  | _ => none }
def FltAlgebraWrongFalsely : Prop := fltAlgebraRow.holds Try.pinned (OpenSpec.ofChange fltAlgebraWrong)

/-- 'anamnesislaw02.FltEdges': WHATEVER THE INPUT: true; the input reads as it did. -/
def fltEdgesSpec : ChangeSpec := { name := "fltEdges", fn := fun _ => fun
  | [d1, d2, d3] => { results := [.lit (.bool true)], args := [d1, d2, d3] }
  | _ => none }
def fltEdgesRow : OpenClaim := { program := "ytbnpodkfcfdpeaa", sum := "cfa1205f40da3a74a5d623168bb34086c79b515ef17353ce7c0081bbf67c451a", func := "anamnesis/anamnesislaw02.FltEdges", spec := "fltEdges", inPlace := ["math.Float64bits", "math.Float64frombits", "math.archTrunc"], apart := false }
def FltEdgesSaid : Prop := fltEdgesRow.holds Try.pinned (OpenSpec.ofChange fltEdgesSpec)

/-- ITS FALSE NEIGHBOUR: 'it returns false'. Refute it at one input. -/
def fltEdgesWrong : ChangeSpec := { name := "fltEdges", fn := fun _ => fun
  | [d1, d2, d3] => { results := [.lit (.bool false)], args := [d1, d2, d3] }
  | _ => none }
def FltEdgesWrongFalsely : Prop := fltEdgesRow.holds Try.pinned (OpenSpec.ofChange fltEdgesWrong)

/-- 'anamnesislaw02.FltWhole': WHATEVER THE INPUT: true; the input reads as it did. -/
def fltWholeSpec : ChangeSpec := { name := "fltWhole", fn := fun _ => fun
  | [d1, d2] => { results := [.lit (.bool true)], args := [d1, d2] }
  | _ => none }
def fltWholeRow : OpenClaim := { program := "ytbnpodkfcfdpeaa", sum := "cfa1205f40da3a74a5d623168bb34086c79b515ef17353ce7c0081bbf67c451a", func := "anamnesis/anamnesislaw02.FltWhole", spec := "fltWhole", inPlace := ["math.Float64bits", "math.Float64frombits", "math.archTrunc"], apart := false }
def FltWholeSaid : Prop := fltWholeRow.holds Try.pinned (OpenSpec.ofChange fltWholeSpec)

/-- ITS FALSE NEIGHBOUR: 'it returns false'. Refute it at one input. -/
def fltWholeWrong : ChangeSpec := { name := "fltWhole", fn := fun _ => fun
  | [d1, d2] => { results := [.lit (.bool false)], args := [d1, d2] }
  | _ => none }
def FltWholeWrongFalsely : Prop := fltWholeRow.holds Try.pinned (OpenSpec.ofChange fltWholeWrong)

/-- 'anamnesislaw02.FltTwice': WHATEVER THE INPUT: true; the input reads as it did. -/
def fltTwiceSpec : ChangeSpec := { name := "fltTwice", fn := fun _ => fun
  | [d] => { results := [.lit (.bool true)], args := [d] }
  | _ => none }
def fltTwiceRow : OpenClaim := { program := "ytbnpodkfcfdpeaa", sum := "cfa1205f40da3a74a5d623168bb34086c79b515ef17353ce7c0081bbf67c451a", func := "anamnesis/anamnesislaw02.FltTwice", spec := "fltTwice", inPlace := ["math.Float64bits", "math.Float64frombits", "math.archTrunc"], apart := false }
def FltTwiceSaid : Prop := fltTwiceRow.holds Try.pinned (OpenSpec.ofChange fltTwiceSpec)

/-- ITS FALSE NEIGHBOUR: 'it returns false'. Refute it at one input. -/
def fltTwiceWrong : ChangeSpec := { name := "fltTwice", fn := fun _ => fun
  | [d] => { results := [.lit (.bool false)], args := [d] }
  | _ => none }
def FltTwiceWrongFalsely : Prop := fltTwiceRow.holds Try.pinned (OpenSpec.ofChange fltTwiceWrong)

/-- 'anamnesislaw02.FltTurned': WHATEVER THE INPUT: true; the input reads as it did. -/
def fltTurnedSpec : ChangeSpec := { name := "fltTurned", fn := fun _ => fun
  | [d1, d2] => { results := [.lit (.bool true)], args := [d1, d2] }
  | _ => none }
def fltTurnedRow : OpenClaim := { program := "ytbnpodkfcfdpeaa", sum := "cfa1205f40da3a74a5d623168bb34086c79b515ef17353ce7c0081bbf67c451a", func := "anamnesis/anamnesislaw02.FltTurned", spec := "fltTurned", inPlace := ["math.Float64bits", "math.Float64frombits", "math.archTrunc"], apart := false }
def FltTurnedSaid : Prop := fltTurnedRow.holds Try.pinned (OpenSpec.ofChange fltTurnedSpec)

/-- ITS FALSE NEIGHBOUR: 'it returns false'. Refute it at one input. -/
def fltTurnedWrong : ChangeSpec := { name := "fltTurned", fn := fun _ => fun
  | [d1, d2] => { results := [.lit (.bool false)], args := [d1, d2] }
  | _ => none }
def FltTurnedWrongFalsely : Prop := fltTurnedRow.holds Try.pinned (OpenSpec.ofChange fltTurnedWrong)

/- THE SECOND FORM. 'bulk': how many values and letters a reading holds, each counted each time it is reached (what is shared counts as often as it is met; a slice's spare places count too). A statement '..UptoSaid' is the law's where the arguments, and the package variables that the reading takes, are together of bulk at most 1048576: NARROWER than '..Said'. Prove '..Said' where nothing that the law and all that it calls make is longer than what came in: it says more and counts as full. Else prove '..UptoSaid'. A law counts once. -/
mutual
def uptoBulk {H : Type} : DataW H → Nat
  | .lit (.string bytes) => bytes.length + 1
  | .lit _ => 1
  | .nil => 1
  | .ptr d => uptoBulk d + 1
  | .slice elems spare => uptoBulkAll elems + uptoBulkAll spare + 1
  | .agg parts => uptoBulkAll parts + 1
  | .iface _ d => uptoBulk d + 1
  | .map entries => uptoBulkEntries entries + 1
  | .held _ => 1
def uptoBulkAll {H : Type} : List (DataW H) → Nat
  | [] => 0
  | d :: r => uptoBulk d + uptoBulkAll r
def uptoBulkEntries {H : Type} : List (Lit × DataW H) → Nat
  | [] => 0
  | x :: r => uptoBulkEntry x + uptoBulkEntries r
def uptoBulkEntry {H : Type} : Lit × DataW H → Nat
  | (.string bytes, d) => bytes.length + uptoBulk d + 1
  | (_, d) => uptoBulk d + 1
 end
def uptoSmall : (H : Type) → List (DataW H) → Bool := fun _ ds => decide (uptoBulkAll ds ≤ 1048576)
def OpenSpec.upto (s : _root_.Go.ChangeSpec) : _root_.Go.OpenSpec := { _root_.Go.OpenSpec.ofChange s with cond := some uptoSmall }

/-- 'anamnesislaw02.FltTells', WHERE WHAT IT READS IS OF BULK AT MOST 1048576: true; the input reads as it did. -/
def fltTellsUptoRow : OpenClaim := { program := "ytbnpodkfcfdpeaa", sum := "cfa1205f40da3a74a5d623168bb34086c79b515ef17353ce7c0081bbf67c451a", func := "anamnesis/anamnesislaw02.FltTells", spec := "fltTells", inPlace := ["math.Float64bits", "math.Float64frombits", "math.archTrunc"], recurses := true, apart := false, narrowed := true }
def FltTellsUptoSaid : Prop := fltTellsUptoRow.holds Try.pinned (OpenSpec.upto fltTellsSpec)

/-- 'anamnesislaw02.FltKinds', WHERE WHAT IT READS IS OF BULK AT MOST 1048576: true; the input reads as it did. -/
def fltKindsUptoRow : OpenClaim := { program := "ytbnpodkfcfdpeaa", sum := "cfa1205f40da3a74a5d623168bb34086c79b515ef17353ce7c0081bbf67c451a", func := "anamnesis/anamnesislaw02.FltKinds", spec := "fltKinds", inPlace := ["math.Float64frombits", "math.archTrunc", "math.Float64bits"], apart := false, narrowed := true }
def FltKindsUptoSaid : Prop := fltKindsUptoRow.holds Try.pinned (OpenSpec.upto fltKindsSpec)

/-- 'anamnesislaw02.FltOrder', WHERE WHAT IT READS IS OF BULK AT MOST 1048576: true; the input reads as it did. -/
def fltOrderUptoRow : OpenClaim := { program := "ytbnpodkfcfdpeaa", sum := "cfa1205f40da3a74a5d623168bb34086c79b515ef17353ce7c0081bbf67c451a", func := "anamnesis/anamnesislaw02.FltOrder", spec := "fltOrder", inPlace := ["math.Float64bits", "math.Float64frombits", "math.archTrunc"], apart := false, narrowed := true }
def FltOrderUptoSaid : Prop := fltOrderUptoRow.holds Try.pinned (OpenSpec.upto fltOrderSpec)

/-- 'anamnesislaw02.FltAlgebra', WHERE WHAT IT READS IS OF BULK AT MOST 1048576: true; the input reads as it did. -/
def fltAlgebraUptoRow : OpenClaim := { program := "ytbnpodkfcfdpeaa", sum := "cfa1205f40da3a74a5d623168bb34086c79b515ef17353ce7c0081bbf67c451a", func := "anamnesis/anamnesislaw02.FltAlgebra", spec := "fltAlgebra", inPlace := ["math.Float64bits", "math.Float64frombits", "math.archTrunc"], apart := false, narrowed := true }
def FltAlgebraUptoSaid : Prop := fltAlgebraUptoRow.holds Try.pinned (OpenSpec.upto fltAlgebraSpec)

/-- 'anamnesislaw02.FltEdges', WHERE WHAT IT READS IS OF BULK AT MOST 1048576: true; the input reads as it did. -/
def fltEdgesUptoRow : OpenClaim := { program := "ytbnpodkfcfdpeaa", sum := "cfa1205f40da3a74a5d623168bb34086c79b515ef17353ce7c0081bbf67c451a", func := "anamnesis/anamnesislaw02.FltEdges", spec := "fltEdges", inPlace := ["math.Float64bits", "math.Float64frombits", "math.archTrunc"], apart := false, narrowed := true }
def FltEdgesUptoSaid : Prop := fltEdgesUptoRow.holds Try.pinned (OpenSpec.upto fltEdgesSpec)

/-- 'anamnesislaw02.FltWhole', WHERE WHAT IT READS IS OF BULK AT MOST 1048576: true; the input reads as it did. -/
def fltWholeUptoRow : OpenClaim := { program := "ytbnpodkfcfdpeaa", sum := "cfa1205f40da3a74a5d623168bb34086c79b515ef17353ce7c0081bbf67c451a", func := "anamnesis/anamnesislaw02.FltWhole", spec := "fltWhole", inPlace := ["math.Float64bits", "math.Float64frombits", "math.archTrunc"], apart := false, narrowed := true }
def FltWholeUptoSaid : Prop := fltWholeUptoRow.holds Try.pinned (OpenSpec.upto fltWholeSpec)

/-- 'anamnesislaw02.FltTwice', WHERE WHAT IT READS IS OF BULK AT MOST 1048576: true; the input reads as it did. -/
def fltTwiceUptoRow : OpenClaim := { program := "ytbnpodkfcfdpeaa", sum := "cfa1205f40da3a74a5d623168bb34086c79b515ef17353ce7c0081bbf67c451a", func := "anamnesis/anamnesislaw02.FltTwice", spec := "fltTwice", inPlace := ["math.Float64bits", "math.Float64frombits", "math.archTrunc"], apart := false, narrowed := true }
def FltTwiceUptoSaid : Prop := fltTwiceUptoRow.holds Try.pinned (OpenSpec.upto fltTwiceSpec)

/-- 'anamnesislaw02.FltTurned', WHERE WHAT IT READS IS OF BULK AT MOST 1048576: true; the input reads as it did. -/
def fltTurnedUptoRow : OpenClaim := { program := "ytbnpodkfcfdpeaa", sum := "cfa1205f40da3a74a5d623168bb34086c79b515ef17353ce7c0081bbf67c451a", func := "anamnesis/anamnesislaw02.FltTurned", spec := "fltTurned", inPlace := ["math.Float64bits", "math.Float64frombits", "math.archTrunc"], apart := false, narrowed := true }
def FltTurnedUptoSaid : Prop := fltTurnedUptoRow.holds Try.pinned (OpenSpec.upto fltTurnedSpec)

end Rows
end Go.Proofs.Ytbnpodkfcfdpeaa
