/-
  No cell of these rows narrows 'for every input' (looked for: loops, veiled, ifaces, maps, wideKeys, modest, calm, conditions, laid).
  DERIVED. THE GIVEN ROWS OF THIS SEAT. 8 by the template 'for every input the law returns true; each argument reads behind the call as it read before'; 0 by the template 'total and deterministic' (their statements: YtbmldjcddpblnaaTotals.lean).
  GIVEN WITH THE SEED: the statements are not yours to turn. If you find one false, say at which input.
  Laid BY PROGRAM, IN A SANDBOX (cutbox-rows.mjs): the forced cells as the released guide's own fill.sh prints them over the translation ef0d621b94193ba0… (all of the seat's roots in one cut). By AI agents, Wed Nov 11 2026. No macro, syntax, notation, axiom, sorry.
-/
import Derived.Test.YtbmldjcddpblnaaChecked
import GoSem.Claim
import GoSem.ClaimJoined
import GoSem.ClaimMapViews
import Derived.JoinedTies
import Derived.KernelRfl
namespace Go.Proofs.Ytbmldjcddpblnaa
/- THE CELL 'sum', in the pinned program and in every row, IS THE sha256 OF THE DUMP (.gsa) THAT YtbmldjcddpblnaaProg.lean LOADS. Nothing in Lean hashes anything: it is a label: what it is worth is what the hold of that sum in a sandbox is worth. -/
noncomputable def Try.pinned : Pinned := { name := "ytbmldjcddpblnaa", sum := "ef0d621b94193ba021f3f4fcf58eb0362cb74240349ef60f2fb6516f7403c321", checked := Try.checked }
namespace Rows
def none {H : Type} : Left H := { results := [], args := [] }

/-- 'anamnesislaw12.FrameReads': WHATEVER THE INPUT: true; the input reads as it did. -/
def frameReadsSpec : ChangeSpec := { name := "frameReads", fn := fun _ => fun
  | [d1, d2] => { results := [.lit (.bool true)], args := [d1, d2] }
  | _ => none }
def frameReadsRow : OpenClaim := { program := "ytbmldjcddpblnaa", sum := "ef0d621b94193ba021f3f4fcf58eb0362cb74240349ef60f2fb6516f7403c321", func := "anamnesis/anamnesislaw12.FrameReads", spec := "frameReads", inPlace := ["math.Float64frombits", "math.Float64bits"], unfollowed := true, recurses := true, apart := false }
def FrameReadsSaid : Prop := frameReadsRow.holds Try.pinned (OpenSpec.ofChange frameReadsSpec)

/-- ITS FALSE NEIGHBOUR: 'it returns false'. Refute it at one input. -/
def frameReadsWrong : ChangeSpec := { name := "frameReads", fn := fun _ => fun
  | [d1, d2] => { results := [.lit (.bool false)], args := [d1, d2] }
  | _ => none }
def FrameReadsWrongFalsely : Prop := frameReadsRow.holds Try.pinned (OpenSpec.ofChange frameReadsWrong)

/-- 'anamnesislaw12.FrameBegins': WHATEVER THE INPUT: true; the input reads as it did. -/
def frameBeginsSpec : ChangeSpec := { name := "frameBegins", fn := fun _ => fun
  | [d1, d2] => { results := [.lit (.bool true)], args := [d1, d2] }
  | _ => none }
def frameBeginsRow : OpenClaim := { program := "ytbmldjcddpblnaa", sum := "ef0d621b94193ba021f3f4fcf58eb0362cb74240349ef60f2fb6516f7403c321", func := "anamnesis/anamnesislaw12.FrameBegins", spec := "frameBegins", inPlace := ["math.Float64frombits", "math.Float64bits"], unfollowed := true, recurses := true, apart := false }
def FrameBeginsSaid : Prop := frameBeginsRow.holds Try.pinned (OpenSpec.ofChange frameBeginsSpec)

/-- ITS FALSE NEIGHBOUR: 'it returns false'. Refute it at one input. -/
def frameBeginsWrong : ChangeSpec := { name := "frameBegins", fn := fun _ => fun
  | [d1, d2] => { results := [.lit (.bool false)], args := [d1, d2] }
  | _ => none }
def FrameBeginsWrongFalsely : Prop := frameBeginsRow.holds Try.pinned (OpenSpec.ofChange frameBeginsWrong)

/-- 'anamnesislaw12.FrameStacks': WHATEVER THE INPUT: true; the input reads as it did. -/
def frameStacksSpec : ChangeSpec := { name := "frameStacks", fn := fun _ => fun
  | [d1, d2, d3] => { results := [.lit (.bool true)], args := [d1, d2, d3] }
  | _ => none }
def frameStacksRow : OpenClaim := { program := "ytbmldjcddpblnaa", sum := "ef0d621b94193ba021f3f4fcf58eb0362cb74240349ef60f2fb6516f7403c321", func := "anamnesis/anamnesislaw12.FrameStacks", spec := "frameStacks", inPlace := ["math.Float64frombits", "math.Float64bits"], unfollowed := true, recurses := true, apart := false }
def FrameStacksSaid : Prop := frameStacksRow.holds Try.pinned (OpenSpec.ofChange frameStacksSpec)

/-- ITS FALSE NEIGHBOUR: 'it returns false'. Refute it at one input. -/
def frameStacksWrong : ChangeSpec := { name := "frameStacks", fn := fun _ => fun
  | [d1, d2, d3] => { results := [.lit (.bool false)], args := [d1, d2, d3] }
  | _ => none }
def FrameStacksWrongFalsely : Prop := frameStacksRow.holds Try.pinned (OpenSpec.ofChange frameStacksWrong)

/-- 'anamnesislaw12.FrameFresh': WHATEVER THE INPUT: true; the input reads as it did. -/
def frameFreshSpec : ChangeSpec := { name := "frameFresh", fn := fun _ => fun
  | [d1, d2] => { results := [.lit (.bool true)], args := [d1, d2] }
  | _ => none }
def frameFreshRow : OpenClaim := { program := "ytbmldjcddpblnaa", sum := "ef0d621b94193ba021f3f4fcf58eb0362cb74240349ef60f2fb6516f7403c321", func := "anamnesis/anamnesislaw12.FrameFresh", spec := "frameFresh", inPlace := ["math.Float64frombits", "math.Float64bits"], unfollowed := true, recurses := true, apart := false }
def FrameFreshSaid : Prop := frameFreshRow.holds Try.pinned (OpenSpec.ofChange frameFreshSpec)

/-- ITS FALSE NEIGHBOUR: 'it returns false'. Refute it at one input. -/
def frameFreshWrong : ChangeSpec := { name := "frameFresh", fn := fun _ => fun
  | [d1, d2] => { results := [.lit (.bool false)], args := [d1, d2] }
  | _ => none }
def FrameFreshWrongFalsely : Prop := frameFreshRow.holds Try.pinned (OpenSpec.ofChange frameFreshWrong)

/-- 'anamnesislaw12.FrameGoes': WHATEVER THE INPUT: true; the input reads as it did. -/
def frameGoesSpec : ChangeSpec := { name := "frameGoes", fn := fun _ => fun
  | [d1, d2, d3] => { results := [.lit (.bool true)], args := [d1, d2, d3] }
  | _ => none }
def frameGoesRow : OpenClaim := { program := "ytbmldjcddpblnaa", sum := "ef0d621b94193ba021f3f4fcf58eb0362cb74240349ef60f2fb6516f7403c321", func := "anamnesis/anamnesislaw12.FrameGoes", spec := "frameGoes", inPlace := ["math.Float64frombits", "math.Float64bits"], unfollowed := true, recurses := true, apart := false }
def FrameGoesSaid : Prop := frameGoesRow.holds Try.pinned (OpenSpec.ofChange frameGoesSpec)

/-- ITS FALSE NEIGHBOUR: 'it returns false'. Refute it at one input. -/
def frameGoesWrong : ChangeSpec := { name := "frameGoes", fn := fun _ => fun
  | [d1, d2, d3] => { results := [.lit (.bool false)], args := [d1, d2, d3] }
  | _ => none }
def FrameGoesWrongFalsely : Prop := frameGoesRow.holds Try.pinned (OpenSpec.ofChange frameGoesWrong)

/-- 'anamnesislaw12.FrameWrites': WHATEVER THE INPUT: true; the input reads as it did. -/
def frameWritesSpec : ChangeSpec := { name := "frameWrites", fn := fun _ => fun
  | [d1, d2] => { results := [.lit (.bool true)], args := [d1, d2] }
  | _ => none }
def frameWritesRow : OpenClaim := { program := "ytbmldjcddpblnaa", sum := "ef0d621b94193ba021f3f4fcf58eb0362cb74240349ef60f2fb6516f7403c321", func := "anamnesis/anamnesislaw12.FrameWrites", spec := "frameWrites", inPlace := ["math.Float64frombits", "math.Float64bits"], unfollowed := true, recurses := true, apart := false }
def FrameWritesSaid : Prop := frameWritesRow.holds Try.pinned (OpenSpec.ofChange frameWritesSpec)

/-- ITS FALSE NEIGHBOUR: 'it returns false'. Refute it at one input. -/
def frameWritesWrong : ChangeSpec := { name := "frameWrites", fn := fun _ => fun
  | [d1, d2] => { results := [.lit (.bool false)], args := [d1, d2] }
  | _ => none }
def FrameWritesWrongFalsely : Prop := frameWritesRow.holds Try.pinned (OpenSpec.ofChange frameWritesWrong)

/-- 'anamnesislaw14.ProcMoves': WHATEVER THE INPUT: true; the input reads as it did. -/
def procMovesSpec : ChangeSpec := { name := "procMoves", fn := fun _ => fun
  | [d1, d2, d3] => { results := [.lit (.bool true)], args := [d1, d2, d3] }
  | _ => none }
def procMovesRow : OpenClaim := { program := "ytbmldjcddpblnaa", sum := "ef0d621b94193ba021f3f4fcf58eb0362cb74240349ef60f2fb6516f7403c321", func := "anamnesis/anamnesislaw14.ProcMoves", spec := "procMoves", inPlace := ["math.Float64frombits", "math.Float64bits", "slices.overlaps[int]"], unfollowed := true, recurses := true, apart := false }
def ProcMovesSaid : Prop := procMovesRow.holds Try.pinned (OpenSpec.ofChange procMovesSpec)

/-- ITS FALSE NEIGHBOUR: 'it returns false'. Refute it at one input. -/
def procMovesWrong : ChangeSpec := { name := "procMoves", fn := fun _ => fun
  | [d1, d2, d3] => { results := [.lit (.bool false)], args := [d1, d2, d3] }
  | _ => none }
def ProcMovesWrongFalsely : Prop := procMovesRow.holds Try.pinned (OpenSpec.ofChange procMovesWrong)

/-- 'anamnesislaw14.ProcSame': WHATEVER THE INPUT: true; the input reads as it did. -/
def procSameSpec : ChangeSpec := { name := "procSame", fn := fun _ => fun
  | [d1, d2, d3] => { results := [.lit (.bool true)], args := [d1, d2, d3] }
  | _ => none }
def procSameRow : OpenClaim := { program := "ytbmldjcddpblnaa", sum := "ef0d621b94193ba021f3f4fcf58eb0362cb74240349ef60f2fb6516f7403c321", func := "anamnesis/anamnesislaw14.ProcSame", spec := "procSame", inPlace := ["math.Float64frombits", "math.Float64bits", "slices.overlaps[int]"], unfollowed := true, recurses := true, apart := false }
def ProcSameSaid : Prop := procSameRow.holds Try.pinned (OpenSpec.ofChange procSameSpec)

/-- ITS FALSE NEIGHBOUR: 'it returns false'. Refute it at one input. -/
def procSameWrong : ChangeSpec := { name := "procSame", fn := fun _ => fun
  | [d1, d2, d3] => { results := [.lit (.bool false)], args := [d1, d2, d3] }
  | _ => none }
def ProcSameWrongFalsely : Prop := procSameRow.holds Try.pinned (OpenSpec.ofChange procSameWrong)

/- THE SECOND FORM. 'bulk': how many values and letters a reading holds, each counted each time it is reached (what is shared counts as often as it is met; a slice's spare places count too). A statement '..UptoSaid' is the law's where the arguments, and the package variables that the reading takes, are together of bulk at most 1048576: NARROWER than '..Said'. Prove '..Said' where nothing that the law and all that it calls make is longer than what came in: it says more and counts as full. Else prove '..UptoSaid'. A law counts once. -/
mutual
def uptoBulk {H : Type} : DataW H → Nat
  | .lit (.string bytes) => bytes.length + 1
  | .lit _ => 1
  | .nil => 1
  | .ptr d => uptoBulk d + 1
  | .slice elems spare => uptoBulkAll elems + uptoBulkAll spare + 1
  | .agg parts => uptoBulkAll parts + 1
  | .iface _ d => uptoBulk d + 1
  | .map entries => uptoBulkEntries entries + 1
  | .held _ => 1
def uptoBulkAll {H : Type} : List (DataW H) → Nat
  | [] => 0
  | d :: r => uptoBulk d + uptoBulkAll r
def uptoBulkEntries {H : Type} : List (Lit × DataW H) → Nat
  | [] => 0
  | x :: r => uptoBulkEntry x + uptoBulkEntries r
def uptoBulkEntry {H : Type} : Lit × DataW H → Nat
  | (.string bytes, d) => bytes.length + uptoBulk d + 1
  | (_, d) => uptoBulk d + 1
 end
def uptoSmall : (H : Type) → List (DataW H) → Bool := fun _ ds => decide (uptoBulkAll ds ≤ 1048576)
def OpenSpec.upto (s : _root_.Go.ChangeSpec) : _root_.Go.OpenSpec := { _root_.Go.OpenSpec.ofChange s with cond := some uptoSmall }

/-- 'anamnesislaw12.FrameReads', WHERE WHAT IT READS IS OF BULK AT MOST 1048576: true; the input reads as it did. -/
def frameReadsUptoRow : OpenClaim := { program := "ytbmldjcddpblnaa", sum := "ef0d621b94193ba021f3f4fcf58eb0362cb74240349ef60f2fb6516f7403c321", func := "anamnesis/anamnesislaw12.FrameReads", spec := "frameReads", inPlace := ["math.Float64frombits", "math.Float64bits"], unfollowed := true, recurses := true, apart := false, narrowed := true }
def FrameReadsUptoSaid : Prop := frameReadsUptoRow.holds Try.pinned (OpenSpec.upto frameReadsSpec)

/-- 'anamnesislaw12.FrameBegins', WHERE WHAT IT READS IS OF BULK AT MOST 1048576: true; the input reads as it did. -/
def frameBeginsUptoRow : OpenClaim := { program := "ytbmldjcddpblnaa", sum := "ef0d621b94193ba021f3f4fcf58eb0362cb74240349ef60f2fb6516f7403c321", func := "anamnesis/anamnesislaw12.FrameBegins", spec := "frameBegins", inPlace := ["math.Float64frombits", "math.Float64bits"], unfollowed := true, recurses := true, apart := false, narrowed := true }
def FrameBeginsUptoSaid : Prop := frameBeginsUptoRow.holds Try.pinned (OpenSpec.upto frameBeginsSpec)

/-- 'anamnesislaw12.FrameStacks', WHERE WHAT IT READS IS OF BULK AT MOST 1048576: true; the input reads as it did. -/
def frameStacksUptoRow : OpenClaim := { program := "ytbmldjcddpblnaa", sum := "ef0d621b94193ba021f3f4fcf58eb0362cb74240349ef60f2fb6516f7403c321", func := "anamnesis/anamnesislaw12.FrameStacks", spec := "frameStacks", inPlace := ["math.Float64frombits", "math.Float64bits"], unfollowed := true, recurses := true, apart := false, narrowed := true }
def FrameStacksUptoSaid : Prop := frameStacksUptoRow.holds Try.pinned (OpenSpec.upto frameStacksSpec)

/-- 'anamnesislaw12.FrameFresh', WHERE WHAT IT READS IS OF BULK AT MOST 1048576: true; the input reads as it did. -/
def frameFreshUptoRow : OpenClaim := { program := "ytbmldjcddpblnaa", sum := "ef0d621b94193ba021f3f4fcf58eb0362cb74240349ef60f2fb6516f7403c321", func := "anamnesis/anamnesislaw12.FrameFresh", spec := "frameFresh", inPlace := ["math.Float64frombits", "math.Float64bits"], unfollowed := true, recurses := true, apart := false, narrowed := true }
def FrameFreshUptoSaid : Prop := frameFreshUptoRow.holds Try.pinned (OpenSpec.upto frameFreshSpec)

/-- 'anamnesislaw12.FrameGoes', WHERE WHAT IT READS IS OF BULK AT MOST 1048576: true; the input reads as it did. -/
def frameGoesUptoRow : OpenClaim := { program := "ytbmldjcddpblnaa", sum := "ef0d621b94193ba021f3f4fcf58eb0362cb74240349ef60f2fb6516f7403c321", func := "anamnesis/anamnesislaw12.FrameGoes", spec := "frameGoes", inPlace := ["math.Float64frombits", "math.Float64bits"], unfollowed := true, recurses := true, apart := false, narrowed := true }
def FrameGoesUptoSaid : Prop := frameGoesUptoRow.holds Try.pinned (OpenSpec.upto frameGoesSpec)

/-- 'anamnesislaw12.FrameWrites', WHERE WHAT IT READS IS OF BULK AT MOST 1048576: true; the input reads as it did. -/
def frameWritesUptoRow : OpenClaim := { program := "ytbmldjcddpblnaa", sum := "ef0d621b94193ba021f3f4fcf58eb0362cb74240349ef60f2fb6516f7403c321", func := "anamnesis/anamnesislaw12.FrameWrites", spec := "frameWrites", inPlace := ["math.Float64frombits", "math.Float64bits"], unfollowed := true, recurses := true, apart := false, narrowed := true }
def FrameWritesUptoSaid : Prop := frameWritesUptoRow.holds Try.pinned (OpenSpec.upto frameWritesSpec)

/-- 'anamnesislaw14.ProcMoves', WHERE WHAT IT READS IS OF BULK AT MOST 1048576: true; the input reads as it did. -/
def procMovesUptoRow : OpenClaim := { program := "ytbmldjcddpblnaa", sum := "ef0d621b94193ba021f3f4fcf58eb0362cb74240349ef60f2fb6516f7403c321", func := "anamnesis/anamnesislaw14.ProcMoves", spec := "procMoves", inPlace := ["math.Float64frombits", "math.Float64bits", "slices.overlaps[int]"], unfollowed := true, recurses := true, apart := false, narrowed := true }
def ProcMovesUptoSaid : Prop := procMovesUptoRow.holds Try.pinned (OpenSpec.upto procMovesSpec)

/-- 'anamnesislaw14.ProcSame', WHERE WHAT IT READS IS OF BULK AT MOST 1048576: true; the input reads as it did. -/
def procSameUptoRow : OpenClaim := { program := "ytbmldjcddpblnaa", sum := "ef0d621b94193ba021f3f4fcf58eb0362cb74240349ef60f2fb6516f7403c321", func := "anamnesis/anamnesislaw14.ProcSame", spec := "procSame", inPlace := ["math.Float64frombits", "math.Float64bits", "slices.overlaps[int]"], unfollowed := true, recurses := true, apart := false, narrowed := true }
def ProcSameUptoSaid : Prop := procSameUptoRow.holds Try.pinned (OpenSpec.upto procSameSpec)

end Rows
end Go.Proofs.Ytbmldjcddpblnaa
