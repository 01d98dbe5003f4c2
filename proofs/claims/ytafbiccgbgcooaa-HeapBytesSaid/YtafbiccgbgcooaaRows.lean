/-
  No cell of these rows narrows 'for every input' (looked for: loops, veiled, ifaces, maps, wideKeys, modest, calm, conditions, laid).
  DERIVED. THE GIVEN ROWS OF THIS SEAT. 6 by the template 'for every input the law returns true; each argument reads behind the call as it read before'; 0 by the template 'total and deterministic' (their statements: YtafbiccgbgcooaaTotals.lean).
  GIVEN WITH THE SEED: the statements are not yours to turn. If you find one false, say at which input.
  Laid BY PROGRAM, IN A SANDBOX (cutbox-rows.mjs): the forced cells as the released guide's own fill.sh prints them over the translation 23686a0043a22943… (all of the seat's roots in one cut). By AI agents, Wed Nov 11 2026. No macro, syntax, notation, axiom, sorry.
-/
import Derived.Test.YtafbiccgbgcooaaChecked
import GoSem.Claim
import GoSem.ClaimJoined
import GoSem.ClaimMapViews
import Derived.JoinedTies
import Derived.KernelRfl
namespace Go.Proofs.Ytafbiccgbgcooaa
/- THE CELL 'sum', in the pinned program and in every row, IS THE sha256 OF THE DUMP (.gsa) THAT YtafbiccgbgcooaaProg.lean LOADS. Nothing in Lean hashes anything: it is a label: what it is worth is what the hold of that sum in a sandbox is worth. -/
noncomputable def Try.pinned : Pinned := { name := "ytafbiccgbgcooaa", sum := "23686a0043a229436f20c44223f9d2072630d65a8884d0b2db5634310516d7a7", checked := Try.checked }
namespace Rows
def none {H : Type} : Left H := { results := [], args := [] }

/-- 'anamnesislaw03.HeapAllocs': WHATEVER THE INPUT: true; the input reads as it did. -/
def heapAllocsSpec : ChangeSpec := { name := "heapAllocs", fn := fun _ => fun
  | [d1, d2] => { results := [.lit (.bool true)], args := [d1, d2] }
  | _ => none }
def heapAllocsRow : OpenClaim := { program := "ytafbiccgbgcooaa", sum := "23686a0043a229436f20c44223f9d2072630d65a8884d0b2db5634310516d7a7", func := "anamnesis/anamnesislaw03.HeapAllocs", spec := "heapAllocs", inPlace := ["math.Float64frombits", "math.Float64bits"], unfollowed := true, recurses := true, apart := false }
def HeapAllocsSaid : Prop := heapAllocsRow.holds Try.pinned (OpenSpec.ofChange heapAllocsSpec)

/-- ITS FALSE NEIGHBOUR: 'it returns false'. Refute it at one input. -/
def heapAllocsWrong : ChangeSpec := { name := "heapAllocs", fn := fun _ => fun
  | [d1, d2] => { results := [.lit (.bool false)], args := [d1, d2] }
  | _ => none }
def HeapAllocsWrongFalsely : Prop := heapAllocsRow.holds Try.pinned (OpenSpec.ofChange heapAllocsWrong)

/-- 'anamnesislaw03.HeapKeeps': WHATEVER THE INPUT: true; the input reads as it did. -/
def heapKeepsSpec : ChangeSpec := { name := "heapKeeps", fn := fun _ => fun
  | [d1, d2, d3] => { results := [.lit (.bool true)], args := [d1, d2, d3] }
  | _ => none }
def heapKeepsRow : OpenClaim := { program := "ytafbiccgbgcooaa", sum := "23686a0043a229436f20c44223f9d2072630d65a8884d0b2db5634310516d7a7", func := "anamnesis/anamnesislaw03.HeapKeeps", spec := "heapKeeps", inPlace := ["math.Float64frombits", "math.Float64bits"], unfollowed := true, recurses := true, apart := false }
def HeapKeepsSaid : Prop := heapKeepsRow.holds Try.pinned (OpenSpec.ofChange heapKeepsSpec)

/-- ITS FALSE NEIGHBOUR: 'it returns false'. Refute it at one input. -/
def heapKeepsWrong : ChangeSpec := { name := "heapKeeps", fn := fun _ => fun
  | [d1, d2, d3] => { results := [.lit (.bool false)], args := [d1, d2, d3] }
  | _ => none }
def HeapKeepsWrongFalsely : Prop := heapKeepsRow.holds Try.pinned (OpenSpec.ofChange heapKeepsWrong)

/-- 'anamnesislaw03.HeapSwaps': WHATEVER THE INPUT: true; the input reads as it did. -/
def heapSwapsSpec : ChangeSpec := { name := "heapSwaps", fn := fun _ => fun
  | [d1, d2, d3] => { results := [.lit (.bool true)], args := [d1, d2, d3] }
  | _ => none }
def heapSwapsRow : OpenClaim := { program := "ytafbiccgbgcooaa", sum := "23686a0043a229436f20c44223f9d2072630d65a8884d0b2db5634310516d7a7", func := "anamnesis/anamnesislaw03.HeapSwaps", spec := "heapSwaps", inPlace := ["math.Float64frombits", "math.Float64bits"], unfollowed := true, recurses := true, apart := false }
def HeapSwapsSaid : Prop := heapSwapsRow.holds Try.pinned (OpenSpec.ofChange heapSwapsSpec)

/-- ITS FALSE NEIGHBOUR: 'it returns false'. Refute it at one input. -/
def heapSwapsWrong : ChangeSpec := { name := "heapSwaps", fn := fun _ => fun
  | [d1, d2, d3] => { results := [.lit (.bool false)], args := [d1, d2, d3] }
  | _ => none }
def HeapSwapsWrongFalsely : Prop := heapSwapsRow.holds Try.pinned (OpenSpec.ofChange heapSwapsWrong)

/-- 'anamnesislaw03.HeapFills': WHATEVER THE INPUT: true; the input reads as it did. -/
def heapFillsSpec : ChangeSpec := { name := "heapFills", fn := fun _ => fun
  | [d1, d2, d3] => { results := [.lit (.bool true)], args := [d1, d2, d3] }
  | _ => none }
def heapFillsRow : OpenClaim := { program := "ytafbiccgbgcooaa", sum := "23686a0043a229436f20c44223f9d2072630d65a8884d0b2db5634310516d7a7", func := "anamnesis/anamnesislaw03.HeapFills", spec := "heapFills", inPlace := ["math.Float64frombits", "math.Float64bits"], unfollowed := true, recurses := true, apart := false }
def HeapFillsSaid : Prop := heapFillsRow.holds Try.pinned (OpenSpec.ofChange heapFillsSpec)

/-- ITS FALSE NEIGHBOUR: 'it returns false'. Refute it at one input. -/
def heapFillsWrong : ChangeSpec := { name := "heapFills", fn := fun _ => fun
  | [d1, d2, d3] => { results := [.lit (.bool false)], args := [d1, d2, d3] }
  | _ => none }
def HeapFillsWrongFalsely : Prop := heapFillsRow.holds Try.pinned (OpenSpec.ofChange heapFillsWrong)

/-- 'anamnesislaw03.HeapTells': WHATEVER THE INPUT: true; the input reads as it did. -/
def heapTellsSpec : ChangeSpec := { name := "heapTells", fn := fun _ => fun
  | [d1, d2] => { results := [.lit (.bool true)], args := [d1, d2] }
  | _ => none }
def heapTellsRow : OpenClaim := { program := "ytafbiccgbgcooaa", sum := "23686a0043a229436f20c44223f9d2072630d65a8884d0b2db5634310516d7a7", func := "anamnesis/anamnesislaw03.HeapTells", spec := "heapTells", inPlace := ["math.Float64frombits", "math.Float64bits"], unfollowed := true, recurses := true, apart := false }
def HeapTellsSaid : Prop := heapTellsRow.holds Try.pinned (OpenSpec.ofChange heapTellsSpec)

/-- ITS FALSE NEIGHBOUR: 'it returns false'. Refute it at one input. -/
def heapTellsWrong : ChangeSpec := { name := "heapTells", fn := fun _ => fun
  | [d1, d2] => { results := [.lit (.bool false)], args := [d1, d2] }
  | _ => none }
def HeapTellsWrongFalsely : Prop := heapTellsRow.holds Try.pinned (OpenSpec.ofChange heapTellsWrong)

/-- 'anamnesislaw03.HeapBytes': WHATEVER THE INPUT: true; the input reads as it did. -/
def heapBytesSpec : ChangeSpec := { name := "heapBytes", fn := fun _ => fun
  | [d1, d2, d3] => { results := [.lit (.bool true)], args := [d1, d2, d3] }
  | _ => none }
def heapBytesRow : OpenClaim := { program := "ytafbiccgbgcooaa", sum := "23686a0043a229436f20c44223f9d2072630d65a8884d0b2db5634310516d7a7", func := "anamnesis/anamnesislaw03.HeapBytes", spec := "heapBytes", inPlace := ["math.Float64frombits", "math.Float64bits"], unfollowed := true, recurses := true, apart := false }
def HeapBytesSaid : Prop := heapBytesRow.holds Try.pinned (OpenSpec.ofChange heapBytesSpec)

/-- ITS FALSE NEIGHBOUR: 'it returns false'. Refute it at one input. -/
def heapBytesWrong : ChangeSpec := { name := "heapBytes", fn := fun _ => fun
  | [d1, d2, d3] => { results := [.lit (.bool false)], args := [d1, d2, d3] }
  | _ => none }
def HeapBytesWrongFalsely : Prop := heapBytesRow.holds Try.pinned (OpenSpec.ofChange heapBytesWrong)

/- THE SECOND FORM. 'bulk': how many values and letters a reading holds, each counted each time it is reached (what is shared counts as often as it is met; a slice's spare places count too). A statement '..UptoSaid' is the law's where the arguments, and the package variables that the reading takes, are together of bulk at most 1048576: NARROWER than '..Said'. Prove '..Said' where nothing that the law and all that it calls make is longer than what came in: it says more and counts as full. Else prove '..UptoSaid'. A law counts once. -/
mutual
def uptoBulk {H : Type} : DataW H → Nat
  | .lit (.string bytes) => bytes.length + 1
  | .lit _ => 1
  | .nil => 1
  | .ptr d => uptoBulk d + 1
  | .slice elems spare => uptoBulkAll elems + uptoBulkAll spare + 1
  | .agg parts => uptoBulkAll parts + 1
  | .iface _ d => uptoBulk d + 1
  | .map entries => uptoBulkEntries entries + 1
  | .held _ => 1
def uptoBulkAll {H : Type} : List (DataW H) → Nat
  | [] => 0
  | d :: r => uptoBulk d + uptoBulkAll r
def uptoBulkEntries {H : Type} : List (Lit × DataW H) → Nat
  | [] => 0
  | x :: r => uptoBulkEntry x + uptoBulkEntries r
def uptoBulkEntry {H : Type} : Lit × DataW H → Nat
  | (.string bytes, d) => bytes.length + uptoBulk d + 1
  | (_, d) => uptoBulk d + 1
 end
def uptoSmall : (H : Type) → List (DataW H) → Bool := fun _ ds => decide (uptoBulkAll ds ≤ 1048576)
def OpenSpec.upto (s : _root_.Go.ChangeSpec) : _root_.Go.OpenSpec := { _root_.Go.OpenSpec.ofChange s with cond := some uptoSmall }

/-- 'anamnesislaw03.HeapAllocs', WHERE WHAT IT READS IS OF BULK AT MOST 1048576: true; the input reads as it did. -/
def heapAllocsUptoRow : OpenClaim := { program := "ytafbiccgbgcooaa", sum := "23686a0043a229436f20c44223f9d2072630d65a8884d0b2db5634310516d7a7", func := "anamnesis/anamnesislaw03.HeapAllocs", spec := "heapAllocs", inPlace := ["math.Float64frombits", "math.Float64bits"], unfollowed := true, recurses := true, apart := false, narrowed := true }
def HeapAllocsUptoSaid : Prop := heapAllocsUptoRow.holds Try.pinned (OpenSpec.upto heapAllocsSpec)

/-- 'anamnesislaw03.HeapKeeps', WHERE WHAT IT READS IS OF BULK AT MOST 1048576: true; the input reads as it did. -/
def heapKeepsUptoRow : OpenClaim := { program := "ytafbiccgbgcooaa", sum := "23686a0043a229436f20c44223f9d2072630d65a8884d0b2db5634310516d7a7", func := "anamnesis/anamnesislaw03.HeapKeeps", spec := "heapKeeps", inPlace := ["math.Float64frombits", "math.Float64bits"], unfollowed := true, recurses := true, apart := false, narrowed := true }
def HeapKeepsUptoSaid : Prop := heapKeepsUptoRow.holds Try.pinned (OpenSpec.upto heapKeepsSpec)

/-- 'anamnesislaw03.HeapSwaps', WHERE WHAT IT READS IS OF BULK AT MOST 1048576: true; the input reads as it did. -/
def heapSwapsUptoRow : OpenClaim := { program := "ytafbiccgbgcooaa", sum := "23686a0043a229436f20c44223f9d2072630d65a8884d0b2db5634310516d7a7", func := "anamnesis/anamnesislaw03.HeapSwaps", spec := "heapSwaps", inPlace := ["math.Float64frombits", "math.Float64bits"], unfollowed := true, recurses := true, apart := false, narrowed := true }
def HeapSwapsUptoSaid : Prop := heapSwapsUptoRow.holds Try.pinned (OpenSpec.upto heapSwapsSpec)

/-- 'anamnesislaw03.HeapFills', WHERE WHAT IT READS IS OF BULK AT MOST 1048576: true; the input reads as it did. -/
def heapFillsUptoRow : OpenClaim := { program := "ytafbiccgbgcooaa", sum := "23686a0043a229436f20c44223f9d2072630d65a8884d0b2db5634310516d7a7", func := "anamnesis/anamnesislaw03.HeapFills", spec := "heapFills", inPlace := ["math.Float64frombits", "math.Float64bits"], unfollowed := true, recurses := true, apart := false, narrowed := true }
def HeapFillsUptoSaid : Prop := heapFillsUptoRow.holds Try.pinned (OpenSpec.upto heapFillsSpec)

/-- 'anamnesislaw03.HeapTells', WHERE WHAT IT READS IS OF BULK AT MOST 1048576: true; the input reads as it did. -/
def heapTellsUptoRow : OpenClaim := { program := "ytafbiccgbgcooaa", sum := "23686a0043a229436f20c44223f9d2072630d65a8884d0b2db5634310516d7a7", func := "anamnesis/anamnesislaw03.HeapTells", spec := "heapTells", inPlace := ["math.Float64frombits", "math.Float64bits"], unfollowed := true, recurses := true, apart := false, narrowed := true }
def HeapTellsUptoSaid : Prop := heapTellsUptoRow.holds Try.pinned (OpenSpec.upto heapTellsSpec)

/-- 'anamnesislaw03.HeapBytes', WHERE WHAT IT READS IS OF BULK AT MOST 1048576: true; the input reads as it did. -/
def heapBytesUptoRow : OpenClaim := { program := "ytafbiccgbgcooaa", sum := "23686a0043a229436f20c44223f9d2072630d65a8884d0b2db5634310516d7a7", func := "anamnesis/anamnesislaw03.HeapBytes", spec := "heapBytes", inPlace := ["math.Float64frombits", "math.Float64bits"], unfollowed := true, recurses := true, apart := false, narrowed := true }
def HeapBytesUptoSaid : Prop := heapBytesUptoRow.holds Try.pinned (OpenSpec.upto heapBytesSpec)

end Rows
end Go.Proofs.Ytafbiccgbgcooaa
