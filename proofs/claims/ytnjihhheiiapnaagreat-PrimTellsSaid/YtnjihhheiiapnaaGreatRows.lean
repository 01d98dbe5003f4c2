/-
  No cell of these rows narrows 'for every input' (looked for: loops, veiled, ifaces, maps, wideKeys, modest, calm, conditions, laid).
  DERIVED. THE GIVEN ROWS OF THIS SEAT. 6 by the template 'for every input the law returns true; each argument reads behind the call as it read before'; 0 by the template 'total and deterministic' (their statements: YtnjihhheiiapnaaGreatTotals.lean).
  GIVEN WITH THE SEED: the statements are not yours to turn. If you find one false, say at which input.
  Laid BY PROGRAM, IN A SANDBOX (cutbox-rows.mjs): the forced cells as the released guide's own fill.sh prints them over the translation f99be033fd475523… (all of the seat's roots in one cut). By AI agents, Wed Nov 11 2026. No macro, syntax, notation, axiom, sorry.
-/
import Derived.Test.YtnjihhheiiapnaaGreatChecked
import GoSem.Claim
import GoSem.ClaimJoined
import GoSem.ClaimMapViews
import Derived.JoinedTies
import Derived.KernelRfl
namespace Go.Proofs.YtnjihhheiiapnaaGreat
/- THE CELL 'sum', in the pinned program and in every row, IS THE sha256 OF THE DUMP (.gsa) THAT YtnjihhheiiapnaaGreatProg.lean LOADS. Nothing in Lean hashes anything: it is a label: what it is worth is what the hold of that sum in a sandbox is worth. -/
noncomputable def Tryz.pinned : Pinned := { name := "ytnjihhheiiapnaagreat", sum := "f99be033fd4755231fd9b6c54b0ecd491a5ea1ef5a74937b49cd5707e3f5e02b", checked := Tryz.checked }
namespace Rows
def none {H : Type} : Left H := { results := [], args := [] }

/-- 'anamnesislaw13.PrimTells': WHATEVER THE INPUT: true; the input reads as it did. -/
def primTellsSpec : ChangeSpec := { name := "primTells", fn := fun _ => fun
  | [d1, d2] => { results := [.lit (.bool true)], args := [d1, d2] }
  | _ => none }
def primTellsRow : OpenClaim := { program := "ytnjihhheiiapnaagreat", sum := "f99be033fd4755231fd9b6c54b0ecd491a5ea1ef5a74937b49cd5707e3f5e02b", func := "anamnesis/anamnesislaw13.PrimTells", spec := "primTells", inPlace := ["math.Float64frombits", "math.Float64bits", "math.archTrunc"], unfollowed := true, recurses := true, apart := false }
def PrimTellsSaid : Prop := primTellsRow.holds Tryz.pinned (OpenSpec.ofChange primTellsSpec)

/-- ITS FALSE NEIGHBOUR: 'it returns false'. Refute it at one input. -/
def primTellsWrong : ChangeSpec := { name := "primTells", fn := fun _ => fun
  | [d1, d2] => { results := [.lit (.bool false)], args := [d1, d2] }
  | _ => none }
def PrimTellsWrongFalsely : Prop := primTellsRow.holds Tryz.pinned (OpenSpec.ofChange primTellsWrong)

/-- 'anamnesislaw13.PrimKeeps': WHATEVER THE INPUT: true; the input reads as it did. -/
def primKeepsSpec : ChangeSpec := { name := "primKeeps", fn := fun _ => fun
  | [d1, d2] => { results := [.lit (.bool true)], args := [d1, d2] }
  | _ => none }
def primKeepsRow : OpenClaim := { program := "ytnjihhheiiapnaagreat", sum := "f99be033fd4755231fd9b6c54b0ecd491a5ea1ef5a74937b49cd5707e3f5e02b", func := "anamnesis/anamnesislaw13.PrimKeeps", spec := "primKeeps", inPlace := ["math.Float64frombits", "math.Float64bits", "math.archTrunc"], unfollowed := true, recurses := true, apart := false }
def PrimKeepsSaid : Prop := primKeepsRow.holds Tryz.pinned (OpenSpec.ofChange primKeepsSpec)

/-- ITS FALSE NEIGHBOUR: 'it returns false'. Refute it at one input. -/
def primKeepsWrong : ChangeSpec := { name := "primKeeps", fn := fun _ => fun
  | [d1, d2] => { results := [.lit (.bool false)], args := [d1, d2] }
  | _ => none }
def PrimKeepsWrongFalsely : Prop := primKeepsRow.holds Tryz.pinned (OpenSpec.ofChange primKeepsWrong)

/-- 'anamnesislaw13.PrimWhole': WHATEVER THE INPUT: true; the input reads as it did. -/
def primWholeSpec : ChangeSpec := { name := "primWhole", fn := fun _ => fun
  | [d1, d2, d3] => { results := [.lit (.bool true)], args := [d1, d2, d3] }
  | _ => none }
def primWholeRow : OpenClaim := { program := "ytnjihhheiiapnaagreat", sum := "f99be033fd4755231fd9b6c54b0ecd491a5ea1ef5a74937b49cd5707e3f5e02b", func := "anamnesis/anamnesislaw13.PrimWhole", spec := "primWhole", inPlace := ["math.Float64frombits", "math.Float64bits", "math.archTrunc"], unfollowed := true, recurses := true, apart := false }
def PrimWholeSaid : Prop := primWholeRow.holds Tryz.pinned (OpenSpec.ofChange primWholeSpec)

/-- ITS FALSE NEIGHBOUR: 'it returns false'. Refute it at one input. -/
def primWholeWrong : ChangeSpec := { name := "primWhole", fn := fun _ => fun
  | [d1, d2, d3] => { results := [.lit (.bool false)], args := [d1, d2, d3] }
  | _ => none }
def PrimWholeWrongFalsely : Prop := primWholeRow.holds Tryz.pinned (OpenSpec.ofChange primWholeWrong)

/-- 'anamnesislaw13.PrimFloats': WHATEVER THE INPUT: true; the input reads as it did. -/
def primFloatsSpec : ChangeSpec := { name := "primFloats", fn := fun _ => fun
  | [d1, d2, d3] => { results := [.lit (.bool true)], args := [d1, d2, d3] }
  | _ => none }
def primFloatsRow : OpenClaim := { program := "ytnjihhheiiapnaagreat", sum := "f99be033fd4755231fd9b6c54b0ecd491a5ea1ef5a74937b49cd5707e3f5e02b", func := "anamnesis/anamnesislaw13.PrimFloats", spec := "primFloats", inPlace := ["math.Float64frombits", "math.Float64bits", "math.archTrunc"], unfollowed := true, recurses := true, apart := false }
def PrimFloatsSaid : Prop := primFloatsRow.holds Tryz.pinned (OpenSpec.ofChange primFloatsSpec)

/-- ITS FALSE NEIGHBOUR: 'it returns false'. Refute it at one input. -/
def primFloatsWrong : ChangeSpec := { name := "primFloats", fn := fun _ => fun
  | [d1, d2, d3] => { results := [.lit (.bool false)], args := [d1, d2, d3] }
  | _ => none }
def PrimFloatsWrongFalsely : Prop := primFloatsRow.holds Tryz.pinned (OpenSpec.ofChange primFloatsWrong)

/-- 'anamnesislaw13.PrimSlots': WHATEVER THE INPUT: true; the input reads as it did. -/
def primSlotsSpec : ChangeSpec := { name := "primSlots", fn := fun _ => fun
  | [d1, d2, d3] => { results := [.lit (.bool true)], args := [d1, d2, d3] }
  | _ => none }
def primSlotsRow : OpenClaim := { program := "ytnjihhheiiapnaagreat", sum := "f99be033fd4755231fd9b6c54b0ecd491a5ea1ef5a74937b49cd5707e3f5e02b", func := "anamnesis/anamnesislaw13.PrimSlots", spec := "primSlots", inPlace := ["math.Float64frombits", "math.Float64bits", "math.archTrunc"], unfollowed := true, recurses := true, apart := false }
def PrimSlotsSaid : Prop := primSlotsRow.holds Tryz.pinned (OpenSpec.ofChange primSlotsSpec)

/-- ITS FALSE NEIGHBOUR: 'it returns false'. Refute it at one input. -/
def primSlotsWrong : ChangeSpec := { name := "primSlots", fn := fun _ => fun
  | [d1, d2, d3] => { results := [.lit (.bool false)], args := [d1, d2, d3] }
  | _ => none }
def PrimSlotsWrongFalsely : Prop := primSlotsRow.holds Tryz.pinned (OpenSpec.ofChange primSlotsWrong)

/-- 'anamnesislaw13.PrimBecomes': WHATEVER THE INPUT: true; the input reads as it did. -/
def primBecomesSpec : ChangeSpec := { name := "primBecomes", fn := fun _ => fun
  | [d1, d2, d3] => { results := [.lit (.bool true)], args := [d1, d2, d3] }
  | _ => none }
def primBecomesRow : OpenClaim := { program := "ytnjihhheiiapnaagreat", sum := "f99be033fd4755231fd9b6c54b0ecd491a5ea1ef5a74937b49cd5707e3f5e02b", func := "anamnesis/anamnesislaw13.PrimBecomes", spec := "primBecomes", inPlace := ["math.Float64frombits", "math.Float64bits", "math.archTrunc"], unfollowed := true, recurses := true, apart := false }
def PrimBecomesSaid : Prop := primBecomesRow.holds Tryz.pinned (OpenSpec.ofChange primBecomesSpec)

/-- ITS FALSE NEIGHBOUR: 'it returns false'. Refute it at one input. -/
def primBecomesWrong : ChangeSpec := { name := "primBecomes", fn := fun _ => fun
  | [d1, d2, d3] => { results := [.lit (.bool false)], args := [d1, d2, d3] }
  | _ => none }
def PrimBecomesWrongFalsely : Prop := primBecomesRow.holds Tryz.pinned (OpenSpec.ofChange primBecomesWrong)

/- THE SECOND FORM. 'bulk': how many values and letters a reading holds, each counted each time it is reached (what is shared counts as often as it is met; a slice's spare places count too). A statement '..UptoSaid' is the law's where the arguments, and the package variables that the reading takes, are together of bulk at most 1048576: NARROWER than '..Said'. Prove '..Said' where nothing that the law and all that it calls make is longer than what came in: it says more and counts as full. Else prove '..UptoSaid'. A law counts once. -/
mutual
def uptoBulk {H : Type} : DataW H → Nat
  | .lit (.string bytes) => bytes.length + 1
  | .lit _ => 1
  | .nil => 1
  | .ptr d => uptoBulk d + 1
  | .slice elems spare => uptoBulkAll elems + uptoBulkAll spare + 1
  | .agg parts => uptoBulkAll parts + 1
  | .iface _ d => uptoBulk d + 1
  | .map entries => uptoBulkEntries entries + 1
  | .held _ => 1
def uptoBulkAll {H : Type} : List (DataW H) → Nat
  | [] => 0
  | d :: r => uptoBulk d + uptoBulkAll r
def uptoBulkEntries {H : Type} : List (Lit × DataW H) → Nat
  | [] => 0
  | x :: r => uptoBulkEntry x + uptoBulkEntries r
def uptoBulkEntry {H : Type} : Lit × DataW H → Nat
  | (.string bytes, d) => bytes.length + uptoBulk d + 1
  | (_, d) => uptoBulk d + 1
 end
def uptoSmall : (H : Type) → List (DataW H) → Bool := fun _ ds => decide (uptoBulkAll ds ≤ 1048576)
def OpenSpec.upto (s : _root_.Go.ChangeSpec) : _root_.Go.OpenSpec := { _root_.Go.OpenSpec.ofChange s with cond := some uptoSmall }

/-- 'anamnesislaw13.PrimTells', WHERE WHAT IT READS IS OF BULK AT MOST 1048576: true; the input reads as it did. -/
def primTellsUptoRow : OpenClaim := { program := "ytnjihhheiiapnaagreat", sum := "f99be033fd4755231fd9b6c54b0ecd491a5ea1ef5a74937b49cd5707e3f5e02b", func := "anamnesis/anamnesislaw13.PrimTells", spec := "primTells", inPlace := ["math.Float64frombits", "math.Float64bits", "math.archTrunc"], unfollowed := true, recurses := true, apart := false, narrowed := true }
def PrimTellsUptoSaid : Prop := primTellsUptoRow.holds Tryz.pinned (OpenSpec.upto primTellsSpec)

/-- 'anamnesislaw13.PrimKeeps', WHERE WHAT IT READS IS OF BULK AT MOST 1048576: true; the input reads as it did. -/
def primKeepsUptoRow : OpenClaim := { program := "ytnjihhheiiapnaagreat", sum := "f99be033fd4755231fd9b6c54b0ecd491a5ea1ef5a74937b49cd5707e3f5e02b", func := "anamnesis/anamnesislaw13.PrimKeeps", spec := "primKeeps", inPlace := ["math.Float64frombits", "math.Float64bits", "math.archTrunc"], unfollowed := true, recurses := true, apart := false, narrowed := true }
def PrimKeepsUptoSaid : Prop := primKeepsUptoRow.holds Tryz.pinned (OpenSpec.upto primKeepsSpec)

/-- 'anamnesislaw13.PrimWhole', WHERE WHAT IT READS IS OF BULK AT MOST 1048576: true; the input reads as it did. -/
def primWholeUptoRow : OpenClaim := { program := "ytnjihhheiiapnaagreat", sum := "f99be033fd4755231fd9b6c54b0ecd491a5ea1ef5a74937b49cd5707e3f5e02b", func := "anamnesis/anamnesislaw13.PrimWhole", spec := "primWhole", inPlace := ["math.Float64frombits", "math.Float64bits", "math.archTrunc"], unfollowed := true, recurses := true, apart := false, narrowed := true }
def PrimWholeUptoSaid : Prop := primWholeUptoRow.holds Tryz.pinned (OpenSpec.upto primWholeSpec)

/-- 'anamnesislaw13.PrimFloats', WHERE WHAT IT READS IS OF BULK AT MOST 1048576: true; the input reads as it did. -/
def primFloatsUptoRow : OpenClaim := { program := "ytnjihhheiiapnaagreat", sum := "f99be033fd4755231fd9b6c54b0ecd491a5ea1ef5a74937b49cd5707e3f5e02b", func := "anamnesis/anamnesislaw13.PrimFloats", spec := "primFloats", inPlace := ["math.Float64frombits", "math.Float64bits", "math.archTrunc"], unfollowed := true, recurses := true, apart := false, narrowed := true }
def PrimFloatsUptoSaid : Prop := primFloatsUptoRow.holds Tryz.pinned (OpenSpec.upto primFloatsSpec)

/-- 'anamnesislaw13.PrimSlots', WHERE WHAT IT READS IS OF BULK AT MOST 1048576: true; the input reads as it did. -/
def primSlotsUptoRow : OpenClaim := { program := "ytnjihhheiiapnaagreat", sum := "f99be033fd4755231fd9b6c54b0ecd491a5ea1ef5a74937b49cd5707e3f5e02b", func := "anamnesis/anamnesislaw13.PrimSlots", spec := "primSlots", inPlace := ["math.Float64frombits", "math.Float64bits", "math.archTrunc"], unfollowed := true, recurses := true, apart := false, narrowed := true }
def PrimSlotsUptoSaid : Prop := primSlotsUptoRow.holds Tryz.pinned (OpenSpec.upto primSlotsSpec)

/-- 'anamnesislaw13.PrimBecomes', WHERE WHAT IT READS IS OF BULK AT MOST 1048576: true; the input reads as it did. -/
def primBecomesUptoRow : OpenClaim := { program := "ytnjihhheiiapnaagreat", sum := "f99be033fd4755231fd9b6c54b0ecd491a5ea1ef5a74937b49cd5707e3f5e02b", func := "anamnesis/anamnesislaw13.PrimBecomes", spec := "primBecomes", inPlace := ["math.Float64frombits", "math.Float64bits", "math.archTrunc"], unfollowed := true, recurses := true, apart := false, narrowed := true }
def PrimBecomesUptoSaid : Prop := primBecomesUptoRow.holds Tryz.pinned (OpenSpec.upto primBecomesSpec)

end Rows
end Go.Proofs.YtnjihhheiiapnaaGreat
