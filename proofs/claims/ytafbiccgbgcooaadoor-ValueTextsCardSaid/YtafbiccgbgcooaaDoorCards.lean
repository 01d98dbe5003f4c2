/-
  DERIVED. GIVEN WITH THE SEED: THE CARDS: each row of YtafbiccgbgcooaaDoorRows.lean that lists a variable, with what it lists TIED to the program's text (the seventh form; the later family's looks); each row that meets fmt, with fmt's text TOLD by the authors' own Lean function (tested against real Go, not proved from fmt's source: count such statements apart). THE CARD IS WHAT COUNTS. Prove the row's statement (the work); the ties are given (YtafbiccgbgcooaaDoorTie.lean); close each card by the builder's one call (the guide's Derived/Test/ToyasCard.lean, 'card_holds'). Laid BY PROGRAM, IN A SANDBOX (cutbox-door.mjs). By AI agents, Wed Nov 11 2026. No macro, syntax, notation, axiom, sorry.
-/
import Derived.Test.YtafbiccgbgcooaaDoorRows
import GoSem.ClaimSeven
namespace Go.Proofs.YtafbiccgbgcooaaDoor
namespace Rows

/-- THE TIED CARD OF 'anamnesislaw01.ValueTells'. -/
def valueTellsCard : Claim7 := { stood := { row := valueTellsRow, standIns := [], harness := (true, "eec4a7f4993c7f34d6085e6b9fe151f0ffe483c3a44d11074a2a92ec3c618ae1"), looks := false }, kinds := [], alts := [], laidByText := true, laidKinds := [.data, .data, .data], laidTests := true, laidLooks := .later }
def ValueTellsCardSaid : Prop := Claim7.holds Tryd.pinned (.plain (OpenSpec.ofChange valueTellsSpec)) valueTellsCard

/-- THE TIED CARD OF 'anamnesislaw01.ValueBack'. -/
def valueBackCard : Claim7 := { stood := { row := valueBackRow, standIns := [], harness := (true, "eec4a7f4993c7f34d6085e6b9fe151f0ffe483c3a44d11074a2a92ec3c618ae1"), looks := false }, kinds := [], alts := [], laidByText := true, laidKinds := [.data, .data, .data], laidTests := true, laidLooks := .later }
def ValueBackCardSaid : Prop := Claim7.holds Tryd.pinned (.plain (OpenSpec.ofChange valueBackSpec)) valueBackCard

/-- THE TIED CARD OF 'anamnesislaw01.ValueTexts'. -/
def valueTextsCard : Claim7 := { stood := { row := valueTextsRow, standIns := [], harness := (true, "eec4a7f4993c7f34d6085e6b9fe151f0ffe483c3a44d11074a2a92ec3c618ae1"), looks := false }, kinds := [], alts := [], laidByText := true, laidKinds := [.data, .data, .data], laidTests := true, laidLooks := .later }
def ValueTextsCardSaid : Prop := Claim7.holds Tryd.pinned (.plain (OpenSpec.ofChange valueTextsSpec)) valueTextsCard

/-- THE TIED CARD OF 'anamnesislaw01.ValueOrder'. -/
def valueOrderCard : Claim7 := { stood := { row := valueOrderRow, standIns := [], harness := (true, "eec4a7f4993c7f34d6085e6b9fe151f0ffe483c3a44d11074a2a92ec3c618ae1"), looks := false }, kinds := [], alts := [], laidByText := true, laidKinds := [.data, .data, .data], laidTests := true, laidLooks := .later }
def ValueOrderCardSaid : Prop := Claim7.holds Tryd.pinned (.plain (OpenSpec.ofChange valueOrderSpec)) valueOrderCard

/-- THE TIED CARD OF 'anamnesislaw01.ValueEven'. -/
def valueEvenCard : Claim7 := { stood := { row := valueEvenRow, standIns := [], harness := (true, "eec4a7f4993c7f34d6085e6b9fe151f0ffe483c3a44d11074a2a92ec3c618ae1"), looks := false }, kinds := [], alts := [], laidByText := true, laidKinds := [.data, .data, .data], laidTests := true, laidLooks := .later }
def ValueEvenCardSaid : Prop := Claim7.holds Tryd.pinned (.plain (OpenSpec.ofChange valueEvenSpec)) valueEvenCard

/-- THE SECOND FORM's CARD OF 'anamnesislaw01.ValueTells'. -/
def valueTellsUptoCard : Claim7 := { stood := { row := valueTellsUptoRow, standIns := [], harness := (true, "eec4a7f4993c7f34d6085e6b9fe151f0ffe483c3a44d11074a2a92ec3c618ae1"), looks := false }, kinds := [], alts := [], laidByText := true, laidKinds := [.data, .data, .data], laidTests := true, laidLooks := .later }
def ValueTellsUptoCardSaid : Prop := Claim7.holds Tryd.pinned (.plain (OpenSpec.upto valueTellsSpec)) valueTellsUptoCard

/-- THE SECOND FORM's CARD OF 'anamnesislaw01.ValueBack'. -/
def valueBackUptoCard : Claim7 := { stood := { row := valueBackUptoRow, standIns := [], harness := (true, "eec4a7f4993c7f34d6085e6b9fe151f0ffe483c3a44d11074a2a92ec3c618ae1"), looks := false }, kinds := [], alts := [], laidByText := true, laidKinds := [.data, .data, .data], laidTests := true, laidLooks := .later }
def ValueBackUptoCardSaid : Prop := Claim7.holds Tryd.pinned (.plain (OpenSpec.upto valueBackSpec)) valueBackUptoCard

/-- THE SECOND FORM's CARD OF 'anamnesislaw01.ValueTexts'. -/
def valueTextsUptoCard : Claim7 := { stood := { row := valueTextsUptoRow, standIns := [], harness := (true, "eec4a7f4993c7f34d6085e6b9fe151f0ffe483c3a44d11074a2a92ec3c618ae1"), looks := false }, kinds := [], alts := [], laidByText := true, laidKinds := [.data, .data, .data], laidTests := true, laidLooks := .later }
def ValueTextsUptoCardSaid : Prop := Claim7.holds Tryd.pinned (.plain (OpenSpec.upto valueTextsSpec)) valueTextsUptoCard

/-- THE SECOND FORM's CARD OF 'anamnesislaw01.ValueOrder'. -/
def valueOrderUptoCard : Claim7 := { stood := { row := valueOrderUptoRow, standIns := [], harness := (true, "eec4a7f4993c7f34d6085e6b9fe151f0ffe483c3a44d11074a2a92ec3c618ae1"), looks := false }, kinds := [], alts := [], laidByText := true, laidKinds := [.data, .data, .data], laidTests := true, laidLooks := .later }
def ValueOrderUptoCardSaid : Prop := Claim7.holds Tryd.pinned (.plain (OpenSpec.upto valueOrderSpec)) valueOrderUptoCard

/-- THE SECOND FORM's CARD OF 'anamnesislaw01.ValueEven'. -/
def valueEvenUptoCard : Claim7 := { stood := { row := valueEvenUptoRow, standIns := [], harness := (true, "eec4a7f4993c7f34d6085e6b9fe151f0ffe483c3a44d11074a2a92ec3c618ae1"), looks := false }, kinds := [], alts := [], laidByText := true, laidKinds := [.data, .data, .data], laidTests := true, laidLooks := .later }
def ValueEvenUptoCardSaid : Prop := Claim7.holds Tryd.pinned (.plain (OpenSpec.upto valueEvenSpec)) valueEvenUptoCard
end Rows
end Go.Proofs.YtafbiccgbgcooaaDoor
